/- The walk of the law's own 'parts'. -/
import Derived.Test.YthenamibehbdnaaTotWalksB
import Derived.Test.YthenamibehbdnaaPostWalksE
namespace Go.Proofs.Ythenamibehbdnaa
set_option linter.unusedVariables false
set_option linter.unusedSimpArgs false
open Go.RowKit

def FewParts (P : List PostR) (k : Nat) : Prop := ∀ j (h : j < P.length), j < k → within 1125899906842624 P[j].parts.l ∧ P[j].parts.l.length ≤ 20
/-- what 'parts' asks for -/
structure PartsOk (I : List ItemR) (P : List PostR) : Prop where
  items : I.length ≤ 200
  postings : P.length ≤ 50
  parts : FewParts P P.length
  amounts : within 1125899906842624 (itBals I)
theorem within_app {M : Int} {l m : List Bal} (h1 : within M l) (h2 : within M m) : within M (l ++ m) := fun x hx => (List.mem_append.1 hx).elim (h1 x) (h2 x)
theorem few_step {P : List PostR} {k : Nat} (h : FewParts P k) (hk : k < P.length) (h1 : within 1125899906842624 P[k].parts.l) (h2 : P[k].parts.l.length ≤ 20) : FewParts P (k + 1) := fun j hj hjk => by
  by_cases e : j = k
  · subst e; exact ⟨h1, h2⟩
  · exact h j hj (by omega)
theorem few_within {P : List PostR} (h : FewParts P P.length) : within 1125899906842624 (poBals P) := by
  intro x hx
  obtain ⟨p, hp, hxp⟩ := List.mem_flatMap.1 hx
  obtain ⟨j, hj, rfl⟩ := List.mem_iff_getElem.1 hp
  exact (h j hj hj).1 x hxp
theorem few_len {P : List PostR} (h : ∀ p ∈ P, p.parts.l.length ≤ 20) : (poBals P).length ≤ 20 * P.length := by
  induction P with
  | nil => simp [poBals]
  | cons p P ih =>
    have h1 := ih (fun q hq => h q (by simp [hq]))
    have h2 := h p (by simp)
    have e : poBals (p :: P) = p.parts.l ++ poBals P := by simp [poBals]
    rw [e, List.length_append, List.length_cons]
    omega
theorem PartsOk.len {I : List ItemR} {P : List PostR} (h : PartsOk I P) : (allB I P).length ≤ 1200 := by
  have h1 := few_len (P := P) (fun p hp => by obtain ⟨j, hj, rfl⟩ := List.mem_iff_getElem.1 hp; exact (h.parts j hj hj).2)
  have h2 := h.items
  have h3 := h.postings
  unfold allB
  rw [List.length_append, itBals_len]
  omega
theorem PartsOk.within {I : List ItemR} {P : List PostR} (h : PartsOk I P) : within 1125899906842624 (allB I P) := within_app h.amounts (few_within h.parts)
def MayPost (p : Prop) (w : World) (e : Ending) (w' : World) : Prop := ∃ b : Bool, e = .returned (.bool b) ∧ Below w.heap.size w w' ∧ (b = true → p)
set_option maxRecDepth 100000 in
set_option maxHeartbeats 4000000 in
theorem parts_any (per : Int) (I : List ItemR) (AI : Option Addr) (cI : Nat) (P : List PostR) (AP : Option Addr) (cP : Nat) (vT : Value) (w : World)
    (hI : Rd w w.heap.size 7 AI I.length (cellsOf ItemR.cells I)) (hP : Rd w w.heap.size 5 AP P.length (cellsOf PostR.cells P)) (hPP : ∀ p ∈ P, p.Ok w) (hnI : I.length ≤ maxLen) (hnP : P.length ≤ maxLen) :
    Calls Try.prog 24 #[.agg #[.int .i64 per, .slice AI I.length cI, .slice AP P.length cP, vT]] w (MayPost (PartsOk I P) w) := by
  have hb : Below w.heap.size w (w.alloc (.cells #[.int .i64 per, .slice AI I.length cI, .slice AP P.length cP, vT] 43)) := (Below.refl _ _).alloc (Nat.le_refl _) _
  have HB := Lib.hid (Blk.new w 43 #[.int .i64 per, .slice AI I.length cI, .slice AP P.length cP, vT])
  have HI := Lib.hid hI
  have HP := Lib.hid hP
  have HPP := Lib.hid hPP
  unfold maxLen at hnI hnP
  clear hI hP hPP
  by_cases h1 : I.length ≤ 200
  · by_cases h2 : P.length ≤ 50
    · go_enter Try.func24, Try.ntmps24
      go_wp2_with fail
      generalize hWW : w.alloc (.cells #[.int .i64 per, .slice AI I.length cI, .slice AP P.length cP, vT] 43) = W at *
      clear hWW
      go_loopw [3] (fun t wr => ∃ k : Nat, k ≤ P.length ∧ t = .int .i64 k ∧ FewParts P k ∧ Blk wr w.heap.size 43 #[.int .i64 per, .slice AI I.length cI, .slice AP P.length cP, vT] ∧ Below w.heap.size w wr) (fun t _ => P.length - (intOf t).toNat)
      case atStart => exact ⟨0, by omega, rfl, fun j _ h => by omega, HB.out, hb⟩
      case round =>
        clear hb HB
        obtain ⟨k, hk, rfl, hF, hB, hb⟩ := hrel
        have HB := Lib.hid hB
        have HF := Lib.hid hF
        have e2 : wr.cell? ⟨w.heap.size, 2, none⟩ = some (.slice AP P.length cP) := hB.cell 2
        have e1 : wr.cell? ⟨w.heap.size, 1, none⟩ = some (.slice AI I.length cI) := hB.cell 1
        clear hB hF
        by_cases hlt : k < P.length
        · obtain ⟨x, o, hA, hbo, f0, f1, f2, f3, f4⟩ := PostR.at_ (Rd.now HP.out hb) hlt
          have HQ := Lib.hid (HPP.out _ (List.getElem_mem hlt)).2.2.2.2.1
          have HS := Lib.hid (fun h1 h2 => few_step HF.out hlt h1 h2)
          generalize P[k] = p at *
          obtain ⟨p1, p2, p3, p4, ⟨q, A, cap⟩⟩ := p
          dsimp only [Sl.val] at *
          subst hA
          have hql := Nat.le_trans HQ.out.2.1 HQ.out.2.2
          dsimp only at hql
          by_cases hl : q.length ≤ 20
          · cases hs : smallV q
            · go_wp2_with (go_at_call 15; refine (small_any q A cap _ (Rd.now HQ.out.1 hb) hql).mono ?_; rintro e w2 ⟨rfl, rfl⟩)
              go_ret
              exact ⟨false, rfl, hb, fun h => by cases h⟩
            · have HSM := Lib.hid (small_is hs).1
              go_wp2_with (go_at_call 15; refine (small_any q A cap _ (Rd.now HQ.out.1 hb) hql).mono ?_; rintro e w2 ⟨rfl, rfl⟩)
              go_roundw
              case rel => exact ⟨k + 1, by omega, by go_num, HS.out HSM.out hl, HB.out, hb⟩
              case measure => simp [intOf]; omega
          · cases hs : smallV q
            all_goals
              go_wp2_with (go_at_call 15; refine (small_any q A cap _ (Rd.now HQ.out.1 hb) hql).mono ?_; rintro e w2 ⟨rfl, rfl⟩)
              go_ret
              exact ⟨false, rfl, hb, fun h => by cases h⟩
        · have HE : Hid (FewParts P P.length) := Lib.hid (by have := HF.out; rwa [show k = P.length by omega] at this)
          go_wp2_with fail
          refine (rparts_any I AI cI [] none 0 _ (Rd.now HI.out hb) Rd.none_ (by simp) (by simp [allB, poBals, itBals_len]; omega) (by omega) (by simp)).mono ?_
          rintro e w1 ⟨v1, rfl, ho1, hb1⟩
          replace hb := bel hb hb1
          clear hb1 e1 e2
          obtain ⟨A1, c1, rfl, hrx⟩ := Rd.of_own ho1
          have H1 := Lib.hid hrx
          clear hrx ho1
          have hl1 : (allB I []).length ≤ maxLen := by simp [allB, poBals, itBals_len, maxLen]; omega
          go_wp2_with (go_at_call 15; refine (small_any (allB I []) A1 c1 _ H1.out hl1).mono ?_; rintro e w2 ⟨rfl, rfl⟩)
          go_ret
          refine ⟨_, rfl, hb, fun h => ⟨h1, h2, HE.out, ?_⟩⟩
          have := (small_is h).1
          simpa [allB, poBals] using this
    · go_enter Try.func24, Try.ntmps24
      go_wp2_with fail
      go_ret
      exact ⟨false, rfl, hb, fun h => by cases h⟩
  · go_enter Try.func24, Try.ntmps24
    go_wp2_with fail
    go_ret
    exact ⟨false, rfl, hb, fun h => by cases h⟩
end Go.Proofs.Ythenamibehbdnaa
