/- Texts of this claim, put together. -/
import Derived.Test.YtkfbchgabmffoaaJAM
import Derived.Test.YtkfbchgabmffoaaJAN
/- What the laws on results ask first; the walks of TraceLines and TraceCheck. -/
namespace Go.Proofs.Ytkfbchgabmffoaa
set_option linter.unusedVariables false
set_option linter.unusedSimpArgs false
open Go.RowKit

def amtsAll (m : List Bal) : Bool := allAt m.length (smallAt m)
def smallT (I : List ItemR) (P : List PostR) (T : List Bal) : Bool := amtsAll (allB I P ++ T) && (decide (I.length ≤ 200) && decide (P.length ≤ 50) && decide ((allB I P ++ T).length ≤ 1000))
structure SmallOk (I : List ItemR) (P : List PostR) (T : List Bal) : Prop where
  items : I.length ≤ 200
  postings : P.length ≤ 50
  all : (allB I P).length + T.length ≤ 1000
  am : within 1125899906842624 (allB I P)
  amT : within 1125899906842624 T
theorem amts_in {m : List Bal} (h : amtsAll m = true) : within 1125899906842624 m := by
  intro x hx
  obtain ⟨j, hj, rfl⟩ := List.mem_iff_getElem.1 hx
  have := allAt_at h hj
  unfold smallAt at this
  rw [Bal.getD_at m j hj] at this
  simp only [Bool.and_eq_true, decide_eq_true_eq] at this
  exact ⟨this.2, this.1⟩
theorem smallT_ok {I : List ItemR} {P : List PostR} {T : List Bal} (h : smallT I P T = true) : SmallOk I P T := by
  unfold smallT at h
  simp only [Bool.and_eq_true, decide_eq_true_eq] at h
  obtain ⟨h1, ⟨h2, h3⟩, h4⟩ := h
  have h5 := amts_in h1
  rw [List.length_append] at h4
  exact ⟨h2, h3, h4, fun x hx => h5 x (List.mem_append_left _ hx), fun x hx => h5 x (List.mem_append_right _ hx)⟩
theorem SmallOk.parts {I : List ItemR} {P : List PostR} {T : List Bal} (h : SmallOk I P T) : ∀ p ∈ P, p.parts.l.length ≤ 1000000 := by
  intro p hp
  obtain ⟨k, hk, rfl⟩ := List.mem_iff_getElem.1 hp
  have h1 := poBals_len P k hk
  have h2 := h.all
  unfold allB at h2
  rw [List.length_append] at h2
  omega
theorem amts_no {m : List Bal} {k : Nat} (hk : k < m.length) (h : ¬ (m[k].amount ≤ 1125899906842624 ∧ -1125899906842624 ≤ m[k].amount)) : amtsAll m = false := by
  refine allAt_no hk ?_
  unfold smallAt
  rw [Bal.getD_at m k hk]
  rw [Bool.eq_false_iff]
  intro h2
  simp only [Bool.and_eq_true, decide_eq_true_eq] at h2
  exact h h2
theorem amts_at {m : List Bal} {k : Nat} (hk : k < m.length) (h : m[k].amount ≤ 1125899906842624) (h2 : -1125899906842624 ≤ m[k].amount) : smallAt m k = true := by
  unfold smallAt
  rw [Bal.getD_at m k hk]
  simp [h, h2]
theorem part_info : (Try.prog.info? 51).map (fun i => (i.zero, i.size, i.bytes)) = some (some (.agg #[.int .i64 0, .int .i64 0]), 2, 16) := by kernel_rfl
set_option maxRecDepth 100000 in
set_option maxHeartbeats 8000000 in
theorem tsmall_any (per : Int) (I : List ItemR) (AI : Option Addr) (cI : Nat) (P : List PostR) (AP : Option Addr) (cP : Nat) (T : List Bal) (AT : Option Addr) (cT : Nat) (w : World) (h : RIn w I AI P AP T AT)
    (hn : (allB I P).length ≤ 400000) (hnI : I.length ≤ 400000) (hnP : P.length ≤ 400000) (hnT : T.length ≤ 400000) :
    Calls Try.prog 9 #[.agg #[.int .i64 per, .slice AI I.length cI, .slice AP P.length cP, .slice AT T.length cT]] w (BoolPost (smallT I P T) w) := by
  have hb : Below w.heap.size w (w.alloc (.cells #[.int .i64 per, .slice AI I.length cI, .slice AP P.length cP, .slice AT T.length cT] 26)) := (Below.refl _ _).alloc (Nat.le_refl _) _
  have HB := Lib.hid (Blk.new w 26 #[.int .i64 per, .slice AI I.length cI, .slice AP P.length cP, .slice AT T.length cT])
  have H := Lib.hid h
  have HNB := Lib.hid hn
  obtain ⟨i0, hi, hz0, hz1, hz2⟩ := info_parts part_info
  clear h hn
  go_enter Try.func9, Try.ntmps9
  go_wp2_with fail
  generalize hWW : w.alloc (.cells #[.int .i64 per, .slice AI I.length cI, .slice AP P.length cP, .slice AT T.length cT] 26) = W at *
  clear hWW
  refine (rparts_any I AI cI P AP cP _ (Rd.now H.out.it hb) (Rd.now H.out.po hb) (fun p hp => (H.out.step hb).pok p hp) (by have := HNB.out; omega) (by omega) (by omega)).mono ?_
  rintro e w1 ⟨v1, rfl, ho1, hb1⟩
  have HB1 := Lib.hid (HB.out.step hb1)
  replace hb := bel hb hb1
  have hs1 := hb1.size
  have hz := hb.size
  obtain ⟨L, hL⟩ : ∃ L, L = allB I P := ⟨_, rfl⟩
  have HL := Lib.hid hL
  have hnL : L.length ≤ 400000 := by rw [hL]; exact HNB.out
  have HST : Hid (smallT I P T = (amtsAll (L ++ T) && (decide (I.length ≤ 200) && decide (P.length ≤ 50) && decide ((L ++ T).length ≤ 1000)))) := Lib.hid (by rw [hL]; rfl)
  rw [← hL] at ho1
  have HO0 : Hid (w1.ownsRow W.heap.size 51 2 v1 (L ++ T.take 0).length (cellsOf Bal.cells (L ++ T.take 0))) := Lib.hid (by simpa using ho1)
  have hWz : w.heap.size ≤ W.heap.size := by have := HB.out.lt; omega
  clear hL hb1 ho1 HB
  go_wp2_with fail
  go_loopw [3, 4] (fun v x wr => ∃ k : Nat, k ≤ T.length ∧ x = .int .i64 k ∧ wr.ownsRow W.heap.size 51 2 v (L ++ T.take k).length (cellsOf Bal.cells (L ++ T.take k)) ∧ Blk wr w.heap.size 26 #[.int .i64 per, .slice AI I.length cI, .slice AP P.length cP, .slice AT T.length cT] ∧ Below w.heap.size w wr ∧ W.heap.size ≤ wr.heap.size) (fun _ x _ => T.length - (intOf x).toNat)
  case atStart => exact ⟨0, by omega, rfl, HO0.out, HB1.out, hb, hs1⟩
  case round =>
    clear hb HB1 HO0 hs1 hz
    obtain ⟨k, hk, rfl, ho, hB, hb, hs1⟩ := hrel
    have hz := hb.size
    have e3 : wr.cell? ⟨w.heap.size, 3, none⟩ = some (.slice AT T.length cT) := hB.cell 3
    by_cases hlt : k < T.length
    · obtain ⟨x, o, hA, hbo, f0, f1⟩ := Bal.at_ (Rd.now H.out.to hb) hlt
      subst hA
      obtain ⟨S, hS⟩ : ∃ S, S = L ++ T.take k := ⟨_, rfl⟩
      have HSN : Hid (L ++ T.take (k + 1) = S ++ [T[k]]) := Lib.hid (by rw [hS, take_snoc' T k hlt, List.append_assoc])
      have hln : S.length ≤ 1000000 := by rw [hS, List.length_append, List.length_take]; omega
      rw [← hS] at ho
      clear hS
      have HBA := Lib.hid ((hB.alloc (.cells #[.int .i64 T[k].account, .int .i64 T[k].amount] 51)))
      have HNE := Lib.hid (own_ne_blk ho hB (by decide))
      clear hB
      go_wp2_with (at_builtin; refine wpList_append_rec Bal.cells 2 (fun _ => rfl) Bal.one rfl (.tmp 18) (.tmp 24) 48 rfl W.heap.size 51 i0 (.agg #[.int .i64 0, .int .i64 0]) 16 Try.underlying48 hi hz0 hz1 hz2 rfl (by decide) _ S rfl (ho.alloc (.cells #[.int .i64 T[k].account, .int .i64 T[k].amount] 51)) wr.heap.size 1 T[k] _ rfl (Blk.new wr _ _) rfl ?c3 ?c4 ?c5 ?_)
      case c3 => simp only [maxLen]; omega
      case c4 => omega
      case c5 => simp; omega
      intro v4 w4 ho4 hg4
      have hb4 : Below w.heap.size w w4 := bel_own (w1 := wr.alloc (.cells #[.int .i64 T[k].account, .int .i64 T[k].amount] 51)) (hb.alloc hz _) (by simp; omega) (own_base (ho.alloc _) hWz) hg4
      have hB4 := HBA.out.grown hg4 HNE.out
      have hs4 : W.heap.size ≤ w4.heap.size := by have := hg4.size; simp at this; omega
      clear hg4
      go_wp2_with fail
      go_roundw
      case rel => exact ⟨k + 1, by omega, by go_num, by rw [HSN.out, List.length_append, List.length_singleton]; exact ho4, hB4, hb4, hs4⟩
      case measure => simp [intOf]; omega
    · have HE : Hid (T.take k = T) := Lib.hid (List.take_of_length_le (by omega))
      rw [HE.out] at ho
      obtain ⟨S, hS⟩ : ∃ S, S = L ++ T := ⟨_, rfl⟩
      rw [← hS] at ho HST
      have hlS : S.length ≤ 1000000 := by rw [hS, List.length_append]; omega
      have HB := Lib.hid hB
      clear hS hB HL
      obtain ⟨A5, c5, rfl, hrx⟩ := Rd.of_own ho
      have H5 := Lib.hid hrx
      clear hrx ho
      go_wp2_with fail
      go_loopw [5] (fun x wq => ∃ k : Nat, k ≤ S.length ∧ (∀ j, j < k → smallAt S j = true) ∧ x = .int .i64 k ∧ Below wr.heap.size wr wq) (fun x _ => S.length - (intOf x).toNat)
      case atStart => exact ⟨0, by omega, fun j h => by omega, rfl, Below.refl _ _⟩
      case round =>
        obtain ⟨wo, rfl⟩ : ∃ wo : World, wo = wr := ⟨_, rfl⟩
        obtain ⟨k, hk, hno, rfl, hbr⟩ := hrel
        have HN := Lib.hid hno
        clear hno e3
        have hbw := bel hb hbr
        by_cases hlt : k < S.length
        · obtain ⟨x, o, hA, hbo, f0, f1⟩ := Bal.at_ (Rd.now H5.out hbr) hlt
          subst hA
          by_cases h1 : S[k].amount ≤ 1125899906842624
          · by_cases h2 : -1125899906842624 ≤ S[k].amount
            · have HA := Lib.hid (amts_at hlt h1 h2)
              go_wp2_with fail
              go_roundw
              case rel => exact ⟨k + 1, by omega, fun j hj => (by
                by_cases e : j = k
                · subst e; exact HA.out
                · exact HN.out j (by omega)), by go_num, hbr⟩
              case measure => simp [intOf]; omega
            · have HE : Hid (smallT I P T = false) := Lib.hid (by rw [HST.out, amts_no hlt (fun h => h2 h.2)]; rfl)
              go_wp2_with fail
              go_ret
              exact ⟨ret_bool HE.out.symm, hbw⟩
          · have HE : Hid (smallT I P T = false) := Lib.hid (by rw [HST.out, amts_no hlt (fun h => h1 h.1)]; rfl)
            go_wp2_with fail
            go_ret
            exact ⟨ret_bool HE.out.symm, hbw⟩
        · have HE : Hid (smallT I P T = (decide (I.length ≤ 200) && decide (P.length ≤ 50) && decide (S.length ≤ 1000))) := Lib.hid (by rw [HST.out, show amtsAll S = true from allAt_yes fun j hj => HN.out j (by omega)]; rfl)
          have e1 : wo.cell? ⟨w.heap.size, 1, none⟩ = some (.slice AI I.length cI) := (HB.out.step hbr).cell 1
          have e2 : wo.cell? ⟨w.heap.size, 2, none⟩ = some (.slice AP P.length cP) := (HB.out.step hbr).cell 2
          by_cases c1 : I.length ≤ 200
          · by_cases c2 : P.length ≤ 50
            · by_cases c3 : S.length ≤ 1000
              · go_wp2_with fail
                go_ret
                exact ⟨ret_bool (by rw [HE.out]; simp [c1, c2] <;> omega), hbw⟩
              · go_wp2_with fail
                go_ret
                exact ⟨ret_bool (by rw [HE.out]; simp [c1, c2] <;> omega), hbw⟩
            · go_wp2_with fail
              go_ret
              exact ⟨ret_bool (by rw [HE.out]; simp [c1, c2]), hbw⟩
          · go_wp2_with fail
            go_ret
            exact ⟨ret_bool (by rw [HE.out]; simp [c1]), hbw⟩
end Go.Proofs.Ytkfbchgabmffoaa
/- The example; the walks of TraceLines and TraceCheck. -/
namespace Go.Proofs.Ytkfbchgabmffoaa
set_option linter.unusedVariables false
set_option linter.unusedSimpArgs false
open Go.RowKit

set_option maxHeartbeats 1000000 in
theorem tfig_any (per : Int) (vI vP : Value) (T : List Bal) (AT : Option Addr) (cT : Nat) (f t : Int) (w : World) (h : Rd w w.heap.size 2 AT T.length (cellsOf Bal.cells T)) (hnT : T.length ≤ 1000000) :
    Calls Try.prog 12 #[.agg #[.int .i64 per, vI, vP, .slice AT T.length cT], .int .i64 f, .int .i64 t] w (fun e w' => e = .returned (.int .i64 (figW f t T)) ∧ Below w.heap.size w w') := by
  have hb : Below w.heap.size w (w.alloc (.cells #[.int .i64 per, vI, vP, .slice AT T.length cT] 26)) := (Below.refl _ _).alloc (Nat.le_refl _) _
  have H := Lib.hid h
  clear h
  go_enter Try.func12, Try.ntmps12
  go_wp2_with (go_at_call 18; refine (fig_any T f t AT cT _ (Rd.now H.out hb) hnT).mono ?_; rintro e w2 ⟨rfl, hb2⟩)
  go_ret
  exact ⟨rfl, bel hb hb2⟩
set_option maxHeartbeats 1000000 in
theorem rtfig_any (per : Int) (vI vP : Value) (T : List Bal) (AT : Option Addr) (cT : Nat) (f t : Int) (w : World) (h : Rd w w.heap.size 2 AT T.length (cellsOf Bal.cells T)) (hnT : T.length ≤ 1000000) :
    Calls Try.prog 13 #[.agg #[.int .i64 per, vI, vP, .slice AT T.length cT], .int .i64 f, .int .i64 t] w (fun e w' => e = .returned (.int .i64 (figW f t T)) ∧ Below w.heap.size w w') := by
  have hb : Below w.heap.size w (w.alloc (.cells #[.int .i64 per, vI, vP, .slice AT T.length cT] 26)) := (Below.refl _ _).alloc (Nat.le_refl _) _
  have H := Lib.hid h
  clear h
  go_enter Try.func13, Try.ntmps13
  go_wp2_with (go_at_call 19; refine (rfig_any T f t AT cT _ (Rd.now H.out hb) hnT).mono ?_; rintro e w2 ⟨rfl, hb2⟩)
  go_ret
  exact ⟨rfl, bel hb hb2⟩
namespace Tr
def I0 : List ItemR := [⟨⟨0, 0⟩, 0, 1010, 0, 0, 90⟩]
def q0 : List Bal := [⟨1010, -90⟩, ⟨3100, 90⟩]
def P0 (b : Nat) : List PostR := [⟨0, 0, 0, 0, ⟨q0, some ⟨b, 0, none⟩, 2⟩⟩]
def T0 : List Bal := [⟨3100, 90⟩]
theorem all0 (b : Nat) : allB I0 (P0 b) = [⟨1010, 90⟩, ⟨1010, -90⟩, ⟨3100, 90⟩] := rfl
theorem of0 (c : Int) : ofW [⟨1010, 90⟩, ⟨1010, -90⟩, ⟨3100, 90⟩] c = if c = 3100 then 90 else 0 := by
  have hw : within 100 [⟨1010, 90⟩, ⟨1010, -90⟩, ⟨3100, 90⟩] := by
    intro x hx
    simp only [List.mem_cons, List.not_mem_nil, or_false] at hx
    rcases hx with rfl | rfl | rfl <;> decide
  rw [ofW_eq' _ c hw (by decide) (by decide)]
  unfold ofV
  rw [sm_cons, sm_cons, sm_cons, sm_nil]
  show (if (1010 : Int) = c then (90 : Int) else 0) + ((if (1010 : Int) = c then (-90 : Int) else 0) + ((if (3100 : Int) = c then (90 : Int) else 0) + 0)) = _
  by_cases h1 : (1010 : Int) = c
  · subst h1; rfl
  · by_cases h2 : (3100 : Int) = c
    · subst h2; rfl
    · rw [if_neg h1, if_neg h1, if_neg h2, if_neg (fun e => h2 e.symm)]; rfl
theorem allLen (b : Nat) : (allB I0 (P0 b)).length ≤ 1000000 := by rw [all0]; decide
theorem check0 (b : Nat) : CheckOk I0 (P0 b) T0 := by
  refine ⟨by decide, ?_, fun c => ?_⟩
  · rw [all0]
    refine ⟨by simp [T0], fun x => ?_⟩
    rw [of0]
    simp only [T0, List.mem_singleton]
    constructor
    · rintro rfl; simp
    · rintro ⟨h1, h2⟩
      by_cases h : x.account = 3100
      · rw [if_pos h] at h1
        cases x; simp at h h1 ⊢; exact ⟨h, h1.symm⟩
      · rw [if_neg h] at h1; exact absurd h1.symm h2
  · rw [all0, of0]
    by_cases h : c = 3100
    · rw [if_pos h]; decide
    · rw [if_neg h]; decide
theorem lines0 (b : Nat) : (linesV 1000 1999 I0 (P0 b)).length = 2 := by unfold linesV pick srcs; rfl
theorem fig0 : figW 1000 1999 T0 = 0 := by decide
end Tr
set_option maxRecDepth 100000 in
set_option maxHeartbeats 4000000 in
theorem tr_awake (w : World) : Calls Try.prog 8 #[] w (BoolPost true w) := by
  go_enter Try.func8, Try.ntmps8
  go_upto_region 2 with fail
  obtain ⟨W, hW⟩ : ∃ W, W = ((((w.alloc (.cells #[.int .i64 0, .int .i64 0, .int .i64 0, .int .i64 1010, .int .i64 0, .int .i64 0, .int .i64 90] 45)).alloc (.cells #[.int .i64 1010, .int .i64 (-90), .int .i64 3100, .int .i64 90] 51)).alloc (.cells #[.int .i64 0, .int .i64 0, .int .i64 0, .int .i64 0, .slice (some ⟨w.heap.size + 1, 0, none⟩) 2 2] 50)).alloc (.cells #[.int .i64 3100, .int .i64 90] 47)).alloc (.cells #[.int .i64 0, .slice (some ⟨w.heap.size, 0, none⟩) 1 1, .slice (some ⟨w.heap.size + 1 + 1, 0, none⟩) 1 1, .slice (some ⟨w.heap.size + 1 + 1 + 1, 0, none⟩) 1 1] 26) := ⟨_, rfl⟩
  rw [← hW]
  have hb : Below w.heap.size w W := by rw [hW]; exact (((((Below.refl _ w).alloc (Nat.le_refl _) _).alloc (by simp) _).alloc (by simp; omega) _).alloc (by simp; omega) _).alloc (by simp; omega) _
  have B0 : Blk W w.heap.size 45 #[.int .i64 0, .int .i64 0, .int .i64 0, .int .i64 1010, .int .i64 0, .int .i64 0, .int .i64 90] := by
    rw [hW]; exact ((((Blk.new w _ _).alloc _).alloc _).alloc _).alloc _
  have B1 : Blk W (w.heap.size + 1) 51 #[.int .i64 1010, .int .i64 (-90), .int .i64 3100, .int .i64 90] := by
    rw [hW]
    have := Blk.new (w.alloc (.cells #[.int .i64 0, .int .i64 0, .int .i64 0, .int .i64 1010, .int .i64 0, .int .i64 0, .int .i64 90] 45)) 51 #[.int .i64 1010, .int .i64 (-90), .int .i64 3100, .int .i64 90]
    rw [World.size_alloc] at this
    exact ((this.alloc _).alloc _).alloc _
  have B2 : Blk W (w.heap.size + 1 + 1) 50 #[.int .i64 0, .int .i64 0, .int .i64 0, .int .i64 0, .slice (some ⟨w.heap.size + 1, 0, none⟩) 2 2] := by
    rw [hW]
    have := Blk.new ((w.alloc (.cells #[.int .i64 0, .int .i64 0, .int .i64 0, .int .i64 1010, .int .i64 0, .int .i64 0, .int .i64 90] 45)).alloc (.cells #[.int .i64 1010, .int .i64 (-90), .int .i64 3100, .int .i64 90] 51)) 50 #[.int .i64 0, .int .i64 0, .int .i64 0, .int .i64 0, .slice (some ⟨w.heap.size + 1, 0, none⟩) 2 2]
    rw [World.size_alloc, World.size_alloc] at this
    exact (this.alloc _).alloc _
  have B3 : Blk W (w.heap.size + 1 + 1 + 1) 47 #[.int .i64 3100, .int .i64 90] := by
    rw [hW]
    have := Blk.new (((w.alloc (.cells #[.int .i64 0, .int .i64 0, .int .i64 0, .int .i64 1010, .int .i64 0, .int .i64 0, .int .i64 90] 45)).alloc (.cells #[.int .i64 1010, .int .i64 (-90), .int .i64 3100, .int .i64 90] 51)).alloc (.cells #[.int .i64 0, .int .i64 0, .int .i64 0, .int .i64 0, .slice (some ⟨w.heap.size + 1, 0, none⟩) 2 2] 50)) 47 #[.int .i64 3100, .int .i64 90]
    rw [World.size_alloc, World.size_alloc, World.size_alloc] at this
    exact this.alloc _
  have B4 : Blk W (w.heap.size + 1 + 1 + 1 + 1) 26 #[.int .i64 0, .slice (some ⟨w.heap.size, 0, none⟩) 1 1, .slice (some ⟨w.heap.size + 1 + 1, 0, none⟩) 1 1, .slice (some ⟨w.heap.size + 1 + 1 + 1, 0, none⟩) 1 1] := by
    rw [hW]
    have := Blk.new ((((w.alloc (.cells #[.int .i64 0, .int .i64 0, .int .i64 0, .int .i64 1010, .int .i64 0, .int .i64 0, .int .i64 90] 45)).alloc (.cells #[.int .i64 1010, .int .i64 (-90), .int .i64 3100, .int .i64 90] 51)).alloc (.cells #[.int .i64 0, .int .i64 0, .int .i64 0, .int .i64 0, .slice (some ⟨w.heap.size + 1, 0, none⟩) 2 2] 50)).alloc (.cells #[.int .i64 3100, .int .i64 90] 47)) 26 #[.int .i64 0, .slice (some ⟨w.heap.size, 0, none⟩) 1 1, .slice (some ⟨w.heap.size + 1 + 1, 0, none⟩) 1 1, .slice (some ⟨w.heap.size + 1 + 1 + 1, 0, none⟩) 1 1]
    rwa [World.size_alloc, World.size_alloc, World.size_alloc, World.size_alloc] at this
  clear hW
  have hR : RIn W Tr.I0 (some ⟨w.heap.size, 0, none⟩) (Tr.P0 (w.heap.size + 1)) (some ⟨w.heap.size + 1 + 1, 0, none⟩) Tr.T0 (some ⟨w.heap.size + 1 + 1 + 1, 0, none⟩) := by
    refine ⟨Rd.of_blk B0 rfl rfl, Rd.of_blk B2 rfl rfl, Rd.of_blk B3 rfl rfl, fun p hp => ?_, fun x hx => ?_⟩
    · simp only [Tr.P0, List.mem_singleton] at hp
      subst hp
      refine ⟨rfl, rfl, rfl, rfl, ⟨Rd.of_blk B1 rfl rfl, by simp [Tr.q0], by simp [maxLen]⟩, fun y hy => ?_⟩
      simp only [Tr.q0, List.mem_cons, List.not_mem_nil, or_false] at hy
      rcases hy with rfl | rfl <;> exact ⟨rfl, rfl⟩
    · simp only [Tr.I0, List.mem_singleton] at hx
      subst hx
      exact ⟨rfl, rfl, rfl⟩
  have HR := Lib.hid hR
  have HC := Lib.hid (check_yes (Tr.check0 (w.heap.size + 1)))
  have HB := Lib.hid B4
  have e0 : W.cell? ⟨w.heap.size + 1 + 1 + 1 + 1, 0, none⟩ = some (.int .i64 0) := B4.cell 0
  have e1 : W.cell? ⟨w.heap.size + 1 + 1 + 1 + 1, 1, none⟩ = some (.slice (some ⟨w.heap.size, 0, none⟩) 1 1) := B4.cell 1
  have e2 : W.cell? ⟨w.heap.size + 1 + 1 + 1 + 1, 2, none⟩ = some (.slice (some ⟨w.heap.size + 1 + 1, 0, none⟩) 1 1) := B4.cell 2
  have e3 : W.cell? ⟨w.heap.size + 1 + 1 + 1 + 1, 3, none⟩ = some (.slice (some ⟨w.heap.size + 1 + 1 + 1, 0, none⟩) 1 1) := B4.cell 3
  clear hR B0 B1 B2 B3 B4
  go_wp2_with fail
  refine (tcheck_any 0 Tr.I0 (some ⟨w.heap.size, 0, none⟩) 1 (Tr.P0 (w.heap.size + 1)) (some ⟨w.heap.size + 1 + 1, 0, none⟩) 1 Tr.T0 (some ⟨w.heap.size + 1 + 1 + 1, 0, none⟩) 1 _ HR.out (Tr.allLen _) (by decide) (by simp [Tr.P0]) (by decide)).mono ?_
  rintro e w2 ⟨rfl, hb2⟩
  rw [HC.out]
  have e0 : w2.cell? ⟨w.heap.size + 1 + 1 + 1 + 1, 0, none⟩ = some (.int .i64 0) := (HB.out.step hb2).cell 0
  have e1 : w2.cell? ⟨w.heap.size + 1 + 1 + 1 + 1, 1, none⟩ = some (.slice (some ⟨w.heap.size, 0, none⟩) 1 1) := (HB.out.step hb2).cell 1
  have e2 : w2.cell? ⟨w.heap.size + 1 + 1 + 1 + 1, 2, none⟩ = some (.slice (some ⟨w.heap.size + 1 + 1, 0, none⟩) 1 1) := (HB.out.step hb2).cell 2
  have e3 : w2.cell? ⟨w.heap.size + 1 + 1 + 1 + 1, 3, none⟩ = some (.slice (some ⟨w.heap.size + 1 + 1 + 1, 0, none⟩) 1 1) := (HB.out.step hb2).cell 3
  have HR2 := Lib.hid (HR.out.step hb2)
  have HB2 := Lib.hid (HB.out.step hb2)
  have hb3 := bel hb hb2
  clear hb hb2 HR HB
  go_wp2_with fail
  refine (tfig_any 0 (.slice (some ⟨w.heap.size, 0, none⟩) 1 1) (.slice (some ⟨w.heap.size + 1 + 1, 0, none⟩) 1 1) Tr.T0 (some ⟨w.heap.size + 1 + 1 + 1, 0, none⟩) 1 1000 1999 _ HR2.out.to (by decide)).mono ?_
  rintro e w4 ⟨rfl, hb4⟩
  rw [Tr.fig0]
  have e0 : w4.cell? ⟨w.heap.size + 1 + 1 + 1 + 1, 0, none⟩ = some (.int .i64 0) := (HB2.out.step hb4).cell 0
  have e1 : w4.cell? ⟨w.heap.size + 1 + 1 + 1 + 1, 1, none⟩ = some (.slice (some ⟨w.heap.size, 0, none⟩) 1 1) := (HB2.out.step hb4).cell 1
  have e2 : w4.cell? ⟨w.heap.size + 1 + 1 + 1 + 1, 2, none⟩ = some (.slice (some ⟨w.heap.size + 1 + 1, 0, none⟩) 1 1) := (HB2.out.step hb4).cell 2
  have e3 : w4.cell? ⟨w.heap.size + 1 + 1 + 1 + 1, 3, none⟩ = some (.slice (some ⟨w.heap.size + 1 + 1 + 1, 0, none⟩) 1 1) := (HB2.out.step hb4).cell 3
  have HR4 := Lib.hid (HR2.out.step hb4)
  have hb5 := bel hb3 hb4
  clear hb3 hb4 HR2 HB2
  go_wp2_with fail
  refine (lines_any 0 Tr.I0 (some ⟨w.heap.size, 0, none⟩) 1 (Tr.P0 (w.heap.size + 1)) (some ⟨w.heap.size + 1 + 1, 0, none⟩) 1 Tr.T0 (some ⟨w.heap.size + 1 + 1 + 1, 0, none⟩) 1 1000 1999 _ HR4.out (Tr.allLen _) (by decide) (by simp [Tr.P0]) (by decide) (by simp [Tr.P0, Tr.q0])).mono ?_
  rintro e w6 ⟨v6, rfl, ho6, hb6⟩
  rw [Tr.lines0] at ho6
  obtain ⟨A6, c6, rfl, hrx⟩ := Rd.of_own ho6
  have H6 := Lib.hid hrx
  clear hrx ho6
  have hb7 := bel hb5 hb6
  go_wp2_with fail
  go_ret
  exact ⟨rfl, hb7⟩
end Go.Proofs.Ytkfbchgabmffoaa
