/- The walk of PostingTotal. -/
import Derived.Test.YthenamibehbdnaaTotWalksC
import Derived.Test.YthenamibehbdnaaPostWalksF
import Derived.Test.YthenamibehbdnaaPostLaws
namespace Go.Proofs.Ythenamibehbdnaa
set_option linter.unusedVariables false
set_option linter.unusedSimpArgs false
open Go.RowKit

def bk {α : Type} (m : List α) (i : Nat) : List α := (m.drop i).reverse
section
variable {α : Type}
theorem bk_end (m : List α) : bk m m.length = [] := by unfold bk; simp
theorem bk_step (m : List α) (i : Nat) (h : i < m.length) : bk m i = bk m (i + 1) ++ [m[i]] := by
  unfold bk
  rw [List.drop_eq_getElem_cons h, List.reverse_cons]
theorem bk_len (m : List α) (i : Nat) : (bk m i).length = m.length - i := by unfold bk; simp
theorem bk_perm (m : List α) : (bk m 0).Perm m := by unfold bk; simp only [List.drop_zero]; exact List.reverse_perm m
end
theorem allB_perm {I J : List ItemR} {P Q : List PostR} (h1 : I.Perm J) (h2 : P.Perm Q) : (allB I P).Perm (allB J Q) := List.Perm.append (h1.map _) (List.Perm.flatMap_right _ h2)
theorem ofW_perm {l m : List Bal} (h : l.Perm m) (hw : within 1125899906842624 m) (hl : m.length ≤ 3000) (c : Int) : ofW l c = ofW m c := by
  have hl2 := h.length_eq
  rw [ofW_eq' l c (fun x hx => hw x (h.mem_iff.1 hx)) (by omega) (by omega), ofW_eq' m c hw (by omega) (by omega), ofV_perm h]
theorem sametot_yes (m : List Bal) (A B : Option Addr) (c1 c2 : Nat) (w : World) (hr : Rd w w.heap.size 2 A m.length (cellsOf Bal.cells m)) (hq : Rd w w.heap.size 2 B m.length (cellsOf Bal.cells m)) (hn : m.length ≤ 1000000) :
    Calls Try.prog 26 #[.slice A m.length c1, .slice B m.length c2] w (BoolPost true w) :=
  (sametot_any m m A B c1 c2 w hr hq hn hn).mono fun e w' h => ⟨h.1.trans (ret_bool (by simp)), h.2⟩
set_option maxRecDepth 100000 in
set_option maxHeartbeats 8000000 in
theorem law_PostingTotal (per : Int) (I : List ItemR) (AI : Option Addr) (cI : Nat) (P : List PostR) (AP : Option Addr) (cP : Nat) (vT : Value) (from_ to_ : Int) (w : World)
    (hI : Rd w w.heap.size 7 AI I.length (cellsOf ItemR.cells I)) (hP : Rd w w.heap.size 5 AP P.length (cellsOf PostR.cells P)) (hPP : ∀ p ∈ P, p.Ok w) (hII : ∀ p ∈ I, p.Ok w) (hnI : I.length ≤ maxLen) (hnP : P.length ≤ maxLen) :
    Calls Try.prog 7 #[.agg #[.int .i64 per, .slice AI I.length cI, .slice AP P.length cP, vT], .int .i64 from_, .int .i64 to_] w fun e w' => e = .returned (.bool true) ∧ Below w.heap.size w w' := by
  have hb : Below w.heap.size w (w.alloc (.cells #[.int .i64 per, .slice AI I.length cI, .slice AP P.length cP, vT] 43)) := (Below.refl _ _).alloc (Nat.le_refl _) _
  have HB := Lib.hid (Blk.new w 43 #[.int .i64 per, .slice AI I.length cI, .slice AP P.length cP, vT])
  have HI := Lib.hid hI
  have HP := Lib.hid hP
  have HPP := Lib.hid hPP
  have HWF : Hid (∀ x ∈ allB I P, Wf x.account) := Lib.hid (by
    intro x hx
    rcases List.mem_append.1 hx with hx | hx
    · obtain ⟨i, hi, rfl⟩ := List.mem_map.1 hx
      exact (hII i hi).2.2.1
    · obtain ⟨p, hp, hxp⟩ := List.mem_flatMap.1 hx
      exact ((hPP p hp).2.2.2.2.2 x hxp).1)
  clear hI hP hPP hII
  obtain ⟨i0, hi, hz0, hz1, hz2⟩ := info_parts ItemR.info
  obtain ⟨j0, hj, hy0, hy1, hy2⟩ := info_parts PostR.info
  go_enter Try.func7, Try.ntmps7
  go_wp2_with fail
  generalize hWW : w.alloc (.cells #[.int .i64 per, .slice AI I.length cI, .slice AP P.length cP, vT] 43) = W at *
  clear hWW
  refine (post_awake _).mono ?_
  rintro e w2 ⟨rfl, hb9⟩
  replace hb := bel hb hb9
  replace HB := Lib.hid (HB.out.step hb9)
  clear hb9
  have e0 : w2.cell? ⟨w.heap.size, 0, none⟩ = some (.int .i64 per) := HB.out.cell 0
  have e1 : w2.cell? ⟨w.heap.size, 1, none⟩ = some (.slice AI I.length cI) := HB.out.cell 1
  have e2 : w2.cell? ⟨w.heap.size, 2, none⟩ = some (.slice AP P.length cP) := HB.out.cell 2
  have e3 : w2.cell? ⟨w.heap.size, 3, none⟩ = some vT := HB.out.cell 3
  go_wp2_with fail
  refine (parts_any per I AI cI P AP cP vT _ (Rd.now HI.out hb) (Rd.now HP.out hb) (fun p hp => (HPP.out p hp).step hb) hnI hnP).mono ?_
  rintro e w3 ⟨b, rfl, hb9, hok⟩
  clear e0 e1 e2 e3
  replace hb := bel hb hb9
  replace HB := Lib.hid (HB.out.step hb9)
  clear hb9
  cases b
  · clear hok
    go_wp2_with fail
    go_ret
    exact ⟨rfl, hb⟩
  · have OK := Lib.hid (hok rfl)
    clear hok hnI hnP
    have hlI := OK.out.items
    have hlP := OK.out.postings
    have hlA : (allB I P).length ≤ 1000000 := by have := OK.out.len; omega
    have e1 : w3.cell? ⟨w.heap.size, 1, none⟩ = some (.slice AI I.length cI) := HB.out.cell 1
    have e2 : w3.cell? ⟨w.heap.size, 2, none⟩ = some (.slice AP P.length cP) := HB.out.cell 2
    go_wp2_with fail
    refine (total_any I AI cI P AP cP _ (Rd.now HI.out hb) (Rd.now HP.out hb) (fun p hp => (HPP.out p hp).step hb) HWF.out hlA (by omega) (by omega)).mono ?_
    rintro e w4 ⟨v4, L, E, rfl, ho4, hb9, hc4⟩
    replace hb := bel hb hb9
    replace HB := Lib.hid (HB.out.step hb9)
    clear hb9 e1 e2
    have HC : Hid (ColAlt (ofW (allB I P)) L E) := Lib.hid hc4
    have hL : L.length ≤ 1000000 := by have := col_len HC.out rfl; omega
    clear hc4
    obtain ⟨A4, c4, rfl, hrx⟩ := Rd.of_own ho4
    have H4 := Lib.hid hrx
    clear hrx ho4
    have e1 : w4.cell? ⟨w.heap.size, 1, none⟩ = some (.slice AI I.length cI) := HB.out.cell 1
    have e2 : w4.cell? ⟨w.heap.size, 2, none⟩ = some (.slice AP P.length cP) := HB.out.cell 2
    go_wp2_with fail
    refine (rtotal_any I AI cI P AP cP _ (Rd.now HI.out hb) (Rd.now HP.out hb) (fun p hp => (HPP.out p hp).step hb) hlA (by omega) (by omega)).mono ?_
    rintro e w5 ⟨v5, L', E', rfl, ho5, hb9, hc5⟩
    obtain ⟨rfl, rfl⟩ := col_same HC.out hc5 (fun _ => rfl)
    replace hb := bel hb hb9
    replace HB := Lib.hid (HB.out.step hb9)
    replace H4 := Lib.hid (Rd.now (H4).out hb9)
    clear hb9 e1 e2 hc5
    obtain ⟨A5, c5, rfl, hrx⟩ := Rd.of_own ho5
    have H5 := Lib.hid hrx
    clear hrx ho5
    have e1 : w5.cell? ⟨w.heap.size, 1, none⟩ = some (.slice AI I.length cI) := HB.out.cell 1
    go_wp2_with fail
    clear e1
    go_loopw [11, 12] (fun v t wr => ∃ (i : Nat) (z : Int), i ≤ I.length ∧ z + 1 = i ∧ t = .int .i64 z ∧ wr.ownsRow w5.heap.size 54 7 v (bk I i).length (cellsOf ItemR.cells (bk I i)) ∧ Below w5.heap.size w5 wr) (fun _ t _ => (intOf t + 1).toNat)
    case atStart => exact ⟨I.length, _, by omega, by omega, rfl, by rw [bk_end]; exact World.ownsRow_nil _ _ _ _, Below.refl _ _⟩
    case round =>
      obtain ⟨i, z, him, hz, rfl, ho, hbr⟩ := hrel
      have hsz := hbr.size
      have e1 : wr.cell? ⟨w.heap.size, 1, none⟩ = some (.slice AI I.length cI) := (HB.out.step hbr).cell 1
      have e2 : wr.cell? ⟨w.heap.size, 2, none⟩ = some (.slice AP P.length cP) := (HB.out.step hbr).cell 2
      by_cases hlt : 0 < i
      · obtain ⟨j, rfl⟩ : ∃ j : Nat, z = j := ⟨z.toNat, by omega⟩
        obtain rfl : i = j + 1 := by omega
        clear hz
        have hjm : j < I.length := by omega
        obtain ⟨x, o, hA, hbo, f0, f1, f2, f3, f4, f5, f6⟩ := ItemR.at_ (Rd.now HI.out (bel hb hbr)) hjm
        subst hA
        have HX := Lib.hid (bk_step I j hjm)
        have hln : (bk I (j + 1)).length ≤ 200 := by rw [bk_len]; omega
        go_wp2_with (at_builtin; refine wpList_append_rec ItemR.cells 7 ItemR.len ItemR.one rfl (.tmp 46) (.tmp 52) 40 rfl w5.heap.size 54 i0 _ 56 Try.underlying40 hi hz0 hz1 hz2 rfl (by decide) _ (bk I (j + 1)) rfl (ho.alloc _) wr.heap.size 1 I[j] _ rfl (Blk.new wr _ _) rfl ?c3 ?c4 ?c5 ?_)
        case c3 => simp only [maxLen]; omega
        case c4 => omega
        case c5 => simp; omega
        intro v4 w4' ho4 hg4
        have hb3 : Below w5.heap.size w5 (wr.alloc (.cells #[.int .i64 I[j].ref.entry, .int .i64 I[j].ref.line, .int .i64 I[j].entity, .int .i64 I[j].account, .int .i64 I[j].partner, .int .i64 I[j].date, .int .i64 I[j].amount] 54)) := hbr.alloc hsz _
        have hb4 := bel_own hb3 (by simp; omega) (ho.alloc _) hg4
        clear hg4 hb3
        go_wp2_with fail
        go_roundw
        case rel => exact ⟨j, (j : Int) - 1, by omega, by omega, by go_num, by rw [HX.out, List.length_append]; exact ho4, hb4⟩
        case measure => simp [intOf]
      · have hzk : z < 0 := by omega
        obtain rfl : i = 0 := by omega
        have HZ := Lib.hid hz
        clear hz
        go_wp2_with fail
        clear e1 e2
        have hb9 := hbr
        replace hb := bel hb hb9
        replace HB := Lib.hid (HB.out.step hb9)
        replace H4 := Lib.hid (Rd.now (H4).out hb9)
        replace H5 := Lib.hid (Rd.now (H5).out hb9)
        have HPI : Hid ((bk I 0).Perm I) := Lib.hid (bk_perm I)
        obtain ⟨A6, c6, rfl, hrx⟩ := Rd.of_own ho
        have H6 := Lib.hid hrx
        clear hrx ho
        have e2 : wr.cell? ⟨w.heap.size, 2, none⟩ = some (.slice AP P.length cP) := HB.out.cell 2
        generalize wr = w6 at *
        clear hb9 hbr hsz
        go_wp2_with fail
        clear e2
        go_loopw [13, 14] (fun v t wr => ∃ (i : Nat) (z : Int), i ≤ P.length ∧ z + 1 = i ∧ t = .int .i64 z ∧ wr.ownsRow w6.heap.size 45 5 v (bk P i).length (cellsOf PostR.cells (bk P i)) ∧ Below w6.heap.size w6 wr) (fun _ t _ => (intOf t + 1).toNat)
        case atStart => exact ⟨P.length, _, by omega, by omega, rfl, by rw [bk_end]; exact World.ownsRow_nil _ _ _ _, Below.refl _ _⟩
        case round =>
          obtain ⟨i, z, him, hz, rfl, ho, hbr⟩ := hrel
          have hsz := hbr.size
          have e2 : wr.cell? ⟨w.heap.size, 2, none⟩ = some (.slice AP P.length cP) := (HB.out.step hbr).cell 2
          by_cases hlt : 0 < i
          · obtain ⟨j, rfl⟩ : ∃ j : Nat, z = j := ⟨z.toNat, by omega⟩
            obtain rfl : i = j + 1 := by omega
            clear hz
            have hjm : j < P.length := by omega
            obtain ⟨x, o, hA, hbo, f0, f1, f2, f3, f4⟩ := PostR.at_ (Rd.now HP.out (bel hb hbr)) hjm
            subst hA
            have HX := Lib.hid (bk_step P j hjm)
            have hln : (bk P (j + 1)).length ≤ 50 := by rw [bk_len]; omega
            go_wp2_with (at_builtin; refine wpList_append_rec PostR.cells 5 PostR.len PostR.one rfl (.tmp 62) (.tmp 68) 41 rfl w6.heap.size 45 j0 _ 56 Try.underlying41 hj hy0 hy1 hy2 rfl (by decide) _ (bk P (j + 1)) rfl (ho.alloc _) wr.heap.size 1 P[j] _ rfl (Blk.new wr _ _) rfl ?c3 ?c4 ?c5 ?_)
            case c3 => simp only [maxLen]; omega
            case c4 => omega
            case c5 => simp; omega
            intro v4 w4' ho4 hg4
            have hb3 : Below w6.heap.size w6 (wr.alloc (.cells #[.int .i64 P[j].kind, .int .i64 P[j].entity, .int .i64 P[j].other, .int .i64 P[j].rule, P[j].parts.val] 45)) := hbr.alloc hsz _
            have hb4 := bel_own hb3 (by simp; omega) (ho.alloc _) hg4
            clear hg4 hb3
            go_wp2_with fail
            go_roundw
            case rel => exact ⟨j, (j : Int) - 1, by omega, by omega, by go_num, by rw [HX.out, List.length_append]; exact ho4, hb4⟩
            case measure => simp [intOf]
          · have hzk : z < 0 := by omega
            obtain rfl : i = 0 := by omega
            have HZ := Lib.hid hz
            clear hz
            go_wp2_with fail
            clear e2
            have hb9 := hbr
            replace hb := bel hb hb9
            replace HB := Lib.hid (HB.out.step hb9)
            replace H4 := Lib.hid (Rd.now (H4).out hb9)
            replace H5 := Lib.hid (Rd.now (H5).out hb9)
            replace H6 := Lib.hid (Rd.now (H6).out hb9)
            have HPP2 : Hid ((bk P 0).Perm P) := Lib.hid (bk_perm P)
            obtain ⟨A7, c7, rfl, hrx⟩ := Rd.of_own ho
            have H7 := Lib.hid hrx
            clear hrx ho
            generalize wr = w7 at *
            clear hb9 hbr hsz
            have hp := allB_perm HPI.out HPP2.out
            have HW7 : Hid (∀ x ∈ allB (bk I 0) (bk P 0), Wf x.account) := Lib.hid fun x hx => HWF.out x (hp.mem_iff.1 hx)
            have HOF := Lib.hid (ofW_perm hp OK.out.within (by have := OK.out.len; omega))
            have hlA2 : (allB (bk I 0) (bk P 0)).length ≤ 1000000 := by rw [hp.length_eq]; exact hlA
            clear hp
            have hl1 : (bk I 0).length ≤ 1000000 := by rw [bk_len]; omega
            have hl2 : (bk P 0).length ≤ 1000000 := by rw [bk_len]; omega
            refine (total_any (bk I 0) A6 c6 (bk P 0) A7 c7 _ H6.out H7.out (fun p hp => (HPP.out p (HPP2.out.mem_iff.1 hp)).step hb) HW7.out hlA2 hl1 hl2).mono ?_
            rintro e w8 ⟨v8, L', E', rfl, ho8, hb9, hc8⟩
            obtain ⟨rfl, rfl⟩ := col_same HC.out hc8 (fun c => (HOF.out c).symm)
            replace hb := bel hb hb9
            replace H4 := Lib.hid (Rd.now (H4).out hb9)
            replace H5 := Lib.hid (Rd.now (H5).out hb9)
            clear hb9 hc8 H6 H7
            obtain ⟨A8, c8, rfl, hrx⟩ := Rd.of_own ho8
            have H8 := Lib.hid hrx
            clear hrx ho8
            have he : (E == E) = true := by simp
            go_wp2_with fail
            refine (sametot_yes L A4 A5 c4 c5 _ H4.out H5.out hL).mono ?_
            rintro e w9 ⟨rfl, hb9⟩
            replace hb := bel hb hb9
            replace H4 := Lib.hid (Rd.now (H4).out hb9)
            replace H5 := Lib.hid (Rd.now (H5).out hb9)
            replace H8 := Lib.hid (Rd.now (H8).out hb9)
            clear hb9
            go_wp2_with fail
            refine (sametot_yes L A4 A8 c4 c8 _ H4.out H8.out hL).mono ?_
            rintro e w10 ⟨rfl, hb9⟩
            replace hb := bel hb hb9
            replace H4 := Lib.hid (Rd.now (H4).out hb9)
            replace H5 := Lib.hid (Rd.now (H5).out hb9)
            clear hb9 H8
            go_wp2_with fail
            refine (fig_any L from_ to_ A4 c4 _ H4.out hL).mono ?_
            rintro e w11 ⟨rfl, hb9⟩
            replace hb := bel hb hb9
            replace H5 := Lib.hid (Rd.now (H5).out hb9)
            clear hb9 H4
            go_wp2_with fail
            refine (rfig_any L from_ to_ A5 c5 _ H5.out hL).mono ?_
            rintro e w12 ⟨rfl, hb9⟩
            replace hb := bel hb hb9
            clear hb9 H5
            have hf : (figW from_ to_ L == figW from_ to_ L) = true := by simp
            go_wp2_with fail
            go_ret
            exact ⟨rfl, hb⟩
end Go.Proofs.Ythenamibehbdnaa
