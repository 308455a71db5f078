/- The walk of PostingRanges. -/
import Derived.Test.YthenamibehbdnaaPostWalksF
import Derived.Test.YthenamibehbdnaaPostLaws
namespace Go.Proofs.Ythenamibehbdnaa
set_option linter.unusedVariables false
set_option linter.unusedSimpArgs false
open Go.RowKit

theorem smalls_within {m : List Bal} (h : ∀ j, j < m.length → smallAt m j = true) : within 1125899906842624 m := by
  intro x hx
  obtain ⟨j, hj, rfl⟩ := List.mem_iff_getElem.1 hx
  have := h j hj
  unfold smallAt at this
  rw [Bal.getD_at m j hj] at this
  simp only [Bool.and_eq_true, decide_eq_true_eq] at this
  exact ⟨this.2, this.1⟩
theorem condV_bd (p : Bal → Bool) {m : List Bal} (h : within 1125899906842624 m) (hl : m.length ≤ 201) : -1000000000000000000 ≤ condV p m ∧ condV p m ≤ 1000000000000000000 := by
  have hb := sm_bd m (fun x => if p x = true then x.amount else 0) 1125899906842624 (fun x hx => by
    have := h x hx
    show -1125899906842624 ≤ (if p x = true then x.amount else 0) ∧ (if p x = true then x.amount else 0) ≤ 1125899906842624
    split <;> omega)
  unfold condV
  omega
set_option maxRecDepth 100000 in
set_option maxHeartbeats 4000000 in
theorem law_PostingRanges (m : List Bal) (A : Option Addr) (cap : Nat) (p q r : Nat) (w : World) (hm : m.length ≤ maxLen) (hp : p ≤ 65535) (hq : q ≤ 65535) (hr' : r ≤ 65535) (hr : Rd w w.heap.size 2 A m.length (cellsOf Bal.cells m)) (hwf : ∀ x ∈ m, (Lit.int .i64 x.account).wf = true) :
    Calls Try.prog 4 #[.slice A m.length cap, .agg #[.int .u16 p, .int .u16 q, .int .u16 r]] w fun e w' => e = .returned (.bool true) ∧ Below w.heap.size w w' := by
  unfold maxLen at hm
  have HR := Lib.hid hr
  have HW := Lib.hid hwf
  clear hr hwf
  have hb : Below w.heap.size w (w.alloc (.cells #[.int .u16 p, .int .u16 q, .int .u16 r] 34)) := (Below.refl _ _).alloc (Nat.le_refl _) _
  have HB := Lib.hid (Blk.new w 34 #[.int .u16 p, .int .u16 q, .int .u16 r])
  have hsw : w.heap.size < (w.alloc (.cells #[.int .u16 p, .int .u16 q, .int .u16 r] 34)).heap.size := by simp
  obtain ⟨W, hW⟩ : ∃ W, W = w.alloc (.cells #[.int .u16 p, .int .u16 q, .int .u16 r] 34) := ⟨_, rfl⟩
  have HWW := Lib.hid hW
  rw [← hW] at hb HB hsw
  clear hW
  go_enter Try.func4, Try.ntmps4
  go_wp2_with fail
  rw [← HWW.out]
  refine (post_awake _).mono ?_
  rintro e w2 ⟨rfl, hb2⟩
  have HB2 := Lib.hid (HB.out.below hb2 hsw)
  replace hb := bel hb hb2
  have hsw2 : w.heap.size < w2.heap.size := by have := hb2.size; omega
  clear hb2 HB HWW hsw
  go_wp2_with fail
  go_loopw [5, 6] (fun s t wr => ∃ k : Nat, k ≤ m.length ∧ k ≤ 201 ∧ (∀ j, j < k → smallAt m j = true) ∧ s = .int .i64 (sumW (m.take k)) ∧ t = .int .i64 k ∧ w2 = wr) (fun _ t _ => m.length - (intOf t).toNat)
  case atStart => exact ⟨0, by omega, by omega, fun j h => by omega, rfl, rfl, rfl⟩
  case round =>
    obtain ⟨k, hk, hk2, hno, rfl, rfl, rfl⟩ := hrel
    have HN := Lib.hid hno
    clear hno
    by_cases hlt : k < m.length
    · obtain ⟨x, o, hA, hbo, f0, f1⟩ := Bal.at_ (Rd.now HR.out hb) hlt
      subst hA
      have HK := Lib.hid (sumW_take m k hlt)
      have HS : Hid (smallAt m k = (decide (m[k].amount ≤ 1125899906842624) && decide (-1125899906842624 ≤ m[k].amount))) := Lib.hid (by unfold smallAt; rw [Bal.getD_at m k hlt])
      by_cases h1 : m[k].amount ≤ 1125899906842624
      · by_cases h2 : -1125899906842624 ≤ m[k].amount
        · by_cases h3 : k ≤ 200
          · have HE : Hid (smallAt m k = true) := Lib.hid (by rw [HS.out]; simp [h1, h2])
            go_wp2_with fail
            go_roundw
            case rel => exact ⟨k + 1, by omega, by omega, upto_succ HN.out HE.out, by rw [HK.out], by go_num, trivial⟩
            case measure => simp [intOf]; omega
          · go_wp2_with fail
            go_ret
            exact ⟨rfl, hb⟩
        · go_wp2_with fail
          go_ret
          exact ⟨rfl, hb⟩
      · go_wp2_with fail
        go_ret
        exact ⟨rfl, hb⟩
    · obtain rfl : k = m.length := by omega
      have HWI := Lib.hid (smalls_within HN.out)
      have hT : m.take m.length = m := List.take_length
      rw [hT]
      clear hT hlt hk
      have q0 : ∀ d : Later w2, d.now.cell? ⟨w.heap.size, 0, none⟩ = some (.int .u16 p) := fun d => d.cell hsw2 (HB2.out.cell 0)
      have q1 : ∀ d : Later w2, d.now.cell? ⟨w.heap.size, 1, none⟩ = some (.int .u16 q) := fun d => d.cell hsw2 (HB2.out.cell 1)
      have q2 : ∀ d : Later w2, d.now.cell? ⟨w.heap.size, 2, none⟩ = some (.int .u16 r) := fun d => d.cell hsw2 (HB2.out.cell 2)
      go_wp2_with fail
      refine wp_region_later (by kernel_rfl) (by kernel_rfl) ?_; (repeat (go_big_quiet_step ((fail)))); refine wpQuiet_nil ?_; rintro _ ⟨dq, rfl⟩
      replace hb := bel hb dq.below
      by_cases h1 : p ≤ q
      · by_cases h2 : q ≤ r
        · have HX : Hid (figW p r m = figW p q m + figW ((q : Int) + 1) r m) := Lib.hid (by unfold figW; rw [condW_eq _ m HWI.out (by omega) (by omega), condW_eq _ m HWI.out (by omega) (by omega), condW_eq _ m HWI.out (by omega) (by omega)]; exact figV_split m (by omega) (by omega))
          have HX1 : Hid (-1000000000000000000 ≤ figW p r m ∧ figW p r m ≤ 1000000000000000000) := Lib.hid (by unfold figW; rw [condW_eq _ m HWI.out (by omega) (by omega)]; exact condV_bd _ HWI.out hk2)
          have HY : Hid (figW (-9223372036854775808) 9223372036854775807 m = sumW m) := Lib.hid (by unfold figW; rw [condW_eq _ m HWI.out (by omega) (by omega), sumW_eq m HWI.out (by omega) (by omega)]; exact figV_all m HW.out)
          go_wp2_with fail
          refine (fig_any m p r A cap _ (Rd.now HR.out hb) (by omega)).mono ?_
          rintro e w3 ⟨rfl, hb3⟩
          replace hb := bel hb hb3
          clear hb3
          go_wp2_with fail
          refine (fig_any m p q A cap _ (Rd.now HR.out hb) (by omega)).mono ?_
          rintro e w4 ⟨rfl, hb3⟩
          replace hb := bel hb hb3
          clear hb3
          go_wp2_with fail
          refine (fig_any m ((q : Int) + 1) r A cap _ (Rd.now HR.out hb) (by omega)).mono ?_
          rintro e w5 ⟨rfl, hb3⟩
          replace hb := bel hb hb3
          clear hb3
          generalize figW p r m = z at HX HX1 ⊢
          generalize figW p q m = x at HX ⊢
          generalize figW ((q : Int) + 1) r m = y at HX ⊢
          have hd : (z == x + y) = true := by rw [HX.out]; simp
          have hx1 : -1000000000000000000 ≤ x + y := by have := HX1.out; have := HX.out; omega
          have hx2 : x + y ≤ 1000000000000000000 := by have := HX1.out; have := HX.out; omega
          have hwr : IntKind.i64.wrap (x + y) = x + y := IntWalk.i64_in _ (by omega)
          go_wp2_with fail
          refine (fig_any m (-9223372036854775808) 9223372036854775807 A cap _ (Rd.now HR.out hb) (by omega)).mono ?_
          rintro e w6 ⟨rfl, hb3⟩
          replace hb := bel hb hb3
          clear hb3
          have hd2 : (figW (-9223372036854775808) 9223372036854775807 m == sumW m) = true := by rw [HY.out]; simp
          go_wp2_with fail
          go_ret
          exact ⟨rfl, hb⟩
        · go_wp2_with fail
          go_ret
          exact ⟨rfl, hb⟩
      · go_wp2_with fail
        go_ret
        exact ⟨rfl, hb⟩
end Go.Proofs.Ythenamibehbdnaa
