/- The walk of the reference's Roll. -/
import Derived.Test.YtjcapeieahffnaaChartWalksL
namespace Go.Proofs.Ytjcapeieahffnaa
set_option linter.unusedVariables false
set_option linter.unusedSimpArgs false
open Go.RowKit

theorem rclimb_p (l : List Acc) (c : Int) (A : Option Addr) (cap : Nat) (w : World) (hr : Rd w w.heap.size 4 A l.length (Ch.cells l)) (hn : l.length ≤ 100000) (h : Ch.eitherV l = true) :
    Calls Try.prog 32 #[.slice A l.length cap, .int .i64 c] w (OwnInts w.heap.size (Ch.pcl l c) w) := by
  rw [← Ch.path_yes l c h, ← Ch.path_r l c h]
  exact rclimb_any l c A cap w hr hn
theorem rhas_b (l : List Int) (c : Int) (b : Bool) (A : Option Addr) (cap : Nat) (w : World) (hr : Rd w w.heap.size 1 A l.length (intCells l)) (hn : l.length ≤ 1000000) (hm : decide (c ∈ l) = b) :
    Calls Try.prog 28 #[.slice A l.length cap, .int .i64 c] w (fun e w' => e = .returned (.bool b) ∧ Below w.heap.size w w') := by
  rw [← hm]; exact as_bel (rhas_any l c A cap w hr hn)

set_option maxHeartbeats 8000000 in
theorem rroll_any (l : List Acc) (b : List Bal) (A B : Option Addr) (c1 c2 : Nat) (w : World) (hr : Rd w w.heap.size 4 A l.length (Ch.cells l)) (hq : Rd w w.heap.size 2 B b.length (cellsOf Bal.cells b)) (hn : l.length ≤ 100000) (hn2 : b.length ≤ 100000) :
    Calls Try.prog 24 #[.slice A l.length c1, .slice B b.length c2] w (RollPost w.heap.size (Ch.rollV l b) (Ch.rollE l b) w) := by
  have hb := Below.refl w.heap.size w
  have HR := Lib.hid hr
  have HQ := Lib.hid hq
  clear hr hq
  cases h1 : Ch.eitherV l
  · go_enter Try.func24, Try.ntmps24
    go_wp2_with (go_at_call 27; refine (reither_any l A c1 _ (Rd.now HR.out hb) hn).mono ?_; rintro e w2 ⟨rfl, hb2⟩; replace hb := bel hb hb2; clear hb2)
    go_ret2
    exact roll_nil _ _ _ _ _ _ hb (by obtain ⟨e1, e2⟩ := Ch.roll_arg (b := b) (.inl h1); exact ⟨e1.symm, e2⟩)
  cases h2 : Ch.balsV l b
  · go_enter Try.func24, Try.ntmps24
    go_wp2_with (first
      | (go_at_call 27; refine (reither_any l A c1 _ (Rd.now HR.out hb) hn).mono ?_; rintro e w2 ⟨rfl, hb2⟩; replace hb := bel hb hb2; clear hb2)
      | (go_at_call 39; refine (rbalances_any l b A B c1 c2 _ (Rd.now HR.out hb) (Rd.now HQ.out hb) hn hn2).mono ?_; rintro e w2 ⟨rfl, hb2⟩; replace hb := bel hb hb2; clear hb2))
    go_ret2
    exact roll_nil _ _ _ _ _ _ hb (by obtain ⟨e1, e2⟩ := Ch.roll_arg (l := l) (.inr h2); exact ⟨e1.symm, e2⟩)
  have HAM : Hid (∀ x ∈ b, amV x.amount = true) := Lib.hid (fun x hx => asc_amount (Ch.bals_asc h2) hx)
  have H1 := Lib.hid h1
  have H2 := Lib.hid h2
  obtain ⟨i0, hi, hz0, hz1, hz2⟩ := info_parts bal_info
  go_enter Try.func24, Try.ntmps24
  go_wp2_with (first
    | (go_at_call 27; refine (reither_any l A c1 _ (Rd.now HR.out hb) hn).mono ?_; rintro e w2 ⟨rfl, hb2⟩; replace hb := bel hb hb2; clear hb2)
    | (go_at_call 39; refine (rbalances_any l b A B c1 c2 _ (Rd.now HR.out hb) (Rd.now HQ.out hb) hn hn2).mono ?_; rintro e w2 ⟨rfl, hb2⟩; replace hb := bel hb hb2; clear hb2))
  clear h1 h2
  go_loopw [6, 7] (fun v t wr => ∃ i : Nat, i ≤ l.length ∧ (∀ j (h : j < i) (h2 : j < l.length), amV (Ch.sumAt l b (l[j]'h2).code) = true) ∧ t = .int .i64 i ∧ wr.ownsRow w.heap.size 45 2 v (Ch.rollL l b (l.take i)).length (cellsOf Bal.cells (Ch.rollL l b (l.take i))) ∧ Below w.heap.size w wr) (fun _ t _ => l.length - (intOf t).toNat)
  case atStart => exact ⟨0, by omega, fun i h => by omega, rfl, World.ownsRow_nil _ _ _ _, hb⟩
  case round =>
    clear hb
    obtain ⟨wo, rfl⟩ : ∃ wo : World, wo = wr := ⟨_, rfl⟩
    obtain ⟨i, hi2, hno, rfl, ho, hb⟩ := hrel
    have HN := Lib.hid hno
    clear hno
    by_cases hil : i < l.length
    · have hzo := hb.size
      go_wp2_with fail
      go_loopw [8, 9] (fun s t wr => ∃ k : Nat, k ≤ b.length ∧ s = .int .i64 (Ch.sumAt l (b.take k) l[i].code) ∧ t = .int .i64 k ∧ wr.ownsRow w.heap.size 45 2 u6 (Ch.rollL l b (l.take i)).length (cellsOf Bal.cells (Ch.rollL l b (l.take i))) ∧ Below w.heap.size w wr) (fun _ t _ => b.length - (intOf t).toNat)
      case atStart => exact ⟨0, by omega, by rw [sum_start], rfl, ho, hb⟩
      case round =>
        clear hb ho hzo
        obtain ⟨k, hk, rfl, rfl, ho, hb⟩ := hrel
        have hz := hb.size
        obtain ⟨ba, oa, hA, hba, g0, g1, g2, g3⟩ := Ch.at_ (HR.out.below hb (Nat.le_refl _)) hil
        subst hA
        by_cases hlt : k < b.length
        · obtain ⟨x, o, hB, hbo, f0, f1⟩ := Bal.at_ (HQ.out.below hb (Nat.le_refl _)) hlt
          subst hB
          have q0 : ∀ d : Later wr, d.now.cell? ⟨x, o + k * 2, none⟩ = some (.int .i64 b[k].account) := fun d => d.cell (by omega) f0
          have q1 : ∀ d : Later wr, d.now.cell? ⟨ba, oa + i * 4, none⟩ = some (.int .i64 l[i].code) := fun d => d.cell (by omega) g0
          have HF := Lib.hid f1
          have hpl := Ch.pcl_len l b[k].account
          have HK := Lib.hid (Ch.sumAt_take l b k hlt l[i].code)
          have hbd := Ch.sumAt_bd l (b.take k) l[i].code (fun y hy => HAM.out y (List.mem_of_mem_take hy))
          rw [List.length_take] at hbd
          obtain ⟨hx0, hx1⟩ := amV_is (HAM.out _ (List.getElem_mem hlt))
          have hlo : -100000000000000000 ≤ Ch.sumAt l (b.take k) l[i].code := by omega
          have hhi : Ch.sumAt l (b.take k) l[i].code ≤ 100000000000000000 := by omega
          clear f0 f1 g0 g1 g2 g3 hbd
          by_cases hc : l[i].code ∈ Ch.pcl l b[k].account
          · have HC : Hid (decide (l[i].code ∈ Ch.pcl l b[k].account) = true) := Lib.hid (by simpa using hc)
            have HE : Hid (Ch.sumAt l (b.take (k + 1)) l[i].code = Ch.sumAt l (b.take k) l[i].code + b[k].amount) := Lib.hid (by rw [HK.out, if_pos hc])
            clear hc HK
            go_wp2_with fail
            refine rel_begin (n := 13) (by kernel_rfl) rfl ?_; have hC := Near.drew (wr)
            (first | (refine rel_want (i := 0) rfl rfl (by kernel_rfl) (by kernel_rfl) (by kernel_rfl) rfl (fun _ _ _ _ h => h) hC ?_; intro K hK; go_big_quiet_op; go_big_quiet_on) | (refine rel_skip (i := 0) rfl (by kernel_rfl) (by kernel_rfl) (by kernel_rfl) rfl (fun _ _ _ _ h => h) hC ?_; simp only [Act.put, List.setIfInBounds_toArray, List.set_cons_zero, List.set_cons_succ])); (first | (refine rel_want (i := 1) rfl rfl (by kernel_rfl) (by kernel_rfl) (by kernel_rfl) rfl (fun _ _ _ _ h => h) hC ?_; intro K hK; go_big_quiet_op; go_big_quiet_on) | (refine rel_skip (i := 1) rfl (by kernel_rfl) (by kernel_rfl) (by kernel_rfl) rfl (fun _ _ _ _ h => h) hC ?_; simp only [Act.put, List.setIfInBounds_toArray, List.set_cons_zero, List.set_cons_succ])); (first | (refine rel_want (i := 2) rfl rfl (by kernel_rfl) (by kernel_rfl) (by kernel_rfl) rfl (fun _ _ _ _ h => h) hC ?_; intro K hK; go_big_quiet_op; go_big_quiet_on) | (refine rel_skip (i := 2) rfl (by kernel_rfl) (by kernel_rfl) (by kernel_rfl) rfl (fun _ _ _ _ h => h) hC ?_; simp only [Act.put, List.setIfInBounds_toArray, List.set_cons_zero, List.set_cons_succ])); (first | (refine rel_want (i := 3) rfl rfl (by kernel_rfl) (by kernel_rfl) (by kernel_rfl) rfl (fun _ _ _ _ h => h) hC ?_; intro K hK; go_big_quiet_op; go_big_quiet_on) | (refine rel_skip (i := 3) rfl (by kernel_rfl) (by kernel_rfl) (by kernel_rfl) rfl (fun _ _ _ _ h => h) hC ?_; simp only [Act.put, List.setIfInBounds_toArray, List.set_cons_zero, List.set_cons_succ])); (first | (refine rel_want (i := 4) rfl rfl (by kernel_rfl) (by kernel_rfl) (by kernel_rfl) rfl (fun _ _ _ _ h => h) hC ?_; intro K hK; go_big_quiet_op; go_big_quiet_on) | (refine rel_skip (i := 4) rfl (by kernel_rfl) (by kernel_rfl) (by kernel_rfl) rfl (fun _ _ _ _ h => h) hC ?_; simp only [Act.put, List.setIfInBounds_toArray, List.set_cons_zero, List.set_cons_succ])); (first | (refine rel_want (i := 5) rfl rfl (by kernel_rfl) (by kernel_rfl) (by kernel_rfl) rfl (fun _ _ _ _ h => h) hC ?_; intro K hK; go_big_quiet_op; go_big_quiet_on) | (refine rel_skip (i := 5) rfl (by kernel_rfl) (by kernel_rfl) (by kernel_rfl) rfl (fun _ _ _ _ h => h) hC ?_; simp only [Act.put, List.setIfInBounds_toArray, List.set_cons_zero, List.set_cons_succ])); (first | (refine rel_want (i := 7) rfl rfl (by kernel_rfl) (by kernel_rfl) (by kernel_rfl) rfl (fun _ _ _ _ h => h) hC ?_; intro K hK; go_big_quiet_op; go_big_quiet_on) | (refine rel_skip (i := 7) rfl (by kernel_rfl) (by kernel_rfl) (by kernel_rfl) rfl (fun _ _ _ _ h => h) hC ?_; simp only [Act.put, List.setIfInBounds_toArray, List.set_cons_zero, List.set_cons_succ])); (first | (refine rel_want (i := 8) rfl rfl (by kernel_rfl) (by kernel_rfl) (by kernel_rfl) rfl (fun _ _ _ _ h => h) hC ?_; intro K hK; go_big_quiet_op; go_big_quiet_on) | (refine rel_skip (i := 8) rfl (by kernel_rfl) (by kernel_rfl) (by kernel_rfl) rfl (fun _ _ _ _ h => h) hC ?_; simp only [Act.put, List.setIfInBounds_toArray, List.set_cons_zero, List.set_cons_succ])); (first | (refine rel_want (i := 9) rfl rfl (by kernel_rfl) (by kernel_rfl) (by kernel_rfl) rfl (fun _ _ _ _ h => h) hC ?_; intro K hK; go_big_quiet_op; go_big_quiet_on) | (refine rel_skip (i := 9) rfl (by kernel_rfl) (by kernel_rfl) (by kernel_rfl) rfl (fun _ _ _ _ h => h) hC ?_; simp only [Act.put, List.setIfInBounds_toArray, List.set_cons_zero, List.set_cons_succ])); (first | (refine rel_want (i := 10) rfl rfl (by kernel_rfl) (by kernel_rfl) (by kernel_rfl) rfl (fun _ _ _ _ h => h) hC ?_; intro K hK; go_big_quiet_op; go_big_quiet_on) | (refine rel_skip (i := 10) rfl (by kernel_rfl) (by kernel_rfl) (by kernel_rfl) rfl (fun _ _ _ _ h => h) hC ?_; simp only [Act.put, List.setIfInBounds_toArray, List.set_cons_zero, List.set_cons_succ])); (first | (refine rel_want (i := 11) rfl rfl (by kernel_rfl) (by kernel_rfl) (by kernel_rfl) rfl (fun _ _ _ _ h => h) hC ?_; intro K hK; go_big_quiet_op; go_big_quiet_on) | (refine rel_skip (i := 11) rfl (by kernel_rfl) (by kernel_rfl) (by kernel_rfl) rfl (fun _ _ _ _ h => h) hC ?_; simp only [Act.put, List.setIfInBounds_toArray, List.set_cons_zero, List.set_cons_succ]))
            refine rel_call (i := 6) (by kernel_rfl) rfl rfl ?_; intro K hK; go_simp; go_at_call 32; refine (rclimb_p l b[k].account _ c1 _ (Rd.now HR.out (bel hb hC.below)) hn H1.out).mono ?_; rintro e w2 ⟨v4, rfl, ho4, hb2⟩; (try go_wp2_with fail); replace hC := hC.on hb2; refine hK _ _ hC ?_; clear hK K; (try simp only [Act.put, List.setIfInBounds_toArray, List.set_cons_zero, List.set_cons_succ])
            obtain ⟨A4, c4, rfl, hr4⟩ := Rd.of_own ho4
            have HR4 := Lib.hid hr4
            clear ho4 hr4 hb2
            refine rel_call (i := 12) (by kernel_rfl) rfl rfl ?_; intro K hK; go_simp; go_at_call 28; refine (rhas_b _ l[i].code _ A4 c4 _ HR4.out (by omega) HC.out).mono ?_; rintro e w2 ⟨rfl, hb2⟩; (try go_wp2_with fail); replace hC := hC.on hb2; refine hK _ _ hC ?_; clear hK K; (try simp only [Act.put, List.setIfInBounds_toArray, List.set_cons_zero, List.set_cons_succ])
            refine wpAnyH_done (by kernel_rfl) ?_ _
            have hbe := bel hb hC.below
            have hoe := own_step ho hC.below
            have f2 : w2.cell? ⟨x, o + k * 2 + 1, none⟩ = some (.int .i64 b[k].amount) := (hC.below.cell (p := ⟨x, o + k * 2 + 1, none⟩) (by show x < _; omega)).trans HF.out
            go_wp2_with fail
            go_roundw
            case rel => exact ⟨k + 1, by omega, by rw [HE.out], by go_num, hoe, hbe⟩
            case measure => simp [intOf]; omega
          · have HC : Hid (decide (l[i].code ∈ Ch.pcl l b[k].account) = false) := Lib.hid (by simpa using hc)
            have HE : Hid (Ch.sumAt l (b.take (k + 1)) l[i].code = Ch.sumAt l (b.take k) l[i].code) := Lib.hid (by rw [HK.out, if_neg hc]; omega)
            clear hc HK
            go_wp2_with fail
            refine rel_begin (n := 13) (by kernel_rfl) rfl ?_; have hC := Near.drew (wr)
            (first | (refine rel_want (i := 0) rfl rfl (by kernel_rfl) (by kernel_rfl) (by kernel_rfl) rfl (fun _ _ _ _ h => h) hC ?_; intro K hK; go_big_quiet_op; go_big_quiet_on) | (refine rel_skip (i := 0) rfl (by kernel_rfl) (by kernel_rfl) (by kernel_rfl) rfl (fun _ _ _ _ h => h) hC ?_; simp only [Act.put, List.setIfInBounds_toArray, List.set_cons_zero, List.set_cons_succ])); (first | (refine rel_want (i := 1) rfl rfl (by kernel_rfl) (by kernel_rfl) (by kernel_rfl) rfl (fun _ _ _ _ h => h) hC ?_; intro K hK; go_big_quiet_op; go_big_quiet_on) | (refine rel_skip (i := 1) rfl (by kernel_rfl) (by kernel_rfl) (by kernel_rfl) rfl (fun _ _ _ _ h => h) hC ?_; simp only [Act.put, List.setIfInBounds_toArray, List.set_cons_zero, List.set_cons_succ])); (first | (refine rel_want (i := 2) rfl rfl (by kernel_rfl) (by kernel_rfl) (by kernel_rfl) rfl (fun _ _ _ _ h => h) hC ?_; intro K hK; go_big_quiet_op; go_big_quiet_on) | (refine rel_skip (i := 2) rfl (by kernel_rfl) (by kernel_rfl) (by kernel_rfl) rfl (fun _ _ _ _ h => h) hC ?_; simp only [Act.put, List.setIfInBounds_toArray, List.set_cons_zero, List.set_cons_succ])); (first | (refine rel_want (i := 3) rfl rfl (by kernel_rfl) (by kernel_rfl) (by kernel_rfl) rfl (fun _ _ _ _ h => h) hC ?_; intro K hK; go_big_quiet_op; go_big_quiet_on) | (refine rel_skip (i := 3) rfl (by kernel_rfl) (by kernel_rfl) (by kernel_rfl) rfl (fun _ _ _ _ h => h) hC ?_; simp only [Act.put, List.setIfInBounds_toArray, List.set_cons_zero, List.set_cons_succ])); (first | (refine rel_want (i := 4) rfl rfl (by kernel_rfl) (by kernel_rfl) (by kernel_rfl) rfl (fun _ _ _ _ h => h) hC ?_; intro K hK; go_big_quiet_op; go_big_quiet_on) | (refine rel_skip (i := 4) rfl (by kernel_rfl) (by kernel_rfl) (by kernel_rfl) rfl (fun _ _ _ _ h => h) hC ?_; simp only [Act.put, List.setIfInBounds_toArray, List.set_cons_zero, List.set_cons_succ])); (first | (refine rel_want (i := 5) rfl rfl (by kernel_rfl) (by kernel_rfl) (by kernel_rfl) rfl (fun _ _ _ _ h => h) hC ?_; intro K hK; go_big_quiet_op; go_big_quiet_on) | (refine rel_skip (i := 5) rfl (by kernel_rfl) (by kernel_rfl) (by kernel_rfl) rfl (fun _ _ _ _ h => h) hC ?_; simp only [Act.put, List.setIfInBounds_toArray, List.set_cons_zero, List.set_cons_succ])); (first | (refine rel_want (i := 7) rfl rfl (by kernel_rfl) (by kernel_rfl) (by kernel_rfl) rfl (fun _ _ _ _ h => h) hC ?_; intro K hK; go_big_quiet_op; go_big_quiet_on) | (refine rel_skip (i := 7) rfl (by kernel_rfl) (by kernel_rfl) (by kernel_rfl) rfl (fun _ _ _ _ h => h) hC ?_; simp only [Act.put, List.setIfInBounds_toArray, List.set_cons_zero, List.set_cons_succ])); (first | (refine rel_want (i := 8) rfl rfl (by kernel_rfl) (by kernel_rfl) (by kernel_rfl) rfl (fun _ _ _ _ h => h) hC ?_; intro K hK; go_big_quiet_op; go_big_quiet_on) | (refine rel_skip (i := 8) rfl (by kernel_rfl) (by kernel_rfl) (by kernel_rfl) rfl (fun _ _ _ _ h => h) hC ?_; simp only [Act.put, List.setIfInBounds_toArray, List.set_cons_zero, List.set_cons_succ])); (first | (refine rel_want (i := 9) rfl rfl (by kernel_rfl) (by kernel_rfl) (by kernel_rfl) rfl (fun _ _ _ _ h => h) hC ?_; intro K hK; go_big_quiet_op; go_big_quiet_on) | (refine rel_skip (i := 9) rfl (by kernel_rfl) (by kernel_rfl) (by kernel_rfl) rfl (fun _ _ _ _ h => h) hC ?_; simp only [Act.put, List.setIfInBounds_toArray, List.set_cons_zero, List.set_cons_succ])); (first | (refine rel_want (i := 10) rfl rfl (by kernel_rfl) (by kernel_rfl) (by kernel_rfl) rfl (fun _ _ _ _ h => h) hC ?_; intro K hK; go_big_quiet_op; go_big_quiet_on) | (refine rel_skip (i := 10) rfl (by kernel_rfl) (by kernel_rfl) (by kernel_rfl) rfl (fun _ _ _ _ h => h) hC ?_; simp only [Act.put, List.setIfInBounds_toArray, List.set_cons_zero, List.set_cons_succ])); (first | (refine rel_want (i := 11) rfl rfl (by kernel_rfl) (by kernel_rfl) (by kernel_rfl) rfl (fun _ _ _ _ h => h) hC ?_; intro K hK; go_big_quiet_op; go_big_quiet_on) | (refine rel_skip (i := 11) rfl (by kernel_rfl) (by kernel_rfl) (by kernel_rfl) rfl (fun _ _ _ _ h => h) hC ?_; simp only [Act.put, List.setIfInBounds_toArray, List.set_cons_zero, List.set_cons_succ]))
            refine rel_call (i := 6) (by kernel_rfl) rfl rfl ?_; intro K hK; go_simp; go_at_call 32; refine (rclimb_p l b[k].account _ c1 _ (Rd.now HR.out (bel hb hC.below)) hn H1.out).mono ?_; rintro e w2 ⟨v4, rfl, ho4, hb2⟩; (try go_wp2_with fail); replace hC := hC.on hb2; refine hK _ _ hC ?_; clear hK K; (try simp only [Act.put, List.setIfInBounds_toArray, List.set_cons_zero, List.set_cons_succ])
            obtain ⟨A4, c4, rfl, hr4⟩ := Rd.of_own ho4
            have HR4 := Lib.hid hr4
            clear ho4 hr4 hb2
            refine rel_call (i := 12) (by kernel_rfl) rfl rfl ?_; intro K hK; go_simp; go_at_call 28; refine (rhas_b _ l[i].code _ A4 c4 _ HR4.out (by omega) HC.out).mono ?_; rintro e w2 ⟨rfl, hb2⟩; (try go_wp2_with fail); replace hC := hC.on hb2; refine hK _ _ hC ?_; clear hK K; (try simp only [Act.put, List.setIfInBounds_toArray, List.set_cons_zero, List.set_cons_succ])
            refine wpAnyH_done (by kernel_rfl) ?_ _
            have hbe := bel hb hC.below
            have hoe := own_step ho hC.below
            go_wp2_with fail
            go_roundw
            case rel => exact ⟨k + 1, by omega, by rw [HE.out], by go_num, hoe, hbe⟩
            case measure => simp [intOf]; omega
        · have HE : Hid (b.take k = b) := Lib.hid (List.take_of_length_le (by omega))
          have hbd := Ch.sumAt_bd l b l[i].code HAM.out
          have hlo : -100000000000000000 ≤ Ch.sumAt l b l[i].code := by omega
          have hhi : Ch.sumAt l b l[i].code ≤ 100000000000000000 := by omega
          have HK := Lib.hid (Ch.rollL_take l b l i hil)
          have hul := Ch.rollL_len l b (l.take i)
          rw [List.length_take] at hul
          rw [HE.out]
          clear hbd
          cases hm : amV (Ch.sumAt l b l[i].code)
          · have HE2 := Lib.hid (Ch.roll_range H1.out H2.out hil hm)
            go_wp2_with (go_at_call 40; refine (ramount_any _ _).mono ?_; rintro e w2 ⟨rfl, rfl⟩)
            go_ret2
            exact roll_nil _ _ _ _ _ _ hb (by obtain ⟨e1, e2⟩ := HE2.out; exact ⟨e1.symm, e2⟩)
          · have HM := Lib.hid hm
            by_cases h0 : Ch.sumAt l b l[i].code = 0
            · have hd : (Ch.sumAt l b l[i].code != 0) = false := by simp [h0]
              have HE2 : Hid (Ch.rollL l b (l.take (i + 1)) = Ch.rollL l b (l.take i)) := Lib.hid (by rw [HK.out, if_pos h0])
              clear h0 HK
              go_wp2_with (go_at_call 40; refine (ramount_any _ _).mono ?_; rintro e w2 ⟨rfl, rfl⟩)
              go_roundw
              case rel =>
                refine ⟨i + 1, by omega, fun j h h2 => ?_, by go_num, by rw [HE2.out]; exact ho, hb⟩
                by_cases e : j = i
                · subst e; exact HM.out
                · exact HN.out j (by omega) h2
              case measure => simp [intOf]; omega
            · have hd : (Ch.sumAt l b l[i].code != 0) = true := by simp [h0]
              have HE2 : Hid (Ch.rollL l b (l.take (i + 1)) = Ch.rollL l b (l.take i) ++ [⟨l[i].code, Ch.sumAt l b l[i].code⟩]) := Lib.hid (by rw [HK.out, if_neg h0])
              clear h0 HK
              go_wp2_with (first
                | (go_at_call 40; refine (ramount_any _ _).mono ?_; rintro e w2 ⟨rfl, rfl⟩)
                | (at_builtin; refine wpList_append_rec Bal.cells 2 (fun _ => rfl) Bal.one rfl (.tmp 56) (.tmp 64) 34 rfl w.heap.size 45 i0 (.agg #[.int .i64 0, .int .i64 0]) 16 Try.underlying34 hi hz0 hz1 hz2 rfl (by decide) _ (Ch.rollL l b (l.take i)) rfl (ho.alloc _) wr.heap.size 1 ⟨l[i].code, Ch.sumAt l b l[i].code⟩ _ rfl (Blk.new wr _ _) rfl ?c3 ?c4 ?c5 ?_))
              case c3 => simp only [maxLen]; omega
              case c4 => omega
              case c5 => simp; omega
              intro v4 w4 ho4 hg4
              have hb3 : Below w.heap.size w (wr.alloc (.cells #[.int .i64 l[i].code, .int .i64 (Ch.sumAt l b l[i].code)] 45)) := (by repeat (first | exact hb | refine Below.alloc ?_ (by have hbs := hb.size; first | omega | (simp; done) | (simp; omega)) _ | refine Below.drew ?_ | refine below_drewN_ ?_ _ | refine Below.setCell ?_ (by simp) _))
              have hb4 := bel_own hb3 (by simp; omega) (ho.alloc _) hg4
              clear hg4 hb3
              go_wp2_with fail
              go_roundw
              case rel =>
                refine ⟨i + 1, by omega, fun j h h2 => ?_, by go_num, by rw [HE2.out, List.length_append]; exact ho4, hb4⟩
                by_cases e : j = i
                · subst e; exact HM.out
                · exact HN.out j (by omega) h2
              case measure => simp [intOf]; omega
    · have HE2 : Hid (l.take i = l) := Lib.hid (List.take_of_length_le (by omega))
      have HE3 := Lib.hid (Ch.roll_fine H1.out H2.out (fun j h => HN.out j (by omega) h))
      rw [HE2.out] at ho
      go_wp2_with fail
      go_ret2
      exact ⟨_, by rw [HE3.out.1]; rfl, by rw [HE3.out.2]; exact ho, hb⟩
end Go.Proofs.Ytjcapeieahffnaa
