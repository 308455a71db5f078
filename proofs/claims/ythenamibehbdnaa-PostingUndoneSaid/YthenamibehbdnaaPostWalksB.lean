/- The walks of Clean, Sum, Negate and of their references. -/
import Derived.Test.YthenamibehbdnaaPostWalks
import Derived.Test.YthenamibehbdnaaPostMathB
namespace Go.Proofs.Ythenamibehbdnaa
set_option linter.unusedVariables false
set_option linter.unusedSimpArgs false
open Go.RowKit

theorem rmoney_any (n : Int) (w : World) : Calls Try.prog 42 #[.int .i64 n] w (fun e w' => e = .returned (.bool (amV n)) ∧ w = w') := by
  have HE : Hid (amV n = (decide (-1000000000000 ≤ n) && decide (n ≤ 1000000000000))) := Lib.hid rfl
  by_cases h1 : -1000000000000 ≤ n
  · by_cases h2 : n ≤ 1000000000000
    all_goals
      go_enter Try.func42, Try.ntmps42
      go_wp2_with fail
      go_ret
      exact ⟨ret_bool (by rw [HE.out]; simp [h1, h2] <;> omega), rfl⟩
  · go_enter Try.func42, Try.ntmps42
    go_wp2_with fail
    go_ret
    exact ⟨ret_bool (by rw [HE.out]; simp [h1] <;> omega), rfl⟩
set_option maxRecDepth 100000 in
set_option maxHeartbeats 1000000 in
theorem clean_any (m : List Bal) (A : Option Addr) (cap : Nat) (w : World) (hr : Rd w w.heap.size 2 A m.length (cellsOf Bal.cells m)) (hn : m.length ≤ 1000000) (hwf : ∀ x ∈ m, (Lit.int .i64 x.account).wf = true) :
    Calls Try.prog 16 #[.slice A m.length cap] w (ColPost 26 w.heap.size (ofW m) w) := by
  have hb := Below.refl w.heap.size w
  have HR := Lib.hid hr
  have HW := Lib.hid hwf
  have hmm := @run_makeMap Try.prog
  clear hr hwf
  go_enter Try.func16, Try.ntmps16
  go_wp2_with fail
  go_loopw [10] (fun t wr => ∃ k : Nat, k ≤ m.length ∧ t = .int .i64 k ∧ SumW Try.prog 3 3 wr w.heap.size k (ofW (m.take k)) ∧ Below w.heap.size w wr) (fun t _ => m.length - (intOf t).toNat)
  case atStart => exact ⟨0, by omega, rfl, by rw [ofW_zero]; exact SumW.made w, (by repeat (first | exact hb | refine Below.alloc ?_ (by have hbs := hb.size; first | omega | (simp; done) | (simp; omega)) _ | refine Below.drew ?_ | refine below_drewN_ ?_ _ | refine Below.setCell ?_ (by simp) _))⟩
  case round =>
    clear hb
    obtain ⟨k, hk, rfl, hS, hb⟩ := hrel
    have hz := hb.size
    by_cases hlt : k < m.length
    · obtain ⟨x, o, hA, hbo, f0, f1⟩ := Bal.at_ (HR.out.below hb (Nat.le_refl _)) hlt
      subst hA
      have hc : (Lit.int .i64 m[k].account).wf = true := HW.out _ (List.getElem_mem hlt)
      have hy := wrap64_wf (ofW (m.take k) m[k].account + m[k].amount)
      have hLL := (hS.alloc (.cells #[.int .i64 m[k].account, .int .i64 m[k].amount] 26)).look (t := 70) Try.underlying3 Try.underlying3 Try.underlying70 (zero_int _) hc
      have HP := Lib.hid (ofW_put m k hlt)
      go_wp2_with (at_mapUpdate; refine wpList_sum_put rfl _ _ _ 70 rfl Try.underlying3 Try.underlying3 Try.underlying70 (hS.alloc _) (by unfold maxLen; omega) _ _ hc hy rfl rfl rfl ?_; intro w4 hS4 hg4)
      rw [HP.out] at hS4
      have hb4 : Below w.heap.size w w4 := Below.grown (hb.alloc hz _) hg4 (by simp; omega) (fun k hk => by injection hk with hk; omega)
      clear hg4 hS hLL
      go_wp2_with fail
      go_roundw
      case rel => exact ⟨k + 1, by omega, by go_num, hS4, hb4⟩
      case measure => simp [intOf]; omega
    · have HE : Hid (m.take k = m) := Lib.hid (List.take_of_length_le (by omega))
      rw [HE.out] at hS
      go_wp2_with (go_at_call 41; refine (colp_any w.heap.size k (ofW m) wr hS (by omega)).mono ?_; rintro e w5 ⟨v5, L, E, rfl, ho5, hb5, hc5⟩)
      go_ret2
      exact ⟨v5, L, E, rfl, own_base ho5 hb.size, bel hb hb5, hc5⟩
set_option maxHeartbeats 1000000 in
theorem sum_any (m : List Bal) (A : Option Addr) (cap : Nat) (w : World) (hr : Rd w w.heap.size 2 A m.length (cellsOf Bal.cells m)) (hn : m.length ≤ 1000000) :
    Calls Try.prog 20 #[.slice A m.length cap] w (fun e w' => e = .returned (.int .i64 (sumW m)) ∧ Below w.heap.size w w') := by
  have hb := Below.refl w.heap.size w
  have HR := Lib.hid hr
  clear hr
  go_enter Try.func20, Try.ntmps20
  go_wp2_with fail
  go_loopw [3, 8] (fun s t wr => ∃ k : Nat, k ≤ m.length ∧ s = .int .i64 (sumW (m.take k)) ∧ t = .int .i64 k ∧ Below w.heap.size w wr) (fun _ t _ => m.length - (intOf t).toNat)
  case atStart => exact ⟨0, by omega, rfl, rfl, hb⟩
  case round =>
    clear hb
    obtain ⟨k, hk, rfl, rfl, hb⟩ := hrel
    have hz := hb.size
    by_cases hlt : k < m.length
    · obtain ⟨x, o, hA, hbo, f0, f1⟩ := Bal.at_ (HR.out.below hb (Nat.le_refl _)) hlt
      subst hA
      have HP := Lib.hid (sumW_take m k hlt)
      go_wp2_with fail
      go_roundw
      case rel => exact ⟨k + 1, by omega, by rw [HP.out], by go_num, (by repeat (first | exact hb | refine Below.alloc ?_ (by have hbs := hb.size; first | omega | (simp; done) | (simp; omega)) _ | refine Below.drew ?_ | refine below_drewN_ ?_ _ | refine Below.setCell ?_ (by simp) _))⟩
      case measure => simp [intOf]; omega
    · have HE : Hid (m.take k = m) := Lib.hid (List.take_of_length_le (by omega))
      go_wp2_with fail
      go_ret
      exact ⟨by rw [HE.out]; rfl, hb⟩
set_option maxHeartbeats 1000000 in
theorem rsum_any (m : List Bal) (A : Option Addr) (cap : Nat) (w : World) (hr : Rd w w.heap.size 2 A m.length (cellsOf Bal.cells m)) (hn : m.length ≤ 1000000) :
    Calls Try.prog 21 #[.slice A m.length cap] w (fun e w' => e = .returned (.int .i64 (sumW m)) ∧ Below w.heap.size w w') := by
  have hb := Below.refl w.heap.size w
  have HR := Lib.hid hr
  clear hr
  go_enter Try.func21, Try.ntmps21
  go_wp2_with fail
  go_loopw [3, 4] (fun s t wr => ∃ k : Nat, k ≤ m.length ∧ s = .int .i64 (sumW (m.take k)) ∧ t = .int .i64 k ∧ Below w.heap.size w wr) (fun _ t _ => m.length - (intOf t).toNat)
  case atStart => exact ⟨0, by omega, rfl, rfl, hb⟩
  case round =>
    clear hb
    obtain ⟨k, hk, rfl, rfl, hb⟩ := hrel
    have hz := hb.size
    by_cases hlt : k < m.length
    · obtain ⟨x, o, hA, hbo, f0, f1⟩ := Bal.at_ (HR.out.below hb (Nat.le_refl _)) hlt
      subst hA
      have HP := Lib.hid (sumW_take m k hlt)
      go_wp2_with fail
      go_roundw
      case rel => exact ⟨k + 1, by omega, by rw [HP.out], by go_num, (by repeat (first | exact hb | refine Below.alloc ?_ (by have hbs := hb.size; first | omega | (simp; done) | (simp; omega)) _ | refine Below.drew ?_ | refine below_drewN_ ?_ _ | refine Below.setCell ?_ (by simp) _))⟩
      case measure => simp [intOf]; omega
    · have HE : Hid (m.take k = m) := Lib.hid (List.take_of_length_le (by omega))
      go_wp2_with fail
      go_ret
      exact ⟨by rw [HE.out]; rfl, hb⟩
def OwnParts (base : Nat) (L : List Bal) (w : World) (e : Ending) (w' : World) : Prop :=
  ∃ v, e = .returned v ∧ w'.ownsRow base 26 2 v L.length (cellsOf Bal.cells L) ∧ Below w.heap.size w w'
set_option maxHeartbeats 1000000 in
theorem neg_any (m : List Bal) (A : Option Addr) (cap : Nat) (w : World) (hr : Rd w w.heap.size 2 A m.length (cellsOf Bal.cells m)) (hn : m.length ≤ 1000000) :
    Calls Try.prog 22 #[.slice A m.length cap] w (OwnParts w.heap.size (negL m) w) := by
  have hb := Below.refl w.heap.size w
  have HR := Lib.hid hr
  obtain ⟨i0, hi, hz0, hz1, hz2⟩ := info_parts colp_info
  clear hr
  go_enter Try.func22, Try.ntmps22
  go_wp2_with fail
  go_loopw [3, 8] (fun v t wr => ∃ k : Nat, k ≤ m.length ∧ t = .int .i64 k ∧ wr.ownsRow w.heap.size 26 2 v (negL (m.take k)).length (cellsOf Bal.cells (negL (m.take k))) ∧ Below w.heap.size w wr) (fun _ t _ => m.length - (intOf t).toNat)
  case atStart => exact ⟨0, by omega, rfl, World.ownsRow_nil _ _ _ _, hb⟩
  case round =>
    clear hb
    obtain ⟨k, hk, rfl, ho, hb⟩ := hrel
    have hz := hb.size
    by_cases hlt : k < m.length
    · obtain ⟨x, o, hA, hbo, f0, f1⟩ := Bal.at_ (HR.out.below hb (Nat.le_refl _)) hlt
      subst hA
      have HP := Lib.hid (negL_take m k hlt)
      have hln : (negL (m.take k)).length ≤ 1000000 := by rw [negL_len, List.length_take]; omega
      go_wp2_with (at_builtin; refine wpList_append_rec Bal.cells 2 (fun _ => rfl) Bal.one rfl (.tmp 12) (.tmp 19) 22 rfl w.heap.size 26 i0 (.agg #[.int .i64 0, .int .i64 0]) 16 Try.underlying22 hi hz0 hz1 hz2 rfl (by decide) _ (negL (m.take k)) rfl ((ho.alloc (.cells #[.int .i64 m[k].account, .int .i64 m[k].amount] 26)).alloc _) (wr.heap.size + 1) 1 ⟨m[k].account, wrap64 (-m[k].amount)⟩ _ rfl ?c1 rfl ?c3 ?c4 ?c5 ?_)
      case c1 => have := Blk.new (wr.alloc (.cells #[.int .i64 m[k].account, .int .i64 m[k].amount] 26)) 26 #[.int .i64 m[k].account, .int .i64 (wrap64 (-m[k].amount))]; simpa using this
      case c3 => simp only [maxLen]; omega
      case c4 => omega
      case c5 => simp; omega
      intro v4 w4 ho4 hg4
      have hb3 : Below w.heap.size w ((wr.alloc (.cells #[.int .i64 m[k].account, .int .i64 m[k].amount] 26)).alloc (.cells #[.int .i64 m[k].account, .int .i64 (wrap64 (-m[k].amount))] 26)) := (by repeat (first | exact hb | refine Below.alloc ?_ (by have hbs := hb.size; first | omega | (simp; done) | (simp; omega)) _ | refine Below.drew ?_ | refine below_drewN_ ?_ _ | refine Below.setCell ?_ (by simp) _))
      have hb4 := bel_own hb3 (by simp; omega) ((ho.alloc _).alloc _) hg4
      clear hg4 hb3
      go_wp2_with fail
      go_roundw
      case rel => exact ⟨k + 1, by omega, by go_num, by rw [HP.out, List.length_append]; exact ho4, hb4⟩
      case measure => simp [intOf]; omega
    · have HE : Hid (m.take k = m) := Lib.hid (List.take_of_length_le (by omega))
      rw [HE.out] at ho
      go_wp2_with fail
      go_ret
      exact ⟨_, rfl, ho, hb⟩
set_option maxHeartbeats 1000000 in
theorem rneg_any (m : List Bal) (A : Option Addr) (cap : Nat) (w : World) (hr : Rd w w.heap.size 2 A m.length (cellsOf Bal.cells m)) (hn : m.length ≤ 1000000) :
    Calls Try.prog 23 #[.slice A m.length cap] w (OwnParts w.heap.size (negL m) w) := by
  have hb := Below.refl w.heap.size w
  have HR := Lib.hid hr
  obtain ⟨i0, hi, hz0, hz1, hz2⟩ := info_parts colp_info
  clear hr
  go_enter Try.func23, Try.ntmps23
  go_wp2_with fail
  go_loopw [3, 4] (fun v t wr => ∃ k : Nat, k ≤ m.length ∧ t = .int .i64 k ∧ wr.ownsRow w.heap.size 26 2 v (negL (m.take k)).length (cellsOf Bal.cells (negL (m.take k))) ∧ Below w.heap.size w wr) (fun _ t _ => m.length - (intOf t).toNat)
  case atStart => exact ⟨0, by omega, rfl, World.ownsRow_nil _ _ _ _, hb⟩
  case round =>
    clear hb
    obtain ⟨k, hk, rfl, ho, hb⟩ := hrel
    have hz := hb.size
    by_cases hlt : k < m.length
    · obtain ⟨x, o, hA, hbo, f0, f1⟩ := Bal.at_ (HR.out.below hb (Nat.le_refl _)) hlt
      subst hA
      obtain ⟨x', o', e2, -, k0, k1⟩ := Bal.at_ HR.out hlt
      injection e2 with e2
      injection e2 with e3 e4
      subst e3 e4
      have q0 : ∀ d : Later w, d.now.cell? ⟨x, o + k * 2, none⟩ = some (.int .i64 m[k].account) := fun d => d.cell hbo k0
      have q1 : ∀ d : Later w, d.now.cell? ⟨x, o + k * 2 + 1, none⟩ = some (.int .i64 m[k].amount) := fun d => d.cell hbo k1
      have HP := Lib.hid (negL_take m k hlt)
      have hln : (negL (m.take k)).length ≤ 1000000 := by rw [negL_len, List.length_take]; omega
      clear f0 f1 k0 k1
      go_wp2_with fail
      refine rel_begin (n := 16) (w) (by kernel_rfl) rfl ?_; have hC := Near.of (hb.drew)
      (first | (refine rel_want (i := 0) rfl rfl (by kernel_rfl) (by kernel_rfl) (by kernel_rfl) rfl (fun _ _ _ _ h => h) hC ?_; intro K hK; go_big_quiet_op; go_big_quiet_on) | (refine rel_skip (i := 0) rfl (by kernel_rfl) (by kernel_rfl) (by kernel_rfl) rfl (fun _ _ _ _ h => h) hC ?_; simp only [Act.put, List.setIfInBounds_toArray, List.set_cons_zero, List.set_cons_succ])); (first | (refine rel_want (i := 1) rfl rfl (by kernel_rfl) (by kernel_rfl) (by kernel_rfl) rfl (fun _ _ _ _ h => h) hC ?_; intro K hK; go_big_quiet_op; go_big_quiet_on) | (refine rel_skip (i := 1) rfl (by kernel_rfl) (by kernel_rfl) (by kernel_rfl) rfl (fun _ _ _ _ h => h) hC ?_; simp only [Act.put, List.setIfInBounds_toArray, List.set_cons_zero, List.set_cons_succ])); (first | (refine rel_want (i := 2) rfl rfl (by kernel_rfl) (by kernel_rfl) (by kernel_rfl) rfl (fun _ _ _ _ h => h) hC ?_; intro K hK; go_big_quiet_op; go_big_quiet_on) | (refine rel_skip (i := 2) rfl (by kernel_rfl) (by kernel_rfl) (by kernel_rfl) rfl (fun _ _ _ _ h => h) hC ?_; simp only [Act.put, List.setIfInBounds_toArray, List.set_cons_zero, List.set_cons_succ])); (first | (refine rel_want (i := 3) rfl rfl (by kernel_rfl) (by kernel_rfl) (by kernel_rfl) rfl (fun _ _ _ _ h => h) hC ?_; intro K hK; go_big_quiet_op; go_big_quiet_on) | (refine rel_skip (i := 3) rfl (by kernel_rfl) (by kernel_rfl) (by kernel_rfl) rfl (fun _ _ _ _ h => h) hC ?_; simp only [Act.put, List.setIfInBounds_toArray, List.set_cons_zero, List.set_cons_succ])); (first | (refine rel_want (i := 4) rfl rfl (by kernel_rfl) (by kernel_rfl) (by kernel_rfl) rfl (fun _ _ _ _ h => h) hC ?_; intro K hK; go_big_quiet_op; go_big_quiet_on) | (refine rel_skip (i := 4) rfl (by kernel_rfl) (by kernel_rfl) (by kernel_rfl) rfl (fun _ _ _ _ h => h) hC ?_; simp only [Act.put, List.setIfInBounds_toArray, List.set_cons_zero, List.set_cons_succ])); (first | (refine rel_want (i := 5) rfl rfl (by kernel_rfl) (by kernel_rfl) (by kernel_rfl) rfl (fun _ _ _ _ h => h) hC ?_; intro K hK; go_big_quiet_op; go_big_quiet_on) | (refine rel_skip (i := 5) rfl (by kernel_rfl) (by kernel_rfl) (by kernel_rfl) rfl (fun _ _ _ _ h => h) hC ?_; simp only [Act.put, List.setIfInBounds_toArray, List.set_cons_zero, List.set_cons_succ])); (first | (refine rel_want (i := 6) rfl rfl (by kernel_rfl) (by kernel_rfl) (by kernel_rfl) rfl (fun _ _ _ _ h => h) hC ?_; intro K hK; go_big_quiet_op; go_big_quiet_on) | (refine rel_skip (i := 6) rfl (by kernel_rfl) (by kernel_rfl) (by kernel_rfl) rfl (fun _ _ _ _ h => h) hC ?_; simp only [Act.put, List.setIfInBounds_toArray, List.set_cons_zero, List.set_cons_succ])); (first | (refine rel_want (i := 7) rfl rfl (by kernel_rfl) (by kernel_rfl) (by kernel_rfl) rfl (fun _ _ _ _ h => h) hC ?_; intro K hK; go_big_quiet_op; go_big_quiet_on) | (refine rel_skip (i := 7) rfl (by kernel_rfl) (by kernel_rfl) (by kernel_rfl) rfl (fun _ _ _ _ h => h) hC ?_; simp only [Act.put, List.setIfInBounds_toArray, List.set_cons_zero, List.set_cons_succ])); (first | (refine rel_want (i := 8) rfl rfl (by kernel_rfl) (by kernel_rfl) (by kernel_rfl) rfl (fun _ _ _ _ h => h) hC ?_; intro K hK; go_big_quiet_op; go_big_quiet_on) | (refine rel_skip (i := 8) rfl (by kernel_rfl) (by kernel_rfl) (by kernel_rfl) rfl (fun _ _ _ _ h => h) hC ?_; simp only [Act.put, List.setIfInBounds_toArray, List.set_cons_zero, List.set_cons_succ])); (first | (refine rel_want (i := 9) rfl rfl (by kernel_rfl) (by kernel_rfl) (by kernel_rfl) rfl (fun _ _ _ _ h => h) hC ?_; intro K hK; go_big_quiet_op; go_big_quiet_on) | (refine rel_skip (i := 9) rfl (by kernel_rfl) (by kernel_rfl) (by kernel_rfl) rfl (fun _ _ _ _ h => h) hC ?_; simp only [Act.put, List.setIfInBounds_toArray, List.set_cons_zero, List.set_cons_succ])); (first | (refine rel_want (i := 10) rfl rfl (by kernel_rfl) (by kernel_rfl) (by kernel_rfl) rfl (fun _ _ _ _ h => h) hC ?_; intro K hK; go_big_quiet_op; go_big_quiet_on) | (refine rel_skip (i := 10) rfl (by kernel_rfl) (by kernel_rfl) (by kernel_rfl) rfl (fun _ _ _ _ h => h) hC ?_; simp only [Act.put, List.setIfInBounds_toArray, List.set_cons_zero, List.set_cons_succ])); (first | (refine rel_want (i := 11) rfl rfl (by kernel_rfl) (by kernel_rfl) (by kernel_rfl) rfl (fun _ _ _ _ h => h) hC ?_; intro K hK; go_big_quiet_op; go_big_quiet_on) | (refine rel_skip (i := 11) rfl (by kernel_rfl) (by kernel_rfl) (by kernel_rfl) rfl (fun _ _ _ _ h => h) hC ?_; simp only [Act.put, List.setIfInBounds_toArray, List.set_cons_zero, List.set_cons_succ]))
      refine rel_call (i := 12) (by kernel_rfl) rfl rfl ?_; intro K hK; go_simp; have hC2 := hC.below; refine hK _ _ (Near.of (by repeat (first | exact hC2 | refine Below.alloc ?_ (by have hbs := hC2.size; first | omega | (simp; done) | (simp at hbs ⊢; omega)) _ | refine Below.drew ?_ | refine below_drewN_ ?_ _))) ?_; clear hK K hC hC2; intro hC; (try simp only [Act.put, List.setIfInBounds_toArray, List.set_cons_zero, List.set_cons_succ])
      refine rel_call (i := 13) (by kernel_rfl) rfl rfl ?_; intro K hK; go_simp; have hC2 := hC.below; refine hK _ _ (Near.of (by repeat (first | exact hC2 | refine Below.alloc ?_ (by have hbs := hC2.size; first | omega | (simp; done) | (simp at hbs ⊢; omega)) _ | refine Below.drew ?_ | refine below_drewN_ ?_ _))) ?_; clear hK K hC hC2; intro hC; (try simp only [Act.put, List.setIfInBounds_toArray, List.set_cons_zero, List.set_cons_succ])
      refine rel_call (i := 14) (by kernel_rfl) rfl rfl ?_
      intro K hK
      refine wp_append_rec _ Bal.cells 2 (fun _ => rfl) Bal.one (.tmp 11) (.tmp 24) 22 rfl w.heap.size 26 i0 (.agg #[.int .i64 0, .int .i64 0]) 16 Try.underlying22 hi hz0 hz1 hz2 rfl (by decide) _ (negL (m.take k)) rfl (ho.alloc (.cells #[.int .i64 m[k].account, .int .i64 (wrap64 (-m[k].amount))] 26)) wr.heap.size 1 ⟨m[k].account, wrap64 (-m[k].amount)⟩ _ rfl (Blk.new wr _ _) rfl ?c3 ?c4 ?c5 ?_
      case c3 => simp only [maxLen]; omega
      case c4 => omega
      case c5 => simp; omega
      intro v4 w4 ho4 hg4
      have hb4 : Below w.heap.size w w4 := bel_own (w1 := (wr.alloc (.cells #[.int .i64 m[k].account, .int .i64 (wrap64 (-m[k].amount))] 26)).drew) (hb.alloc hz _).drew (by show _ ≤ (wr.alloc _).heap.size; simp; omega) (show World.ownsRow ((wr.alloc (.cells #[.int .i64 m[k].account, .int .i64 (wrap64 (-m[k].amount))] 26)).drew) w.heap.size 26 2 u3 (negL (m.take k)).length (cellsOf Bal.cells (negL (m.take k))) from ho.alloc _) hg4
      refine hK _ _ (Near.of hb4) ?_
      clear hK K hC
      intro hC
      clear hg4
      (try simp only [Act.put, List.setIfInBounds_toArray, List.set_cons_zero, List.set_cons_succ])
      (first | (refine rel_want (i := 15) rfl rfl (by kernel_rfl) (by kernel_rfl) (by kernel_rfl) rfl (fun _ _ _ _ h => h) hC ?_; intro K hK; go_big_quiet_op; go_big_quiet_on) | (refine rel_skip (i := 15) rfl (by kernel_rfl) (by kernel_rfl) (by kernel_rfl) rfl (fun _ _ _ _ h => h) hC ?_; simp only [Act.put, List.setIfInBounds_toArray, List.set_cons_zero, List.set_cons_succ]))
      refine wpAnyH_done (by kernel_rfl) ?_ _
      go_wp2_with fail
      go_roundw
      case rel => exact ⟨k + 1, by omega, by go_num, by rw [HP.out]; exact ho4, hb4⟩
      case measure => simp [intOf]; omega
    · have HE : Hid (m.take k = m) := Lib.hid (List.take_of_length_le (by omega))
      rw [HE.out] at ho
      go_wp2_with fail
      go_ret
      exact ⟨_, rfl, ho, hb⟩
end Go.Proofs.Ythenamibehbdnaa
