/- Texts of this claim, put together. -/
import Derived.Test.YthfbpbbepogllaaGreatJAU
import Derived.BigRegion
import Derived.Deep.QuietTactic
import Derived.BigQuiet
import Derived.IntWalk
/- The walks of decimal.Round and of its reference at parts of ten thousand, to the nearest. -/
namespace Go.Proofs.YthfbpbbepogllaaGreat
set_option linter.unusedVariables false
set_option linter.unusedSimpArgs false
open Go.RowKit

/-- a quotient by ten thousand, to the nearest -/
def rndV (a : Int) : Int := if 10000 ≤ 2 * (a % 10000) then a / 10000 + 1 else a / 10000
set_option maxHeartbeats 1000000 in
theorem rnd_size (n : Int) (w : World) (h0 : 0 ≤ n) (h1 : n ≤ 1000000000000000000) : Calls Tryz.prog 154 #[.int .i64 n] w (IntPost n w) := by
  unfold IntPost
  have hb := Below.refl w.heap.size w
  go_enter Tryz.func154, Tryz.ntmps154
  go_wp2_with fail
  go_ret
  exact ⟨ret_int (by omega), hb⟩
set_option maxHeartbeats 1000000 in
theorem rnd_rsize (n : Int) (w : World) (h0 : 0 ≤ n) (h1 : n ≤ 1000000000000000000) : Calls Tryz.prog 137 #[.int .i64 n] w (fun e w' => e = .returned (.int .i64 n) ∧ w' = w) := by
  go_enter Tryz.func137, Tryz.ntmps137
  go_wp2_with fail
  go_ret
  exact ⟨rfl, rfl⟩
set_option maxHeartbeats 1000000 in
theorem rnd_known (w : World) : Calls Tryz.prog 104 #[.int .i64 0] w (fun e w' => e = .returned (.bool true) ∧ Below w.heap.size w w') := by
  have hb := Below.refl w.heap.size w
  go_enter Tryz.func104, Tryz.ntmps104
  go_wp2_with fail
  go_ret
  exact ⟨rfl, hb⟩
set_option maxHeartbeats 1000000 in
theorem rnd_rknown (w : World) : Calls Tryz.prog 106 #[.int .i64 0] w (fun e w' => e = .returned (.bool true) ∧ Below w.heap.size w w') := by
  have hb := Below.refl w.heap.size w
  go_enter Tryz.func106, Tryz.ntmps106
  go_wp2_with fail
  go_ret
  exact ⟨rfl, hb⟩
set_option maxHeartbeats 1000000 in
theorem rnd_new (n : Int) (w : World) (h0 : 0 ≤ n) (h1 : n ≤ 1000000000000000000) : Calls Tryz.prog 134 #[.int .i64 n, .int .i64 10000] w
    (fun e w' => e = .returned (.agg #[.int .i64 (n / 10000), .int .i64 (n % 10000), .int .i64 10000, .bool false]) ∧ Below w.heap.size w w') := by
  have hb : Below w.heap.size w (w.alloc (.cells #[.int .i64 0, .int .i64 0, .int .i64 0, .bool false] 189)) := (Below.refl _ _).alloc (Nat.le_refl _) _
  have HB := Lib.hid (Blk.new w 189 #[.int .i64 0, .int .i64 0, .int .i64 0, .bool false])
  have hn : decide (n < 0) = false := by simpa using h0
  go_enter Tryz.func134, Tryz.ntmps134
  go_wp2_with fail
  refine (rnd_size n _ h0 h1).mono ?_
  rintro e w2 ⟨rfl, hb2⟩
  replace hb := bel hb hb2
  replace HB := Lib.hid (HB.out.step hb2)
  clear hb2
  go_wp2_with fail
  refine (rnd_size 10000 _ (by omega) (by omega)).mono ?_
  rintro e w3 ⟨rfl, hb2⟩
  replace hb := bel hb hb2
  replace HB := Lib.hid (HB.out.step hb2)
  clear hb2
  have q0 : w3.cell? ⟨w.heap.size, 0, none⟩ = some (.int .i64 0) := HB.out.cell 0
  have q1 : w3.cell? ⟨w.heap.size, 1, none⟩ = some (.int .i64 0) := HB.out.cell 1
  have q2 : w3.cell? ⟨w.heap.size, 2, none⟩ = some (.int .i64 0) := HB.out.cell 2
  have q3 : w3.cell? ⟨w.heap.size, 3, none⟩ = some (.bool false) := HB.out.cell 3
  have z0 : w3.frozen? ⟨w.heap.size, 0, none⟩ = false := HB.out.frozen 0
  have z1 : w3.frozen? ⟨w.heap.size, 1, none⟩ = false := HB.out.frozen 1
  have z2 : w3.frozen? ⟨w.heap.size, 2, none⟩ = false := HB.out.frozen 2
  have z3 : w3.frozen? ⟨w.heap.size, 3, none⟩ = false := HB.out.frozen 3
  go_wp2_with fail
  go_region
  have hb4 : Below w.heap.size w ((((w3.setCell ⟨w.heap.size, 0, none⟩ (.int .i64 (n / 10000))).setCell ⟨w.heap.size, 1, none⟩ (.int .i64 (n % 10000))).setCell ⟨w.heap.size, 2, none⟩ (.int .i64 10000)).setCell ⟨w.heap.size, 3, none⟩ (.bool false)).drew := ((((hb.setCell (p := ⟨w.heap.size, 0, none⟩) (Nat.le_refl _) _).setCell (p := ⟨w.heap.size, 1, none⟩) (Nat.le_refl _) _).setCell (p := ⟨w.heap.size, 2, none⟩) (Nat.le_refl _) _).setCell (p := ⟨w.heap.size, 3, none⟩) (Nat.le_refl _) _).drew
  have HB4 : Blk ((((w3.setCell ⟨w.heap.size, 0, none⟩ (.int .i64 (n / 10000))).setCell ⟨w.heap.size, 1, none⟩ (.int .i64 (n % 10000))).setCell ⟨w.heap.size, 2, none⟩ (.int .i64 10000)).setCell ⟨w.heap.size, 3, none⟩ (.bool false)).drew w.heap.size 189 #[.int .i64 (n / 10000), .int .i64 (n % 10000), .int .i64 10000, .bool false] := ((((HB.out.set_ 0 _).set_ 1 _).set_ 2 _).set_ 3 _).drew
  generalize ((((w3.setCell ⟨w.heap.size, 0, none⟩ (.int .i64 (n / 10000))).setCell ⟨w.heap.size, 1, none⟩ (.int .i64 (n % 10000))).setCell ⟨w.heap.size, 2, none⟩ (.int .i64 10000)).setCell ⟨w.heap.size, 3, none⟩ (.bool false)).drew = w4 at *
  go_wp2_with fail
  refine bodyPost_ret (v := .agg #[.int .i64 (n / 10000), .int .i64 (n % 10000), .int .i64 10000, .bool false]) (results_cell_row Tryz.results134 _ _ w.heap.size 189 #[.int .i64 (n / 10000), .int .i64 (n % 10000), .int .i64 10000, .bool false] (0, 0) _ rfl HB4 Tryz.underlying189 rfl (by kernel_rfl)) rfl ?_
  exact ⟨rfl, hb4⟩
set_option maxHeartbeats 1000000 in
theorem rnd_half (n : Int) (w : World) (h0 : 0 ≤ n) (h1 : n ≤ 1000000000000000000) : Calls Tryz.prog 156 #[.agg #[.int .i64 (n / 10000), .int .i64 (n % 10000), .int .i64 10000, .bool false]] w
    (IntPost (if n % 10000 < 5000 then -1 else if n % 10000 = 5000 then 0 else 1) w) := by
  unfold IntPost
  have hb := Below.refl w.heap.size w
  by_cases c1 : n % 10000 < 5000
  · go_enter Tryz.func156, Tryz.ntmps156
    go_wp2_with fail
    go_ret
    exact ⟨ret_int rfl, (by repeat (first | exact hb | refine Below.alloc ?_ (by have hbs := hb.size; first | omega | (simp; done) | (simp; omega)) _ | refine Below.drew ?_ | refine below_drewN_ ?_ _ | refine Below.setCell ?_ (by simp) _))⟩
  · by_cases c2 : n % 10000 = 5000
    · go_enter Tryz.func156, Tryz.ntmps156
      go_wp2_with fail
      go_ret
      exact ⟨ret_int rfl, (by repeat (first | exact hb | refine Below.alloc ?_ (by have hbs := hb.size; first | omega | (simp; done) | (simp; omega)) _ | refine Below.drew ?_ | refine below_drewN_ ?_ _ | refine Below.setCell ?_ (by simp) _))⟩
    · go_enter Tryz.func156, Tryz.ntmps156
      go_wp2_with fail
      go_ret
      exact ⟨ret_int rfl, (by repeat (first | exact hb | refine Below.alloc ?_ (by have hbs := hb.size; first | omega | (simp; done) | (simp; omega)) _ | refine Below.drew ?_ | refine below_drewN_ ?_ _ | refine Below.setCell ?_ (by simp) _))⟩
set_option maxHeartbeats 1000000 in
theorem rnd_away (n : Int) (w : World) (h0 : 0 ≤ n) (h1 : n ≤ 1000000000000000000) : Calls Tryz.prog 155 #[.agg #[.int .i64 (n / 10000), .int .i64 (n % 10000), .int .i64 10000, .bool false]] w
    (fun e w' => e = .returned (.bool (decide (10000 ≤ 2 * (n % 10000)))) ∧ Below w.heap.size w w') := by
  have hb := Below.refl w.heap.size w
  go_enter Tryz.func155, Tryz.ntmps155
  go_wp2_with fail
  refine (rnd_half n _ h0 h1).mono ?_; rintro e w2 ⟨rfl, hb2⟩; obtain ⟨hc2, -⟩ := bcell hb2; have hz2 := hb2.size; (try simp at hz2); (try have hy2 : w.heap.size < w2.heap.size := by omega); replace hb := bel' (w := w) hb2 (by repeat (first | exact hb | refine Below.alloc ?_ (by have hbs := hb.size; first | omega | (simp; done) | (simp; omega)) _ | refine Below.drew ?_ | refine below_drewN_ ?_ _ | refine Below.setCell ?_ (by simp) _)); clear hb2
  by_cases c1 : n % 10000 < 5000
  · rw [if_pos c1]
    have HE : Hid (decide (10000 ≤ 2 * (n % 10000)) = false) := Lib.hid (by simp; omega)
    go_wp2_with fail
    go_ret
    exact ⟨ret_bool HE.out.symm, hb⟩
  · rw [if_neg c1]
    have HE : Hid (decide (10000 ≤ 2 * (n % 10000)) = true) := Lib.hid (by simp; omega)
    by_cases c2 : n % 10000 = 5000
    · rw [if_pos c2]
      go_wp2_with fail
      go_ret
      exact ⟨ret_bool HE.out.symm, hb⟩
    · rw [if_neg c2]
      go_wp2_with fail
      go_ret
      exact ⟨ret_bool HE.out.symm, hb⟩
set_option maxRecDepth 100000 in
set_option maxHeartbeats 1000000 in
theorem rnd_rounded (n : Int) (w : World) (h0 : 0 ≤ n) (h1 : n ≤ 1000000000000000000) : Calls Tryz.prog 135 #[.agg #[.int .i64 (n / 10000), .int .i64 (n % 10000), .int .i64 10000, .bool false], .bool (decide (10000 ≤ 2 * (n % 10000)))] w
    (IntPost (rndV n) w) := by
  unfold IntPost
  have hb := Below.refl w.heap.size w
  by_cases c : 10000 ≤ 2 * (n % 10000)
  · have HE : Hid (rndV n = n / 10000 + 1) := Lib.hid (by unfold rndV; rw [if_pos c])
    have hd : decide (10000 ≤ 2 * (n % 10000)) = true := by simpa using c
    rw [hd]
    clear hd
    have hd2 : decide (0 < n % 10000) = true := by simp; omega
    go_enter Tryz.func135, Tryz.ntmps135
    go_wp2_with fail
    go_ret
    exact ⟨ret_int HE.out.symm, (by repeat (first | exact hb | refine Below.alloc ?_ (by have hbs := hb.size; first | omega | (simp; done) | (simp; omega)) _ | refine Below.drew ?_ | refine below_drewN_ ?_ _ | refine Below.setCell ?_ (by simp) _))⟩
  · have HE : Hid (rndV n = n / 10000) := Lib.hid (by unfold rndV; rw [if_neg c])
    have hd : decide (10000 ≤ 2 * (n % 10000)) = false := by simpa using c
    rw [hd]
    clear hd
    go_enter Tryz.func135, Tryz.ntmps135
    go_wp2_with fail
    go_ret
    exact ⟨ret_int HE.out.symm, (by repeat (first | exact hb | refine Below.alloc ?_ (by have hbs := hb.size; first | omega | (simp; done) | (simp; omega)) _ | refine Below.drew ?_ | refine below_drewN_ ?_ _ | refine Below.setCell ?_ (by simp) _))⟩
/-- the functions of the modes -/
def rndFs : Array Value := #[.func (.func 155) #[] #[], .func (.func 157) #[] #[], .func (.func 158) #[] #[], .func (.func 159) #[] #[], .func (.func 160) #[] #[], .func (.func 161) #[] #[]]
theorem rnd_fs_size : (Tryz.prog.info? 193).map (·.size) = some rndFs.size := by kernel_rfl
theorem rnd_fs_one : rndFs.all (·.oneCell') = true := by simp [rndFs, Value.oneCell']
set_option maxHeartbeats 1000000 in
theorem rnd_modes (w : World) : Calls Tryz.prog 136 #[] w
    (fun e w' => e = .returned (.agg rndFs) ∧ Below w.heap.size w w') := by
  have hb : Below w.heap.size w (w.alloc (.cells #[.nilFunc, .nilFunc, .nilFunc, .nilFunc, .nilFunc, .nilFunc] 193)) := (Below.refl _ _).alloc (Nat.le_refl _) _
  have HB := Lib.hid (Blk.new w 193 #[.nilFunc, .nilFunc, .nilFunc, .nilFunc, .nilFunc, .nilFunc])
  go_enter Tryz.func136, Tryz.ntmps136
  go_wp2_with (refine wpList_store_row rfl 193 (.tmp 0) (.tmp 1) rfl w.heap.size rndFs rfl rfl 193 _ HB.out rnd_fs_size rfl rnd_fs_one ?_)
  refine bodyPost_ret (v := .agg rndFs) (results_cell_row Tryz.results136 _ _ w.heap.size 193 rndFs (0, 0) _ rfl (setRow_heap _ _ _ _ _ _ HB.out) Tryz.underlying193 rfl (by kernel_rfl)) rfl ?_
  exact ⟨rfl, below_row hb (Nat.le_refl _)⟩
set_option maxRecDepth 100000 in
set_option maxHeartbeats 1000000 in
theorem rnd_round (n : Int) (w : World) (h0 : 0 ≤ n) (h1 : n ≤ 1000000000000000000) : Calls Tryz.prog 105 #[.int .i64 n, .int .i64 10000, .int .i64 0] w (IntPost (rndV n) w) := by
  unfold IntPost
  have hb := Below.refl w.heap.size w
  have KN := Lib.hid (fun W => rnd_new n W h0 h1)
  have KA := Lib.hid (fun W => rnd_away n W h0 h1)
  have KR := Lib.hid (fun W => rnd_rounded n W h0 h1)
  unfold IntPost at KR
  generalize decide (10000 ≤ 2 * (n % 10000)) = up at *
  generalize rndV n = r at *
  generalize n / 10000 = a0 at *
  generalize n % 10000 = a1 at *
  go_enter Tryz.func105, Tryz.ntmps105
  go_wp2_with (go_at_call 134; refine (KN.out _).mono ?_; rintro e w2 ⟨rfl, hb2⟩; replace hb := bel hb hb2; clear hb2)
  have HB := Lib.hid (Blk.new w2 189 #[.int .i64 a0, .int .i64 a1, .int .i64 10000, .bool false])
  have hb3 := hb.alloc hb.size (.cells #[.int .i64 a0, .int .i64 a1, .int .i64 10000, .bool false] 189)
  obtain ⟨g, hg⟩ : ∃ g, g = w2.heap.size := ⟨_, rfl⟩
  rw [← hg] at HB ⊢
  generalize w2.alloc (.cells #[.int .i64 a0, .int .i64 a1, .int .i64 10000, .bool false] 189) = W at *
  have p0 : ∀ d : Later W, d.now.cell? ⟨g, 0, none⟩ = some (.int .i64 a0) := fun d => d.cell HB.out.lt (HB.out.cell 0)
  have p1 : ∀ d : Later W, d.now.cell? ⟨g, 1, none⟩ = some (.int .i64 a1) := fun d => d.cell HB.out.lt (HB.out.cell 1)
  have p2 : ∀ d : Later W, d.now.cell? ⟨g, 2, none⟩ = some (.int .i64 10000) := fun d => d.cell HB.out.lt (HB.out.cell 2)
  have p3 : ∀ d : Later W, d.now.cell? ⟨g, 3, none⟩ = some (.bool false) := fun d => d.cell HB.out.lt (HB.out.cell 3)
  clear hg hb
  refine rel_begin (n := 8) (W) (by kernel_rfl) rfl ?_; have hC := Near.drew (W)
  (first | (refine rel_want (i := 0) rfl rfl (by kernel_rfl) (by kernel_rfl) (by kernel_rfl) rfl (fun _ _ _ _ h => h) hC ?_; intro K hK; go_big_quiet_op; go_big_quiet_on) | (refine rel_skip (i := 0) rfl (by kernel_rfl) (by kernel_rfl) (by kernel_rfl) rfl (fun _ _ _ _ h => h) hC ?_; simp only [Act.put, List.setIfInBounds_toArray, List.set_cons_zero, List.set_cons_succ]))
  (first | (refine rel_want (i := 2) rfl rfl (by kernel_rfl) (by kernel_rfl) (by kernel_rfl) rfl (fun _ _ _ _ h => h) hC ?_; intro K hK; go_big_quiet_op; go_big_quiet_on) | (refine rel_skip (i := 2) rfl (by kernel_rfl) (by kernel_rfl) (by kernel_rfl) rfl (fun _ _ _ _ h => h) hC ?_; simp only [Act.put, List.setIfInBounds_toArray, List.set_cons_zero, List.set_cons_succ]))
  (first | (refine rel_want (i := 4) rfl rfl (by kernel_rfl) (by kernel_rfl) (by kernel_rfl) rfl (fun _ _ _ _ h => h) hC ?_; intro K hK; go_big_quiet_op; go_big_quiet_on) | (refine rel_skip (i := 4) rfl (by kernel_rfl) (by kernel_rfl) (by kernel_rfl) rfl (fun _ _ _ _ h => h) hC ?_; simp only [Act.put, List.setIfInBounds_toArray, List.set_cons_zero, List.set_cons_succ]))
  refine rel_call (i := 1) (by kernel_rfl) rfl rfl ?_; intro K hK; go_simp; go_at_call 136; refine (rnd_modes _).mono ?_; rintro e w2 ⟨rfl, hb2⟩; (try go_wp2_with fail); replace hC := hC.on hb2; refine hK _ _ hC (fun _ => ?_); clear hK K; (try simp only [Act.put, List.setIfInBounds_toArray, List.set_cons_zero, List.set_cons_succ])
  simp only [rndFs]
  refine rel_call (i := 3) (by kernel_rfl) rfl rfl ?_
  intro K hK
  go_simp
  refine hK _ _ hC (fun _ => ?_)
  clear hK K
  (try simp only [Act.put, List.setIfInBounds_toArray, List.set_cons_zero, List.set_cons_succ])
  refine rel_call (i := 5) (by kernel_rfl) rfl rfl ?_; intro K hK; go_simp; go_at_call 155; refine (KA.out _).mono ?_; rintro e w2 ⟨rfl, hb2⟩; (try go_wp2_with fail); replace hC := hC.on hb2; refine hK _ _ hC (fun _ => ?_); clear hK K; (try simp only [Act.put, List.setIfInBounds_toArray, List.set_cons_zero, List.set_cons_succ])
  refine rel_call (i := 6) (by kernel_rfl) rfl rfl ?_; intro K hK; go_simp; go_at_call 135; refine (KR.out _).mono ?_; rintro e w2 ⟨rfl, hb2⟩; (try go_wp2_with fail); replace hC := hC.on hb2; refine hK _ _ hC (fun _ => ?_); clear hK K; (try simp only [Act.put, List.setIfInBounds_toArray, List.set_cons_zero, List.set_cons_succ])
  (first | (refine rel_want (i := 7) rfl rfl (by kernel_rfl) (by kernel_rfl) (by kernel_rfl) rfl (fun _ _ _ _ h => h) hC ?_; intro K hK; go_big_quiet_op; go_big_quiet_on) | (refine rel_skip (i := 7) rfl (by kernel_rfl) (by kernel_rfl) (by kernel_rfl) rfl (fun _ _ _ _ h => h) hC ?_; simp only [Act.put, List.setIfInBounds_toArray, List.set_cons_zero, List.set_cons_succ]))
  have hCb := hC.below
  refine wpAnyH_done (by kernel_rfl) ?_ _
  go_wp2_with fail
  go_ret
  exact ⟨ret_int rfl, bel hb3 hCb⟩
set_option maxRecDepth 100000 in
set_option maxHeartbeats 1000000 in
theorem rnd_rquot (n : Int) (w : World) (h0 : 0 ≤ n) (h1 : n ≤ 1000000000000000000) : Calls Tryz.prog 107 #[.int .i64 n, .int .i64 10000, .int .i64 0] w (IntPost (rndV n) w) := by
  unfold IntPost
  have hb := Below.refl w.heap.size w
  have KN := Lib.hid (fun W => rnd_rsize n W h0 h1)
  have KD := Lib.hid (fun W => rnd_rsize 10000 W (by omega) (by omega))
  by_cases hz : n = 0
  · subst hz
    go_enter Tryz.func107, Tryz.ntmps107
    go_wp2_with fail
    go_quiet ((go_at_call 137; first | with_reducible exact Calls.quiet_of_same (KN.out _) | with_reducible exact Calls.quiet_of_same (KD.out _)))
    go_wp2_with fail
    go_ret
    exact ⟨ret_int rfl, below_drewN_ hb _⟩
  · have hz1 : decide (n < 0) = false := by simpa using h0
    have hz2 : (n != 0) = true := by simpa using hz
    have e1 : n.tdiv 10000 = n / 10000 := Int.tdiv_eq_ediv_of_nonneg h0
    have e2 : n.tmod 10000 = n % 10000 := Int.tmod_eq_emod_of_nonneg h0
    have e3 : IntKind.i64.wrap (n / 10000) = n / 10000 := IntWalk.i64_in _ (by omega)
    have e4 : IntKind.i64.wrap (n % 10000) = n % 10000 := IntWalk.i64_in _ (by omega)
    go_enter Tryz.func107, Tryz.ntmps107
    go_wp2_with fail
    go_quiet ((go_at_call 137; first | with_reducible exact Calls.quiet_of_same (KN.out _) | with_reducible exact Calls.quiet_of_same (KD.out _)))
    by_cases c : 10000 ≤ 2 * (n % 10000)
    · have HE : Hid (rndV n = n / 10000 + 1) := Lib.hid (by unfold rndV; rw [if_pos c])
      go_wp2_with fail
      go_ret
      exact ⟨ret_int HE.out.symm, below_drewN_ hb _⟩
    · have HE : Hid (rndV n = n / 10000) := Lib.hid (by unfold rndV; rw [if_neg c])
      go_wp2_with fail
      go_ret
      exact ⟨ret_int HE.out.symm, below_drewN_ hb _⟩
def RndPost (n : Int) (w : World) (e : Ending) (w' : World) : Prop := e = .returned (.tuple #[.int .i64 (rndV n), .int .i64 0]) ∧ Below w.heap.size w w'
set_option maxHeartbeats 1000000 in
theorem rnd_any (n : Int) (w : World) (h0 : 0 ≤ n) (h1 : n ≤ 1000000000000000000) : Calls Tryz.prog 73 #[.int .i64 n, .int .i64 10000, .int .i64 0] w (RndPost n w) := by
  unfold RndPost
  have hb := Below.refl w.heap.size w
  have KN := Lib.hid (fun W => rnd_round n W h0 h1)
  unfold IntPost at KN
  have d1 : decide (n < -1000000000000000000) = false := by simp; omega
  have d2 : decide (1000000000000000000 < n) = false := by simp; omega
  generalize rndV n = r at *
  go_enter Tryz.func73, Tryz.ntmps73
  go_wp2_with (go_at_call 104; refine (rnd_known _).mono ?_; rintro e w2 ⟨rfl, hb2⟩; replace hb := bel hb hb2; clear hb2)
  refine (KN.out _).mono ?_
  rintro e w3 ⟨rfl, hb2⟩
  replace hb := bel hb hb2
  go_wp2_with fail
  go_ret2
  exact ⟨rfl, hb⟩
set_option maxHeartbeats 1000000 in
theorem rnd_rany (n : Int) (w : World) (h0 : 0 ≤ n) (h1 : n ≤ 1000000000000000000) : Calls Tryz.prog 77 #[.int .i64 n, .int .i64 10000, .int .i64 0] w (RndPost n w) := by
  unfold RndPost
  have hb := Below.refl w.heap.size w
  have KN := Lib.hid (fun W => rnd_rquot n W h0 h1)
  unfold IntPost at KN
  have d1 : decide (n < -1000000000000000000) = false := by simp; omega
  have d2 : decide (1000000000000000000 < n) = false := by simp; omega
  generalize rndV n = r at *
  go_enter Tryz.func77, Tryz.ntmps77
  go_wp2_with (go_at_call 106; refine (rnd_rknown _).mono ?_; rintro e w2 ⟨rfl, hb2⟩; replace hb := bel hb hb2; clear hb2)
  refine (KN.out _).mono ?_
  rintro e w3 ⟨rfl, hb2⟩
  replace hb := bel hb hb2
  go_wp2_with fail
  go_ret2
  exact ⟨rfl, hb⟩
end Go.Proofs.YthfbpbbepogllaaGreat
/- Inventory notes, and what their profits come to. No walk. -/
namespace Go.Proofs.YthfbpbbepogllaaGreat
set_option linter.unusedVariables false
set_option linter.unusedSimpArgs false
open Go.RowKit

structure StkR where
  period : Int
  seller : Int
  buyer : Int
  amount : Int
  margin : Int
instance inhStkR : Inhabited StkR := ⟨⟨0, 0, 0, 0, 0⟩⟩
def StkR.cells (x : StkR) : List Value := [.int .i64 x.period, .int .i64 x.seller, .int .i64 x.buyer, .int .i64 x.amount, .int .i64 x.margin]
def StkR.arr (x : StkR) : Array Value := #[.int .i64 x.period, .int .i64 x.seller, .int .i64 x.buyer, .int .i64 x.amount, .int .i64 x.margin]
theorem StkR.len (x : StkR) : x.cells.length = 5 := rfl
def StkR.Ok (_ : World) (x : StkR) : Prop := Wf x.period ∧ Wf x.seller ∧ Wf x.buyer ∧ Wf x.amount ∧ Wf x.margin
theorem StkR.at_ {w : World} {B : Nat} {A : Option Addr} {l : List StkR} (h : Rd w B 5 A l.length (cellsOf StkR.cells l)) {k : Nat} (hk : k < l.length) :
    ∃ b o, A = some ⟨b, o, none⟩ ∧ b < B ∧ w.cell? ⟨b, o + k * 5, none⟩ = some (.int .i64 l[k].period) ∧ w.cell? ⟨b, o + k * 5 + 1, none⟩ = some (.int .i64 l[k].seller) ∧ w.cell? ⟨b, o + k * 5 + 2, none⟩ = some (.int .i64 l[k].buyer) ∧ w.cell? ⟨b, o + k * 5 + 3, none⟩ = some (.int .i64 l[k].amount) ∧ w.cell? ⟨b, o + k * 5 + 4, none⟩ = some (.int .i64 l[k].margin) := by
  obtain ⟨b, o, e, hb, hc⟩ := rd_at (f := StkR.cells) (sz := 5) (fun _ => rfl) h hk
  exact ⟨b, o, e, hb, hc 0 _ rfl, hc 1 _ rfl, hc 2 _ rfl, hc 3 _ rfl, hc 4 _ rfl⟩
theorem StkR.one (x : StkR) : ∀ u ∈ x.cells, u.oneCell' = true := by
  intro u hu
  simp only [StkR.cells, List.mem_cons, List.not_mem_nil, or_false] at hu
  rcases hu with rfl | rfl | rfl | rfl | rfl
  all_goals rfl
/-- the index of an entity -/
def Iv.ent (n : Nat) (i : Int) : Bool := decide (0 ≤ i) && decide (i < n)
/-- a note of a valid group -/
def Iv.ok (p : Int) (n : Nat) (x : StkR) : Bool := decide (0 ≤ x.period) && (decide (x.period < p) && (Iv.ent n x.seller && (Iv.ent n x.buyer && (x.seller != x.buyer && (decide (0 ≤ x.amount) && (decide (x.amount ≤ 1000000000000) && (decide (0 ≤ x.margin) && decide (x.margin ≤ 10000))))))))
def Iv.val (V : Bool) (p : Int) (n : Nat) (l : List StkR) : Bool := V && (decide (l.length ≤ 200) && l.all (Iv.ok p n))
/-- the note counts for a seller, a buyer and a period -/
def Iv.hit (s b q : Int) (x : StkR) : Bool := x.period == q && (x.seller == s && x.buyer == b)
def Iv.one (x : StkR) : Int := rndV (x.amount * x.margin)
def Iv.sum (s b q : Int) (l : List StkR) : Int := ((l.filter (Iv.hit s b q)).map Iv.one).sum
theorem iv_ent {n : Nat} {i : Int} : Iv.ent n i = true ↔ 0 ≤ i ∧ i < n := by simp [Iv.ent]
theorem iv_ok {p : Int} {n : Nat} {x : StkR} : Iv.ok p n x = true ↔ 0 ≤ x.period ∧ x.period < p ∧ Iv.ent n x.seller = true ∧ Iv.ent n x.buyer = true ∧ x.seller ≠ x.buyer ∧ 0 ≤ x.amount ∧ x.amount ≤ 1000000000000 ∧ 0 ≤ x.margin ∧ x.margin ≤ 10000 := by
  simp only [Iv.ok, Bool.and_eq_true, decide_eq_true_eq, bne_iff_ne]
theorem iv_mul {p : Int} {n : Nat} {x : StkR} (h : Iv.ok p n x = true) : 0 ≤ x.amount * x.margin ∧ x.amount * x.margin ≤ 10000000000000000 := by
  obtain ⟨_, _, _, _, _, a, b, c, d⟩ := iv_ok.1 h
  refine ⟨Int.mul_nonneg a c, ?_⟩
  calc x.amount * x.margin ≤ 1000000000000 * 10000 := Int.mul_le_mul b d c (by omega)
    _ = 10000000000000000 := rfl
theorem rnd_in {a : Int} (h0 : 0 ≤ a) (h1 : a ≤ 10000000000000000) : 0 ≤ rndV a ∧ rndV a ≤ 1000000000000 := by
  unfold rndV
  split <;> omega
theorem iv_one {p : Int} {n : Nat} {x : StkR} (h : Iv.ok p n x = true) : 0 ≤ Iv.one x ∧ Iv.one x ≤ 1000000000000 := by
  obtain ⟨a, b⟩ := iv_mul h
  exact rnd_in a b
theorem iv_sum_in {p : Int} {n : Nat} (s b q : Int) : ∀ (l : List StkR), l.all (Iv.ok p n) = true → 0 ≤ Iv.sum s b q l ∧ Iv.sum s b q l ≤ 1000000000000 * l.length
  | [], _ => by simp [Iv.sum]
  | x :: r, h => by
    simp only [List.all_cons, Bool.and_eq_true] at h
    obtain ⟨i1, i2⟩ := iv_sum_in s b q r h.2
    obtain ⟨o1, o2⟩ := iv_one h.1
    unfold Iv.sum at *
    rw [List.filter_cons]
    split
    · simp only [List.map_cons, List.sum_cons, List.length_cons]; omega
    · simp only [List.length_cons]; omega
theorem iv_sum_take (s b q : Int) (l : List StkR) (k : Nat) (hk : k < l.length) : Iv.sum s b q (l.take (k + 1)) = Iv.sum s b q (l.take k) + if Iv.hit s b q l[k] = true then Iv.one l[k] else 0 := by
  unfold Iv.sum
  rw [List.take_add_one, List.getElem?_eq_getElem hk, Option.toList_some, List.filter_append, List.map_append, List.sum_append]
  congr 1
  by_cases h : Iv.hit s b q l[k] = true
  · rw [if_pos h]; simp [List.filter, h]
  · rw [if_neg h]; simp [List.filter, h]
end Go.Proofs.YthfbpbbepogllaaGreat
/- The walks of Received, of 'full' and of 'check', and of their references. -/
namespace Go.Proofs.YthfbpbbepogllaaGreat
set_option linter.unusedVariables false
set_option linter.unusedSimpArgs false
open Go.RowKit

section
variable (gcs : Array Value) (cur : ByteArray) (y m p : Int) (cl : List Acc) (cA : Option Addr) (cc : Nat) (ro : RolesR) (el : List EntR) (eA : Option Addr) (ec : Nat) (w : World)
end
end Go.Proofs.YthfbpbbepogllaaGreat
