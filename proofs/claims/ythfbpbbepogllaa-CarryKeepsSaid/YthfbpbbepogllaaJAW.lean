/- Texts of this claim, put together. -/
import Derived.Test.YthfbpbbepogllaaJAV
import Derived.Test.YthfbpbbepogllaaJAI
import Derived.Test.YthfbpbbepogllaaJAJ
import Derived.BigRegion
import Derived.Deep.QuietTactic
import Derived.BigQuiet
import Derived.IntWalk
/- The walks of the reference's entity and Valid. -/
namespace Go.Proofs.Ythfbpbbepogllaa
set_option linter.unusedVariables false
set_option linter.unusedSimpArgs false
open Go.RowKit

theorem shut_yes {R : List RoleR} {c : Int} {j : Nat} (hj : j < R.length) (h1 : R[j].code = c) (h2 : R[j].mapped = false) : Gr.shut R c = true := by
  unfold Gr.shut
  rw [List.any_eq_true]
  exact ⟨R[j], List.getElem_mem hj, by rw [h1, h2]; simp⟩
theorem shut_no {R : List RoleR} {c : Int} (h : ∀ j (hj : j < R.length), ¬ (R[j].code = c ∧ R[j].mapped = false)) : Gr.shut R c = false := by
  unfold Gr.shut
  rw [List.any_eq_false]
  intro x hx
  obtain ⟨j, hj, rfl⟩ := List.mem_iff_getElem.1 hx
  have := h j hj
  simpa using this
theorem entV_no {ch : List Acc} {R : List RoleR} {x : EntR} (k : Nat) (hk : k < x.links.l.length) (h : Gr.shut R (x.links.l[k]).to = true) : Gr.entV ch R x = false := by
  unfold Gr.entV Gr.openL
  rw [allAt_no hk (by rw [getD_lt _ _ _ hk, h]; rfl)]
  simp
theorem fnd_here {el : List EntR} {k : Nat} (hk : k < el.length) (h : Gr.nameBefore el k = false) : fndI el el[k].name = k := by
  unfold Gr.nameBefore at h
  rw [getD_lt el k default hk, List.any_eq_false] at h
  have e : fidx (nameIs el[k].name) el = k := fidx_hit k hk (fun j hj => by
    have := h (el[j]'(by omega)) (by rw [List.mem_take_iff_getElem]; exact ⟨j, by omega, rfl⟩)
    unfold nameIs
    rw [beq_is, decide_eq_false_iff_not]
    intro e
    rw [ByteArray.toList_eq, ByteArray.toList_eq] at e
    exact this (by simpa using bytes_ext e)) (by unfold nameIs; simp)
  unfold fndI
  rw [e, if_pos (by omega)]
theorem fnd_else {el : List EntR} {k : Nat} (hk : k < el.length) (h : Gr.nameBefore el k = true) : fndI el el[k].name ≠ k := by
  unfold Gr.nameBefore at h
  rw [getD_lt el k default hk, List.any_eq_true] at h
  obtain ⟨x, hx, e⟩ := h
  rw [List.mem_take_iff_getElem] at hx
  obtain ⟨j, hj, rfl⟩ := hx
  have e := of_decide_eq_true e
  unfold fndI fidx
  cases hf : el.findIdx? (nameIs el[k].name) with
  | none =>
    rw [List.findIdx?_eq_none_iff] at hf
    have := hf el[k] (List.getElem_mem hk)
    unfold nameIs at this
    simp at this
  | some i =>
    rw [List.findIdx?_eq_some_iff_getElem] at hf
    obtain ⟨hi, h1, h2⟩ := hf
    have hij : i ≤ j := Nat.not_lt.1 fun hij => by
      have := h2 j hij
      unfold nameIs at this
      rw [e] at this
      simp at this
    simp only
    rw [if_pos (by omega)]
    omega
section
variable (gcs : Array Value) (cur : ByteArray) (y m p : Int) (cl : List Acc) (cA : Option Addr) (cc : Nat) (ro : RolesR) (el : List EntR) (eA : Option Addr) (ec : Nat) (w : World)
end
end Go.Proofs.Ythfbpbbepogllaa
/- The walk of the reference's Valid. -/
namespace Go.Proofs.Ythfbpbbepogllaa
set_option linter.unusedVariables false
set_option linter.unusedSimpArgs false
open Go.RowKit

theorem gv_bk (cur : ByteArray) (cl : List Acc) (ro : RolesR) (el : List EntR) (cal : Bool) :
    Gr.gv cur cl ro el cal = (Gr.bk cur cl ro cal && (decide (1 ≤ el.length) && (decide (el.length ≤ 12) && (!(el.getD 0 default).joint && Gr.entsV cl (Gr.roles ro) el)))) := by
  unfold Gr.gv Gr.bk
  cases Gr.curV cur <;> cases cal <;> simp
section
variable (gcs : Array Value) (cur : ByteArray) (y m p : Int) (cl : List Acc) (cA : Option Addr) (cc : Nat) (ro : RolesR) (el : List EntR) (eA : Option Addr) (ec : Nat) (w : World)
end
end Go.Proofs.Ythfbpbbepogllaa
/- The walks of the dividends' sums, of 'full' and of 'check', and of their references. -/
namespace Go.Proofs.Ythfbpbbepogllaa
set_option linter.unusedVariables false
set_option linter.unusedSimpArgs false
open Go.RowKit

def IntPost (v : Int) (w : World) (e : Ending) (w' : World) : Prop := e = .returned (.int .i64 v) ∧ Below w.heap.size w w'
theorem is_eq {d : Int} {q : Int → Bool} {x : ItemR} {b : Bool} (h : (x.account == d && q x.partner) = b) : Dv.is d q x = b := h
section
variable (gcs : Array Value) (cur : ByteArray) (y m p : Int) (cl : List Acc) (cA : Option Addr) (cc : Nat) (ro : RolesR) (el : List EntR) (eA : Option Addr) (ec : Nat) (w : World)
end
end Go.Proofs.Ythfbpbbepogllaa
/- The walks of decimal.Round and of its reference at parts of ten thousand, to the nearest. -/
namespace Go.Proofs.Ythfbpbbepogllaa
set_option linter.unusedVariables false
set_option linter.unusedSimpArgs false
open Go.RowKit

/-- a quotient by ten thousand, to the nearest -/
def rndV (a : Int) : Int := if 10000 ≤ 2 * (a % 10000) then a / 10000 + 1 else a / 10000
set_option maxHeartbeats 1000000 in
theorem rnd_size (n : Int) (w : World) (h0 : 0 ≤ n) (h1 : n ≤ 1000000000000000000) : Calls Try.prog 93 #[.int .i64 n] w (IntPost n w) := by
  unfold IntPost
  have hb := Below.refl w.heap.size w
  go_enter Try.func93, Try.ntmps93
  go_wp2_with fail
  go_ret
  exact ⟨ret_int (by omega), hb⟩
set_option maxHeartbeats 1000000 in
theorem rnd_known (w : World) : Calls Try.prog 54 #[.int .i64 0] w (fun e w' => e = .returned (.bool true) ∧ Below w.heap.size w w') := by
  have hb := Below.refl w.heap.size w
  go_enter Try.func54, Try.ntmps54
  go_wp2_with fail
  go_ret
  exact ⟨rfl, hb⟩
set_option maxHeartbeats 1000000 in
theorem rnd_new (n : Int) (w : World) (h0 : 0 ≤ n) (h1 : n ≤ 1000000000000000000) : Calls Try.prog 68 #[.int .i64 n, .int .i64 10000] w
    (fun e w' => e = .returned (.agg #[.int .i64 (n / 10000), .int .i64 (n % 10000), .int .i64 10000, .bool false]) ∧ Below w.heap.size w w') := by
  have hb : Below w.heap.size w (w.alloc (.cells #[.int .i64 0, .int .i64 0, .int .i64 0, .bool false] 140)) := (Below.refl _ _).alloc (Nat.le_refl _) _
  have HB := Lib.hid (Blk.new w 140 #[.int .i64 0, .int .i64 0, .int .i64 0, .bool false])
  have hn : decide (n < 0) = false := by simpa using h0
  go_enter Try.func68, Try.ntmps68
  go_wp2_with fail
  refine (rnd_size n _ h0 h1).mono ?_
  rintro e w2 ⟨rfl, hb2⟩
  replace hb := bel hb hb2
  replace HB := Lib.hid (HB.out.step hb2)
  clear hb2
  go_wp2_with fail
  refine (rnd_size 10000 _ (by omega) (by omega)).mono ?_
  rintro e w3 ⟨rfl, hb2⟩
  replace hb := bel hb hb2
  replace HB := Lib.hid (HB.out.step hb2)
  clear hb2
  have q0 : w3.cell? ⟨w.heap.size, 0, none⟩ = some (.int .i64 0) := HB.out.cell 0
  have q1 : w3.cell? ⟨w.heap.size, 1, none⟩ = some (.int .i64 0) := HB.out.cell 1
  have q2 : w3.cell? ⟨w.heap.size, 2, none⟩ = some (.int .i64 0) := HB.out.cell 2
  have q3 : w3.cell? ⟨w.heap.size, 3, none⟩ = some (.bool false) := HB.out.cell 3
  have z0 : w3.frozen? ⟨w.heap.size, 0, none⟩ = false := HB.out.frozen 0
  have z1 : w3.frozen? ⟨w.heap.size, 1, none⟩ = false := HB.out.frozen 1
  have z2 : w3.frozen? ⟨w.heap.size, 2, none⟩ = false := HB.out.frozen 2
  have z3 : w3.frozen? ⟨w.heap.size, 3, none⟩ = false := HB.out.frozen 3
  go_wp2_with fail
  go_region
  have hb4 : Below w.heap.size w ((((w3.setCell ⟨w.heap.size, 0, none⟩ (.int .i64 (n / 10000))).setCell ⟨w.heap.size, 1, none⟩ (.int .i64 (n % 10000))).setCell ⟨w.heap.size, 2, none⟩ (.int .i64 10000)).setCell ⟨w.heap.size, 3, none⟩ (.bool false)).drew := ((((hb.setCell (p := ⟨w.heap.size, 0, none⟩) (Nat.le_refl _) _).setCell (p := ⟨w.heap.size, 1, none⟩) (Nat.le_refl _) _).setCell (p := ⟨w.heap.size, 2, none⟩) (Nat.le_refl _) _).setCell (p := ⟨w.heap.size, 3, none⟩) (Nat.le_refl _) _).drew
  have HB4 : Blk ((((w3.setCell ⟨w.heap.size, 0, none⟩ (.int .i64 (n / 10000))).setCell ⟨w.heap.size, 1, none⟩ (.int .i64 (n % 10000))).setCell ⟨w.heap.size, 2, none⟩ (.int .i64 10000)).setCell ⟨w.heap.size, 3, none⟩ (.bool false)).drew w.heap.size 140 #[.int .i64 (n / 10000), .int .i64 (n % 10000), .int .i64 10000, .bool false] := ((((HB.out.set_ 0 _).set_ 1 _).set_ 2 _).set_ 3 _).drew
  generalize ((((w3.setCell ⟨w.heap.size, 0, none⟩ (.int .i64 (n / 10000))).setCell ⟨w.heap.size, 1, none⟩ (.int .i64 (n % 10000))).setCell ⟨w.heap.size, 2, none⟩ (.int .i64 10000)).setCell ⟨w.heap.size, 3, none⟩ (.bool false)).drew = w4 at *
  go_wp2_with fail
  refine bodyPost_ret (v := .agg #[.int .i64 (n / 10000), .int .i64 (n % 10000), .int .i64 10000, .bool false]) (results_cell_row Try.results68 _ _ w.heap.size 140 #[.int .i64 (n / 10000), .int .i64 (n % 10000), .int .i64 10000, .bool false] (0, 0) _ rfl HB4 Try.underlying140 rfl (by kernel_rfl)) rfl ?_
  exact ⟨rfl, hb4⟩
set_option maxHeartbeats 1000000 in
theorem rnd_half (n : Int) (w : World) (h0 : 0 ≤ n) (h1 : n ≤ 1000000000000000000) : Calls Try.prog 95 #[.agg #[.int .i64 (n / 10000), .int .i64 (n % 10000), .int .i64 10000, .bool false]] w
    (IntPost (if n % 10000 < 5000 then -1 else if n % 10000 = 5000 then 0 else 1) w) := by
  unfold IntPost
  have hb := Below.refl w.heap.size w
  by_cases c1 : n % 10000 < 5000
  · go_enter Try.func95, Try.ntmps95
    go_wp2_with fail
    go_ret
    exact ⟨ret_int rfl, (by repeat (first | exact hb | refine Below.alloc ?_ (by have hbs := hb.size; first | omega | (simp; done) | (simp; omega)) _ | refine Below.drew ?_ | refine below_drewN_ ?_ _ | refine Below.setCell ?_ (by simp) _))⟩
  · by_cases c2 : n % 10000 = 5000
    · go_enter Try.func95, Try.ntmps95
      go_wp2_with fail
      go_ret
      exact ⟨ret_int rfl, (by repeat (first | exact hb | refine Below.alloc ?_ (by have hbs := hb.size; first | omega | (simp; done) | (simp; omega)) _ | refine Below.drew ?_ | refine below_drewN_ ?_ _ | refine Below.setCell ?_ (by simp) _))⟩
    · go_enter Try.func95, Try.ntmps95
      go_wp2_with fail
      go_ret
      exact ⟨ret_int rfl, (by repeat (first | exact hb | refine Below.alloc ?_ (by have hbs := hb.size; first | omega | (simp; done) | (simp; omega)) _ | refine Below.drew ?_ | refine below_drewN_ ?_ _ | refine Below.setCell ?_ (by simp) _))⟩
set_option maxHeartbeats 1000000 in
theorem rnd_away (n : Int) (w : World) (h0 : 0 ≤ n) (h1 : n ≤ 1000000000000000000) : Calls Try.prog 94 #[.agg #[.int .i64 (n / 10000), .int .i64 (n % 10000), .int .i64 10000, .bool false]] w
    (fun e w' => e = .returned (.bool (decide (10000 ≤ 2 * (n % 10000)))) ∧ Below w.heap.size w w') := by
  have hb := Below.refl w.heap.size w
  go_enter Try.func94, Try.ntmps94
  go_wp2_with fail
  refine (rnd_half n _ h0 h1).mono ?_; rintro e w2 ⟨rfl, hb2⟩; obtain ⟨hc2, -⟩ := bcell hb2; have hz2 := hb2.size; (try simp at hz2); (try have hy2 : w.heap.size < w2.heap.size := by omega); replace hb := bel' (w := w) hb2 (by repeat (first | exact hb | refine Below.alloc ?_ (by have hbs := hb.size; first | omega | (simp; done) | (simp; omega)) _ | refine Below.drew ?_ | refine below_drewN_ ?_ _ | refine Below.setCell ?_ (by simp) _)); clear hb2
  by_cases c1 : n % 10000 < 5000
  · rw [if_pos c1]
    have HE : Hid (decide (10000 ≤ 2 * (n % 10000)) = false) := Lib.hid (by simp; omega)
    go_wp2_with fail
    go_ret
    exact ⟨ret_bool HE.out.symm, hb⟩
  · rw [if_neg c1]
    have HE : Hid (decide (10000 ≤ 2 * (n % 10000)) = true) := Lib.hid (by simp; omega)
    by_cases c2 : n % 10000 = 5000
    · rw [if_pos c2]
      go_wp2_with fail
      go_ret
      exact ⟨ret_bool HE.out.symm, hb⟩
    · rw [if_neg c2]
      go_wp2_with fail
      go_ret
      exact ⟨ret_bool HE.out.symm, hb⟩
set_option maxRecDepth 100000 in
set_option maxHeartbeats 1000000 in
theorem rnd_rounded (n : Int) (w : World) (h0 : 0 ≤ n) (h1 : n ≤ 1000000000000000000) : Calls Try.prog 69 #[.agg #[.int .i64 (n / 10000), .int .i64 (n % 10000), .int .i64 10000, .bool false], .bool (decide (10000 ≤ 2 * (n % 10000)))] w
    (IntPost (rndV n) w) := by
  unfold IntPost
  have hb := Below.refl w.heap.size w
  by_cases c : 10000 ≤ 2 * (n % 10000)
  · have HE : Hid (rndV n = n / 10000 + 1) := Lib.hid (by unfold rndV; rw [if_pos c])
    have hd : decide (10000 ≤ 2 * (n % 10000)) = true := by simpa using c
    rw [hd]
    clear hd
    have hd2 : decide (0 < n % 10000) = true := by simp; omega
    go_enter Try.func69, Try.ntmps69
    go_wp2_with fail
    go_ret
    exact ⟨ret_int HE.out.symm, (by repeat (first | exact hb | refine Below.alloc ?_ (by have hbs := hb.size; first | omega | (simp; done) | (simp; omega)) _ | refine Below.drew ?_ | refine below_drewN_ ?_ _ | refine Below.setCell ?_ (by simp) _))⟩
  · have HE : Hid (rndV n = n / 10000) := Lib.hid (by unfold rndV; rw [if_neg c])
    have hd : decide (10000 ≤ 2 * (n % 10000)) = false := by simpa using c
    rw [hd]
    clear hd
    go_enter Try.func69, Try.ntmps69
    go_wp2_with fail
    go_ret
    exact ⟨ret_int HE.out.symm, (by repeat (first | exact hb | refine Below.alloc ?_ (by have hbs := hb.size; first | omega | (simp; done) | (simp; omega)) _ | refine Below.drew ?_ | refine below_drewN_ ?_ _ | refine Below.setCell ?_ (by simp) _))⟩
/-- the functions of the modes -/
def rndFs : Array Value := #[.func (.func 94) #[] #[], .func (.func 96) #[] #[], .func (.func 97) #[] #[], .func (.func 98) #[] #[], .func (.func 99) #[] #[], .func (.func 100) #[] #[]]
theorem rnd_fs_size : (Try.prog.info? 144).map (·.size) = some rndFs.size := by kernel_rfl
theorem rnd_fs_one : rndFs.all (·.oneCell') = true := by simp [rndFs, Value.oneCell']
set_option maxHeartbeats 1000000 in
theorem rnd_modes (w : World) : Calls Try.prog 70 #[] w
    (fun e w' => e = .returned (.agg rndFs) ∧ Below w.heap.size w w') := by
  have hb : Below w.heap.size w (w.alloc (.cells #[.nilFunc, .nilFunc, .nilFunc, .nilFunc, .nilFunc, .nilFunc] 144)) := (Below.refl _ _).alloc (Nat.le_refl _) _
  have HB := Lib.hid (Blk.new w 144 #[.nilFunc, .nilFunc, .nilFunc, .nilFunc, .nilFunc, .nilFunc])
  go_enter Try.func70, Try.ntmps70
  go_wp2_with (refine wpList_store_row rfl 144 (.tmp 0) (.tmp 1) rfl w.heap.size rndFs rfl rfl 144 _ HB.out rnd_fs_size rfl rnd_fs_one ?_)
  refine bodyPost_ret (v := .agg rndFs) (results_cell_row Try.results70 _ _ w.heap.size 144 rndFs (0, 0) _ rfl (setRow_heap _ _ _ _ _ _ HB.out) Try.underlying144 rfl (by kernel_rfl)) rfl ?_
  exact ⟨rfl, below_row hb (Nat.le_refl _)⟩
set_option maxRecDepth 100000 in
set_option maxHeartbeats 1000000 in
theorem rnd_round (n : Int) (w : World) (h0 : 0 ≤ n) (h1 : n ≤ 1000000000000000000) : Calls Try.prog 55 #[.int .i64 n, .int .i64 10000, .int .i64 0] w (IntPost (rndV n) w) := by
  unfold IntPost
  have hb := Below.refl w.heap.size w
  have KN := Lib.hid (fun W => rnd_new n W h0 h1)
  have KA := Lib.hid (fun W => rnd_away n W h0 h1)
  have KR := Lib.hid (fun W => rnd_rounded n W h0 h1)
  unfold IntPost at KR
  generalize decide (10000 ≤ 2 * (n % 10000)) = up at *
  generalize rndV n = r at *
  generalize n / 10000 = a0 at *
  generalize n % 10000 = a1 at *
  go_enter Try.func55, Try.ntmps55
  go_wp2_with (go_at_call 68; refine (KN.out _).mono ?_; rintro e w2 ⟨rfl, hb2⟩; replace hb := bel hb hb2; clear hb2)
  have HB := Lib.hid (Blk.new w2 140 #[.int .i64 a0, .int .i64 a1, .int .i64 10000, .bool false])
  have hb3 := hb.alloc hb.size (.cells #[.int .i64 a0, .int .i64 a1, .int .i64 10000, .bool false] 140)
  obtain ⟨g, hg⟩ : ∃ g, g = w2.heap.size := ⟨_, rfl⟩
  rw [← hg] at HB ⊢
  generalize w2.alloc (.cells #[.int .i64 a0, .int .i64 a1, .int .i64 10000, .bool false] 140) = W at *
  have p0 : ∀ d : Later W, d.now.cell? ⟨g, 0, none⟩ = some (.int .i64 a0) := fun d => d.cell HB.out.lt (HB.out.cell 0)
  have p1 : ∀ d : Later W, d.now.cell? ⟨g, 1, none⟩ = some (.int .i64 a1) := fun d => d.cell HB.out.lt (HB.out.cell 1)
  have p2 : ∀ d : Later W, d.now.cell? ⟨g, 2, none⟩ = some (.int .i64 10000) := fun d => d.cell HB.out.lt (HB.out.cell 2)
  have p3 : ∀ d : Later W, d.now.cell? ⟨g, 3, none⟩ = some (.bool false) := fun d => d.cell HB.out.lt (HB.out.cell 3)
  clear hg hb
  refine rel_begin (n := 8) (W) (by kernel_rfl) rfl ?_; have hC := Near.drew (W)
  (first | (refine rel_want (i := 0) rfl rfl (by kernel_rfl) (by kernel_rfl) (by kernel_rfl) rfl (fun _ _ _ _ h => h) hC ?_; intro K hK; go_big_quiet_op; go_big_quiet_on) | (refine rel_skip (i := 0) rfl (by kernel_rfl) (by kernel_rfl) (by kernel_rfl) rfl (fun _ _ _ _ h => h) hC ?_; simp only [Act.put, List.setIfInBounds_toArray, List.set_cons_zero, List.set_cons_succ]))
  (first | (refine rel_want (i := 2) rfl rfl (by kernel_rfl) (by kernel_rfl) (by kernel_rfl) rfl (fun _ _ _ _ h => h) hC ?_; intro K hK; go_big_quiet_op; go_big_quiet_on) | (refine rel_skip (i := 2) rfl (by kernel_rfl) (by kernel_rfl) (by kernel_rfl) rfl (fun _ _ _ _ h => h) hC ?_; simp only [Act.put, List.setIfInBounds_toArray, List.set_cons_zero, List.set_cons_succ]))
  (first | (refine rel_want (i := 4) rfl rfl (by kernel_rfl) (by kernel_rfl) (by kernel_rfl) rfl (fun _ _ _ _ h => h) hC ?_; intro K hK; go_big_quiet_op; go_big_quiet_on) | (refine rel_skip (i := 4) rfl (by kernel_rfl) (by kernel_rfl) (by kernel_rfl) rfl (fun _ _ _ _ h => h) hC ?_; simp only [Act.put, List.setIfInBounds_toArray, List.set_cons_zero, List.set_cons_succ]))
  refine rel_call (i := 1) (by kernel_rfl) rfl rfl ?_; intro K hK; go_simp; go_at_call 70; refine (rnd_modes _).mono ?_; rintro e w2 ⟨rfl, hb2⟩; (try go_wp2_with fail); replace hC := hC.on hb2; refine hK _ _ hC (fun _ => ?_); clear hK K; (try simp only [Act.put, List.setIfInBounds_toArray, List.set_cons_zero, List.set_cons_succ])
  simp only [rndFs]
  refine rel_call (i := 3) (by kernel_rfl) rfl rfl ?_
  intro K hK
  go_simp
  refine hK _ _ hC (fun _ => ?_)
  clear hK K
  (try simp only [Act.put, List.setIfInBounds_toArray, List.set_cons_zero, List.set_cons_succ])
  refine rel_call (i := 5) (by kernel_rfl) rfl rfl ?_; intro K hK; go_simp; go_at_call 94; refine (KA.out _).mono ?_; rintro e w2 ⟨rfl, hb2⟩; (try go_wp2_with fail); replace hC := hC.on hb2; refine hK _ _ hC (fun _ => ?_); clear hK K; (try simp only [Act.put, List.setIfInBounds_toArray, List.set_cons_zero, List.set_cons_succ])
  refine rel_call (i := 6) (by kernel_rfl) rfl rfl ?_; intro K hK; go_simp; go_at_call 69; refine (KR.out _).mono ?_; rintro e w2 ⟨rfl, hb2⟩; (try go_wp2_with fail); replace hC := hC.on hb2; refine hK _ _ hC (fun _ => ?_); clear hK K; (try simp only [Act.put, List.setIfInBounds_toArray, List.set_cons_zero, List.set_cons_succ])
  (first | (refine rel_want (i := 7) rfl rfl (by kernel_rfl) (by kernel_rfl) (by kernel_rfl) rfl (fun _ _ _ _ h => h) hC ?_; intro K hK; go_big_quiet_op; go_big_quiet_on) | (refine rel_skip (i := 7) rfl (by kernel_rfl) (by kernel_rfl) (by kernel_rfl) rfl (fun _ _ _ _ h => h) hC ?_; simp only [Act.put, List.setIfInBounds_toArray, List.set_cons_zero, List.set_cons_succ]))
  have hCb := hC.below
  refine wpAnyH_done (by kernel_rfl) ?_ _
  go_wp2_with fail
  go_ret
  exact ⟨ret_int rfl, bel hb3 hCb⟩
def RndPost (n : Int) (w : World) (e : Ending) (w' : World) : Prop := e = .returned (.tuple #[.int .i64 (rndV n), .int .i64 0]) ∧ Below w.heap.size w w'
set_option maxHeartbeats 1000000 in
theorem rnd_any (n : Int) (w : World) (h0 : 0 ≤ n) (h1 : n ≤ 1000000000000000000) : Calls Try.prog 37 #[.int .i64 n, .int .i64 10000, .int .i64 0] w (RndPost n w) := by
  unfold RndPost
  have hb := Below.refl w.heap.size w
  have KN := Lib.hid (fun W => rnd_round n W h0 h1)
  unfold IntPost at KN
  have d1 : decide (n < -1000000000000000000) = false := by simp; omega
  have d2 : decide (1000000000000000000 < n) = false := by simp; omega
  generalize rndV n = r at *
  go_enter Try.func37, Try.ntmps37
  go_wp2_with (go_at_call 54; refine (rnd_known _).mono ?_; rintro e w2 ⟨rfl, hb2⟩; replace hb := bel hb hb2; clear hb2)
  refine (KN.out _).mono ?_
  rintro e w3 ⟨rfl, hb2⟩
  replace hb := bel hb hb2
  go_wp2_with fail
  go_ret2
  exact ⟨rfl, hb⟩
end Go.Proofs.Ythfbpbbepogllaa
