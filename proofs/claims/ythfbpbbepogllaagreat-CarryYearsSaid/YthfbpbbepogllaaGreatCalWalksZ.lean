/- Texts of this claim, put together. -/
import Derived.Test.YthfbpbbepogllaaGreatJAT
/- The walks of the calendar functions: what each call returns. -/
namespace Go.Proofs.YthfbpbbepogllaaGreat
set_option linter.unusedVariables false
set_option linter.unusedSimpArgs false
open Go.RowKit

set_option maxHeartbeats 1000000 in
theorem cal_first (Y M P p : Int) (w : World) (y0 : 1900 ≤ Y) (y1 : Y ≤ 2199) (m0 : 1 ≤ M) (m1 : M ≤ 12) (p0 : -200 ≤ p) (p1 : p ≤ 200) :
    Calls Tryz.prog 108 #[.agg #[.int .i64 Y, .int .i64 M, .int .i64 P], .int .i64 p] w fun e w' => e = .returned (.tuple #[.int .i64 (Cal.fdV (Cal.tm Y M p)), .int .i64 (Cal.fdE (Cal.tm Y M p))]) ∧ Below w.heap.size w w' := by
  have k := Cal.of_fd (Cal.tm Y M p) (by unfold Cal.tm; omega)
  have H1 : Hid (Dt.ofV ((12 * Y + M - 1 + p) / 12) ((12 * Y + M - 1 + p) % 12 + 1) 1 = Cal.fdV (Cal.tm Y M p)) := Lib.hid k.1
  have H2 : Hid (Dt.ofE ((12 * Y + M - 1 + p) / 12) ((12 * Y + M - 1 + p) % 12 + 1) 1 = Cal.fdE (Cal.tm Y M p)) := Lib.hid k.2
  clear k
  have hb := Below.refl w.heap.size w
  go_enter Tryz.func108, Tryz.ntmps108
  go_wp2_with fail
  refine (of_is _ _ 1 _ _ _ (by omega) (by omega) H1 H2).mono ?_; rintro e w2 ⟨rfl, hb2⟩; obtain ⟨hc2, -⟩ := bcell hb2; have hz2 := hb2.size; (try simp at hz2); (try have hy2 : w.heap.size < w2.heap.size := by omega); replace hb := bel' (w := w) hb2 (by repeat (first | exact hb | refine Below.alloc ?_ (by have hbs := hb.size; first | omega | (simp; done) | (simp; omega)) _ | refine Below.drew ?_ | refine below_drewN_ ?_ _ | refine Below.setCell ?_ (by simp) _)); clear hb2
  go_wp2_with fail
  go_ret2
  exact ⟨rfl, hb⟩

theorem Cal.fdE_eq (t : Int) : Cal.fdE t = if Cal.mok t then 0 else 2 := rfl

set_option maxHeartbeats 1000000 in
theorem cal_valid (Y M P : Int) (w : World) :
    Calls Tryz.prog 80 #[.agg #[.int .i64 Y, .int .i64 M, .int .i64 P]] w fun e w' => e = .returned (.bool (Cal.ok Y M P)) ∧ Below w.heap.size w w' := by
  by_cases h : 1 ≤ M ∧ M ≤ 12 ∧ 1 ≤ P ∧ P ≤ 120 ∧ 1900 ≤ Y ∧ Y ≤ 2199
  · obtain ⟨m0, m1, p0, p1, y0, y1⟩ := h
    have HE : Hid (∀ e, e = Cal.fdE (Cal.tm Y M (P - 1)) → (e == 0) = Cal.ok Y M P) := by
      refine Lib.hid (fun e he => ?_)
      rw [he]
      unfold Cal.fdE Cal.mok Cal.ok Cal.okP
      have : 22800 ≤ Cal.tm Y M (P - 1) := by unfold Cal.tm; omega
      by_cases h2 : Cal.tm Y M (P - 1) ≤ 26399
      · simp [*]
      · simp [*]
    have hb := Below.refl w.heap.size w
    go_enter Tryz.func80, Tryz.ntmps80
    go_wp2_with fail
    refine (cal_first Y M P _ _ y0 y1 m0 m1 (by omega) (by omega)).mono ?_; rintro e w2 ⟨rfl, hb2⟩; obtain ⟨hc2, -⟩ := bcell hb2; have hz2 := hb2.size; (try simp at hz2); (try have hy2 : w.heap.size < w2.heap.size := by omega); replace hb := bel' (w := w) hb2 (by repeat (first | exact hb | refine Below.alloc ?_ (by have hbs := hb.size; first | omega | (simp; done) | (simp; omega)) _ | refine Below.drew ?_ | refine below_drewN_ ?_ _ | refine Below.setCell ?_ (by simp) _)); clear hb2
    go_wp2_with fail
    go_ret
    exact ⟨ret_bool (HE.out _ rfl), hb⟩
  · have HF : Hid (Cal.ok Y M P = false) := Lib.hid ((Cal.ok_no Y M P).2 (by unfold Cal.okP; omega))
    have hb := Below.refl w.heap.size w
    by_cases c1 : M < 1
    · clear h
      go_enter Tryz.func80, Tryz.ntmps80
      go_wp2_with fail
      go_ret
      exact ⟨by rw [HF.out]; rfl, (by repeat (first | exact hb | refine Below.alloc ?_ (by have hbs := hb.size; first | omega | (simp; done) | (simp; omega)) _ | refine Below.drew ?_ | refine below_drewN_ ?_ _ | refine Below.setCell ?_ (by simp) _))⟩
    by_cases c2 : 12 < M
    · clear h
      go_enter Tryz.func80, Tryz.ntmps80
      go_wp2_with fail
      go_ret
      exact ⟨by rw [HF.out]; rfl, (by repeat (first | exact hb | refine Below.alloc ?_ (by have hbs := hb.size; first | omega | (simp; done) | (simp; omega)) _ | refine Below.drew ?_ | refine below_drewN_ ?_ _ | refine Below.setCell ?_ (by simp) _))⟩
    by_cases c3 : P < 1
    · clear h
      go_enter Tryz.func80, Tryz.ntmps80
      go_wp2_with fail
      go_ret
      exact ⟨by rw [HF.out]; rfl, (by repeat (first | exact hb | refine Below.alloc ?_ (by have hbs := hb.size; first | omega | (simp; done) | (simp; omega)) _ | refine Below.drew ?_ | refine below_drewN_ ?_ _ | refine Below.setCell ?_ (by simp) _))⟩
    by_cases c4 : 120 < P
    · clear h
      go_enter Tryz.func80, Tryz.ntmps80
      go_wp2_with fail
      go_ret
      exact ⟨by rw [HF.out]; rfl, (by repeat (first | exact hb | refine Below.alloc ?_ (by have hbs := hb.size; first | omega | (simp; done) | (simp; omega)) _ | refine Below.drew ?_ | refine below_drewN_ ?_ _ | refine Below.setCell ?_ (by simp) _))⟩
    by_cases c5 : Y < 1900
    · clear h
      go_enter Tryz.func80, Tryz.ntmps80
      go_wp2_with fail
      go_ret
      exact ⟨by rw [HF.out]; rfl, (by repeat (first | exact hb | refine Below.alloc ?_ (by have hbs := hb.size; first | omega | (simp; done) | (simp; omega)) _ | refine Below.drew ?_ | refine below_drewN_ ?_ _ | refine Below.setCell ?_ (by simp) _))⟩
    have c6 : 2199 < Y := by omega
    clear h
    go_enter Tryz.func80, Tryz.ntmps80
    go_wp2_with fail
    go_ret
    exact ⟨by rw [HF.out]; rfl, (by repeat (first | exact hb | refine Below.alloc ?_ (by have hbs := hb.size; first | omega | (simp; done) | (simp; omega)) _ | refine Below.drew ?_ | refine below_drewN_ ?_ _ | refine Below.setCell ?_ (by simp) _))⟩

theorem cal_valid_is (Y M P : Int) (b : Bool) (w : World) (h : Hid (Cal.ok Y M P = b)) :
    Calls Tryz.prog 80 #[.agg #[.int .i64 Y, .int .i64 M, .int .i64 P]] w fun e w' => e = .returned (.bool b) ∧ Below w.heap.size w w' := by
  have := cal_valid Y M P w
  rw [h.out] at this
  exact this

set_option maxHeartbeats 1000000 in
theorem cal_check (Y M P p : Int) (w : World) :
    Calls Tryz.prog 74 #[.agg #[.int .i64 Y, .int .i64 M, .int .i64 P], .int .i64 p] w fun e w' => e = .returned (.int .i64 (Cal.ckE Y M P p)) ∧ Below w.heap.size w w' := by
  have hb := Below.refl w.heap.size w
  cases h : Cal.ok Y M P
  · have HF : Hid (Cal.ckE Y M P p = 1) := Lib.hid (by unfold Cal.ckE; rw [h]; rfl)
    have H := Lib.hid h
    clear h
    go_enter Tryz.func74, Tryz.ntmps74
    go_wp2_with fail
    refine (cal_valid_is _ _ _ _ _ H).mono ?_; rintro e w2 ⟨rfl, hb2⟩; obtain ⟨hc2, -⟩ := bcell hb2; have hz2 := hb2.size; (try simp at hz2); (try have hy2 : w.heap.size < w2.heap.size := by omega); replace hb := bel' (w := w) hb2 (by repeat (first | exact hb | refine Below.alloc ?_ (by have hbs := hb.size; first | omega | (simp; done) | (simp; omega)) _ | refine Below.drew ?_ | refine below_drewN_ ?_ _ | refine Below.setCell ?_ (by simp) _)); clear hb2
    go_wp2_with fail
    go_ret
    exact ⟨by rw [HF.out]; rfl, hb⟩
  · have H := Lib.hid h
    by_cases c1 : p < 0
    · have HF : Hid (Cal.ckE Y M P p = 2) := Lib.hid (by unfold Cal.ckE; rw [h, if_pos rfl, if_neg (by omega)])
      clear h
      go_enter Tryz.func74, Tryz.ntmps74
      go_wp2_with fail
      refine (cal_valid_is _ _ _ _ _ H).mono ?_; rintro e w2 ⟨rfl, hb2⟩; obtain ⟨hc2, -⟩ := bcell hb2; have hz2 := hb2.size; (try simp at hz2); (try have hy2 : w.heap.size < w2.heap.size := by omega); replace hb := bel' (w := w) hb2 (by repeat (first | exact hb | refine Below.alloc ?_ (by have hbs := hb.size; first | omega | (simp; done) | (simp; omega)) _ | refine Below.drew ?_ | refine below_drewN_ ?_ _ | refine Below.setCell ?_ (by simp) _)); clear hb2
      go_wp2_with fail
      go_ret
      exact ⟨by rw [HF.out]; rfl, hb⟩
    by_cases c2 : P ≤ p
    · have HF : Hid (Cal.ckE Y M P p = 2) := Lib.hid (by unfold Cal.ckE; rw [h, if_pos rfl, if_neg (by omega)])
      clear h
      go_enter Tryz.func74, Tryz.ntmps74
      go_wp2_with fail
      refine (cal_valid_is _ _ _ _ _ H).mono ?_; rintro e w2 ⟨rfl, hb2⟩; obtain ⟨hc2, -⟩ := bcell hb2; have hz2 := hb2.size; (try simp at hz2); (try have hy2 : w.heap.size < w2.heap.size := by omega); replace hb := bel' (w := w) hb2 (by repeat (first | exact hb | refine Below.alloc ?_ (by have hbs := hb.size; first | omega | (simp; done) | (simp; omega)) _ | refine Below.drew ?_ | refine below_drewN_ ?_ _ | refine Below.setCell ?_ (by simp) _)); clear hb2
      go_wp2_with fail
      go_ret
      exact ⟨by rw [HF.out]; rfl, hb⟩
    · have HF : Hid (Cal.ckE Y M P p = 0) := Lib.hid (by unfold Cal.ckE; rw [h, if_pos rfl, if_pos (by omega)])
      clear h
      go_enter Tryz.func74, Tryz.ntmps74
      go_wp2_with fail
      refine (cal_valid_is _ _ _ _ _ H).mono ?_; rintro e w2 ⟨rfl, hb2⟩; obtain ⟨hc2, -⟩ := bcell hb2; have hz2 := hb2.size; (try simp at hz2); (try have hy2 : w.heap.size < w2.heap.size := by omega); replace hb := bel' (w := w) hb2 (by repeat (first | exact hb | refine Below.alloc ?_ (by have hbs := hb.size; first | omega | (simp; done) | (simp; omega)) _ | refine Below.drew ?_ | refine below_drewN_ ?_ _ | refine Below.setCell ?_ (by simp) _)); clear hb2
      go_wp2_with fail
      go_ret
      exact ⟨by rw [HF.out]; rfl, hb⟩
theorem cal_check_is (Y M P p x : Int) (w : World) (h : Hid (Cal.ckE Y M P p = x)) :
    Calls Tryz.prog 74 #[.agg #[.int .i64 Y, .int .i64 M, .int .i64 P], .int .i64 p] w fun e w' => e = .returned (.int .i64 x) ∧ Below w.heap.size w w' := by
  have := cal_check Y M P p w
  rw [h.out] at this
  exact this
theorem cal_first_ok (Y M P p : Int) (w : World) (h : Cal.okP Y M P) (h0 : 0 ≤ p) (h1 : p < P) :
    Calls Tryz.prog 108 #[.agg #[.int .i64 Y, .int .i64 M, .int .i64 P], .int .i64 p] w fun e w' => e = .returned (.tuple #[.int .i64 (Cal.fd (Cal.tm Y M p)), .int .i64 0]) ∧ Below w.heap.size w w' := by
  have t := Cal.tm_in Y M P p h h0 h1
  have hm : Cal.mok (Cal.tm Y M p) = true := (Cal.mok_iff _).2 t
  unfold Cal.okP at h
  have := cal_first Y M P p w (by omega) (by omega) (by omega) (by omega) (by omega) (by omega)
  unfold Cal.fdV Cal.fdE at this
  rw [hm] at this
  exact this

set_option maxHeartbeats 1000000 in
theorem cal_Begin (Y M P p : Int) (w : World) :
    Calls Tryz.prog 119 #[.agg #[.int .i64 Y, .int .i64 M, .int .i64 P], .int .i64 p] w fun e w' => e = .returned (.tuple #[.int .i64 (Cal.beV Y M P p), .int .i64 (Cal.ckE Y M P p)]) ∧ Below w.heap.size w w' := by
  have hb := Below.refl w.heap.size w
  by_cases h : Cal.ckE Y M P p = 0
  · obtain ⟨k0, k1, k2⟩ := (Cal.ck_zero Y M P p).1 h
    have HV : Hid (Cal.beV Y M P p = Cal.fd (Cal.tm Y M (p - p % 12))) := Lib.hid (by unfold Cal.beV; rw [if_pos h])
    have H := Lib.hid h
    have HK := Lib.hid k0
    have k3 : P ≤ 120 := by unfold Cal.okP at k0; omega
    clear h k0
    go_enter Tryz.func119, Tryz.ntmps119
    go_wp2_with fail
    refine (cal_check_is _ _ _ _ _ _ H).mono ?_; rintro e w2 ⟨rfl, hb2⟩; obtain ⟨hc2, -⟩ := bcell hb2; have hz2 := hb2.size; (try simp at hz2); (try have hy2 : w.heap.size < w2.heap.size := by omega); replace hb := bel' (w := w) hb2 (by repeat (first | exact hb | refine Below.alloc ?_ (by have hbs := hb.size; first | omega | (simp; done) | (simp; omega)) _ | refine Below.drew ?_ | refine below_drewN_ ?_ _ | refine Below.setCell ?_ (by simp) _)); clear hb2
    go_wp2_with fail
    refine (cal_first_ok _ _ _ _ _ HK.out (by omega) (by omega)).mono ?_; rintro e w2 ⟨rfl, hb2⟩; obtain ⟨hc2, -⟩ := bcell hb2; have hz2 := hb2.size; (try simp at hz2); (try have hy2 : w.heap.size < w2.heap.size := by omega); replace hb := bel' (w := w) hb2 (by repeat (first | exact hb | refine Below.alloc ?_ (by have hbs := hb.size; first | omega | (simp; done) | (simp; omega)) _ | refine Below.drew ?_ | refine below_drewN_ ?_ _ | refine Below.setCell ?_ (by simp) _)); clear hb2
    go_wp2_with fail
    go_ret2
    exact ⟨by rw [HV.out, H.out]; rfl, hb⟩
  · have HV : Hid (Cal.beV Y M P p = 0) := Lib.hid (by unfold Cal.beV; rw [if_neg h])
    have h' : (Cal.ckE Y M P p != 0) = true := by rw [bne_iff_ne]; exact h
    clear h
    go_enter Tryz.func119, Tryz.ntmps119
    go_wp2_with fail
    refine (cal_check _ _ _ _ _).mono ?_; rintro e w2 ⟨rfl, hb2⟩; obtain ⟨hc2, -⟩ := bcell hb2; have hz2 := hb2.size; (try simp at hz2); (try have hy2 : w.heap.size < w2.heap.size := by omega); replace hb := bel' (w := w) hb2 (by repeat (first | exact hb | refine Below.alloc ?_ (by have hbs := hb.size; first | omega | (simp; done) | (simp; omega)) _ | refine Below.drew ?_ | refine below_drewN_ ?_ _ | refine Below.setCell ?_ (by simp) _)); clear hb2
    go_wp2_with fail
    go_ret2
    exact ⟨by rw [HV.out]; rfl, hb⟩

set_option maxHeartbeats 1000000 in
theorem cal_Before (Y M P p : Int) (w : World) :
    Calls Tryz.prog 39 #[.agg #[.int .i64 Y, .int .i64 M, .int .i64 P], .int .i64 p] w fun e w' => e = .returned (.tuple #[.int .i64 (Cal.bfV Y M P p), .int .i64 (Cal.bfE Y M P p)]) ∧ Below w.heap.size w w' := by
  have hb := Below.refl w.heap.size w
  by_cases h : Cal.ckE Y M P p = 0
  · obtain ⟨k0, k1, k2⟩ := (Cal.ck_zero Y M P p).1 h
    have H := Lib.hid h
    have k3 : P ≤ 120 := by unfold Cal.okP at k0; omega
    clear k0
    by_cases h12 : p < 12
    · have HV : Hid (Cal.bfV Y M P p = 0) := Lib.hid (by unfold Cal.bfV; rw [if_pos h, if_pos h12])
      have HE : Hid (Cal.bfE Y M P p = 8) := Lib.hid (by unfold Cal.bfE; rw [if_pos h, if_pos h12])
      clear h
      go_enter Tryz.func39, Tryz.ntmps39
      go_wp2_with fail
      refine (cal_check_is _ _ _ _ _ _ H).mono ?_; rintro e w2 ⟨rfl, hb2⟩; obtain ⟨hc2, -⟩ := bcell hb2; have hz2 := hb2.size; (try simp at hz2); (try have hy2 : w.heap.size < w2.heap.size := by omega); replace hb := bel' (w := w) hb2 (by repeat (first | exact hb | refine Below.alloc ?_ (by have hbs := hb.size; first | omega | (simp; done) | (simp; omega)) _ | refine Below.drew ?_ | refine below_drewN_ ?_ _ | refine Below.setCell ?_ (by simp) _)); clear hb2
      go_wp2_with fail
      go_ret2
      exact ⟨by rw [HV.out, HE.out]; rfl, hb⟩
    · have HV : Hid (Cal.bfV Y M P p = p - p % 12 - 1) := Lib.hid (by unfold Cal.bfV; rw [if_pos h, if_neg h12])
      have HE : Hid (Cal.bfE Y M P p = 0) := Lib.hid (by unfold Cal.bfE; rw [if_pos h, if_neg h12])
      clear h
      go_enter Tryz.func39, Tryz.ntmps39
      go_wp2_with fail
      refine (cal_check_is _ _ _ _ _ _ H).mono ?_; rintro e w2 ⟨rfl, hb2⟩; obtain ⟨hc2, -⟩ := bcell hb2; have hz2 := hb2.size; (try simp at hz2); (try have hy2 : w.heap.size < w2.heap.size := by omega); replace hb := bel' (w := w) hb2 (by repeat (first | exact hb | refine Below.alloc ?_ (by have hbs := hb.size; first | omega | (simp; done) | (simp; omega)) _ | refine Below.drew ?_ | refine below_drewN_ ?_ _ | refine Below.setCell ?_ (by simp) _)); clear hb2
      go_wp2_with fail
      go_ret2
      exact ⟨by rw [HV.out, HE.out]; rfl, hb⟩
  · have HV : Hid (Cal.bfV Y M P p = 0) := Lib.hid (by unfold Cal.bfV; rw [if_neg h])
    have HE : Hid (Cal.bfE Y M P p = Cal.ckE Y M P p) := Lib.hid (by unfold Cal.bfE; rw [if_neg h])
    have h' : (Cal.ckE Y M P p != 0) = true := by rw [bne_iff_ne]; exact h
    clear h
    go_enter Tryz.func39, Tryz.ntmps39
    go_wp2_with fail
    refine (cal_check _ _ _ _ _).mono ?_; rintro e w2 ⟨rfl, hb2⟩; obtain ⟨hc2, -⟩ := bcell hb2; have hz2 := hb2.size; (try simp at hz2); (try have hy2 : w.heap.size < w2.heap.size := by omega); replace hb := bel' (w := w) hb2 (by repeat (first | exact hb | refine Below.alloc ?_ (by have hbs := hb.size; first | omega | (simp; done) | (simp; omega)) _ | refine Below.drew ?_ | refine below_drewN_ ?_ _ | refine Below.setCell ?_ (by simp) _)); clear hb2
    go_wp2_with fail
    go_ret2
    exact ⟨by rw [HV.out, HE.out]; rfl, hb⟩

end Go.Proofs.YthfbpbbepogllaaGreat
