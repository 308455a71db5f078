/- Texts of this claim, put together. -/
import Derived.Test.YthfbpbbepogllaaGreatCalWalksZ
/- The walks of the reference's calendar functions. -/
namespace Go.Proofs.YthfbpbbepogllaaGreat
set_option linter.unusedVariables false
set_option linter.unusedSimpArgs false
open Go.RowKit

theorem Cal.add_fd (Y M p : Int) (h : Dt.vld Y M 1 = true) : Dt.addV (Dt.num Y M 1) p = Cal.fdV (Cal.tm Y M p) ∧ Dt.addE (Dt.num Y M 1) p = Cal.fdE (Cal.tm Y M p) := by
  obtain ⟨c1, c2, c3⟩ := Dt.civ_eq _ Y M 1 h rfl
  have hD := Dt.isD_num Y M 1 h
  have hm : Dt.mon (Dt.num Y M 1) p = Cal.tm Y M p := by unfold Dt.mon Cal.tm; rw [c1, c2]
  have ha : Dt.addOk (Dt.num Y M 1) p = Cal.mok (Cal.tm Y M p) := by unfold Dt.addOk Cal.mok; rw [hD, hm]; rfl
  unfold Dt.addV Dt.addE Cal.fdV Cal.fdE
  rw [ha]
  by_cases hk : Cal.mok (Cal.tm Y M p) = true
  · simp only [if_pos hk]
    rw [Cal.mok_iff] at hk
    have v := Cal.fd_vld _ hk.1 hk.2
    rw [Dt.vld_iff] at v
    refine ⟨?_, by trivial⟩
    unfold Dt.addN Cal.fd
    rw [hm, c3, show min 1 (Dt.days (Cal.tm Y M p / 12) (Cal.tm Y M p % 12 + 1)) = 1 from by omega]
  · simp [if_neg hk]
theorem Cal.vld1 (Y M : Int) : Dt.vld Y M 1 = true ↔ 1900 ≤ Y ∧ Y ≤ 2199 ∧ 1 ≤ M ∧ M ≤ 12 := by
  rw [Dt.vld_iff]
  constructor
  · intro h; exact Dt.days_pos Y M (by omega)
  · intro ⟨h1, h2, h3, h4⟩
    rw [Dt.days_in Y M h1 h2 h3 h4]
    have l := Dt.lp_01 Y
    have := Dt.mlen_bd (Dt.lp Y) M (by omega) (by omega) h3 h4
    omega

set_option maxHeartbeats 1000000 in
theorem rcal_first (Y M P p : Int) (w : World) (h : Hid (Dt.vld Y M 1 = true)) :
    Calls Tryz.prog 65 #[.agg #[.int .i64 Y, .int .i64 M, .int .i64 P], .int .i64 p] w fun e w' => e = .returned (.tuple #[.int .i64 (Cal.fdV (Cal.tm Y M p)), .int .i64 (Cal.fdE (Cal.tm Y M p))]) ∧ Below w.heap.size w w' := by
  have HE := Lib.hid (Cal.add_fd Y M p h.out)
  have hb := Below.refl w.heap.size w
  go_enter Tryz.func65, Tryz.ntmps65
  go_wp2_with fail
  refine (rof_yes _ _ _ _ h.out).mono ?_; rintro e w2 ⟨rfl, rfl⟩
  go_wp2_with fail
  refine (radd_any _ _ _).mono ?_; rintro e w2 ⟨rfl, rfl⟩
  go_wp2_with fail
  go_ret2
  exact ⟨ret_pair HE.out, (by repeat (first | exact hb | refine Below.alloc ?_ (by have hbs := hb.size; first | omega | (simp; done) | (simp; omega)) _ | refine Below.drew ?_ | refine below_drewN_ ?_ _ | refine Below.setCell ?_ (by simp) _))⟩
set_option maxHeartbeats 1000000 in
theorem rcal_first_no (Y M P p : Int) (w : World) (h : Hid (Dt.vld Y M 1 = false)) :
    Calls Tryz.prog 65 #[.agg #[.int .i64 Y, .int .i64 M, .int .i64 P], .int .i64 p] w fun e w' => e = .returned (.tuple #[.int .i64 0, .int .i64 2]) ∧ Below w.heap.size w w' := by
  have hb := Below.refl w.heap.size w
  go_enter Tryz.func65, Tryz.ntmps65
  go_wp2_with fail
  refine (rof_no _ _ _ _ h.out).mono ?_; rintro e w2 ⟨rfl, rfl⟩
  go_wp2_with fail
  go_ret2
  exact ⟨rfl, (by repeat (first | exact hb | refine Below.alloc ?_ (by have hbs := hb.size; first | omega | (simp; done) | (simp; omega)) _ | refine Below.drew ?_ | refine below_drewN_ ?_ _ | refine Below.setCell ?_ (by simp) _))⟩

set_option maxHeartbeats 1000000 in
theorem rcal_valid (Y M P : Int) (w : World) :
    Calls Tryz.prog 78 #[.agg #[.int .i64 Y, .int .i64 M, .int .i64 P]] w fun e w' => e = .returned (.bool (Cal.ok Y M P)) ∧ Below w.heap.size w w' := by
  have hb := Below.refl w.heap.size w
  by_cases h : 1 ≤ P ∧ P ≤ 120
  · obtain ⟨p0, p1⟩ := h
    cases hv : Dt.vld Y M 1
    · have HF : Hid (Cal.ok Y M P = false) := Lib.hid ((Cal.ok_no Y M P).2 (fun k => by
        unfold Cal.okP at k
        have := (Cal.vld1 Y M).2 (by omega)
        rw [hv] at this; cases this))
      have HV := Lib.hid hv
      clear hv
      go_enter Tryz.func78, Tryz.ntmps78
      go_wp2_with fail
      refine (rcal_first_no Y M P _ _ HV).mono ?_; rintro e w2 ⟨rfl, hb2⟩; obtain ⟨hc2, -⟩ := bcell hb2; have hz2 := hb2.size; (try simp at hz2); (try have hy2 : w.heap.size < w2.heap.size := by omega); replace hb := bel' (w := w) hb2 (by repeat (first | exact hb | refine Below.alloc ?_ (by have hbs := hb.size; first | omega | (simp; done) | (simp; omega)) _ | refine Below.drew ?_ | refine below_drewN_ ?_ _ | refine Below.setCell ?_ (by simp) _)); clear hb2
      go_wp2_with fail
      go_ret
      exact ⟨by rw [HF.out]; rfl, hb⟩
    · have k := (Cal.vld1 Y M).1 hv
      have HE : Hid (∀ e, e = Cal.fdE (Cal.tm Y M (P - 1)) → (e == 0) = Cal.ok Y M P) := by
        refine Lib.hid (fun e he => ?_)
        rw [he]
        unfold Cal.fdE Cal.mok Cal.ok Cal.okP
        have : 22800 ≤ Cal.tm Y M (P - 1) := by unfold Cal.tm; omega
        by_cases h2 : Cal.tm Y M (P - 1) ≤ 26399
        · simp [*]
        · simp [*]
      have HV := Lib.hid hv
      clear hv k
      go_enter Tryz.func78, Tryz.ntmps78
      go_wp2_with fail
      refine (rcal_first Y M P _ _ HV).mono ?_; rintro e w2 ⟨rfl, hb2⟩; obtain ⟨hc2, -⟩ := bcell hb2; have hz2 := hb2.size; (try simp at hz2); (try have hy2 : w.heap.size < w2.heap.size := by omega); replace hb := bel' (w := w) hb2 (by repeat (first | exact hb | refine Below.alloc ?_ (by have hbs := hb.size; first | omega | (simp; done) | (simp; omega)) _ | refine Below.drew ?_ | refine below_drewN_ ?_ _ | refine Below.setCell ?_ (by simp) _)); clear hb2
      go_wp2_with fail
      go_ret
      exact ⟨ret_bool (HE.out _ rfl), hb⟩
  · have HF : Hid (Cal.ok Y M P = false) := Lib.hid ((Cal.ok_no Y M P).2 (by unfold Cal.okP; omega))
    by_cases c3 : P < 1
    · clear h
      go_enter Tryz.func78, Tryz.ntmps78
      go_wp2_with fail
      go_ret
      exact ⟨by rw [HF.out]; rfl, (by repeat (first | exact hb | refine Below.alloc ?_ (by have hbs := hb.size; first | omega | (simp; done) | (simp; omega)) _ | refine Below.drew ?_ | refine below_drewN_ ?_ _ | refine Below.setCell ?_ (by simp) _))⟩
    have c4 : 120 < P := by omega
    clear h
    go_enter Tryz.func78, Tryz.ntmps78
    go_wp2_with fail
    go_ret
    exact ⟨by rw [HF.out]; rfl, (by repeat (first | exact hb | refine Below.alloc ?_ (by have hbs := hb.size; first | omega | (simp; done) | (simp; omega)) _ | refine Below.drew ?_ | refine below_drewN_ ?_ _ | refine Below.setCell ?_ (by simp) _))⟩

theorem rcal_valid_is (Y M P : Int) (b : Bool) (w : World) (h : Hid (Cal.ok Y M P = b)) :
    Calls Tryz.prog 78 #[.agg #[.int .i64 Y, .int .i64 M, .int .i64 P]] w fun e w' => e = .returned (.bool b) ∧ Below w.heap.size w w' := by
  have := rcal_valid Y M P w
  rw [h.out] at this
  exact this

set_option maxHeartbeats 1000000 in
theorem rcal_check (Y M P p : Int) (w : World) :
    Calls Tryz.prog 46 #[.agg #[.int .i64 Y, .int .i64 M, .int .i64 P], .int .i64 p] w fun e w' => e = .returned (.int .i64 (Cal.ckE Y M P p)) ∧ Below w.heap.size w w' := by
  have hb := Below.refl w.heap.size w
  cases h : Cal.ok Y M P
  · have HF : Hid (Cal.ckE Y M P p = 1) := Lib.hid (by unfold Cal.ckE; rw [h]; rfl)
    have H := Lib.hid h
    clear h
    go_enter Tryz.func46, Tryz.ntmps46
    go_wp2_with fail
    refine (rcal_valid_is _ _ _ _ _ H).mono ?_; rintro e w2 ⟨rfl, hb2⟩; obtain ⟨hc2, -⟩ := bcell hb2; have hz2 := hb2.size; (try simp at hz2); (try have hy2 : w.heap.size < w2.heap.size := by omega); replace hb := bel' (w := w) hb2 (by repeat (first | exact hb | refine Below.alloc ?_ (by have hbs := hb.size; first | omega | (simp; done) | (simp; omega)) _ | refine Below.drew ?_ | refine below_drewN_ ?_ _ | refine Below.setCell ?_ (by simp) _)); clear hb2
    go_wp2_with fail
    go_ret
    exact ⟨by rw [HF.out]; rfl, hb⟩
  · have H := Lib.hid h
    by_cases c1 : p < 0
    · have HF : Hid (Cal.ckE Y M P p = 2) := Lib.hid (by unfold Cal.ckE; rw [h, if_pos rfl, if_neg (by omega)])
      clear h
      go_enter Tryz.func46, Tryz.ntmps46
      go_wp2_with fail
      refine (rcal_valid_is _ _ _ _ _ H).mono ?_; rintro e w2 ⟨rfl, hb2⟩; obtain ⟨hc2, -⟩ := bcell hb2; have hz2 := hb2.size; (try simp at hz2); (try have hy2 : w.heap.size < w2.heap.size := by omega); replace hb := bel' (w := w) hb2 (by repeat (first | exact hb | refine Below.alloc ?_ (by have hbs := hb.size; first | omega | (simp; done) | (simp; omega)) _ | refine Below.drew ?_ | refine below_drewN_ ?_ _ | refine Below.setCell ?_ (by simp) _)); clear hb2
      go_wp2_with fail
      go_ret
      exact ⟨by rw [HF.out]; rfl, hb⟩
    by_cases c2 : P ≤ p
    · have HF : Hid (Cal.ckE Y M P p = 2) := Lib.hid (by unfold Cal.ckE; rw [h, if_pos rfl, if_neg (by omega)])
      clear h
      go_enter Tryz.func46, Tryz.ntmps46
      go_wp2_with fail
      refine (rcal_valid_is _ _ _ _ _ H).mono ?_; rintro e w2 ⟨rfl, hb2⟩; obtain ⟨hc2, -⟩ := bcell hb2; have hz2 := hb2.size; (try simp at hz2); (try have hy2 : w.heap.size < w2.heap.size := by omega); replace hb := bel' (w := w) hb2 (by repeat (first | exact hb | refine Below.alloc ?_ (by have hbs := hb.size; first | omega | (simp; done) | (simp; omega)) _ | refine Below.drew ?_ | refine below_drewN_ ?_ _ | refine Below.setCell ?_ (by simp) _)); clear hb2
      go_wp2_with fail
      go_ret
      exact ⟨by rw [HF.out]; rfl, hb⟩
    · have HF : Hid (Cal.ckE Y M P p = 0) := Lib.hid (by unfold Cal.ckE; rw [h, if_pos rfl, if_pos (by omega)])
      clear h
      go_enter Tryz.func46, Tryz.ntmps46
      go_wp2_with fail
      refine (rcal_valid_is _ _ _ _ _ H).mono ?_; rintro e w2 ⟨rfl, hb2⟩; obtain ⟨hc2, -⟩ := bcell hb2; have hz2 := hb2.size; (try simp at hz2); (try have hy2 : w.heap.size < w2.heap.size := by omega); replace hb := bel' (w := w) hb2 (by repeat (first | exact hb | refine Below.alloc ?_ (by have hbs := hb.size; first | omega | (simp; done) | (simp; omega)) _ | refine Below.drew ?_ | refine below_drewN_ ?_ _ | refine Below.setCell ?_ (by simp) _)); clear hb2
      go_wp2_with fail
      go_ret
      exact ⟨by rw [HF.out]; rfl, hb⟩
theorem rcal_check_is (Y M P p x : Int) (w : World) (h : Hid (Cal.ckE Y M P p = x)) :
    Calls Tryz.prog 46 #[.agg #[.int .i64 Y, .int .i64 M, .int .i64 P], .int .i64 p] w fun e w' => e = .returned (.int .i64 x) ∧ Below w.heap.size w w' := by
  have := rcal_check Y M P p w
  rw [h.out] at this
  exact this
theorem rcal_first_ok (Y M P p : Int) (w : World) (h : Cal.okP Y M P) (h0 : 0 ≤ p) (h1 : p < P) :
    Calls Tryz.prog 65 #[.agg #[.int .i64 Y, .int .i64 M, .int .i64 P], .int .i64 p] w fun e w' => e = .returned (.tuple #[.int .i64 (Cal.fd (Cal.tm Y M p)), .int .i64 0]) ∧ Below w.heap.size w w' := by
  have t := Cal.tm_in Y M P p h h0 h1
  have hm : Cal.mok (Cal.tm Y M p) = true := (Cal.mok_iff _).2 t
  unfold Cal.okP at h
  have := rcal_first Y M P p w (Lib.hid ((Cal.vld1 Y M).2 (by omega)))
  unfold Cal.fdV Cal.fdE at this
  rw [hm] at this
  exact this

theorem rcivil_is (n : Int) (w : World) (h : Hid (Dt.isD n = true)) :
    Calls Tryz.prog 133 #[.int .i64 n] w fun e w' => e = .returned (.tuple #[.int .i64 (Dt.cY n), .int .i64 (Dt.cM n), .int .i64 (Dt.cD n), .int .i64 0]) ∧ w = w' :=
  rcivil_yes n w ((Dt.isD_iff n).1 h.out).1 ((Dt.isD_iff n).1 h.out).2
set_option maxHeartbeats 1000000 in
theorem rcal_First (Y M P p : Int) (w : World) :
    Calls Tryz.prog 31 #[.agg #[.int .i64 Y, .int .i64 M, .int .i64 P], .int .i64 p] w fun e w' => e = .returned (.tuple #[.int .i64 (Cal.fiV Y M P p), .int .i64 (Cal.ckE Y M P p)]) ∧ Below w.heap.size w w' := by
  have hb := Below.refl w.heap.size w
  by_cases h : Cal.ckE Y M P p = 0
  · obtain ⟨k0, k1, k2⟩ := (Cal.ck_zero Y M P p).1 h
    have HV : Hid (Cal.fiV Y M P p = Cal.fd (Cal.tm Y M p)) := Lib.hid (by unfold Cal.fiV; rw [if_pos h])
    have H := Lib.hid h
    have HK := Lib.hid k0
    clear h k0
    go_enter Tryz.func31, Tryz.ntmps31
    go_wp2_with fail
    refine (rcal_check_is _ _ _ _ _ _ H).mono ?_; rintro e w2 ⟨rfl, hb2⟩; obtain ⟨hc2, -⟩ := bcell hb2; have hz2 := hb2.size; (try simp at hz2); (try have hy2 : w.heap.size < w2.heap.size := by omega); replace hb := bel' (w := w) hb2 (by repeat (first | exact hb | refine Below.alloc ?_ (by have hbs := hb.size; first | omega | (simp; done) | (simp; omega)) _ | refine Below.drew ?_ | refine below_drewN_ ?_ _ | refine Below.setCell ?_ (by simp) _)); clear hb2
    go_wp2_with fail
    refine (rcal_first_ok _ _ _ _ _ HK.out k1 k2).mono ?_; rintro e w2 ⟨rfl, hb2⟩; obtain ⟨hc2, -⟩ := bcell hb2; have hz2 := hb2.size; (try simp at hz2); (try have hy2 : w.heap.size < w2.heap.size := by omega); replace hb := bel' (w := w) hb2 (by repeat (first | exact hb | refine Below.alloc ?_ (by have hbs := hb.size; first | omega | (simp; done) | (simp; omega)) _ | refine Below.drew ?_ | refine below_drewN_ ?_ _ | refine Below.setCell ?_ (by simp) _)); clear hb2
    go_wp2_with fail
    go_ret2
    exact ⟨by rw [HV.out, H.out]; rfl, hb⟩
  · have HV : Hid (Cal.fiV Y M P p = 0) := Lib.hid (by unfold Cal.fiV; rw [if_neg h])
    have h' : (Cal.ckE Y M P p != 0) = true := by rw [bne_iff_ne]; exact h
    clear h
    go_enter Tryz.func31, Tryz.ntmps31
    go_wp2_with fail
    refine (rcal_check _ _ _ _ _).mono ?_; rintro e w2 ⟨rfl, hb2⟩; obtain ⟨hc2, -⟩ := bcell hb2; have hz2 := hb2.size; (try simp at hz2); (try have hy2 : w.heap.size < w2.heap.size := by omega); replace hb := bel' (w := w) hb2 (by repeat (first | exact hb | refine Below.alloc ?_ (by have hbs := hb.size; first | omega | (simp; done) | (simp; omega)) _ | refine Below.drew ?_ | refine below_drewN_ ?_ _ | refine Below.setCell ?_ (by simp) _)); clear hb2
    go_wp2_with fail
    go_ret2
    exact ⟨by rw [HV.out]; rfl, hb⟩
theorem rcal_First_is (Y M P p v x : Int) (w : World) (h : Hid (Cal.fiV Y M P p = v)) (h2 : Hid (Cal.ckE Y M P p = x)) :
    Calls Tryz.prog 31 #[.agg #[.int .i64 Y, .int .i64 M, .int .i64 P], .int .i64 p] w fun e w' => e = .returned (.tuple #[.int .i64 v, .int .i64 x]) ∧ Below w.heap.size w w' := by
  have := rcal_First Y M P p w
  rw [h.out, h2.out] at this
  exact this

set_option maxHeartbeats 1000000 in
theorem rcal_Begin (Y M P p : Int) (w : World) :
    Calls Tryz.prog 93 #[.agg #[.int .i64 Y, .int .i64 M, .int .i64 P], .int .i64 p] w fun e w' => e = .returned (.tuple #[.int .i64 (Cal.beV Y M P p), .int .i64 (Cal.ckE Y M P p)]) ∧ Below w.heap.size w w' := by
  have hb := Below.refl w.heap.size w
  by_cases h : Cal.ckE Y M P p = 0
  · obtain ⟨k0, k1, k2⟩ := (Cal.ck_zero Y M P p).1 h
    have HV : Hid (Cal.beV Y M P p = Cal.fd (Cal.tm Y M (p - p % 12))) := Lib.hid (by unfold Cal.beV; rw [if_pos h])
    have H := Lib.hid h
    have k3 : P ≤ 120 := by unfold Cal.okP at k0; omega
    have hz : Cal.ckE Y M P (p - p % 12) = 0 := (Cal.ck_zero Y M P (p - p % 12)).2 ⟨k0, by omega, by omega⟩
    have HFE := Lib.hid hz
    have HFV : Hid (Cal.fiV Y M P (p - p % 12) = Cal.fd (Cal.tm Y M (p - p % 12))) := Lib.hid (by unfold Cal.fiV; rw [if_pos hz])
    clear h k0 hz
    go_enter Tryz.func93, Tryz.ntmps93
    go_wp2_with fail
    refine (rcal_check_is _ _ _ _ _ _ H).mono ?_; rintro e w2 ⟨rfl, hb2⟩; obtain ⟨hc2, -⟩ := bcell hb2; have hz2 := hb2.size; (try simp at hz2); (try have hy2 : w.heap.size < w2.heap.size := by omega); replace hb := bel' (w := w) hb2 (by repeat (first | exact hb | refine Below.alloc ?_ (by have hbs := hb.size; first | omega | (simp; done) | (simp; omega)) _ | refine Below.drew ?_ | refine below_drewN_ ?_ _ | refine Below.setCell ?_ (by simp) _)); clear hb2
    go_wp2_with fail
    refine (rcal_First_is _ _ _ _ _ _ _ HFV HFE).mono ?_; rintro e w2 ⟨rfl, hb2⟩; obtain ⟨hc2, -⟩ := bcell hb2; have hz2 := hb2.size; (try simp at hz2); (try have hy2 : w.heap.size < w2.heap.size := by omega); replace hb := bel' (w := w) hb2 (by repeat (first | exact hb | refine Below.alloc ?_ (by have hbs := hb.size; first | omega | (simp; done) | (simp; omega)) _ | refine Below.drew ?_ | refine below_drewN_ ?_ _ | refine Below.setCell ?_ (by simp) _)); clear hb2
    go_wp2_with fail
    go_ret2
    exact ⟨by rw [HV.out, H.out]; rfl, hb⟩
  · have HV : Hid (Cal.beV Y M P p = 0) := Lib.hid (by unfold Cal.beV; rw [if_neg h])
    have h' : (Cal.ckE Y M P p != 0) = true := by rw [bne_iff_ne]; exact h
    clear h
    go_enter Tryz.func93, Tryz.ntmps93
    go_wp2_with fail
    refine (rcal_check _ _ _ _ _).mono ?_; rintro e w2 ⟨rfl, hb2⟩; obtain ⟨hc2, -⟩ := bcell hb2; have hz2 := hb2.size; (try simp at hz2); (try have hy2 : w.heap.size < w2.heap.size := by omega); replace hb := bel' (w := w) hb2 (by repeat (first | exact hb | refine Below.alloc ?_ (by have hbs := hb.size; first | omega | (simp; done) | (simp; omega)) _ | refine Below.drew ?_ | refine below_drewN_ ?_ _ | refine Below.setCell ?_ (by simp) _)); clear hb2
    go_wp2_with fail
    go_ret2
    exact ⟨by rw [HV.out]; rfl, hb⟩

set_option maxHeartbeats 1000000 in
theorem rcal_Before (Y M P p : Int) (w : World) :
    Calls Tryz.prog 18 #[.agg #[.int .i64 Y, .int .i64 M, .int .i64 P], .int .i64 p] w fun e w' => e = .returned (.tuple #[.int .i64 (Cal.bfV Y M P p), .int .i64 (Cal.bfE Y M P p)]) ∧ Below w.heap.size w w' := by
  have hb := Below.refl w.heap.size w
  by_cases h : Cal.ckE Y M P p = 0
  · obtain ⟨k0, k1, k2⟩ := (Cal.ck_zero Y M P p).1 h
    have H := Lib.hid h
    have k3 : P ≤ 120 := by unfold Cal.okP at k0; omega
    clear k0
    by_cases h12 : p < 12
    · have HV : Hid (Cal.bfV Y M P p = 0) := Lib.hid (by unfold Cal.bfV; rw [if_pos h, if_pos h12])
      have HE : Hid (Cal.bfE Y M P p = 8) := Lib.hid (by unfold Cal.bfE; rw [if_pos h, if_pos h12])
      clear h
      go_enter Tryz.func18, Tryz.ntmps18
      go_wp2_with fail
      refine (rcal_check_is _ _ _ _ _ _ H).mono ?_; rintro e w2 ⟨rfl, hb2⟩; obtain ⟨hc2, -⟩ := bcell hb2; have hz2 := hb2.size; (try simp at hz2); (try have hy2 : w.heap.size < w2.heap.size := by omega); replace hb := bel' (w := w) hb2 (by repeat (first | exact hb | refine Below.alloc ?_ (by have hbs := hb.size; first | omega | (simp; done) | (simp; omega)) _ | refine Below.drew ?_ | refine below_drewN_ ?_ _ | refine Below.setCell ?_ (by simp) _)); clear hb2
      go_wp2_with fail
      go_ret2
      exact ⟨by rw [HV.out, HE.out]; rfl, hb⟩
    · have HV : Hid (Cal.bfV Y M P p = p - p % 12 - 1) := Lib.hid (by unfold Cal.bfV; rw [if_pos h, if_neg h12])
      have HE : Hid (Cal.bfE Y M P p = 0) := Lib.hid (by unfold Cal.bfE; rw [if_pos h, if_neg h12])
      clear h
      go_enter Tryz.func18, Tryz.ntmps18
      go_wp2_with fail
      refine (rcal_check_is _ _ _ _ _ _ H).mono ?_; rintro e w2 ⟨rfl, hb2⟩; obtain ⟨hc2, -⟩ := bcell hb2; have hz2 := hb2.size; (try simp at hz2); (try have hy2 : w.heap.size < w2.heap.size := by omega); replace hb := bel' (w := w) hb2 (by repeat (first | exact hb | refine Below.alloc ?_ (by have hbs := hb.size; first | omega | (simp; done) | (simp; omega)) _ | refine Below.drew ?_ | refine below_drewN_ ?_ _ | refine Below.setCell ?_ (by simp) _)); clear hb2
      go_wp2_with fail
      go_ret2
      exact ⟨by rw [HV.out, HE.out]; rfl, hb⟩
  · have HV : Hid (Cal.bfV Y M P p = 0) := Lib.hid (by unfold Cal.bfV; rw [if_neg h])
    have HE : Hid (Cal.bfE Y M P p = Cal.ckE Y M P p) := Lib.hid (by unfold Cal.bfE; rw [if_neg h])
    have h' : (Cal.ckE Y M P p != 0) = true := by rw [bne_iff_ne]; exact h
    clear h
    go_enter Tryz.func18, Tryz.ntmps18
    go_wp2_with fail
    refine (rcal_check _ _ _ _ _).mono ?_; rintro e w2 ⟨rfl, hb2⟩; obtain ⟨hc2, -⟩ := bcell hb2; have hz2 := hb2.size; (try simp at hz2); (try have hy2 : w.heap.size < w2.heap.size := by omega); replace hb := bel' (w := w) hb2 (by repeat (first | exact hb | refine Below.alloc ?_ (by have hbs := hb.size; first | omega | (simp; done) | (simp; omega)) _ | refine Below.drew ?_ | refine below_drewN_ ?_ _ | refine Below.setCell ?_ (by simp) _)); clear hb2
    go_wp2_with fail
    go_ret2
    exact ⟨by rw [HV.out, HE.out]; rfl, hb⟩


theorem Cal.in_period (Y M P d p : Int) (h : Cal.okP Y M P) (h0 : 0 ≤ p) (h1 : p < P) : (Cal.fd (Cal.tm Y M p) ≤ d ∧ d ≤ Cal.ld (Cal.tm Y M p)) ↔ (Dt.isD d = true ∧ Cal.pq Y M d = p) := by
  obtain ⟨t0, t1⟩ := Cal.tm_in Y M P p h h0 h1
  rw [Cal.in_month _ d t0 t1]
  unfold Cal.tm Cal.pq
  constructor
  · intro ⟨a, b⟩; exact ⟨a, by omega⟩
  · intro ⟨a, b⟩; exact ⟨a, by omega⟩

end Go.Proofs.YthfbpbbepogllaaGreat
