/- Texts of this claim, put together. -/
import Derived.Test.YtnddoehhcpejjaaGreatJAM
/- Calendars: periods, fiscal years, their days. No Go and no program. -/
namespace Go.Proofs.YtnddoehhcpejjaaGreat.Cal
set_option linter.unusedVariables false
set_option linter.unusedSimpArgs false
open Go.Proofs.YtnddoehhcpejjaaGreat

/-- the month of a period, counted from year 0 -/
def tm (Y M p : Int) : Int := 12 * Y + M - 1 + p
/-- the first day of a month -/
def fd (t : Int) : Int := Dt.num (t / 12) (t % 12 + 1) 1
def okP (Y M P : Int) : Prop := 1 ≤ M ∧ M ≤ 12 ∧ 1 ≤ P ∧ P ≤ 120 ∧ 1900 ≤ Y ∧ Y ≤ 2199 ∧ tm Y M (P - 1) ≤ 26399
instance (Y M P : Int) : Decidable (okP Y M P) := by unfold okP; infer_instance
def ok (Y M P : Int) : Bool := decide (okP Y M P)
theorem ok_iff (Y M P : Int) : ok Y M P = true ↔ okP Y M P := by unfold ok; simp
theorem ok_no (Y M P : Int) : ok Y M P = false ↔ ¬ okP Y M P := by unfold ok; simp
def mok (t : Int) : Bool := decide (22800 ≤ t) && decide (t ≤ 26399)
theorem mok_iff (t : Int) : mok t = true ↔ 22800 ≤ t ∧ t ≤ 26399 := by unfold mok; simp
def fdV (t : Int) : Int := if mok t then fd t else 0
def fdE (t : Int) : Int := if mok t then 0 else 2
/-- the error of a calendar and a period -/
def ckE (Y M P p : Int) : Int := if ok Y M P then (if 0 ≤ p ∧ p < P then 0 else 2) else 1
def fiV (Y M P p : Int) : Int := if ckE Y M P p = 0 then fd (tm Y M p) else 0
def ld (t : Int) : Int := fd t + Dt.days (t / 12) (t % 12 + 1) - 1
def laV (Y M P p : Int) : Int := if ckE Y M P p = 0 then ld (tm Y M p) else 0
def yrV (Y M P p : Int) : Int := if ckE Y M P p = 0 then p / 12 else 0
def beV (Y M P p : Int) : Int := if ckE Y M P p = 0 then fd (tm Y M (p - p % 12)) else 0
def bfV (Y M P p : Int) : Int := if ckE Y M P p = 0 then (if p < 12 then 0 else p - p % 12 - 1) else 0
def bfE (Y M P p : Int) : Int := if ckE Y M P p = 0 then (if p < 12 then 8 else 0) else ckE Y M P p
/-- the period of a date -/
def pq (Y M d : Int) : Int := 12 * Dt.cY d + Dt.cM d - 12 * Y - M
def peB (Y M P d : Int) : Bool := Dt.isD d && (decide (0 ≤ pq Y M d) && decide (pq Y M d < P))
def peV (Y M P d : Int) : Int := if ok Y M P && peB Y M P d then pq Y M d else 0
def peE (Y M P d : Int) : Int := if ok Y M P then (if peB Y M P d then 0 else 2) else 1
def naV (Y M P p : Int) : List UInt8 := if ckE Y M P p = 0 then (Dt.txV (fd (tm Y M p))).take 7 else []

theorem ck_01 (Y M P p : Int) : ckE Y M P p = 0 ∨ ckE Y M P p = 1 ∨ ckE Y M P p = 2 := by
  unfold ckE; split
  · split <;> simp
  · simp
theorem ck_zero (Y M P p : Int) : ckE Y M P p = 0 ↔ okP Y M P ∧ 0 ≤ p ∧ p < P := by
  unfold ckE
  by_cases h : ok Y M P = true
  · rw [if_pos h]
    rw [ok_iff] at h
    split <;> simp_all
  · rw [if_neg h]
    rw [ok_iff] at h
    simp [h]
/-- the months of a calendar's periods lie in the table -/
theorem tm_in (Y M P p : Int) (h : okP Y M P) (h0 : 0 ≤ p) (h1 : p < P) : 22800 ≤ tm Y M p ∧ tm Y M p ≤ 26399 := by
  unfold okP at h
  unfold tm at h ⊢
  omega
theorem fd_vld (t : Int) (h0 : 22800 ≤ t) (h1 : t ≤ 26399) : Dt.vld (t / 12) (t % 12 + 1) 1 = true := by
  rw [Dt.vld_iff, Dt.days_in _ _ (by omega) (by omega) (by omega) (by omega)]
  have l := Dt.lp_01 (t / 12)
  have := Dt.mlen_bd (Dt.lp (t / 12)) (t % 12 + 1) (by omega) (by omega) (by omega) (by omega)
  omega
theorem of_fd (t : Int) (h : 18000 ≤ t) : Dt.ofV (t / 12) (t % 12 + 1) 1 = fdV t ∧ Dt.ofE (t / 12) (t % 12 + 1) 1 = fdE t := by
  unfold Dt.ofV Dt.ofE fdV fdE
  by_cases hm : mok t = true
  · rw [if_pos hm, if_pos hm]
    rw [mok_iff] at hm
    rw [fd_vld t hm.1 hm.2]
    exact ⟨rfl, rfl⟩
  · rw [if_neg hm, if_neg hm]
    rw [mok_iff] at hm
    have : Dt.vld (t / 12) (t % 12 + 1) 1 = false := by
      rw [← Bool.not_eq_true, Dt.vld_iff]
      unfold Dt.days
      rw [if_pos (by omega)]
      omega
    rw [this]
    exact ⟨rfl, rfl⟩
theorem civ_fd (t : Int) (h0 : 22800 ≤ t) (h1 : t ≤ 26399) : Dt.isD (fd t) = true ∧ Dt.cY (fd t) = t / 12 ∧ Dt.cM (fd t) = t % 12 + 1 ∧ Dt.cD (fd t) = 1 := by
  have v := fd_vld t h0 h1
  exact ⟨Dt.isD_num _ _ _ v, Dt.civ_eq _ _ _ _ v rfl⟩
theorem fd_of (Y M : Int) (h : 1 ≤ M) (h2 : M ≤ 12) : Dt.num Y M 1 = fd (tm Y M 0) := by
  unfold fd tm
  rw [show (12 * Y + M - 1 + 0) / 12 = Y from by omega, show (12 * Y + M - 1 + 0) % 12 + 1 = M from by omega]
/-- the first day of the next month is the day after the last one -/
theorem fd_next (t : Int) (h0 : 22800 ≤ t) (h1 : t ≤ 26398) : fd (t + 1) = ld t + 1 := by
  unfold ld fd
  have l := Dt.lp_01 (t / 12)
  have dd := Dt.days_in (t / 12) (t % 12 + 1) (by omega) (by omega) (by omega) (by omega)
  have ms := Dt.mcum_succ (Dt.lp (t / 12)) (t % 12 + 1) (by omega) (by omega)
  by_cases hm : t % 12 = 11
  · rw [show (t + 1) / 12 = t / 12 + 1 from by omega, show (t + 1) % 12 + 1 = 1 from by omega, dd]
    have s := Dt.dby_succ (t / 12)
    rw [show t % 12 + 1 = 12 from by omega] at *
    have h13 := Dt.mcum_13 (Dt.lp (t / 12))
    unfold Dt.num
    rw [Dt.mcum_1]
    rw [show (12 : Int) + 1 = 13 from rfl] at ms
    omega
  · rw [show (t + 1) / 12 = t / 12 from by omega, show (t + 1) % 12 + 1 = t % 12 + 1 + 1 from by omega, dd]
    unfold Dt.num
    omega
theorem fd_ld (t : Int) (h0 : 22800 ≤ t) (h1 : t ≤ 26399) : fd t + 27 ≤ ld t := by
  unfold ld
  have v := fd_vld t h0 h1
  rw [Dt.vld_iff] at v
  have := Dt.days_lo (t / 12) (t % 12 + 1) (by omega)
  omega
theorem fd_bd (t : Int) (h0 : 22800 ≤ t) (h1 : t ≤ 26399) : -25567 ≤ fd t ∧ fd t ≤ 84005 := Dt.num_range _ _ _ (fd_vld t h0 h1)
/-- the day d lies in the month t exactly if t is the month of d -/
theorem in_month (t d : Int) (h0 : 22800 ≤ t) (h1 : t ≤ 26399) : (fd t ≤ d ∧ d ≤ ld t) ↔ (Dt.isD d = true ∧ 12 * Dt.cY d + Dt.cM d - 1 = t) := by
  have v := fd_vld t h0 h1
  have d0 := Dt.days_bd (t / 12) (t % 12 + 1)
  constructor
  · intro ⟨ha, hb⟩
    have v2 : Dt.vld (t / 12) (t % 12 + 1) (d - fd t + 1) = true := by
      rw [Dt.vld_iff]; unfold ld at hb; omega
    have e : Dt.num (t / 12) (t % 12 + 1) (d - fd t + 1) = d := by
      unfold fd Dt.num; omega
    have r := Dt.num_range _ _ _ v2
    rw [e] at r
    obtain ⟨c1, c2, _⟩ := Dt.civ_eq d _ _ _ v2 e
    exact ⟨(Dt.isD_iff d).2 r, by rw [c1, c2]; omega⟩
  · intro ⟨hD, ht⟩
    have c := Dt.cY_bd d hD
    have e1 : t / 12 = Dt.cY d := by omega
    have e2 : t % 12 + 1 = Dt.cM d := by omega
    have n := (Dt.of_civ d hD).2
    unfold ld fd
    rw [e1, e2]
    unfold Dt.num at n ⊢
    omega
theorem fd_inj (s t : Int) (s0 : 22800 ≤ s) (s1 : s ≤ 26399) (t0 : 22800 ≤ t) (t1 : t ≤ 26399) (h : fd s = fd t) : s = t := by
  obtain ⟨_, a2, a3, _⟩ := civ_fd s s0 s1
  obtain ⟨_, b2, b3, _⟩ := civ_fd t t0 t1
  rw [h] at a2 a3
  omega
theorem fd_mono (n : Nat) : ∀ (s : Int), 22800 ≤ s → s + n ≤ 26399 → fd s ≤ fd (s + n) := by
  induction n with
  | zero => intro s _ _; simp
  | succ n ih =>
    intro s h0 h1
    have a := ih s h0 (by omega)
    have b := fd_next (s + n) (by omega) (by omega)
    have c := fd_ld (s + n) (by omega) (by omega)
    rw [show s + ((n + 1 : Nat) : Int) = s + n + 1 from by omega]
    omega
theorem fd_le (s t : Int) (h0 : 22800 ≤ s) (h : s ≤ t) (h1 : t ≤ 26399) : fd s ≤ fd t := by
  obtain ⟨n, hn⟩ := Int.eq_ofNat_of_zero_le (show 0 ≤ t - s by omega)
  have := fd_mono n s h0 (by omega)
  rwa [show s + (n : Int) = t from by omega] at this
end Go.Proofs.YtnddoehhcpejjaaGreat.Cal
/- The walks of the calendar functions: what each call returns. -/
namespace Go.Proofs.YtnddoehhcpejjaaGreat
set_option linter.unusedVariables false
set_option linter.unusedSimpArgs false
open Go.RowKit

set_option maxHeartbeats 1000000 in
theorem cal_first (Y M P p : Int) (w : World) (y0 : 1900 ≤ Y) (y1 : Y ≤ 2199) (m0 : 1 ≤ M) (m1 : M ≤ 12) (p0 : -200 ≤ p) (p1 : p ≤ 200) :
    Calls Tryz.prog 44 #[.agg #[.int .i64 Y, .int .i64 M, .int .i64 P], .int .i64 p] w fun e w' => e = .returned (.tuple #[.int .i64 (Cal.fdV (Cal.tm Y M p)), .int .i64 (Cal.fdE (Cal.tm Y M p))]) ∧ Below w.heap.size w w' := by
  have k := Cal.of_fd (Cal.tm Y M p) (by unfold Cal.tm; omega)
  have H1 : Hid (Dt.ofV ((12 * Y + M - 1 + p) / 12) ((12 * Y + M - 1 + p) % 12 + 1) 1 = Cal.fdV (Cal.tm Y M p)) := Lib.hid k.1
  have H2 : Hid (Dt.ofE ((12 * Y + M - 1 + p) / 12) ((12 * Y + M - 1 + p) % 12 + 1) 1 = Cal.fdE (Cal.tm Y M p)) := Lib.hid k.2
  clear k
  have hb := Below.refl w.heap.size w
  go_enter Tryz.func44, Tryz.ntmps44
  go_wp2_with fail
  refine (of_is _ _ 1 _ _ _ (by omega) (by omega) H1 H2).mono ?_; rintro e w2 ⟨rfl, hb2⟩; obtain ⟨hc2, -⟩ := bcell hb2; have hz2 := hb2.size; (try simp at hz2); (try have hy2 : w.heap.size < w2.heap.size := by omega); replace hb := bel' (w := w) hb2 (by repeat (first | exact hb | refine Below.alloc ?_ (by have hbs := hb.size; first | omega | (simp; done) | (simp; omega)) _ | refine Below.drew ?_ | refine below_drewN_ ?_ _ | refine Below.setCell ?_ (by simp) _)); clear hb2
  go_wp2_with fail
  go_ret2
  exact ⟨rfl, hb⟩

theorem Cal.fdE_eq (t : Int) : Cal.fdE t = if Cal.mok t then 0 else 2 := rfl

set_option maxHeartbeats 1000000 in
theorem cal_valid (Y M P : Int) (w : World) :
    Calls Tryz.prog 58 #[.agg #[.int .i64 Y, .int .i64 M, .int .i64 P]] w fun e w' => e = .returned (.bool (Cal.ok Y M P)) ∧ Below w.heap.size w w' := by
  by_cases h : 1 ≤ M ∧ M ≤ 12 ∧ 1 ≤ P ∧ P ≤ 120 ∧ 1900 ≤ Y ∧ Y ≤ 2199
  · obtain ⟨m0, m1, p0, p1, y0, y1⟩ := h
    have HE : Hid (∀ e, e = Cal.fdE (Cal.tm Y M (P - 1)) → (e == 0) = Cal.ok Y M P) := by
      refine Lib.hid (fun e he => ?_)
      rw [he]
      unfold Cal.fdE Cal.mok Cal.ok Cal.okP
      have : 22800 ≤ Cal.tm Y M (P - 1) := by unfold Cal.tm; omega
      by_cases h2 : Cal.tm Y M (P - 1) ≤ 26399
      · simp [*]
      · simp [*]
    have hb := Below.refl w.heap.size w
    go_enter Tryz.func58, Tryz.ntmps58
    go_wp2_with fail
    refine (cal_first Y M P _ _ y0 y1 m0 m1 (by omega) (by omega)).mono ?_; rintro e w2 ⟨rfl, hb2⟩; obtain ⟨hc2, -⟩ := bcell hb2; have hz2 := hb2.size; (try simp at hz2); (try have hy2 : w.heap.size < w2.heap.size := by omega); replace hb := bel' (w := w) hb2 (by repeat (first | exact hb | refine Below.alloc ?_ (by have hbs := hb.size; first | omega | (simp; done) | (simp; omega)) _ | refine Below.drew ?_ | refine below_drewN_ ?_ _ | refine Below.setCell ?_ (by simp) _)); clear hb2
    go_wp2_with fail
    go_ret
    exact ⟨ret_bool (HE.out _ rfl), hb⟩
  · have HF : Hid (Cal.ok Y M P = false) := Lib.hid ((Cal.ok_no Y M P).2 (by unfold Cal.okP; omega))
    have hb := Below.refl w.heap.size w
    by_cases c1 : M < 1
    · clear h
      go_enter Tryz.func58, Tryz.ntmps58
      go_wp2_with fail
      go_ret
      exact ⟨by rw [HF.out]; rfl, (by repeat (first | exact hb | refine Below.alloc ?_ (by have hbs := hb.size; first | omega | (simp; done) | (simp; omega)) _ | refine Below.drew ?_ | refine below_drewN_ ?_ _ | refine Below.setCell ?_ (by simp) _))⟩
    by_cases c2 : 12 < M
    · clear h
      go_enter Tryz.func58, Tryz.ntmps58
      go_wp2_with fail
      go_ret
      exact ⟨by rw [HF.out]; rfl, (by repeat (first | exact hb | refine Below.alloc ?_ (by have hbs := hb.size; first | omega | (simp; done) | (simp; omega)) _ | refine Below.drew ?_ | refine below_drewN_ ?_ _ | refine Below.setCell ?_ (by simp) _))⟩
    by_cases c3 : P < 1
    · clear h
      go_enter Tryz.func58, Tryz.ntmps58
      go_wp2_with fail
      go_ret
      exact ⟨by rw [HF.out]; rfl, (by repeat (first | exact hb | refine Below.alloc ?_ (by have hbs := hb.size; first | omega | (simp; done) | (simp; omega)) _ | refine Below.drew ?_ | refine below_drewN_ ?_ _ | refine Below.setCell ?_ (by simp) _))⟩
    by_cases c4 : 120 < P
    · clear h
      go_enter Tryz.func58, Tryz.ntmps58
      go_wp2_with fail
      go_ret
      exact ⟨by rw [HF.out]; rfl, (by repeat (first | exact hb | refine Below.alloc ?_ (by have hbs := hb.size; first | omega | (simp; done) | (simp; omega)) _ | refine Below.drew ?_ | refine below_drewN_ ?_ _ | refine Below.setCell ?_ (by simp) _))⟩
    by_cases c5 : Y < 1900
    · clear h
      go_enter Tryz.func58, Tryz.ntmps58
      go_wp2_with fail
      go_ret
      exact ⟨by rw [HF.out]; rfl, (by repeat (first | exact hb | refine Below.alloc ?_ (by have hbs := hb.size; first | omega | (simp; done) | (simp; omega)) _ | refine Below.drew ?_ | refine below_drewN_ ?_ _ | refine Below.setCell ?_ (by simp) _))⟩
    have c6 : 2199 < Y := by omega
    clear h
    go_enter Tryz.func58, Tryz.ntmps58
    go_wp2_with fail
    go_ret
    exact ⟨by rw [HF.out]; rfl, (by repeat (first | exact hb | refine Below.alloc ?_ (by have hbs := hb.size; first | omega | (simp; done) | (simp; omega)) _ | refine Below.drew ?_ | refine below_drewN_ ?_ _ | refine Below.setCell ?_ (by simp) _))⟩

theorem cal_valid_is (Y M P : Int) (b : Bool) (w : World) (h : Hid (Cal.ok Y M P = b)) :
    Calls Tryz.prog 58 #[.agg #[.int .i64 Y, .int .i64 M, .int .i64 P]] w fun e w' => e = .returned (.bool b) ∧ Below w.heap.size w w' := by
  have := cal_valid Y M P w
  rw [h.out] at this
  exact this

set_option maxHeartbeats 1000000 in
theorem cal_check (Y M P p : Int) (w : World) :
    Calls Tryz.prog 43 #[.agg #[.int .i64 Y, .int .i64 M, .int .i64 P], .int .i64 p] w fun e w' => e = .returned (.int .i64 (Cal.ckE Y M P p)) ∧ Below w.heap.size w w' := by
  have hb := Below.refl w.heap.size w
  cases h : Cal.ok Y M P
  · have HF : Hid (Cal.ckE Y M P p = 1) := Lib.hid (by unfold Cal.ckE; rw [h]; rfl)
    have H := Lib.hid h
    clear h
    go_enter Tryz.func43, Tryz.ntmps43
    go_wp2_with fail
    refine (cal_valid_is _ _ _ _ _ H).mono ?_; rintro e w2 ⟨rfl, hb2⟩; obtain ⟨hc2, -⟩ := bcell hb2; have hz2 := hb2.size; (try simp at hz2); (try have hy2 : w.heap.size < w2.heap.size := by omega); replace hb := bel' (w := w) hb2 (by repeat (first | exact hb | refine Below.alloc ?_ (by have hbs := hb.size; first | omega | (simp; done) | (simp; omega)) _ | refine Below.drew ?_ | refine below_drewN_ ?_ _ | refine Below.setCell ?_ (by simp) _)); clear hb2
    go_wp2_with fail
    go_ret
    exact ⟨by rw [HF.out]; rfl, hb⟩
  · have H := Lib.hid h
    by_cases c1 : p < 0
    · have HF : Hid (Cal.ckE Y M P p = 2) := Lib.hid (by unfold Cal.ckE; rw [h, if_pos rfl, if_neg (by omega)])
      clear h
      go_enter Tryz.func43, Tryz.ntmps43
      go_wp2_with fail
      refine (cal_valid_is _ _ _ _ _ H).mono ?_; rintro e w2 ⟨rfl, hb2⟩; obtain ⟨hc2, -⟩ := bcell hb2; have hz2 := hb2.size; (try simp at hz2); (try have hy2 : w.heap.size < w2.heap.size := by omega); replace hb := bel' (w := w) hb2 (by repeat (first | exact hb | refine Below.alloc ?_ (by have hbs := hb.size; first | omega | (simp; done) | (simp; omega)) _ | refine Below.drew ?_ | refine below_drewN_ ?_ _ | refine Below.setCell ?_ (by simp) _)); clear hb2
      go_wp2_with fail
      go_ret
      exact ⟨by rw [HF.out]; rfl, hb⟩
    by_cases c2 : P ≤ p
    · have HF : Hid (Cal.ckE Y M P p = 2) := Lib.hid (by unfold Cal.ckE; rw [h, if_pos rfl, if_neg (by omega)])
      clear h
      go_enter Tryz.func43, Tryz.ntmps43
      go_wp2_with fail
      refine (cal_valid_is _ _ _ _ _ H).mono ?_; rintro e w2 ⟨rfl, hb2⟩; obtain ⟨hc2, -⟩ := bcell hb2; have hz2 := hb2.size; (try simp at hz2); (try have hy2 : w.heap.size < w2.heap.size := by omega); replace hb := bel' (w := w) hb2 (by repeat (first | exact hb | refine Below.alloc ?_ (by have hbs := hb.size; first | omega | (simp; done) | (simp; omega)) _ | refine Below.drew ?_ | refine below_drewN_ ?_ _ | refine Below.setCell ?_ (by simp) _)); clear hb2
      go_wp2_with fail
      go_ret
      exact ⟨by rw [HF.out]; rfl, hb⟩
    · have HF : Hid (Cal.ckE Y M P p = 0) := Lib.hid (by unfold Cal.ckE; rw [h, if_pos rfl, if_pos (by omega)])
      clear h
      go_enter Tryz.func43, Tryz.ntmps43
      go_wp2_with fail
      refine (cal_valid_is _ _ _ _ _ H).mono ?_; rintro e w2 ⟨rfl, hb2⟩; obtain ⟨hc2, -⟩ := bcell hb2; have hz2 := hb2.size; (try simp at hz2); (try have hy2 : w.heap.size < w2.heap.size := by omega); replace hb := bel' (w := w) hb2 (by repeat (first | exact hb | refine Below.alloc ?_ (by have hbs := hb.size; first | omega | (simp; done) | (simp; omega)) _ | refine Below.drew ?_ | refine below_drewN_ ?_ _ | refine Below.setCell ?_ (by simp) _)); clear hb2
      go_wp2_with fail
      go_ret
      exact ⟨by rw [HF.out]; rfl, hb⟩
theorem cal_check_is (Y M P p x : Int) (w : World) (h : Hid (Cal.ckE Y M P p = x)) :
    Calls Tryz.prog 43 #[.agg #[.int .i64 Y, .int .i64 M, .int .i64 P], .int .i64 p] w fun e w' => e = .returned (.int .i64 x) ∧ Below w.heap.size w w' := by
  have := cal_check Y M P p w
  rw [h.out] at this
  exact this
theorem cal_first_ok (Y M P p : Int) (w : World) (h : Cal.okP Y M P) (h0 : 0 ≤ p) (h1 : p < P) :
    Calls Tryz.prog 44 #[.agg #[.int .i64 Y, .int .i64 M, .int .i64 P], .int .i64 p] w fun e w' => e = .returned (.tuple #[.int .i64 (Cal.fd (Cal.tm Y M p)), .int .i64 0]) ∧ Below w.heap.size w w' := by
  have t := Cal.tm_in Y M P p h h0 h1
  have hm : Cal.mok (Cal.tm Y M p) = true := (Cal.mok_iff _).2 t
  unfold Cal.okP at h
  have := cal_first Y M P p w (by omega) (by omega) (by omega) (by omega) (by omega) (by omega)
  unfold Cal.fdV Cal.fdE at this
  rw [hm] at this
  exact this

set_option maxHeartbeats 1000000 in
theorem cal_First (Y M P p : Int) (w : World) :
    Calls Tryz.prog 27 #[.agg #[.int .i64 Y, .int .i64 M, .int .i64 P], .int .i64 p] w fun e w' => e = .returned (.tuple #[.int .i64 (Cal.fiV Y M P p), .int .i64 (Cal.ckE Y M P p)]) ∧ Below w.heap.size w w' := by
  have hb := Below.refl w.heap.size w
  by_cases h : Cal.ckE Y M P p = 0
  · obtain ⟨k0, k1, k2⟩ := (Cal.ck_zero Y M P p).1 h
    have HV : Hid (Cal.fiV Y M P p = Cal.fd (Cal.tm Y M p)) := Lib.hid (by unfold Cal.fiV; rw [if_pos h])
    have H := Lib.hid h
    have HK := Lib.hid k0
    clear h k0
    go_enter Tryz.func27, Tryz.ntmps27
    go_wp2_with fail
    refine (cal_check_is _ _ _ _ _ _ H).mono ?_; rintro e w2 ⟨rfl, hb2⟩; obtain ⟨hc2, -⟩ := bcell hb2; have hz2 := hb2.size; (try simp at hz2); (try have hy2 : w.heap.size < w2.heap.size := by omega); replace hb := bel' (w := w) hb2 (by repeat (first | exact hb | refine Below.alloc ?_ (by have hbs := hb.size; first | omega | (simp; done) | (simp; omega)) _ | refine Below.drew ?_ | refine below_drewN_ ?_ _ | refine Below.setCell ?_ (by simp) _)); clear hb2
    go_wp2_with fail
    refine (cal_first_ok _ _ _ _ _ HK.out k1 k2).mono ?_; rintro e w2 ⟨rfl, hb2⟩; obtain ⟨hc2, -⟩ := bcell hb2; have hz2 := hb2.size; (try simp at hz2); (try have hy2 : w.heap.size < w2.heap.size := by omega); replace hb := bel' (w := w) hb2 (by repeat (first | exact hb | refine Below.alloc ?_ (by have hbs := hb.size; first | omega | (simp; done) | (simp; omega)) _ | refine Below.drew ?_ | refine below_drewN_ ?_ _ | refine Below.setCell ?_ (by simp) _)); clear hb2
    go_wp2_with fail
    go_ret2
    exact ⟨by rw [HV.out, H.out]; rfl, hb⟩
  · have HV : Hid (Cal.fiV Y M P p = 0) := Lib.hid (by unfold Cal.fiV; rw [if_neg h])
    have h' : (Cal.ckE Y M P p != 0) = true := by rw [bne_iff_ne]; exact h
    clear h
    go_enter Tryz.func27, Tryz.ntmps27
    go_wp2_with fail
    refine (cal_check _ _ _ _ _).mono ?_; rintro e w2 ⟨rfl, hb2⟩; obtain ⟨hc2, -⟩ := bcell hb2; have hz2 := hb2.size; (try simp at hz2); (try have hy2 : w.heap.size < w2.heap.size := by omega); replace hb := bel' (w := w) hb2 (by repeat (first | exact hb | refine Below.alloc ?_ (by have hbs := hb.size; first | omega | (simp; done) | (simp; omega)) _ | refine Below.drew ?_ | refine below_drewN_ ?_ _ | refine Below.setCell ?_ (by simp) _)); clear hb2
    go_wp2_with fail
    go_ret2
    exact ⟨by rw [HV.out]; rfl, hb⟩
theorem cal_First_is (Y M P p v x : Int) (w : World) (h : Hid (Cal.fiV Y M P p = v)) (h2 : Hid (Cal.ckE Y M P p = x)) :
    Calls Tryz.prog 27 #[.agg #[.int .i64 Y, .int .i64 M, .int .i64 P], .int .i64 p] w fun e w' => e = .returned (.tuple #[.int .i64 v, .int .i64 x]) ∧ Below w.heap.size w w' := by
  have := cal_First Y M P p w
  rw [h.out, h2.out] at this
  exact this

set_option maxHeartbeats 1000000 in
theorem cal_Last (Y M P p : Int) (w : World) :
    Calls Tryz.prog 17 #[.agg #[.int .i64 Y, .int .i64 M, .int .i64 P], .int .i64 p] w fun e w' => e = .returned (.tuple #[.int .i64 (Cal.laV Y M P p), .int .i64 (Cal.ckE Y M P p)]) ∧ Below w.heap.size w w' := by
  have hb := Below.refl w.heap.size w
  by_cases h : Cal.ckE Y M P p = 0
  · obtain ⟨k0, k1, k2⟩ := (Cal.ck_zero Y M P p).1 h
    obtain ⟨t0, t1⟩ := Cal.tm_in Y M P p k0 k1 k2
    have HV : Hid (Cal.laV Y M P p = Cal.ld (Cal.tm Y M p)) := Lib.hid (by unfold Cal.laV; rw [if_pos h])
    have HF : Hid (Cal.fiV Y M P p = Cal.fd (Cal.tm Y M p)) := Lib.hid (by unfold Cal.fiV; rw [if_pos h])
    obtain ⟨c1, c2, c3, c4⟩ := Cal.civ_fd (Cal.tm Y M p) t0 t1
    have C1 := Lib.hid c1
    have C2 := Lib.hid c2
    have C3 := Lib.hid c3
    have H := Lib.hid h
    have b1 := Cal.fd_bd (Cal.tm Y M p) t0 t1
    have b2 := Dt.days_bd (Cal.tm Y M p / 12) (Cal.tm Y M p % 12 + 1)
    clear h k0 c1 c2 c3 c4
    go_enter Tryz.func17, Tryz.ntmps17
    go_wp2_with fail
    refine (cal_First_is _ _ _ _ _ _ _ HF H).mono ?_; rintro e w2 ⟨rfl, hb2⟩; obtain ⟨hc2, -⟩ := bcell hb2; have hz2 := hb2.size; (try simp at hz2); (try have hy2 : w.heap.size < w2.heap.size := by omega); replace hb := bel' (w := w) hb2 (by repeat (first | exact hb | refine Below.alloc ?_ (by have hbs := hb.size; first | omega | (simp; done) | (simp; omega)) _ | refine Below.drew ?_ | refine below_drewN_ ?_ _ | refine Below.setCell ?_ (by simp) _)); clear hb2
    go_wp2_with fail
    refine (civil_is _ _ C1).mono ?_
    rw [C2.out, C3.out]
    rintro e w2 ⟨rfl, hb2⟩
    replace hb := bel' hb2 (by repeat (first | exact hb | refine Below.alloc ?_ (by have hbs := hb.size; first | omega | (simp; done) | (simp; omega)) _ | refine Below.drew ?_ | refine below_drewN_ ?_ _ | refine Below.setCell ?_ (by simp) _))
    clear hb2
    go_wp2_with fail
    refine (days_any _ _ _).mono ?_; rintro e w2 ⟨rfl, hb2⟩; obtain ⟨hc2, -⟩ := bcell hb2; have hz2 := hb2.size; (try simp at hz2); (try have hy2 : w.heap.size < w2.heap.size := by omega); replace hb := bel' (w := w) hb2 (by repeat (first | exact hb | refine Below.alloc ?_ (by have hbs := hb.size; first | omega | (simp; done) | (simp; omega)) _ | refine Below.drew ?_ | refine below_drewN_ ?_ _ | refine Below.setCell ?_ (by simp) _)); clear hb2
    go_wp2_with fail
    go_ret2
    exact ⟨by rw [HV.out, H.out]; rfl, hb⟩
  · have HV : Hid (Cal.laV Y M P p = 0) := Lib.hid (by unfold Cal.laV; rw [if_neg h])
    have h' : (Cal.ckE Y M P p != 0) = true := by rw [bne_iff_ne]; exact h
    clear h
    go_enter Tryz.func17, Tryz.ntmps17
    go_wp2_with fail
    refine (cal_First _ _ _ _ _).mono ?_; rintro e w2 ⟨rfl, hb2⟩; obtain ⟨hc2, -⟩ := bcell hb2; have hz2 := hb2.size; (try simp at hz2); (try have hy2 : w.heap.size < w2.heap.size := by omega); replace hb := bel' (w := w) hb2 (by repeat (first | exact hb | refine Below.alloc ?_ (by have hbs := hb.size; first | omega | (simp; done) | (simp; omega)) _ | refine Below.drew ?_ | refine below_drewN_ ?_ _ | refine Below.setCell ?_ (by simp) _)); clear hb2
    go_wp2_with fail
    go_ret2
    exact ⟨by rw [HV.out]; rfl, hb⟩
theorem cal_Last_is (Y M P p v x : Int) (w : World) (h : Hid (Cal.laV Y M P p = v)) (h2 : Hid (Cal.ckE Y M P p = x)) :
    Calls Tryz.prog 17 #[.agg #[.int .i64 Y, .int .i64 M, .int .i64 P], .int .i64 p] w fun e w' => e = .returned (.tuple #[.int .i64 v, .int .i64 x]) ∧ Below w.heap.size w w' := by
  have := cal_Last Y M P p w
  rw [h.out, h2.out] at this
  exact this

set_option maxHeartbeats 1000000 in
theorem cal_Period (Y M P d : Int) (w : World) :
    Calls Tryz.prog 94 #[.agg #[.int .i64 Y, .int .i64 M, .int .i64 P], .int .i64 d] w fun e w' => e = .returned (.tuple #[.int .i64 (Cal.peV Y M P d), .int .i64 (Cal.peE Y M P d)]) ∧ Below w.heap.size w w' := by
  have hb := Below.refl w.heap.size w
  cases h : Cal.ok Y M P
  · have HV : Hid (Cal.peV Y M P d = 0) := Lib.hid (by unfold Cal.peV; rw [h]; rfl)
    have HE : Hid (Cal.peE Y M P d = 1) := Lib.hid (by unfold Cal.peE; rw [h]; rfl)
    have H := Lib.hid h
    clear h
    go_enter Tryz.func94, Tryz.ntmps94
    go_wp2_with fail
    refine (cal_valid_is _ _ _ _ _ H).mono ?_; rintro e w2 ⟨rfl, hb2⟩; obtain ⟨hc2, -⟩ := bcell hb2; have hz2 := hb2.size; (try simp at hz2); (try have hy2 : w.heap.size < w2.heap.size := by omega); replace hb := bel' (w := w) hb2 (by repeat (first | exact hb | refine Below.alloc ?_ (by have hbs := hb.size; first | omega | (simp; done) | (simp; omega)) _ | refine Below.drew ?_ | refine below_drewN_ ?_ _ | refine Below.setCell ?_ (by simp) _)); clear hb2
    go_wp2_with fail
    go_ret2
    exact ⟨by rw [HV.out, HE.out]; rfl, hb⟩
  · have H := Lib.hid h
    have k := (Cal.ok_iff Y M P).1 h
    unfold Cal.okP at k
    obtain ⟨m0, m1, p0, p1, y0, y1, _⟩ := k
    cases hD : Dt.isD d
    · have HV : Hid (Cal.peV Y M P d = 0) := Lib.hid (by unfold Cal.peV Cal.peB; rw [h, hD]; rfl)
      have HE : Hid (Cal.peE Y M P d = 2) := Lib.hid (by unfold Cal.peE Cal.peB; rw [h, hD]; rfl)
      have HN := Lib.hid ((Dt.isD_not d).1 hD)
      clear h hD
      go_enter Tryz.func94, Tryz.ntmps94
      go_wp2_with fail
      refine (cal_valid_is _ _ _ _ _ H).mono ?_; rintro e w2 ⟨rfl, hb2⟩; obtain ⟨hc2, -⟩ := bcell hb2; have hz2 := hb2.size; (try simp at hz2); (try have hy2 : w.heap.size < w2.heap.size := by omega); replace hb := bel' (w := w) hb2 (by repeat (first | exact hb | refine Below.alloc ?_ (by have hbs := hb.size; first | omega | (simp; done) | (simp; omega)) _ | refine Below.drew ?_ | refine below_drewN_ ?_ _ | refine Below.setCell ?_ (by simp) _)); clear hb2
      go_wp2_with fail
      refine (civil_no _ _ HN.out).mono ?_
      rintro e w2 ⟨rfl, rfl⟩
      go_wp2_with fail
      go_ret2
      exact ⟨by rw [HV.out, HE.out]; rfl, hb⟩
    · have HD := Lib.hid hD
      obtain ⟨c1, c2, c3, c4, c5, c6, c7⟩ := Dt.cY_bd d hD
      have hq : Cal.pq Y M d = 12 * Dt.cY d + Dt.cM d - 12 * Y - M := rfl
      by_cases a1 : 12 * Dt.cY d + Dt.cM d - 12 * Y - M < 0
      · have HB : Cal.peB Y M P d = false := by unfold Cal.peB; rw [hD, hq]; simp; omega
        have HV : Hid (Cal.peV Y M P d = 0) := Lib.hid (by unfold Cal.peV; rw [h, HB]; rfl)
        have HE : Hid (Cal.peE Y M P d = 2) := Lib.hid (by unfold Cal.peE; rw [h, HB]; rfl)
        clear h hD hq c6 HB
        go_enter Tryz.func94, Tryz.ntmps94
        go_wp2_with fail
        refine (cal_valid_is _ _ _ _ _ H).mono ?_; rintro e w2 ⟨rfl, hb2⟩; obtain ⟨hc2, -⟩ := bcell hb2; have hz2 := hb2.size; (try simp at hz2); (try have hy2 : w.heap.size < w2.heap.size := by omega); replace hb := bel' (w := w) hb2 (by repeat (first | exact hb | refine Below.alloc ?_ (by have hbs := hb.size; first | omega | (simp; done) | (simp; omega)) _ | refine Below.drew ?_ | refine below_drewN_ ?_ _ | refine Below.setCell ?_ (by simp) _)); clear hb2
        go_wp2_with fail
        refine (civil_is _ _ HD).mono ?_; rintro e w2 ⟨rfl, hb2⟩; obtain ⟨hc2, -⟩ := bcell hb2; have hz2 := hb2.size; (try simp at hz2); (try have hy2 : w.heap.size < w2.heap.size := by omega); replace hb := bel' (w := w) hb2 (by repeat (first | exact hb | refine Below.alloc ?_ (by have hbs := hb.size; first | omega | (simp; done) | (simp; omega)) _ | refine Below.drew ?_ | refine below_drewN_ ?_ _ | refine Below.setCell ?_ (by simp) _)); clear hb2
        go_wp2_with fail
        go_ret2
        exact ⟨by rw [HV.out, HE.out]; rfl, hb⟩
      by_cases a2 : P ≤ 12 * Dt.cY d + Dt.cM d - 12 * Y - M
      · have HB : Cal.peB Y M P d = false := by unfold Cal.peB; rw [hD, hq]; simp; omega
        have HV : Hid (Cal.peV Y M P d = 0) := Lib.hid (by unfold Cal.peV; rw [h, HB]; rfl)
        have HE : Hid (Cal.peE Y M P d = 2) := Lib.hid (by unfold Cal.peE; rw [h, HB]; rfl)
        clear h hD hq c6 HB
        go_enter Tryz.func94, Tryz.ntmps94
        go_wp2_with fail
        refine (cal_valid_is _ _ _ _ _ H).mono ?_; rintro e w2 ⟨rfl, hb2⟩; obtain ⟨hc2, -⟩ := bcell hb2; have hz2 := hb2.size; (try simp at hz2); (try have hy2 : w.heap.size < w2.heap.size := by omega); replace hb := bel' (w := w) hb2 (by repeat (first | exact hb | refine Below.alloc ?_ (by have hbs := hb.size; first | omega | (simp; done) | (simp; omega)) _ | refine Below.drew ?_ | refine below_drewN_ ?_ _ | refine Below.setCell ?_ (by simp) _)); clear hb2
        go_wp2_with fail
        refine (civil_is _ _ HD).mono ?_; rintro e w2 ⟨rfl, hb2⟩; obtain ⟨hc2, -⟩ := bcell hb2; have hz2 := hb2.size; (try simp at hz2); (try have hy2 : w.heap.size < w2.heap.size := by omega); replace hb := bel' (w := w) hb2 (by repeat (first | exact hb | refine Below.alloc ?_ (by have hbs := hb.size; first | omega | (simp; done) | (simp; omega)) _ | refine Below.drew ?_ | refine below_drewN_ ?_ _ | refine Below.setCell ?_ (by simp) _)); clear hb2
        go_wp2_with fail
        go_ret2
        exact ⟨by rw [HV.out, HE.out]; rfl, hb⟩
      · have HB : Cal.peB Y M P d = true := by unfold Cal.peB; rw [hD, hq]; simp; omega
        have HV : Hid (Cal.peV Y M P d = 12 * Dt.cY d + Dt.cM d - 12 * Y - M) := Lib.hid (by unfold Cal.peV; rw [h, HB]; rfl)
        have HE : Hid (Cal.peE Y M P d = 0) := Lib.hid (by unfold Cal.peE; rw [h, HB]; rfl)
        clear h hD hq c6 HB
        go_enter Tryz.func94, Tryz.ntmps94
        go_wp2_with fail
        refine (cal_valid_is _ _ _ _ _ H).mono ?_; rintro e w2 ⟨rfl, hb2⟩; obtain ⟨hc2, -⟩ := bcell hb2; have hz2 := hb2.size; (try simp at hz2); (try have hy2 : w.heap.size < w2.heap.size := by omega); replace hb := bel' (w := w) hb2 (by repeat (first | exact hb | refine Below.alloc ?_ (by have hbs := hb.size; first | omega | (simp; done) | (simp; omega)) _ | refine Below.drew ?_ | refine below_drewN_ ?_ _ | refine Below.setCell ?_ (by simp) _)); clear hb2
        go_wp2_with fail
        refine (civil_is _ _ HD).mono ?_; rintro e w2 ⟨rfl, hb2⟩; obtain ⟨hc2, -⟩ := bcell hb2; have hz2 := hb2.size; (try simp at hz2); (try have hy2 : w.heap.size < w2.heap.size := by omega); replace hb := bel' (w := w) hb2 (by repeat (first | exact hb | refine Below.alloc ?_ (by have hbs := hb.size; first | omega | (simp; done) | (simp; omega)) _ | refine Below.drew ?_ | refine below_drewN_ ?_ _ | refine Below.setCell ?_ (by simp) _)); clear hb2
        go_wp2_with fail
        go_ret2
        exact ⟨by rw [HV.out, HE.out]; rfl, hb⟩
end Go.Proofs.YtnddoehhcpejjaaGreat
