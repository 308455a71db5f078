/- Texts of this claim, put together. -/
import Derived.Test.YthfbpbbepogllaaGreatJAQ
/- What the date functions return, as plain functions: values and error numbers; and the law of adding months. No Go and no program. -/
namespace Go.Proofs.YthfbpbbepogllaaGreat.Dt
set_option linter.unusedVariables false
set_option linter.unusedSimpArgs false

def isD (n : Int) : Bool := decide (-25567 ≤ n) && decide (n ≤ 84005)
theorem isD_iff (n : Int) : isD n = true ↔ -25567 ≤ n ∧ n ≤ 84005 := by unfold isD; simp
theorem isD_not (n : Int) : isD n = false ↔ n < -25567 ∨ 84005 < n := by
  rw [← Bool.not_eq_true, isD_iff]; omega
def ofV (y m d : Int) : Int := if vld y m d then num y m d else 0
def ofE (y m d : Int) : Int := if vld y m d then 0 else 2
def cvY (n : Int) : Int := if isD n then cY n else 0
def cvM (n : Int) : Int := if isD n then cM n else 0
def cvD (n : Int) : Int := if isD n then cD n else 0
def cvE (n : Int) : Int := if isD n then 0 else 2
def wd (n : Int) : Int := (n + 25567) % 7
def wdV (n : Int) : Int := if isD n then wd n else 0
/-- the month, counted from year 0, that lies k months after that of a date -/
def mon (n k : Int) : Int := 12 * cY n + cM n - 1 + k
def addOk (n k : Int) : Bool := isD n && (decide (22800 ≤ mon n k) && decide (mon n k ≤ 26399))
def addN (n k : Int) : Int := num (mon n k / 12) (mon n k % 12 + 1) (min (cD n) (days (mon n k / 12) (mon n k % 12 + 1)))
def addV (n k : Int) : Int := if addOk n k then addN n k else 0
def addE (n k : Int) : Int := if addOk n k then 0 else 2

theorem ofE_01 (y m d : Int) : ofE y m d = 0 ∨ ofE y m d = 2 := by unfold ofE; split <;> simp
theorem addE_01 (n k : Int) : addE n k = 0 ∨ addE n k = 2 := by unfold addE; split <;> simp
theorem of_civ (n : Int) (h : isD n = true) : vld (cY n) (cM n) (cD n) = true ∧ num (cY n) (cM n) (cD n) = n := by
  rw [isD_iff] at h; exact civ_ok n h.1 h.2
theorem isD_num (y m d : Int) (h : vld y m d = true) : isD (num y m d) = true := by
  rw [isD_iff]; exact num_range y m d h
theorem cY_bd (n : Int) (h : isD n = true) : 1900 ≤ cY n ∧ cY n ≤ 2199 ∧ 1 ≤ cM n ∧ cM n ≤ 12 ∧ 1 ≤ cD n ∧ cD n ≤ days (cY n) (cM n) ∧ cD n ≤ 31 := by
  have k := vld_pos _ _ _ (of_civ n h).1
  have := (vld_iff _ _ _).1 (of_civ n h).1
  omega
theorem add_vld (n k : Int) (h : addOk n k = true) : vld (mon n k / 12) (mon n k % 12 + 1) (min (cD n) (days (mon n k / 12) (mon n k % 12 + 1))) = true := by
  unfold addOk at h
  simp only [Bool.and_eq_true, decide_eq_true_eq] at h
  have c := cY_bd n h.1
  have d0 : 0 < days (mon n k / 12) (mon n k % 12 + 1) := by
    rw [days_in _ _ (by omega) (by omega) (by omega) (by omega)]
    have l := lp_01 (mon n k / 12)
    have := mlen_bd (lp (mon n k / 12)) (mon n k % 12 + 1) (by omega) (by omega) (by omega) (by omega)
    omega
  rw [vld_iff]
  omega
/-- the civil day of the sum -/
theorem add_civ (n k : Int) (h : addOk n k = true) :
    isD (addN n k) = true ∧ cY (addN n k) = mon n k / 12 ∧ cM (addN n k) = mon n k % 12 + 1 ∧ cD (addN n k) = min (cD n) (days (mon n k / 12) (mon n k % 12 + 1)) := by
  have v := add_vld n k h
  exact ⟨isD_num _ _ _ v, civ_eq _ _ _ _ v rfl⟩
theorem add_zero_ (n : Int) (h : isD n = true) : addOk n 0 = true ∧ addN n 0 = n := by
  have c := cY_bd n h
  have m0 : mon n 0 = 12 * cY n + (cM n - 1) := by unfold mon; omega
  have e1 : mon n 0 / 12 = cY n := by omega
  have e2 : mon n 0 % 12 + 1 = cM n := by omega
  refine ⟨by unfold addOk; simp only [Bool.and_eq_true, decide_eq_true_eq]; exact ⟨h, by omega, by omega⟩, ?_⟩
  unfold addN
  rw [e1, e2, show min (cD n) (days (cY n) (cM n)) = cD n from by omega]
  exact (of_civ n h).2
/-- days up to 28 stand in every month -/
theorem add_day (n k : Int) (h : addOk n k = true) (hd : cD n ≤ 28) : cD (addN n k) = cD n := by
  rw [(add_civ n k h).2.2.2]
  have v := add_vld n k h
  rw [vld_iff] at v
  have := days_lo (mon n k / 12) (mon n k % 12 + 1) (by omega)
  omega
theorem mon_add (n k j : Int) (h : addOk n k = true) : mon (addN n k) j = mon n (k + j) := by
  obtain ⟨_, h2, h3, _⟩ := add_civ n k h
  have : mon (addN n k) j = 12 * (mon n k / 12) + (mon n k % 12 + 1) - 1 + j := by unfold mon at h2 h3 ⊢; rw [h2, h3]
  rw [this]
  unfold mon
  omega
theorem add_add (n k j : Int) (h : addOk n k = true) (hd : cD n ≤ 28) : addOk (addN n k) j = addOk n (k + j) ∧ addN (addN n k) j = addN n (k + j) := by
  have hm := mon_add n k j h
  have h0 := (add_civ n k h).1
  have hd' := add_day n k h hd
  have hn : isD n = true := by unfold addOk at h; simp only [Bool.and_eq_true] at h; exact h.1
  refine ⟨by unfold addOk; rw [hm, h0, hn], ?_⟩
  unfold addN at hd' ⊢
  rw [show mon (num (mon n k / 12) (mon n k % 12 + 1) (min (cD n) (days (mon n k / 12) (mon n k % 12 + 1)))) j = mon n (k + j) from hm, hd']
theorem add_back (n k : Int) (h : addOk n k = true) (hd : cD n ≤ 28) : addOk (addN n k) (-k) = true ∧ addN (addN n k) (-k) = n := by
  obtain ⟨a, b⟩ := add_add n k (-k) h hd
  have hn : isD n = true := by unfold addOk at h; simp only [Bool.and_eq_true] at h; exact h.1
  rw [a, b, show k + -k = 0 from by omega]
  exact add_zero_ n hn
theorem add_year (n : Int) (h : isD n = true) (hd : cD n ≤ 28) : addV n 12 = ofV (cY n + 1) (cM n) (cD n) ∧ addE n 12 = ofE (cY n + 1) (cM n) (cD n) := by
  have c := cY_bd n h
  have e1 : mon n 12 / 12 = cY n + 1 := by unfold mon; omega
  have e2 : mon n 12 % 12 + 1 = cM n := by unfold mon; omega
  by_cases hy : cY n + 1 ≤ 2199
  · have hk : addOk n 12 = true := by
      unfold addOk; simp only [Bool.and_eq_true, decide_eq_true_eq]; exact ⟨h, by unfold mon; omega, by unfold mon; omega⟩
    have v := add_vld n 12 hk
    have hmin : min (cD n) (days (mon n 12 / 12) (mon n 12 % 12 + 1)) = cD n := by
      rw [vld_iff] at v
      have := days_lo (mon n 12 / 12) (mon n 12 % 12 + 1) (by omega)
      omega
    rw [hmin, e1, e2] at v
    unfold addV addE ofV ofE
    rw [if_pos hk, if_pos hk, if_pos v, if_pos v]
    unfold addN
    rw [hmin, e1, e2]
    exact ⟨rfl, rfl⟩
  · have hk : addOk n 12 = false := by
      rw [← Bool.not_eq_true]; unfold addOk; simp only [Bool.and_eq_true, decide_eq_true_eq]; unfold mon; omega
    have v : vld (cY n + 1) (cM n) (cD n) = false := by
      rw [← Bool.not_eq_true, vld_iff]
      unfold days; rw [if_pos (by omega)]; omega
    unfold addV addE ofV ofE
    rw [hk, v]
    exact ⟨rfl, rfl⟩
/-- the next day -/
theorem next_day (n : Int) (h : -25567 ≤ n) (h2 : n < 84005) :
    (cD n + 1 ≤ days (cY n) (cM n) ∧ cY (n + 1) = cY n ∧ cM (n + 1) = cM n ∧ cD (n + 1) = cD n + 1) ∨
    (days (cY n) (cM n) < cD n + 1 ∧ cM n + 1 ≤ 12 ∧ cY (n + 1) = cY n ∧ cM (n + 1) = cM n + 1 ∧ cD (n + 1) = 1) ∨
    (days (cY n) (cM n) < cD n + 1 ∧ 12 < cM n + 1 ∧ cY (n + 1) = cY n + 1 ∧ cM (n + 1) = 1 ∧ cD (n + 1) = 1) := by
  have hD : isD n = true := (isD_iff n).2 ⟨h, by omega⟩
  have c := cY_bd n hD
  have hv := (of_civ n hD).1
  have hn := (of_civ n hD).2
  by_cases h3 : cD n + 1 ≤ days (cY n) (cM n)
  · exact Or.inl ⟨h3, civ_eq (n + 1) (cY n) (cM n) (cD n + 1) (by rw [vld_iff]; omega) (by unfold num at hn ⊢; omega)⟩
  · have hds : cD n = days (cY n) (cM n) := by omega
    rw [days_in _ _ (by omega) (by omega) (by omega) (by omega)] at hds
    have hms := mcum_succ (lp (cY n)) (cM n) (by omega) (by omega)
    by_cases h4 : cM n + 1 ≤ 12
    · refine Or.inr (Or.inl ⟨by omega, h4, civ_eq (n + 1) (cY n) (cM n + 1) 1 ?_ (by unfold num at hn ⊢; omega)⟩)
      rw [vld_iff, days_in _ _ (by omega) (by omega) (by omega) (by omega)]
      have l := lp_01 (cY n)
      have := mlen_bd (lp (cY n)) (cM n + 1) (by omega) (by omega) (by omega) (by omega)
      omega
    · have h12 : cM n = 12 := by omega
      have hd := dby_succ (cY n)
      rw [h12] at hms hds hn
      have h13 : mcum (lp (cY n)) 13 = 365 + lp (cY n) := mcum_13 _
      rw [show (12 : Int) + 1 = 13 from rfl] at hms
      have e : n + 1 = dby (cY n + 1) := by unfold num at hn; omega
      have hy : cY n + 1 ≤ 2199 := by
        rcases Int.lt_or_le 2199 (cY n + 1) with q | q
        · have := dby_mono 2200 (cY n + 1) (by omega)
          rw [dby_2200] at this
          omega
        · exact q
      refine Or.inr (Or.inr ⟨by omega, by omega, civ_eq (n + 1) (cY n + 1) 1 1 ?_ (by unfold num; rw [mcum_1]; omega)⟩)
      rw [vld_iff, days_in _ _ (by omega) (by omega) (by omega) (by omega)]
      simp [mlen]
theorem wd_next (n : Int) : wd (n + 1) = (wd n + 1) % 7 := by unfold wd; omega
theorem wd_bd (n : Int) : 0 ≤ wd n ∧ wd n ≤ 6 := by unfold wd; omega
end Go.Proofs.YthfbpbbepogllaaGreat.Dt
/- The walks of the reference's Civil and Of. -/
namespace Go.Proofs.YthfbpbbepogllaaGreat
set_option linter.unusedVariables false
set_option linter.unusedSimpArgs false
open Go.RowKit

set_option maxHeartbeats 1000000 in
theorem rcivil_yes (n : Int) (w : World) (h1 : -25567 ≤ n) (h2 : n ≤ 84005) :
    Calls Tryz.prog 133 #[.int .i64 n] w fun e w' => e = .returned (.tuple #[.int .i64 (Dt.cY n), .int .i64 (Dt.cM n), .int .i64 (Dt.cD n), .int .i64 0]) ∧ w = w' := by
  obtain ⟨y1, y2, y3, y4⟩ := Dt.cY_ok n h1 h2
  obtain ⟨m1, m2, m3, m4⟩ := Dt.cM_ok n h1 h2
  have hD : Dt.cD n = n - Dt.dby (Dt.cY n) - Dt.mcum (Dt.lp (Dt.cY n)) (Dt.cM n) + 1 := rfl
  rw [hD]
  clear hD
  have l := Dt.lp_01 (Dt.cY n)
  generalize Dt.cY n = Y at *
  generalize Dt.cM n = M at *
  go_enter Tryz.func133, Tryz.ntmps133
  go_wp2_with (go_at_call 130; refine (rvalid_yes _ _ h1 h2).mono ?_; rintro e w' ⟨rfl, rfl⟩)
  go_loop [6, 8] (fun t r => ∃ y : Int, 1900 ≤ y ∧ y ≤ Y ∧ t = .int .i64 y ∧ r = .int .i64 (n - Dt.dby y)) (fun t _ => (Y - intOf t).toNat)
  case atStart => exact ⟨1900, by omega, by omega, rfl, by rw [Dt.dby_1900]; go_num⟩
  case round =>
    obtain ⟨y, ya, yb, rfl, rfl⟩ := hrel
    have db := Dt.dby_bd y (by omega) (by omega)
    have s := Dt.dby_succ y
    by_cases hlt : y < Y
    · have hm := Dt.dby_mono (y + 1) Y (by omega)
      have hle : Dt.dby (y + 1) ≤ n := by omega
      by_cases hl : Dt.leapB y = true
      · have e1 : Dt.lp y = 1 := by simp [Dt.lp, hl]
        have h3 : 366 ≤ n - Dt.dby y := by omega
        have HS := Lib.hid s
        have HE := Lib.hid e1
        have HL := Lib.hid hl
        clear s e1 hl hle hm
        go_wp2_with (go_at_call 132; refine (rleap_any _ _ (by omega) (by omega)).mono ?_; rintro e w' ⟨rfl, rfl⟩; rw [HL.out])
        go_round
        case rel => exact ⟨y + 1, by omega, by omega, by go_num, by rw [HS.out, HE.out]; go_num⟩
        case measure => simp [intOf]; omega
      · have hl' : Dt.leapB y = false := by simpa using hl
        have e1 : Dt.lp y = 0 := by simp [Dt.lp, hl']
        have h3 : 365 ≤ n - Dt.dby y := by omega
        have HS := Lib.hid s
        have HE := Lib.hid e1
        have HL := Lib.hid hl'
        clear s e1 hl hl' hle hm
        go_wp2_with (go_at_call 132; refine (rleap_any _ _ (by omega) (by omega)).mono ?_; rintro e w' ⟨rfl, rfl⟩; rw [HL.out])
        go_round
        case rel => exact ⟨y + 1, by omega, by omega, by go_num, by rw [HS.out, HE.out]; go_num⟩
        case measure => simp [intOf]; omega
    · obtain rfl : y = Y := by omega
      have mb := Dt.mcum_bd (Dt.lp y) M (by omega) (by omega)
      have key : ∀ b : Bool, Dt.leapB y = b → (if b then n - Dt.dby y < 366 else n - Dt.dby y < 365) := by
        intro b hb
        cases b
        · have e1 : Dt.lp y = 0 := by simp [Dt.lp, hb]
          simp only [Bool.false_eq_true, if_false]; omega
        · have e1 : Dt.lp y = 1 := by simp [Dt.lp, hb]
          simp only [if_true]; omega
      have K := key _ rfl
      clear key s hlt
      cases hl : Dt.leapB y
      all_goals
        rw [hl] at K
        simp only [Bool.false_eq_true, if_false, if_true] at K
        have HL := Lib.hid hl
        clear hl
        go_wp2_with (go_at_call 132; refine (rleap_any _ _ (by omega) (by omega)).mono ?_; rintro e w' ⟨rfl, rfl⟩; rw [HL.out])
        go_loop [7, 8] (fun k r => ∃ m : Int, 1 ≤ m ∧ m ≤ M ∧ k = .int .i64 m ∧ r = .int .i64 (n - Dt.dby y - Dt.mcum (Dt.lp y) m)) (fun k _ => (M - intOf k).toNat)
        case atStart => exact ⟨1, by omega, by omega, rfl, by rw [Dt.mcum_1]; go_num⟩
        case round =>
          obtain ⟨m, ma, mb', rfl, rfl⟩ := hrel
          have c := Dt.mcum_bd (Dt.lp y) m (by omega) (by omega)
          have dj := Dt.days_bd y m
          have HD := Lib.hid (Dt.days_in y m (by omega) (by omega) (by omega) (by omega))
          by_cases hlt2 : m < M
          · have cs := Lib.hid (Dt.mcum_succ (Dt.lp y) m (by omega) (by omega))
            have hml := Dt.mcum_lt (Dt.lp y) m M (by omega) (by omega) (by omega) hlt2 (by omega)
            rw [← HD.out] at hml
            have hge : Dt.days y m ≤ n - Dt.dby y - Dt.mcum (Dt.lp y) m := by omega
            go_wp2_with (go_at_call 131; refine (rdays_any _ _ _).mono ?_; rintro e w2 ⟨rfl, rfl⟩)
            go_round
            case rel => exact ⟨m + 1, by omega, by omega, by go_num, by rw [cs.out, ← HD.out]; go_num⟩
            case measure => simp [intOf]; omega
          · obtain rfl : m = M := by omega
            rw [← HD.out] at m4
            have hlt3 : ¬ Dt.days y m ≤ n - Dt.dby y - Dt.mcum (Dt.lp y) m := by omega
            go_wp2_with (go_at_call 131; refine (rdays_any _ _ _).mono ?_; rintro e w2 ⟨rfl, rfl⟩)
            refine bodyPost_ret (results_tmp4 rfl _ _ _) rfl ?_
            exact ⟨rfl, rfl⟩

set_option maxHeartbeats 1000000 in
theorem rof_no (y m d : Int) (w : World) (h : Dt.vld y m d = false) :
    Calls Tryz.prog 101 #[.int .i64 y, .int .i64 m, .int .i64 d] w fun e w' => e = .returned (.tuple #[.int .i64 0, .int .i64 2]) ∧ w = w' := by
  have hv : ¬ (1 ≤ d ∧ d ≤ Dt.days y m) := by rw [← Dt.vld_iff, h]; simp
  clear h
  by_cases h1 : d < 1
  · clear hv
    go_enter Tryz.func101, Tryz.ntmps101
    go_wp2_with fail
    go_ret2
    exact ⟨rfl, rfl⟩
  · have h2 : Dt.days y m < d := by omega
    clear hv
    go_enter Tryz.func101, Tryz.ntmps101
    go_wp2_with (go_at_call 131; refine (rdays_any _ _ _).mono ?_; rintro e w1 ⟨rfl, rfl⟩)
    go_ret2
    exact ⟨rfl, rfl⟩

set_option maxHeartbeats 1000000 in
theorem rof_yes (y m d : Int) (w : World) (h : Dt.vld y m d = true) :
    Calls Tryz.prog 101 #[.int .i64 y, .int .i64 m, .int .i64 d] w fun e w' => e = .returned (.tuple #[.int .i64 (Dt.num y m d), .int .i64 0]) ∧ w = w' := by
  have hv := (Dt.vld_iff y m d).1 h
  obtain ⟨a1, a2, a3, a4, a5, a6, a7⟩ := Dt.vld_pos y m d h
  obtain ⟨v1, v2⟩ := hv
  have v3 := Dt.days_bd y m
  have l := Dt.lp_01 y
  have HN : Hid (Dt.num y m d = Dt.dby y + Dt.mcum (Dt.lp y) m + d - 1) := Lib.hid rfl
  clear h a6
  go_enter Tryz.func101, Tryz.ntmps101
  go_wp2_with (go_at_call 131; refine (rdays_any _ _ _).mono ?_; rintro e w1 ⟨rfl, rfl⟩)
  go_loop [8, 9] (fun t k => ∃ j : Int, 1900 ≤ j ∧ j ≤ y ∧ k = .int .i64 j ∧ t = .int .i64 (Dt.dby j)) (fun _ k => (y - intOf k).toNat)
  case atStart => exact ⟨1900, by omega, by omega, rfl, by rw [Dt.dby_1900]⟩
  case round =>
    obtain ⟨j, hj1, hj2, rfl, rfl⟩ := hrel
    have db := Dt.dby_bd j (by omega) (by omega)
    by_cases hlt : j < y
    · have HS := Lib.hid (Dt.dby_succ j)
      cases hl : Dt.leapB j
      · have HE : Hid (Dt.lp j = 0) := Lib.hid (by simp [Dt.lp, hl])
        have HL := Lib.hid hl
        clear hl
        go_wp2_with (go_at_call 132; refine (rleap_any _ _ (by omega) (by omega)).mono ?_; rintro e w' ⟨rfl, rfl⟩; rw [HL.out])
        go_round
        case rel => exact ⟨j + 1, by omega, by omega, by go_num, by rw [HS.out, HE.out]; go_num⟩
        case measure => simp [intOf]; omega
      · have HE : Hid (Dt.lp j = 1) := Lib.hid (by simp [Dt.lp, hl])
        have HL := Lib.hid hl
        clear hl
        go_wp2_with (go_at_call 132; refine (rleap_any _ _ (by omega) (by omega)).mono ?_; rintro e w' ⟨rfl, rfl⟩; rw [HL.out])
        go_round
        case rel => exact ⟨j + 1, by omega, by omega, by go_num, by rw [HS.out, HE.out]⟩
        case measure => simp [intOf]; omega
    · obtain rfl : j = y := by omega
      go_wp2_with fail
      go_loop [8, 10] (fun t k => ∃ i : Int, 1 ≤ i ∧ i ≤ m ∧ k = .int .i64 i ∧ t = .int .i64 (Dt.dby j + Dt.mcum (Dt.lp j) i)) (fun _ k => (m - intOf k).toNat)
      case atStart => exact ⟨1, by omega, by omega, rfl, by rw [Dt.mcum_1]; go_num⟩
      case round =>
        obtain ⟨i, hi1, hi2, rfl, rfl⟩ := hrel
        have c := Dt.mcum_bd (Dt.lp j) i (by omega) (by omega)
        by_cases hlt2 : i < m
        · have cs := Lib.hid (Dt.mcum_succ (Dt.lp j) i (by omega) (by omega))
          have HD := Lib.hid (Dt.days_in j i (by omega) (by omega) (by omega) (by omega))
          have dj := Dt.days_bd j i
          go_wp2_with (go_at_call 131; refine (rdays_any _ _ _).mono ?_; rintro e w2 ⟨rfl, rfl⟩)
          go_round
          case rel => exact ⟨i + 1, by omega, by omega, by go_num, by rw [cs.out, ← HD.out]; go_num⟩
          case measure => simp [intOf]; omega
        · obtain rfl : i = m := by omega
          go_wp2_with fail
          go_ret2
          exact ⟨by rw [HN.out]; rfl, rfl⟩

theorem Dt.wd_eq (n : Int) (h1 : -25567 ≤ n) : ((n + 3).tmod 7 + 7) % 7 = Dt.wd n := by
  unfold Dt.wd
  have : (0 ≤ n + 3 ∧ (n + 3).tmod 7 = (n + 3) % 7) ∨ (n + 3 < 0 ∧ (n + 3).tmod 7 = -((-(n + 3)) % 7)) := by
    rcases Int.lt_or_le (n + 3) 0 with h | h
    · right
      refine ⟨h, ?_⟩
      have : (n + 3).tmod 7 = -((-(n + 3)).tmod 7) := by rw [Int.neg_tmod]; omega
      rw [this, Int.tmod_eq_emod_of_nonneg (by omega)]
    · exact Or.inl ⟨h, Int.tmod_eq_emod_of_nonneg h⟩
  omega
theorem Dt.tmod7 (a : Int) : -7 < a.tmod 7 ∧ a.tmod 7 < 7 := by
  have h1 := Int.tmod_lt_of_pos a (show (0 : Int) < 7 by omega)
  have h2 := Int.tmod_lt_of_pos (-a) (show (0 : Int) < 7 by omega)
  rw [Int.neg_tmod] at h2
  omega
end Go.Proofs.YthfbpbbepogllaaGreat
/- One contract for each date function of numbers: what it returns for any arguments. -/
namespace Go.Proofs.YthfbpbbepogllaaGreat
set_option linter.unusedVariables false
set_option linter.unusedSimpArgs false
open Go.RowKit

theorem dof_any (y m d : Int) (w : World) (hd1 : -9223372036854775808 ≤ d) (hd2 : d ≤ 9223372036854775807) :
    Calls Tryz.prog 138 #[.int .i64 y, .int .i64 m, .int .i64 d] w fun e w' => e = .returned (.tuple #[.int .i64 (Dt.ofV y m d), .int .i64 (Dt.ofE y m d)]) ∧ Below w.heap.size w w' := by
  unfold Dt.ofV Dt.ofE
  cases h : Dt.vld y m d
  · exact of_no y m d w h hd1 hd2
  · exact of_yes y m d w h
theorem rof_any (y m d : Int) (w : World) :
    Calls Tryz.prog 101 #[.int .i64 y, .int .i64 m, .int .i64 d] w fun e w' => e = .returned (.tuple #[.int .i64 (Dt.ofV y m d), .int .i64 (Dt.ofE y m d)]) ∧ w = w' := by
  unfold Dt.ofV Dt.ofE
  cases h : Dt.vld y m d
  · exact rof_no y m d w h
  · exact rof_yes y m d w h
theorem rcivil_any (n : Int) (w : World) :
    Calls Tryz.prog 133 #[.int .i64 n] w fun e w' => e = .returned (.tuple #[.int .i64 (Dt.cvY n), .int .i64 (Dt.cvM n), .int .i64 (Dt.cvD n), .int .i64 (Dt.cvE n)]) ∧ w = w' := by
  unfold Dt.cvY Dt.cvM Dt.cvD Dt.cvE
  cases h : Dt.isD n
  · exact rcivil_no n w ((Dt.isD_not n).1 h)
  · exact rcivil_yes n w ((Dt.isD_iff n).1 h).1 ((Dt.isD_iff n).1 h).2
theorem isd_any (n : Int) (w : World) : Calls Tryz.prog 165 #[.int .i64 n] w fun e w' => e = .returned (.bool (Dt.isD n)) ∧ w = w' := dvalid_any n w
theorem risd_any (n : Int) (w : World) : Calls Tryz.prog 130 #[.int .i64 n] w fun e w' => e = .returned (.bool (Dt.isD n)) ∧ w = w' := drvalid_any n w

theorem Dt.add_far (n k : Int) (h : Dt.isD n = true) (hk : k < -3600 ∨ 3600 < k) : Dt.addOk n k = false := by
  have c := Dt.cY_bd n h
  rw [← Bool.not_eq_true]
  unfold Dt.addOk Dt.mon
  simp only [Bool.and_eq_true, decide_eq_true_eq]
  omega
theorem Dt.add_noD (n k : Int) (h : Dt.isD n = false) : Dt.addOk n k = false := by unfold Dt.addOk; rw [h]; rfl

theorem Dt.add_of (n k : Int) (h : Dt.isD n = true) (_k1 : -4800 ≤ k) (_k2 : k ≤ 4800) :
    Dt.ofV (Dt.mon n k / 12) (Dt.mon n k % 12 + 1) (min (Dt.cD n) (max 1 (Dt.days (Dt.mon n k / 12) (Dt.mon n k % 12 + 1)))) = Dt.addV n k ∧
    Dt.ofE (Dt.mon n k / 12) (Dt.mon n k % 12 + 1) (min (Dt.cD n) (max 1 (Dt.days (Dt.mon n k / 12) (Dt.mon n k % 12 + 1)))) = Dt.addE n k := by
  have c := Dt.cY_bd n h
  cases ha : Dt.addOk n k
  · have hy : Dt.mon n k < 22800 ∨ 26399 < Dt.mon n k := by
      rw [← Bool.not_eq_true] at ha
      unfold Dt.addOk at ha
      rw [h] at ha
      simp only [Bool.true_and, Bool.and_eq_true, decide_eq_true_eq] at ha
      omega
    have hz : Dt.days (Dt.mon n k / 12) (Dt.mon n k % 12 + 1) = 0 := by unfold Dt.days; rw [if_pos (by omega)]
    have v : Dt.vld (Dt.mon n k / 12) (Dt.mon n k % 12 + 1) (min (Dt.cD n) (max 1 (Dt.days (Dt.mon n k / 12) (Dt.mon n k % 12 + 1)))) = false := by
      rw [← Bool.not_eq_true, Dt.vld_iff, hz]; omega
    unfold Dt.ofV Dt.ofE Dt.addV Dt.addE
    rw [v, ha]
    exact ⟨rfl, rfl⟩
  · have v := Dt.add_vld n k ha
    have hp : 0 < Dt.days (Dt.mon n k / 12) (Dt.mon n k % 12 + 1) := by rw [Dt.vld_iff] at v; omega
    rw [show max 1 (Dt.days (Dt.mon n k / 12) (Dt.mon n k % 12 + 1)) = Dt.days (Dt.mon n k / 12) (Dt.mon n k % 12 + 1) from by omega]
    unfold Dt.ofV Dt.ofE Dt.addV Dt.addE
    rw [v, ha]
    exact ⟨rfl, rfl⟩

set_option maxHeartbeats 1000000 in
theorem radd_any (n k : Int) (w : World) :
    Calls Tryz.prog 102 #[.int .i64 n, .int .i64 k] w fun e w' => e = .returned (.tuple #[.int .i64 (Dt.addV n k), .int .i64 (Dt.addE n k)]) ∧ w = w' := by
  cases hD : Dt.isD n
  · have hr := (Dt.isD_not n).1 hD
    have e : Dt.addOk n k = false := Dt.add_noD n k hD
    unfold Dt.addV Dt.addE
    rw [e]
    have H := Lib.hid hr
    clear hr hD e
    go_enter Tryz.func102, Tryz.ntmps102
    go_wp2_with (go_at_call 133; refine (rcivil_no _ _ H.out).mono ?_; rintro e w' ⟨rfl, rfl⟩)
    go_ret2
    exact ⟨rfl, rfl⟩
  · have c := Dt.cY_bd n hD
    obtain ⟨r1, r2⟩ := (Dt.isD_iff n).1 hD
    by_cases hk : k < -3600 ∨ 3600 < k
    · have e : Dt.addOk n k = false := Dt.add_far n k hD (by omega)
      unfold Dt.addV Dt.addE
      rw [e]
      clear e hD
      rcases hk with hk | hk
      · go_enter Tryz.func102, Tryz.ntmps102
        go_wp2_with (go_at_call 133; refine (rcivil_yes _ _ r1 r2).mono ?_; rintro e w1 ⟨rfl, rfl⟩)
        go_ret2
        exact ⟨rfl, rfl⟩
      · have h2 : ¬ k < -3600 := by omega
        go_enter Tryz.func102, Tryz.ntmps102
        go_wp2_with (go_at_call 133; refine (rcivil_yes _ _ r1 r2).mono ?_; rintro e w1 ⟨rfl, rfl⟩)
        go_ret2
        exact ⟨rfl, rfl⟩
    · have k1 : -3600 ≤ k := by omega
      have k2 : k ≤ 3600 := by omega
      have hm : Dt.mon n k = 12 * Dt.cY n + Dt.cM n - 1 + k := rfl
      by_cases hy : 22800 ≤ 12 * Dt.cY n + Dt.cM n - 1 + k ∧ 12 * Dt.cY n + Dt.cM n - 1 + k ≤ 26399
      · have ha : Dt.addOk n k = true := by
          unfold Dt.addOk; rw [hD]; simp only [Bool.true_and, Bool.and_eq_true, decide_eq_true_eq]; rw [hm]; exact hy
        have v := Dt.add_vld n k ha
        unfold Dt.addV Dt.addE Dt.addN
        rw [ha]
        rw [hm] at v ⊢
        have H := Lib.hid (show ∀ x, x = min (Dt.cD n) (Dt.days ((12 * Dt.cY n + Dt.cM n - 1 + k) / 12) ((12 * Dt.cY n + Dt.cM n - 1 + k) % 12 + 1)) → Dt.vld ((12 * Dt.cY n + Dt.cM n - 1 + k) / 12) ((12 * Dt.cY n + Dt.cM n - 1 + k) % 12 + 1) x = true from fun x hx => by rw [hx]; exact v)
        obtain ⟨y1, y2⟩ := hy
        obtain ⟨c1, c2, c3, c4, c5, c6, c7⟩ := c
        clear c6 ha v hm hD hk
        go_enter Tryz.func102, Tryz.ntmps102
        go_wp2_with (first
          | (go_at_call 133; refine (rcivil_yes _ _ r1 r2).mono ?_; rintro e w1 ⟨rfl, rfl⟩)
          | (go_at_call 131; refine (rdays_any _ _ _).mono ?_; rintro e w2 ⟨rfl, rfl⟩)
          | (go_at_call 101; refine (rof_yes _ _ _ _ (H.out _ (by omega))).mono ?_; rintro e w3 ⟨rfl, rfl⟩))
        all_goals
          go_ret2
          exact ⟨ret_pair ⟨by congr 1 <;> omega, rfl⟩, rfl⟩
      · have ha : Dt.addOk n k = false := by
          unfold Dt.addOk; rw [hD, ← Bool.not_eq_true]; simp only [Bool.true_and, Bool.and_eq_true, decide_eq_true_eq]; rw [hm]; exact hy
        unfold Dt.addV Dt.addE
        rw [ha]
        obtain ⟨c1, c2, c3, c4, c5, c6, c7⟩ := c
        clear c6 ha hm hD hk
        by_cases hy1 : 12 * Dt.cY n + Dt.cM n - 1 + k < 22800
        · clear hy
          go_enter Tryz.func102, Tryz.ntmps102
          go_wp2_with (go_at_call 133; refine (rcivil_yes _ _ r1 r2).mono ?_; rintro e w1 ⟨rfl, rfl⟩)
          go_ret2
          exact ⟨rfl, rfl⟩
        · have hy2 : 26399 < 12 * Dt.cY n + Dt.cM n - 1 + k := by omega
          clear hy
          go_enter Tryz.func102, Tryz.ntmps102
          go_wp2_with (go_at_call 133; refine (rcivil_yes _ _ r1 r2).mono ?_; rintro e w1 ⟨rfl, rfl⟩)
          go_ret2
          exact ⟨rfl, rfl⟩
theorem risd_is (n : Int) (b : Bool) (w : World) (h : Hid (Dt.isD n = b)) : Calls Tryz.prog 130 #[.int .i64 n] w fun e w' => e = .returned (.bool b) ∧ w = w' := by
  have := risd_any n w
  rw [h.out] at this
  exact this
theorem of_is (y m d a e : Int) (w : World) (hd1 : -9223372036854775808 ≤ d) (hd2 : d ≤ 9223372036854775807) (h1 : Hid (Dt.ofV y m d = a)) (h2 : Hid (Dt.ofE y m d = e)) :
    Calls Tryz.prog 138 #[.int .i64 y, .int .i64 m, .int .i64 d] w fun r w' => r = .returned (.tuple #[.int .i64 a, .int .i64 e]) ∧ Below w.heap.size w w' := by
  have := dof_any y m d w hd1 hd2
  rw [h1.out, h2.out] at this
  exact this
end Go.Proofs.YthfbpbbepogllaaGreat
