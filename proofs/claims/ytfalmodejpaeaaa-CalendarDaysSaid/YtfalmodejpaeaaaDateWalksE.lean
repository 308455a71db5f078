/- The walks of the reference's Civil and Of. -/
import Derived.Test.YtfalmodejpaeaaaDateWalksD
import Derived.Test.YtfalmodejpaeaaaDateSpec
namespace Go.Proofs.Ytfalmodejpaeaaa
open Go.RowKit

set_option maxHeartbeats 1000000 in
theorem rcivil_yes (n : Int) (w : World) (h1 : -25567 ≤ n) (h2 : n ≤ 84005) :
    Calls Try.prog 30 #[.int .i64 n] w fun e w' => e = .returned (.tuple #[.int .i64 (Dt.cY n), .int .i64 (Dt.cM n), .int .i64 (Dt.cD n), .int .i64 0]) ∧ w = w' := by
  obtain ⟨y1, y2, y3, y4⟩ := Dt.cY_ok n h1 h2
  obtain ⟨m1, m2, m3, m4⟩ := Dt.cM_ok n h1 h2
  have hD : Dt.cD n = n - Dt.dby (Dt.cY n) - Dt.mcum (Dt.lp (Dt.cY n)) (Dt.cM n) + 1 := rfl
  rw [hD]
  clear hD
  have l := Dt.lp_01 (Dt.cY n)
  generalize Dt.cY n = Y at *
  generalize Dt.cM n = M at *
  go_enter Try.func30, Try.ntmps30
  go_wp2_with (go_at_call 60; refine (rvalid_yes _ _ h1 h2).mono ?_; rintro e w' ⟨rfl, rfl⟩)
  go_loop [6, 8] (fun t r => ∃ y : Int, 1900 ≤ y ∧ y ≤ Y ∧ t = .int .i64 y ∧ r = .int .i64 (n - Dt.dby y)) (fun t _ => (Y - intOf t).toNat)
  case atStart => exact ⟨1900, by omega, by omega, rfl, by rw [Dt.dby_1900]; go_num⟩
  case round =>
    obtain ⟨y, ya, yb, rfl, rfl⟩ := hrel
    have db := Dt.dby_bd y (by omega) (by omega)
    have s := Dt.dby_succ y
    by_cases hlt : y < Y
    · have hm := Dt.dby_mono (y + 1) Y (by omega)
      have hle : Dt.dby (y + 1) ≤ n := by omega
      by_cases hl : Dt.leapB y = true
      · have e1 : Dt.lp y = 1 := by simp [Dt.lp, hl]
        have h3 : 366 ≤ n - Dt.dby y := by omega
        have HS := Lib.hid s
        have HE := Lib.hid e1
        have HL := Lib.hid hl
        clear s e1 hl hle hm
        go_wp2_with (go_at_call 61; refine (rleap_any _ _ (by omega) (by omega)).mono ?_; rintro e w' ⟨rfl, rfl⟩; rw [HL.out])
        go_round
        case rel => exact ⟨y + 1, by omega, by omega, by go_num, by rw [HS.out, HE.out]; go_num⟩
        case measure => simp [intOf]; omega
      · have hl' : Dt.leapB y = false := by simpa using hl
        have e1 : Dt.lp y = 0 := by simp [Dt.lp, hl']
        have h3 : 365 ≤ n - Dt.dby y := by omega
        have HS := Lib.hid s
        have HE := Lib.hid e1
        have HL := Lib.hid hl'
        clear s e1 hl hl' hle hm
        go_wp2_with (go_at_call 61; refine (rleap_any _ _ (by omega) (by omega)).mono ?_; rintro e w' ⟨rfl, rfl⟩; rw [HL.out])
        go_round
        case rel => exact ⟨y + 1, by omega, by omega, by go_num, by rw [HS.out, HE.out]; go_num⟩
        case measure => simp [intOf]; omega
    · obtain rfl : y = Y := by omega
      have mb := Dt.mcum_bd (Dt.lp y) M (by omega) (by omega)
      have key : ∀ b : Bool, Dt.leapB y = b → (if b then n - Dt.dby y < 366 else n - Dt.dby y < 365) := by
        intro b hb
        cases b
        · have e1 : Dt.lp y = 0 := by simp [Dt.lp, hb]
          simp only [Bool.false_eq_true, if_false]; omega
        · have e1 : Dt.lp y = 1 := by simp [Dt.lp, hb]
          simp only [if_true]; omega
      have K := key _ rfl
      clear key s hlt
      cases hl : Dt.leapB y
      all_goals
        rw [hl] at K
        simp only [Bool.false_eq_true, if_false, if_true] at K
        have HL := Lib.hid hl
        clear hl
        go_wp2_with (go_at_call 61; refine (rleap_any _ _ (by omega) (by omega)).mono ?_; rintro e w' ⟨rfl, rfl⟩; rw [HL.out])
        go_loop [7, 8] (fun k r => ∃ m : Int, 1 ≤ m ∧ m ≤ M ∧ k = .int .i64 m ∧ r = .int .i64 (n - Dt.dby y - Dt.mcum (Dt.lp y) m)) (fun k _ => (M - intOf k).toNat)
        case atStart => exact ⟨1, by omega, by omega, rfl, by rw [Dt.mcum_1]; go_num⟩
        case round =>
          obtain ⟨m, ma, mb', rfl, rfl⟩ := hrel
          have c := Dt.mcum_bd (Dt.lp y) m (by omega) (by omega)
          have dj := Dt.days_bd y m
          have HD := Lib.hid (Dt.days_in y m (by omega) (by omega) (by omega) (by omega))
          by_cases hlt2 : m < M
          · have cs := Lib.hid (Dt.mcum_succ (Dt.lp y) m (by omega) (by omega))
            have hml := Dt.mcum_lt (Dt.lp y) m M (by omega) (by omega) (by omega) hlt2 (by omega)
            rw [← HD.out] at hml
            have hge : Dt.days y m ≤ n - Dt.dby y - Dt.mcum (Dt.lp y) m := by omega
            go_wp2_with (go_at_call 59; refine (rdays_any _ _ _).mono ?_; rintro e w2 ⟨rfl, rfl⟩)
            go_round
            case rel => exact ⟨m + 1, by omega, by omega, by go_num, by rw [cs.out, ← HD.out]; go_num⟩
            case measure => simp [intOf]; omega
          · obtain rfl : m = M := by omega
            rw [← HD.out] at m4
            have hlt3 : ¬ Dt.days y m ≤ n - Dt.dby y - Dt.mcum (Dt.lp y) m := by omega
            go_wp2_with (go_at_call 59; refine (rdays_any _ _ _).mono ?_; rintro e w2 ⟨rfl, rfl⟩)
            refine bodyPost_ret (results_tmp4 rfl _ _ _) rfl ?_
            exact ⟨rfl, rfl⟩

set_option maxHeartbeats 1000000 in
theorem rof_no (y m d : Int) (w : World) (h : Dt.vld y m d = false) :
    Calls Try.prog 78 #[.int .i64 y, .int .i64 m, .int .i64 d] w fun e w' => e = .returned (.tuple #[.int .i64 0, .int .i64 2]) ∧ w = w' := by
  have hv : ¬ (1 ≤ d ∧ d ≤ Dt.days y m) := by rw [← Dt.vld_iff, h]; simp
  clear h
  by_cases h1 : d < 1
  · clear hv
    go_enter Try.func78, Try.ntmps78
    go_wp2_with fail
    go_ret2
    exact ⟨rfl, rfl⟩
  · have h2 : Dt.days y m < d := by omega
    clear hv
    go_enter Try.func78, Try.ntmps78
    go_wp2_with (go_at_call 59; refine (rdays_any _ _ _).mono ?_; rintro e w1 ⟨rfl, rfl⟩)
    go_ret2
    exact ⟨rfl, rfl⟩

set_option maxHeartbeats 1000000 in
theorem rof_yes (y m d : Int) (w : World) (h : Dt.vld y m d = true) :
    Calls Try.prog 78 #[.int .i64 y, .int .i64 m, .int .i64 d] w fun e w' => e = .returned (.tuple #[.int .i64 (Dt.num y m d), .int .i64 0]) ∧ w = w' := by
  have hv := (Dt.vld_iff y m d).1 h
  obtain ⟨a1, a2, a3, a4, a5, a6, a7⟩ := Dt.vld_pos y m d h
  obtain ⟨v1, v2⟩ := hv
  have v3 := Dt.days_bd y m
  have l := Dt.lp_01 y
  have HN : Hid (Dt.num y m d = Dt.dby y + Dt.mcum (Dt.lp y) m + d - 1) := Lib.hid rfl
  clear h a6
  go_enter Try.func78, Try.ntmps78
  go_wp2_with (go_at_call 59; refine (rdays_any _ _ _).mono ?_; rintro e w1 ⟨rfl, rfl⟩)
  go_loop [8, 9] (fun t k => ∃ j : Int, 1900 ≤ j ∧ j ≤ y ∧ k = .int .i64 j ∧ t = .int .i64 (Dt.dby j)) (fun _ k => (y - intOf k).toNat)
  case atStart => exact ⟨1900, by omega, by omega, rfl, by rw [Dt.dby_1900]⟩
  case round =>
    obtain ⟨j, hj1, hj2, rfl, rfl⟩ := hrel
    have db := Dt.dby_bd j (by omega) (by omega)
    by_cases hlt : j < y
    · have HS := Lib.hid (Dt.dby_succ j)
      cases hl : Dt.leapB j
      · have HE : Hid (Dt.lp j = 0) := Lib.hid (by simp [Dt.lp, hl])
        have HL := Lib.hid hl
        clear hl
        go_wp2_with (go_at_call 61; refine (rleap_any _ _ (by omega) (by omega)).mono ?_; rintro e w' ⟨rfl, rfl⟩; rw [HL.out])
        go_round
        case rel => exact ⟨j + 1, by omega, by omega, by go_num, by rw [HS.out, HE.out]; go_num⟩
        case measure => simp [intOf]; omega
      · have HE : Hid (Dt.lp j = 1) := Lib.hid (by simp [Dt.lp, hl])
        have HL := Lib.hid hl
        clear hl
        go_wp2_with (go_at_call 61; refine (rleap_any _ _ (by omega) (by omega)).mono ?_; rintro e w' ⟨rfl, rfl⟩; rw [HL.out])
        go_round
        case rel => exact ⟨j + 1, by omega, by omega, by go_num, by rw [HS.out, HE.out]⟩
        case measure => simp [intOf]; omega
    · obtain rfl : j = y := by omega
      go_wp2_with fail
      go_loop [8, 10] (fun t k => ∃ i : Int, 1 ≤ i ∧ i ≤ m ∧ k = .int .i64 i ∧ t = .int .i64 (Dt.dby j + Dt.mcum (Dt.lp j) i)) (fun _ k => (m - intOf k).toNat)
      case atStart => exact ⟨1, by omega, by omega, rfl, by rw [Dt.mcum_1]; go_num⟩
      case round =>
        obtain ⟨i, hi1, hi2, rfl, rfl⟩ := hrel
        have c := Dt.mcum_bd (Dt.lp j) i (by omega) (by omega)
        by_cases hlt2 : i < m
        · have cs := Lib.hid (Dt.mcum_succ (Dt.lp j) i (by omega) (by omega))
          have HD := Lib.hid (Dt.days_in j i (by omega) (by omega) (by omega) (by omega))
          have dj := Dt.days_bd j i
          go_wp2_with (go_at_call 59; refine (rdays_any _ _ _).mono ?_; rintro e w2 ⟨rfl, rfl⟩)
          go_round
          case rel => exact ⟨i + 1, by omega, by omega, by go_num, by rw [cs.out, ← HD.out]; go_num⟩
          case measure => simp [intOf]; omega
        · obtain rfl : i = m := by omega
          go_wp2_with fail
          go_ret2
          exact ⟨by rw [HN.out]; rfl, rfl⟩

theorem Dt.wd_eq (n : Int) (h1 : -25567 ≤ n) : ((n + 3).tmod 7 + 7) % 7 = Dt.wd n := by
  unfold Dt.wd
  have : (0 ≤ n + 3 ∧ (n + 3).tmod 7 = (n + 3) % 7) ∨ (n + 3 < 0 ∧ (n + 3).tmod 7 = -((-(n + 3)) % 7)) := by
    rcases Int.lt_or_le (n + 3) 0 with h | h
    · right
      refine ⟨h, ?_⟩
      have : (n + 3).tmod 7 = -((-(n + 3)).tmod 7) := by rw [Int.neg_tmod]; omega
      rw [this, Int.tmod_eq_emod_of_nonneg (by omega)]
    · exact Or.inl ⟨h, Int.tmod_eq_emod_of_nonneg h⟩
  omega
theorem Dt.tmod7 (a : Int) : -7 < a.tmod 7 ∧ a.tmod 7 < 7 := by
  have h1 := Int.tmod_lt_of_pos a (show (0 : Int) < 7 by omega)
  have h2 := Int.tmod_lt_of_pos (-a) (show (0 : Int) < 7 by omega)
  rw [Int.neg_tmod] at h2
  omega
end Go.Proofs.Ytfalmodejpaeaaa
