/- Texts of this claim, put together. -/
import Derived.Test.YtnddoehhcpejjaaGreatJAJ
import Derived.Test.YtnddoehhcpejjaaGreatJAL
import Derived.Laws.IdiomStrings
import Derived.Deep.RegionWith
/- The walks of the reference's Civil and Of. -/
namespace Go.Proofs.YtnddoehhcpejjaaGreat
set_option linter.unusedVariables false
set_option linter.unusedSimpArgs false
open Go.RowKit

set_option maxHeartbeats 1000000 in
theorem rcivil_yes (n : Int) (w : World) (h1 : -25567 ≤ n) (h2 : n ≤ 84005) :
    Calls Tryz.prog 32 #[.int .i64 n] w fun e w' => e = .returned (.tuple #[.int .i64 (Dt.cY n), .int .i64 (Dt.cM n), .int .i64 (Dt.cD n), .int .i64 0]) ∧ w = w' := by
  obtain ⟨y1, y2, y3, y4⟩ := Dt.cY_ok n h1 h2
  obtain ⟨m1, m2, m3, m4⟩ := Dt.cM_ok n h1 h2
  have hD : Dt.cD n = n - Dt.dby (Dt.cY n) - Dt.mcum (Dt.lp (Dt.cY n)) (Dt.cM n) + 1 := rfl
  rw [hD]
  clear hD
  have l := Dt.lp_01 (Dt.cY n)
  generalize Dt.cY n = Y at *
  generalize Dt.cM n = M at *
  go_enter Tryz.func32, Tryz.ntmps32
  go_wp2_with (go_at_call 52; refine (rvalid_yes _ _ h1 h2).mono ?_; rintro e w' ⟨rfl, rfl⟩)
  go_loop [6, 8] (fun t r => ∃ y : Int, 1900 ≤ y ∧ y ≤ Y ∧ t = .int .i64 y ∧ r = .int .i64 (n - Dt.dby y)) (fun t _ => (Y - intOf t).toNat)
  case atStart => exact ⟨1900, by omega, by omega, rfl, by rw [Dt.dby_1900]; go_num⟩
  case round =>
    obtain ⟨y, ya, yb, rfl, rfl⟩ := hrel
    have db := Dt.dby_bd y (by omega) (by omega)
    have s := Dt.dby_succ y
    by_cases hlt : y < Y
    · have hm := Dt.dby_mono (y + 1) Y (by omega)
      have hle : Dt.dby (y + 1) ≤ n := by omega
      by_cases hl : Dt.leapB y = true
      · have e1 : Dt.lp y = 1 := by simp [Dt.lp, hl]
        have h3 : 366 ≤ n - Dt.dby y := by omega
        have HS := Lib.hid s
        have HE := Lib.hid e1
        have HL := Lib.hid hl
        clear s e1 hl hle hm
        go_wp2_with (go_at_call 53; refine (rleap_any _ _ (by omega) (by omega)).mono ?_; rintro e w' ⟨rfl, rfl⟩; rw [HL.out])
        go_round
        case rel => exact ⟨y + 1, by omega, by omega, by go_num, by rw [HS.out, HE.out]; go_num⟩
        case measure => simp [intOf]; omega
      · have hl' : Dt.leapB y = false := by simpa using hl
        have e1 : Dt.lp y = 0 := by simp [Dt.lp, hl']
        have h3 : 365 ≤ n - Dt.dby y := by omega
        have HS := Lib.hid s
        have HE := Lib.hid e1
        have HL := Lib.hid hl'
        clear s e1 hl hl' hle hm
        go_wp2_with (go_at_call 53; refine (rleap_any _ _ (by omega) (by omega)).mono ?_; rintro e w' ⟨rfl, rfl⟩; rw [HL.out])
        go_round
        case rel => exact ⟨y + 1, by omega, by omega, by go_num, by rw [HS.out, HE.out]; go_num⟩
        case measure => simp [intOf]; omega
    · obtain rfl : y = Y := by omega
      have mb := Dt.mcum_bd (Dt.lp y) M (by omega) (by omega)
      have key : ∀ b : Bool, Dt.leapB y = b → (if b then n - Dt.dby y < 366 else n - Dt.dby y < 365) := by
        intro b hb
        cases b
        · have e1 : Dt.lp y = 0 := by simp [Dt.lp, hb]
          simp only [Bool.false_eq_true, if_false]; omega
        · have e1 : Dt.lp y = 1 := by simp [Dt.lp, hb]
          simp only [if_true]; omega
      have K := key _ rfl
      clear key s hlt
      cases hl : Dt.leapB y
      all_goals
        rw [hl] at K
        simp only [Bool.false_eq_true, if_false, if_true] at K
        have HL := Lib.hid hl
        clear hl
        go_wp2_with (go_at_call 53; refine (rleap_any _ _ (by omega) (by omega)).mono ?_; rintro e w' ⟨rfl, rfl⟩; rw [HL.out])
        go_loop [7, 8] (fun k r => ∃ m : Int, 1 ≤ m ∧ m ≤ M ∧ k = .int .i64 m ∧ r = .int .i64 (n - Dt.dby y - Dt.mcum (Dt.lp y) m)) (fun k _ => (M - intOf k).toNat)
        case atStart => exact ⟨1, by omega, by omega, rfl, by rw [Dt.mcum_1]; go_num⟩
        case round =>
          obtain ⟨m, ma, mb', rfl, rfl⟩ := hrel
          have c := Dt.mcum_bd (Dt.lp y) m (by omega) (by omega)
          have dj := Dt.days_bd y m
          have HD := Lib.hid (Dt.days_in y m (by omega) (by omega) (by omega) (by omega))
          by_cases hlt2 : m < M
          · have cs := Lib.hid (Dt.mcum_succ (Dt.lp y) m (by omega) (by omega))
            have hml := Dt.mcum_lt (Dt.lp y) m M (by omega) (by omega) (by omega) hlt2 (by omega)
            rw [← HD.out] at hml
            have hge : Dt.days y m ≤ n - Dt.dby y - Dt.mcum (Dt.lp y) m := by omega
            go_wp2_with (go_at_call 33; refine (rdays_any _ _ _).mono ?_; rintro e w2 ⟨rfl, rfl⟩)
            go_round
            case rel => exact ⟨m + 1, by omega, by omega, by go_num, by rw [cs.out, ← HD.out]; go_num⟩
            case measure => simp [intOf]; omega
          · obtain rfl : m = M := by omega
            rw [← HD.out] at m4
            have hlt3 : ¬ Dt.days y m ≤ n - Dt.dby y - Dt.mcum (Dt.lp y) m := by omega
            go_wp2_with (go_at_call 33; refine (rdays_any _ _ _).mono ?_; rintro e w2 ⟨rfl, rfl⟩)
            refine bodyPost_ret (results_tmp4 rfl _ _ _) rfl ?_
            exact ⟨rfl, rfl⟩

set_option maxHeartbeats 1000000 in
theorem rof_no (y m d : Int) (w : World) (h : Dt.vld y m d = false) :
    Calls Tryz.prog 79 #[.int .i64 y, .int .i64 m, .int .i64 d] w fun e w' => e = .returned (.tuple #[.int .i64 0, .int .i64 2]) ∧ w = w' := by
  have hv : ¬ (1 ≤ d ∧ d ≤ Dt.days y m) := by rw [← Dt.vld_iff, h]; simp
  clear h
  by_cases h1 : d < 1
  · clear hv
    go_enter Tryz.func79, Tryz.ntmps79
    go_wp2_with fail
    go_ret2
    exact ⟨rfl, rfl⟩
  · have h2 : Dt.days y m < d := by omega
    clear hv
    go_enter Tryz.func79, Tryz.ntmps79
    go_wp2_with (go_at_call 33; refine (rdays_any _ _ _).mono ?_; rintro e w1 ⟨rfl, rfl⟩)
    go_ret2
    exact ⟨rfl, rfl⟩

set_option maxHeartbeats 1000000 in
theorem rof_yes (y m d : Int) (w : World) (h : Dt.vld y m d = true) :
    Calls Tryz.prog 79 #[.int .i64 y, .int .i64 m, .int .i64 d] w fun e w' => e = .returned (.tuple #[.int .i64 (Dt.num y m d), .int .i64 0]) ∧ w = w' := by
  have hv := (Dt.vld_iff y m d).1 h
  obtain ⟨a1, a2, a3, a4, a5, a6, a7⟩ := Dt.vld_pos y m d h
  obtain ⟨v1, v2⟩ := hv
  have v3 := Dt.days_bd y m
  have l := Dt.lp_01 y
  have HN : Hid (Dt.num y m d = Dt.dby y + Dt.mcum (Dt.lp y) m + d - 1) := Lib.hid rfl
  clear h a6
  go_enter Tryz.func79, Tryz.ntmps79
  go_wp2_with (go_at_call 33; refine (rdays_any _ _ _).mono ?_; rintro e w1 ⟨rfl, rfl⟩)
  go_loop [8, 9] (fun t k => ∃ j : Int, 1900 ≤ j ∧ j ≤ y ∧ k = .int .i64 j ∧ t = .int .i64 (Dt.dby j)) (fun _ k => (y - intOf k).toNat)
  case atStart => exact ⟨1900, by omega, by omega, rfl, by rw [Dt.dby_1900]⟩
  case round =>
    obtain ⟨j, hj1, hj2, rfl, rfl⟩ := hrel
    have db := Dt.dby_bd j (by omega) (by omega)
    by_cases hlt : j < y
    · have HS := Lib.hid (Dt.dby_succ j)
      cases hl : Dt.leapB j
      · have HE : Hid (Dt.lp j = 0) := Lib.hid (by simp [Dt.lp, hl])
        have HL := Lib.hid hl
        clear hl
        go_wp2_with (go_at_call 53; refine (rleap_any _ _ (by omega) (by omega)).mono ?_; rintro e w' ⟨rfl, rfl⟩; rw [HL.out])
        go_round
        case rel => exact ⟨j + 1, by omega, by omega, by go_num, by rw [HS.out, HE.out]; go_num⟩
        case measure => simp [intOf]; omega
      · have HE : Hid (Dt.lp j = 1) := Lib.hid (by simp [Dt.lp, hl])
        have HL := Lib.hid hl
        clear hl
        go_wp2_with (go_at_call 53; refine (rleap_any _ _ (by omega) (by omega)).mono ?_; rintro e w' ⟨rfl, rfl⟩; rw [HL.out])
        go_round
        case rel => exact ⟨j + 1, by omega, by omega, by go_num, by rw [HS.out, HE.out]⟩
        case measure => simp [intOf]; omega
    · obtain rfl : j = y := by omega
      go_wp2_with fail
      go_loop [8, 10] (fun t k => ∃ i : Int, 1 ≤ i ∧ i ≤ m ∧ k = .int .i64 i ∧ t = .int .i64 (Dt.dby j + Dt.mcum (Dt.lp j) i)) (fun _ k => (m - intOf k).toNat)
      case atStart => exact ⟨1, by omega, by omega, rfl, by rw [Dt.mcum_1]; go_num⟩
      case round =>
        obtain ⟨i, hi1, hi2, rfl, rfl⟩ := hrel
        have c := Dt.mcum_bd (Dt.lp j) i (by omega) (by omega)
        by_cases hlt2 : i < m
        · have cs := Lib.hid (Dt.mcum_succ (Dt.lp j) i (by omega) (by omega))
          have HD := Lib.hid (Dt.days_in j i (by omega) (by omega) (by omega) (by omega))
          have dj := Dt.days_bd j i
          go_wp2_with (go_at_call 33; refine (rdays_any _ _ _).mono ?_; rintro e w2 ⟨rfl, rfl⟩)
          go_round
          case rel => exact ⟨i + 1, by omega, by omega, by go_num, by rw [cs.out, ← HD.out]; go_num⟩
          case measure => simp [intOf]; omega
        · obtain rfl : i = m := by omega
          go_wp2_with fail
          go_ret2
          exact ⟨by rw [HN.out]; rfl, rfl⟩

theorem Dt.wd_eq (n : Int) (h1 : -25567 ≤ n) : ((n + 3).tmod 7 + 7) % 7 = Dt.wd n := by
  unfold Dt.wd
  have : (0 ≤ n + 3 ∧ (n + 3).tmod 7 = (n + 3) % 7) ∨ (n + 3 < 0 ∧ (n + 3).tmod 7 = -((-(n + 3)) % 7)) := by
    rcases Int.lt_or_le (n + 3) 0 with h | h
    · right
      refine ⟨h, ?_⟩
      have : (n + 3).tmod 7 = -((-(n + 3)).tmod 7) := by rw [Int.neg_tmod]; omega
      rw [this, Int.tmod_eq_emod_of_nonneg (by omega)]
    · exact Or.inl ⟨h, Int.tmod_eq_emod_of_nonneg h⟩
  omega
theorem Dt.tmod7 (a : Int) : -7 < a.tmod 7 ∧ a.tmod 7 < 7 := by
  have h1 := Int.tmod_lt_of_pos a (show (0 : Int) < 7 by omega)
  have h2 := Int.tmod_lt_of_pos (-a) (show (0 : Int) < 7 by omega)
  rw [Int.neg_tmod] at h2
  omega
end Go.Proofs.YtnddoehhcpejjaaGreat
/- One contract for each date function of numbers: what it returns for any arguments. -/
namespace Go.Proofs.YtnddoehhcpejjaaGreat
set_option linter.unusedVariables false
set_option linter.unusedSimpArgs false
open Go.RowKit

theorem dof_any (y m d : Int) (w : World) (hd1 : -9223372036854775808 ≤ d) (hd2 : d ≤ 9223372036854775807) :
    Calls Tryz.prog 70 #[.int .i64 y, .int .i64 m, .int .i64 d] w fun e w' => e = .returned (.tuple #[.int .i64 (Dt.ofV y m d), .int .i64 (Dt.ofE y m d)]) ∧ Below w.heap.size w w' := by
  unfold Dt.ofV Dt.ofE
  cases h : Dt.vld y m d
  · exact of_no y m d w h hd1 hd2
  · exact of_yes y m d w h
theorem rof_any (y m d : Int) (w : World) :
    Calls Tryz.prog 79 #[.int .i64 y, .int .i64 m, .int .i64 d] w fun e w' => e = .returned (.tuple #[.int .i64 (Dt.ofV y m d), .int .i64 (Dt.ofE y m d)]) ∧ w = w' := by
  unfold Dt.ofV Dt.ofE
  cases h : Dt.vld y m d
  · exact rof_no y m d w h
  · exact rof_yes y m d w h
theorem civil_any (n : Int) (w : World) :
    Calls Tryz.prog 28 #[.int .i64 n] w fun e w' => e = .returned (.tuple #[.int .i64 (Dt.cvY n), .int .i64 (Dt.cvM n), .int .i64 (Dt.cvD n), .int .i64 (Dt.cvE n)]) ∧ Below w.heap.size w w' := by
  unfold Dt.cvY Dt.cvM Dt.cvD Dt.cvE
  cases h : Dt.isD n
  · exact (civil_no n w ((Dt.isD_not n).1 h)).mono fun _ _ ⟨a, b⟩ => ⟨a, by rw [← b]; exact Below.refl _ _⟩
  · exact civil_yes n w ((Dt.isD_iff n).1 h).1 ((Dt.isD_iff n).1 h).2
theorem rcivil_any (n : Int) (w : World) :
    Calls Tryz.prog 32 #[.int .i64 n] w fun e w' => e = .returned (.tuple #[.int .i64 (Dt.cvY n), .int .i64 (Dt.cvM n), .int .i64 (Dt.cvD n), .int .i64 (Dt.cvE n)]) ∧ w = w' := by
  unfold Dt.cvY Dt.cvM Dt.cvD Dt.cvE
  cases h : Dt.isD n
  · exact rcivil_no n w ((Dt.isD_not n).1 h)
  · exact rcivil_yes n w ((Dt.isD_iff n).1 h).1 ((Dt.isD_iff n).1 h).2
theorem isd_any (n : Int) (w : World) : Calls Tryz.prog 45 #[.int .i64 n] w fun e w' => e = .returned (.bool (Dt.isD n)) ∧ w = w' := dvalid_any n w
theorem risd_any (n : Int) (w : World) : Calls Tryz.prog 52 #[.int .i64 n] w fun e w' => e = .returned (.bool (Dt.isD n)) ∧ w = w' := drvalid_any n w

theorem Dt.add_far (n k : Int) (h : Dt.isD n = true) (hk : k < -3600 ∨ 3600 < k) : Dt.addOk n k = false := by
  have c := Dt.cY_bd n h
  rw [← Bool.not_eq_true]
  unfold Dt.addOk Dt.mon
  simp only [Bool.and_eq_true, decide_eq_true_eq]
  omega
theorem Dt.add_noD (n k : Int) (h : Dt.isD n = false) : Dt.addOk n k = false := by unfold Dt.addOk; rw [h]; rfl

theorem Dt.add_of (n k : Int) (h : Dt.isD n = true) (_k1 : -4800 ≤ k) (_k2 : k ≤ 4800) :
    Dt.ofV (Dt.mon n k / 12) (Dt.mon n k % 12 + 1) (min (Dt.cD n) (max 1 (Dt.days (Dt.mon n k / 12) (Dt.mon n k % 12 + 1)))) = Dt.addV n k ∧
    Dt.ofE (Dt.mon n k / 12) (Dt.mon n k % 12 + 1) (min (Dt.cD n) (max 1 (Dt.days (Dt.mon n k / 12) (Dt.mon n k % 12 + 1)))) = Dt.addE n k := by
  have c := Dt.cY_bd n h
  cases ha : Dt.addOk n k
  · have hy : Dt.mon n k < 22800 ∨ 26399 < Dt.mon n k := by
      rw [← Bool.not_eq_true] at ha
      unfold Dt.addOk at ha
      rw [h] at ha
      simp only [Bool.true_and, Bool.and_eq_true, decide_eq_true_eq] at ha
      omega
    have hz : Dt.days (Dt.mon n k / 12) (Dt.mon n k % 12 + 1) = 0 := by unfold Dt.days; rw [if_pos (by omega)]
    have v : Dt.vld (Dt.mon n k / 12) (Dt.mon n k % 12 + 1) (min (Dt.cD n) (max 1 (Dt.days (Dt.mon n k / 12) (Dt.mon n k % 12 + 1)))) = false := by
      rw [← Bool.not_eq_true, Dt.vld_iff, hz]; omega
    unfold Dt.ofV Dt.ofE Dt.addV Dt.addE
    rw [v, ha]
    exact ⟨rfl, rfl⟩
  · have v := Dt.add_vld n k ha
    have hp : 0 < Dt.days (Dt.mon n k / 12) (Dt.mon n k % 12 + 1) := by rw [Dt.vld_iff] at v; omega
    rw [show max 1 (Dt.days (Dt.mon n k / 12) (Dt.mon n k % 12 + 1)) = Dt.days (Dt.mon n k / 12) (Dt.mon n k % 12 + 1) from by omega]
    unfold Dt.ofV Dt.ofE Dt.addV Dt.addE
    rw [v, ha]
    exact ⟨rfl, rfl⟩

set_option maxHeartbeats 1000000 in
theorem radd_any (n k : Int) (w : World) :
    Calls Tryz.prog 80 #[.int .i64 n, .int .i64 k] w fun e w' => e = .returned (.tuple #[.int .i64 (Dt.addV n k), .int .i64 (Dt.addE n k)]) ∧ w = w' := by
  cases hD : Dt.isD n
  · have hr := (Dt.isD_not n).1 hD
    have e : Dt.addOk n k = false := Dt.add_noD n k hD
    unfold Dt.addV Dt.addE
    rw [e]
    have H := Lib.hid hr
    clear hr hD e
    go_enter Tryz.func80, Tryz.ntmps80
    go_wp2_with (go_at_call 32; refine (rcivil_no _ _ H.out).mono ?_; rintro e w' ⟨rfl, rfl⟩)
    go_ret2
    exact ⟨rfl, rfl⟩
  · have c := Dt.cY_bd n hD
    obtain ⟨r1, r2⟩ := (Dt.isD_iff n).1 hD
    by_cases hk : k < -3600 ∨ 3600 < k
    · have e : Dt.addOk n k = false := Dt.add_far n k hD (by omega)
      unfold Dt.addV Dt.addE
      rw [e]
      clear e hD
      rcases hk with hk | hk
      · go_enter Tryz.func80, Tryz.ntmps80
        go_wp2_with (go_at_call 32; refine (rcivil_yes _ _ r1 r2).mono ?_; rintro e w1 ⟨rfl, rfl⟩)
        go_ret2
        exact ⟨rfl, rfl⟩
      · have h2 : ¬ k < -3600 := by omega
        go_enter Tryz.func80, Tryz.ntmps80
        go_wp2_with (go_at_call 32; refine (rcivil_yes _ _ r1 r2).mono ?_; rintro e w1 ⟨rfl, rfl⟩)
        go_ret2
        exact ⟨rfl, rfl⟩
    · have k1 : -3600 ≤ k := by omega
      have k2 : k ≤ 3600 := by omega
      have hm : Dt.mon n k = 12 * Dt.cY n + Dt.cM n - 1 + k := rfl
      by_cases hy : 22800 ≤ 12 * Dt.cY n + Dt.cM n - 1 + k ∧ 12 * Dt.cY n + Dt.cM n - 1 + k ≤ 26399
      · have ha : Dt.addOk n k = true := by
          unfold Dt.addOk; rw [hD]; simp only [Bool.true_and, Bool.and_eq_true, decide_eq_true_eq]; rw [hm]; exact hy
        have v := Dt.add_vld n k ha
        unfold Dt.addV Dt.addE Dt.addN
        rw [ha]
        rw [hm] at v ⊢
        have H := Lib.hid (show ∀ x, x = min (Dt.cD n) (Dt.days ((12 * Dt.cY n + Dt.cM n - 1 + k) / 12) ((12 * Dt.cY n + Dt.cM n - 1 + k) % 12 + 1)) → Dt.vld ((12 * Dt.cY n + Dt.cM n - 1 + k) / 12) ((12 * Dt.cY n + Dt.cM n - 1 + k) % 12 + 1) x = true from fun x hx => by rw [hx]; exact v)
        obtain ⟨y1, y2⟩ := hy
        obtain ⟨c1, c2, c3, c4, c5, c6, c7⟩ := c
        clear c6 ha v hm hD hk
        go_enter Tryz.func80, Tryz.ntmps80
        go_wp2_with (first
          | (go_at_call 32; refine (rcivil_yes _ _ r1 r2).mono ?_; rintro e w1 ⟨rfl, rfl⟩)
          | (go_at_call 33; refine (rdays_any _ _ _).mono ?_; rintro e w2 ⟨rfl, rfl⟩)
          | (go_at_call 79; refine (rof_yes _ _ _ _ (H.out _ (by omega))).mono ?_; rintro e w3 ⟨rfl, rfl⟩))
        all_goals
          go_ret2
          exact ⟨ret_pair ⟨by congr 1 <;> omega, rfl⟩, rfl⟩
      · have ha : Dt.addOk n k = false := by
          unfold Dt.addOk; rw [hD, ← Bool.not_eq_true]; simp only [Bool.true_and, Bool.and_eq_true, decide_eq_true_eq]; rw [hm]; exact hy
        unfold Dt.addV Dt.addE
        rw [ha]
        obtain ⟨c1, c2, c3, c4, c5, c6, c7⟩ := c
        clear c6 ha hm hD hk
        by_cases hy1 : 12 * Dt.cY n + Dt.cM n - 1 + k < 22800
        · clear hy
          go_enter Tryz.func80, Tryz.ntmps80
          go_wp2_with (go_at_call 32; refine (rcivil_yes _ _ r1 r2).mono ?_; rintro e w1 ⟨rfl, rfl⟩)
          go_ret2
          exact ⟨rfl, rfl⟩
        · have hy2 : 26399 < 12 * Dt.cY n + Dt.cM n - 1 + k := by omega
          clear hy
          go_enter Tryz.func80, Tryz.ntmps80
          go_wp2_with (go_at_call 32; refine (rcivil_yes _ _ r1 r2).mono ?_; rintro e w1 ⟨rfl, rfl⟩)
          go_ret2
          exact ⟨rfl, rfl⟩
theorem civil_is (n : Int) (w : World) (h : Hid (Dt.isD n = true)) :
    Calls Tryz.prog 28 #[.int .i64 n] w fun e w' => e = .returned (.tuple #[.int .i64 (Dt.cY n), .int .i64 (Dt.cM n), .int .i64 (Dt.cD n), .int .i64 0]) ∧ Below w.heap.size w w' :=
  civil_yes n w ((Dt.isD_iff n).1 h.out).1 ((Dt.isD_iff n).1 h.out).2
theorem risd_is (n : Int) (b : Bool) (w : World) (h : Hid (Dt.isD n = b)) : Calls Tryz.prog 52 #[.int .i64 n] w fun e w' => e = .returned (.bool b) ∧ w = w' := by
  have := risd_any n w
  rw [h.out] at this
  exact this
theorem of_is (y m d a e : Int) (w : World) (hd1 : -9223372036854775808 ≤ d) (hd2 : d ≤ 9223372036854775807) (h1 : Hid (Dt.ofV y m d = a)) (h2 : Hid (Dt.ofE y m d = e)) :
    Calls Tryz.prog 70 #[.int .i64 y, .int .i64 m, .int .i64 d] w fun r w' => r = .returned (.tuple #[.int .i64 a, .int .i64 e]) ∧ Below w.heap.size w w' := by
  have := dof_any y m d w hd1 hd2
  rw [h1.out, h2.out] at this
  exact this
end Go.Proofs.YtnddoehhcpejjaaGreat
/- The texts of dates, as lists of bytes: digits, numbers, what Parse and Text return. No Go and no program. -/
namespace Go.Proofs.YtnddoehhcpejjaaGreat.Dt
set_option linter.unusedVariables false
set_option linter.unusedSimpArgs false

def dg (c : UInt8) : Bool := decide (48 ≤ c.toNat) && decide (c.toNat ≤ 57)
theorem dg_iff (c : UInt8) : dg c = true ↔ 48 ≤ c.toNat ∧ c.toNat ≤ 57 := by unfold dg; simp
def numv (l : List UInt8) : Int := l.foldl (fun n c => 10 * n + ((c.toNat : Int) - 48)) 0
def okd (l : List UInt8) : Bool := l.all dg
/-- what 'number' returns beside the bool; what the reference's does -/
def nmV (l : List UInt8) : Int := if okd l then numv l else 0
def rnV (l : List UInt8) : Int := if okd l then numv l else -1
theorem nmV_no (l : List UInt8) (h : okd l = false) : nmV l = 0 := by unfold nmV; rw [h]; rfl
theorem nmV_yes (l : List UInt8) (h : okd l = true) : nmV l = numv l := by unfold nmV; rw [h]; rfl
theorem rnV_no (l : List UInt8) (h : okd l = false) : rnV l = -1 := by unfold rnV; rw [h]; rfl
theorem rnV_yes (l : List UInt8) (h : okd l = true) : rnV l = numv l := by unfold rnV; rw [h]; rfl
theorem numv_snoc (l : List UInt8) (c : UInt8) : numv (l ++ [c]) = 10 * numv l + ((c.toNat : Int) - 48) := by unfold numv; simp
theorem okd_snoc (l : List UInt8) (c : UInt8) : okd (l ++ [c]) = (okd l && dg c) := by unfold okd; simp
theorem numv_bd : ∀ (k : Nat) (l : List UInt8), l.length ≤ k → okd l = true → 0 ≤ numv l ∧ numv l < 10 ^ k := by
  intro k
  induction k with
  | zero => intro l h _; obtain rfl : l = [] := List.eq_nil_of_length_eq_zero (by omega); simp [numv]
  | succ k ih =>
    intro l h hd
    rcases List.eq_nil_or_concat l with rfl | ⟨m, c, rfl⟩
    · have : (0 : Int) < 10 ^ (k + 1) := Int.pow_pos (by omega)
      simp [numv]; omega
    · rw [List.concat_eq_append] at h hd ⊢
      rw [okd_snoc, Bool.and_eq_true, dg_iff] at hd
      have := ih m (by simp at h; omega) hd.1
      rw [numv_snoc, Int.pow_succ]
      omega
theorem numv_le (l : List UInt8) (h : l.length ≤ 10) (hd : okd l = true) : 0 ≤ numv l ∧ numv l ≤ 9999999999 := by
  have := numv_bd 10 l h hd
  have e : (10 : Int) ^ 10 = 10000000000 := by decide
  rw [e] at this
  omega

/-- is it four digits, a hyphen, two digits, a hyphen and two digits -/
def wellB (l : List UInt8) : Bool := l.length == 10 && l[4]? == some 45 && l[7]? == some 45 && okd (l.take 4) && okd ((l.drop 5).take 2) && okd (l.drop 8)
def prV (l : List UInt8) : Int := if wellB l then ofV (numv (l.take 4)) (numv ((l.drop 5).take 2)) (numv (l.drop 8)) else 0
def prE (l : List UInt8) : Int := if wellB l then ofE (numv (l.take 4)) (numv ((l.drop 5).take 2)) (numv (l.drop 8)) else 3

def chr (n : Int) : UInt8 := UInt8.ofNat (48 + n).toNat
theorem chr_toNat (n : Int) (h0 : 0 ≤ n) (h1 : n ≤ 9) : ((chr n).toNat : Int) = 48 + n := by
  unfold chr
  rw [UInt8.toNat_ofNat']
  omega
theorem dg_chr (n : Int) (h0 : 0 ≤ n) (h1 : n ≤ 9) : dg (chr n) = true := by
  have := chr_toNat n h0 h1
  rw [dg_iff]; omega
def tx2 (n : Int) : List UInt8 := [chr (n / 10), chr (n % 10)]
def txY (y : Int) : List UInt8 := tx2 (y / 100) ++ tx2 (y % 100)
def tx (y m d : Int) : List UInt8 := txY y ++ [45] ++ tx2 m ++ [45] ++ tx2 d
def txV (n : Int) : List UInt8 := if isD n then tx (cY n) (cM n) (cD n) else []
theorem numv_tx2 (n : Int) (h0 : 0 ≤ n) (h1 : n ≤ 99) : numv (tx2 n) = n ∧ okd (tx2 n) = true := by
  unfold tx2 numv okd
  have a := chr_toNat (n / 10) (by omega) (by omega)
  have b := chr_toNat (n % 10) (by omega) (by omega)
  have a' := dg_chr (n / 10) (by omega) (by omega)
  have b' := dg_chr (n % 10) (by omega) (by omega)
  simp [a', b']
  omega
theorem numv_txY (n : Int) (h0 : 0 ≤ n) (h1 : n ≤ 9999) : numv (txY n) = n ∧ okd (txY n) = true := by
  unfold txY tx2 numv okd
  have a := chr_toNat (n / 100 / 10) (by omega) (by omega)
  have b := chr_toNat (n / 100 % 10) (by omega) (by omega)
  have c := chr_toNat (n % 100 / 10) (by omega) (by omega)
  have d := chr_toNat (n % 100 % 10) (by omega) (by omega)
  have a' := dg_chr (n / 100 / 10) (by omega) (by omega)
  have b' := dg_chr (n / 100 % 10) (by omega) (by omega)
  have c' := dg_chr (n % 100 / 10) (by omega) (by omega)
  have d' := dg_chr (n % 100 % 10) (by omega) (by omega)
  simp only [List.all_cons, List.all_nil, List.cons_append, List.nil_append, List.foldl_cons, List.foldl_nil, a', b', c', d', Bool.and_self, and_true]
  omega
theorem tx_parts (y m d : Int) : (tx y m d).length = 10 ∧ (tx y m d)[4]? = some 45 ∧ (tx y m d)[7]? = some 45 ∧ (tx y m d).take 4 = txY y ∧ ((tx y m d).drop 5).take 2 = tx2 m ∧ (tx y m d).drop 8 = tx2 d := by
  unfold tx txY tx2
  simp
theorem pr_tx (y m d : Int) (h : vld y m d = true) : wellB (tx y m d) = true ∧ prV (tx y m d) = num y m d ∧ prE (tx y m d) = 0 := by
  obtain ⟨a1, a2, a3, a4, a5, a6, a7⟩ := vld_pos y m d h
  obtain ⟨p1, p2, p3, p4, p5, p6⟩ := tx_parts y m d
  have ny := numv_txY y (by omega) (by omega)
  have nm := numv_tx2 m (by omega) (by omega)
  have nd := numv_tx2 d (by omega) (by omega)
  have w : wellB (tx y m d) = true := by
    unfold wellB
    rw [p1, p2, p3, p4, p5, p6, ny.2, nm.2, nd.2]; rfl
  unfold prV prE
  rw [w, p4, p5, p6, ny.1, nm.1, nd.1]
  unfold ofV ofE
  rw [h]
  exact ⟨rfl, rfl, rfl⟩
theorem pr_txV (n : Int) (h : isD n = true) : prV (txV n) = n ∧ prE (txV n) = 0 := by
  have c := of_civ n h
  unfold txV
  rw [h]
  have := pr_tx _ _ _ c.1
  exact ⟨this.2.1.trans c.2, this.2.2⟩
theorem pr_nil : prV [] = 0 ∧ prE [] = 3 := by decide

theorem chr_of (c : UInt8) (h : dg c = true) : chr ((c.toNat : Int) - 48) = c := by
  rw [dg_iff] at h
  unfold chr
  apply UInt8.toNat_inj.1
  rw [UInt8.toNat_ofNat']
  omega
theorem tx2_numv (l : List UInt8) (hl : l.length = 2) (h : okd l = true) : tx2 (numv l) = l := by
  match l, hl with
  | [a, b], _ =>
    simp [okd] at h
    have a' := chr_of a h.1
    have b' := chr_of b h.2
    have := (dg_iff a).1 h.1
    have := (dg_iff b).1 h.2
    unfold tx2 numv
    simp only [List.foldl]
    rw [show (10 * (10 * 0 + ((a.toNat : Int) - 48)) + ((b.toNat : Int) - 48)) / 10 = (a.toNat : Int) - 48 from by omega, show (10 * (10 * 0 + ((a.toNat : Int) - 48)) + ((b.toNat : Int) - 48)) % 10 = (b.toNat : Int) - 48 from by omega, a', b']
theorem txY_numv (l : List UInt8) (hl : l.length = 4) (h : okd l = true) : txY (numv l) = l := by
  match l, hl with
  | [a, b, c, d], _ =>
    simp [okd] at h
    obtain ⟨ha, hb, hc, hd⟩ := h
    have a' := chr_of a ha
    have b' := chr_of b hb
    have c' := chr_of c hc
    have d' := chr_of d hd
    have := (dg_iff a).1 ha
    have := (dg_iff b).1 hb
    have := (dg_iff c).1 hc
    have := (dg_iff d).1 hd
    unfold txY tx2 numv
    simp only [List.foldl]
    generalize hN : 10 * (10 * (10 * (10 * 0 + ((a.toNat : Int) - 48)) + ((b.toNat : Int) - 48)) + ((c.toNat : Int) - 48)) + ((d.toNat : Int) - 48) = N
    rw [show N / 100 / 10 = (a.toNat : Int) - 48 from by omega, show N / 100 % 10 = (b.toNat : Int) - 48 from by omega, show N % 100 / 10 = (c.toNat : Int) - 48 from by omega, show N % 100 % 10 = (d.toNat : Int) - 48 from by omega, a', b', c', d']
    rfl
/-- a text that is parsed is the text of its date -/
theorem tx_pr (l : List UInt8) (h : prE l = 0) : isD (prV l) = true ∧ txV (prV l) = l := by
  unfold prE at h
  cases w : wellB l
  · rw [w] at h; simp at h
  · rw [w] at h
    unfold prV
    rw [w]
    simp only [if_true] at h ⊢
    unfold ofE at h
    unfold wellB at w
    simp only [Bool.and_eq_true, beq_iff_eq] at w
    obtain ⟨⟨⟨⟨⟨w1, w2⟩, w3⟩, w4⟩, w5⟩, w6⟩ := w
    generalize hy : numv (l.take 4) = y at *
    generalize hm : numv ((l.drop 5).take 2) = m at *
    generalize hd : numv (l.drop 8) = d at *
    cases v : vld y m d
    · rw [v] at h; simp at h
    · unfold ofV
      rw [v]
      simp only [if_true]
      have hD := isD_num y m d v
      obtain ⟨e1, e2, e3⟩ := civ_eq _ y m d v rfl
      refine ⟨hD, ?_⟩
      unfold txV
      rw [hD]
      simp only [if_true]
      rw [e1, e2, e3]
      unfold tx
      rw [← hy, ← hm, ← hd, txY_numv _ (by simp; omega) w4, tx2_numv _ (by simp; omega) w5, tx2_numv _ (by simp; omega) w6]
      match l, w1 with
      | [a0, a1, a2, a3, a4, a5, a6, a7, a8, a9], _ =>
        simp at w2 w3
        subst w2 w3
        simp
theorem isD_prV (l : List UInt8) (h : prE l ≠ 0) : prV l = 0 := by
  unfold prE at h
  unfold prV
  cases w : wellB l
  · rfl
  · rw [w] at h
    simp only [if_true] at h ⊢
    unfold ofE at h
    unfold ofV
    cases v : vld (numv (l.take 4)) (numv ((l.drop 5).take 2)) (numv (l.drop 8))
    · rfl
    · rw [v] at h; simp at h
theorem prE_cases (l : List UInt8) : prE l = 0 ∨ prE l = 2 ∨ prE l = 3 := by
  unfold prE; split
  · rcases ofE_01 (numv (l.take 4)) (numv ((l.drop 5).take 2)) (numv (l.drop 8)) with h | h <;> simp [h]
  · simp
end Go.Proofs.YtnddoehhcpejjaaGreat.Dt
/- The walks of two and Text. -/
namespace Go.Proofs.YtnddoehhcpejjaaGreat
set_option linter.unusedVariables false
set_option linter.unusedSimpArgs false
open Go.RowKit

/-- bytes as cells -/
def byteCells (l : List UInt8) : List Value := l.map fun c => Value.int .u8 (c.toNat : Int)
theorem byteCells_app (a b : List UInt8) : byteCells (a ++ b) = byteCells a ++ byteCells b := by unfold byteCells; simp
theorem byteCells_len (a : List UInt8) : (byteCells a).length = a.length := by unfold byteCells; simp
theorem byteCells_tx2 (k : Int) (h0 : 0 ≤ k) (h1 : k ≤ 99) : byteCells (Dt.tx2 k) = [.int .u8 (48 + k / 10), .int .u8 (48 + k % 10)] := by
  unfold byteCells Dt.tx2
  simp only [List.map]
  rw [Dt.chr_toNat _ (by omega) (by omega), Dt.chr_toNat _ (by omega) (by omega)]
theorem byte_info : (Tryz.prog.info? 5).map (fun i => (i.zero, i.size, i.bytes)) = some (some (.int .u8 0), 1, 1) := by kernel_rfl

def TwoPost (base n : Nat) (v : Value) (l : List UInt8) (w : World) (e : Ending) (w' : World) : Prop :=
  ∃ v', e = .returned v' ∧ w'.ownsRow base 5 1 v' n (byteCells l) ∧ w.grownBy w' v.ownBlock ∧ w.heap.size < w'.heap.size

def TextPost (l : List UInt8) (w : World) (e : Ending) (w' : World) : Prop := e = .returned (.string ⟨l.toArray⟩) ∧ Below w.heap.size w w'

end Go.Proofs.YtnddoehhcpejjaaGreat
/- The walks of the reference's Digits and Text. -/
namespace Go.Proofs.YtnddoehhcpejjaaGreat
set_option linter.unusedVariables false
set_option linter.unusedSimpArgs false
open Go.RowKit

def Dt.dgs : Nat → Int → List UInt8
  | 0, _ => []
  | k + 1, n => Dt.dgs k (n / 10) ++ [Dt.chr (n % 10)]
theorem Dt.dgs_len (k : Nat) (n : Int) : (Dt.dgs k n).length = k := by
  induction k generalizing n with
  | zero => rfl
  | succ k ih => unfold Dt.dgs; simp [ih]
theorem Dt.dgs2 (n : Int) (h0 : 0 ≤ n) (h1 : n ≤ 99) : Dt.dgs 2 n = Dt.tx2 n := by
  unfold Dt.dgs Dt.dgs Dt.dgs Dt.tx2
  rw [show n / 10 % 10 = n / 10 from by omega]; rfl
theorem Dt.dgs4 (n : Int) (h0 : 0 ≤ n) (h1 : n ≤ 9999) : Dt.dgs 4 n = Dt.txY n := by
  unfold Dt.dgs Dt.dgs Dt.dgs Dt.dgs Dt.dgs Dt.txY Dt.tx2
  rw [show n / 10 / 10 / 10 % 10 = n / 100 / 10 from by omega, show n / 10 / 10 % 10 = n / 100 % 10 from by omega, show n / 10 % 10 = n % 100 / 10 from by omega, show n % 10 = n % 100 % 10 from by omega]; rfl

end Go.Proofs.YtnddoehhcpejjaaGreat
