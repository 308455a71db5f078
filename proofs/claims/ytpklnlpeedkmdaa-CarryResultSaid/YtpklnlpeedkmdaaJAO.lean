/- Texts of this claim, put together. -/
import Derived.Test.YtpklnlpeedkmdaaJAM
import Derived.Test.YtpklnlpeedkmdaaDateSpecZ
/- The walks of the reference's Civil and Of. -/
namespace Go.Proofs.Ytpklnlpeedkmdaa
set_option linter.unusedVariables false
set_option linter.unusedSimpArgs false
open Go.RowKit

set_option maxHeartbeats 1000000 in
theorem rcivil_yes (n : Int) (w : World) (h1 : -25567 ≤ n) (h2 : n ≤ 84005) :
    Calls Try.prog 150 #[.int .i64 n] w fun e w' => e = .returned (.tuple #[.int .i64 (Dt.cY n), .int .i64 (Dt.cM n), .int .i64 (Dt.cD n), .int .i64 0]) ∧ w = w' := by
  obtain ⟨y1, y2, y3, y4⟩ := Dt.cY_ok n h1 h2
  obtain ⟨m1, m2, m3, m4⟩ := Dt.cM_ok n h1 h2
  have hD : Dt.cD n = n - Dt.dby (Dt.cY n) - Dt.mcum (Dt.lp (Dt.cY n)) (Dt.cM n) + 1 := rfl
  rw [hD]
  clear hD
  have l := Dt.lp_01 (Dt.cY n)
  generalize Dt.cY n = Y at *
  generalize Dt.cM n = M at *
  go_enter Try.func150, Try.ntmps150
  go_wp2_with (go_at_call 103; refine (rvalid_yes _ _ h1 h2).mono ?_; rintro e w' ⟨rfl, rfl⟩)
  go_loop [6, 8] (fun t r => ∃ y : Int, 1900 ≤ y ∧ y ≤ Y ∧ t = .int .i64 y ∧ r = .int .i64 (n - Dt.dby y)) (fun t _ => (Y - intOf t).toNat)
  case atStart => exact ⟨1900, by omega, by omega, rfl, by rw [Dt.dby_1900]; go_num⟩
  case round =>
    obtain ⟨y, ya, yb, rfl, rfl⟩ := hrel
    have db := Dt.dby_bd y (by omega) (by omega)
    have s := Dt.dby_succ y
    by_cases hlt : y < Y
    · have hm := Dt.dby_mono (y + 1) Y (by omega)
      have hle : Dt.dby (y + 1) ≤ n := by omega
      by_cases hl : Dt.leapB y = true
      · have e1 : Dt.lp y = 1 := by simp [Dt.lp, hl]
        have h3 : 366 ≤ n - Dt.dby y := by omega
        have HS := Lib.hid s
        have HE := Lib.hid e1
        have HL := Lib.hid hl
        clear s e1 hl hle hm
        go_wp2_with (go_at_call 149; refine (rleap_any _ _ (by omega) (by omega)).mono ?_; rintro e w' ⟨rfl, rfl⟩; rw [HL.out])
        go_round
        case rel => exact ⟨y + 1, by omega, by omega, by go_num, by rw [HS.out, HE.out]; go_num⟩
        case measure => simp [intOf]; omega
      · have hl' : Dt.leapB y = false := by simpa using hl
        have e1 : Dt.lp y = 0 := by simp [Dt.lp, hl']
        have h3 : 365 ≤ n - Dt.dby y := by omega
        have HS := Lib.hid s
        have HE := Lib.hid e1
        have HL := Lib.hid hl'
        clear s e1 hl hl' hle hm
        go_wp2_with (go_at_call 149; refine (rleap_any _ _ (by omega) (by omega)).mono ?_; rintro e w' ⟨rfl, rfl⟩; rw [HL.out])
        go_round
        case rel => exact ⟨y + 1, by omega, by omega, by go_num, by rw [HS.out, HE.out]; go_num⟩
        case measure => simp [intOf]; omega
    · obtain rfl : y = Y := by omega
      have mb := Dt.mcum_bd (Dt.lp y) M (by omega) (by omega)
      have key : ∀ b : Bool, Dt.leapB y = b → (if b then n - Dt.dby y < 366 else n - Dt.dby y < 365) := by
        intro b hb
        cases b
        · have e1 : Dt.lp y = 0 := by simp [Dt.lp, hb]
          simp only [Bool.false_eq_true, if_false]; omega
        · have e1 : Dt.lp y = 1 := by simp [Dt.lp, hb]
          simp only [if_true]; omega
      have K := key _ rfl
      clear key s hlt
      cases hl : Dt.leapB y
      all_goals
        rw [hl] at K
        simp only [Bool.false_eq_true, if_false, if_true] at K
        have HL := Lib.hid hl
        clear hl
        go_wp2_with (go_at_call 149; refine (rleap_any _ _ (by omega) (by omega)).mono ?_; rintro e w' ⟨rfl, rfl⟩; rw [HL.out])
        go_loop [7, 8] (fun k r => ∃ m : Int, 1 ≤ m ∧ m ≤ M ∧ k = .int .i64 m ∧ r = .int .i64 (n - Dt.dby y - Dt.mcum (Dt.lp y) m)) (fun k _ => (M - intOf k).toNat)
        case atStart => exact ⟨1, by omega, by omega, rfl, by rw [Dt.mcum_1]; go_num⟩
        case round =>
          obtain ⟨m, ma, mb', rfl, rfl⟩ := hrel
          have c := Dt.mcum_bd (Dt.lp y) m (by omega) (by omega)
          have dj := Dt.days_bd y m
          have HD := Lib.hid (Dt.days_in y m (by omega) (by omega) (by omega) (by omega))
          by_cases hlt2 : m < M
          · have cs := Lib.hid (Dt.mcum_succ (Dt.lp y) m (by omega) (by omega))
            have hml := Dt.mcum_lt (Dt.lp y) m M (by omega) (by omega) (by omega) hlt2 (by omega)
            rw [← HD.out] at hml
            have hge : Dt.days y m ≤ n - Dt.dby y - Dt.mcum (Dt.lp y) m := by omega
            go_wp2_with (go_at_call 148; refine (rdays_any _ _ _).mono ?_; rintro e w2 ⟨rfl, rfl⟩)
            go_round
            case rel => exact ⟨m + 1, by omega, by omega, by go_num, by rw [cs.out, ← HD.out]; go_num⟩
            case measure => simp [intOf]; omega
          · obtain rfl : m = M := by omega
            rw [← HD.out] at m4
            have hlt3 : ¬ Dt.days y m ≤ n - Dt.dby y - Dt.mcum (Dt.lp y) m := by omega
            go_wp2_with (go_at_call 148; refine (rdays_any _ _ _).mono ?_; rintro e w2 ⟨rfl, rfl⟩)
            refine bodyPost_ret (results_tmp4 rfl _ _ _) rfl ?_
            exact ⟨rfl, rfl⟩

set_option maxHeartbeats 1000000 in
theorem rof_no (y m d : Int) (w : World) (h : Dt.vld y m d = false) :
    Calls Try.prog 127 #[.int .i64 y, .int .i64 m, .int .i64 d] w fun e w' => e = .returned (.tuple #[.int .i64 0, .int .i64 2]) ∧ w = w' := by
  have hv : ¬ (1 ≤ d ∧ d ≤ Dt.days y m) := by rw [← Dt.vld_iff, h]; simp
  clear h
  by_cases h1 : d < 1
  · clear hv
    go_enter Try.func127, Try.ntmps127
    go_wp2_with fail
    go_ret2
    exact ⟨rfl, rfl⟩
  · have h2 : Dt.days y m < d := by omega
    clear hv
    go_enter Try.func127, Try.ntmps127
    go_wp2_with (go_at_call 148; refine (rdays_any _ _ _).mono ?_; rintro e w1 ⟨rfl, rfl⟩)
    go_ret2
    exact ⟨rfl, rfl⟩

set_option maxHeartbeats 1000000 in
theorem rof_yes (y m d : Int) (w : World) (h : Dt.vld y m d = true) :
    Calls Try.prog 127 #[.int .i64 y, .int .i64 m, .int .i64 d] w fun e w' => e = .returned (.tuple #[.int .i64 (Dt.num y m d), .int .i64 0]) ∧ w = w' := by
  have hv := (Dt.vld_iff y m d).1 h
  obtain ⟨a1, a2, a3, a4, a5, a6, a7⟩ := Dt.vld_pos y m d h
  obtain ⟨v1, v2⟩ := hv
  have v3 := Dt.days_bd y m
  have l := Dt.lp_01 y
  have HN : Hid (Dt.num y m d = Dt.dby y + Dt.mcum (Dt.lp y) m + d - 1) := Lib.hid rfl
  clear h a6
  go_enter Try.func127, Try.ntmps127
  go_wp2_with (go_at_call 148; refine (rdays_any _ _ _).mono ?_; rintro e w1 ⟨rfl, rfl⟩)
  go_loop [8, 9] (fun t k => ∃ j : Int, 1900 ≤ j ∧ j ≤ y ∧ k = .int .i64 j ∧ t = .int .i64 (Dt.dby j)) (fun _ k => (y - intOf k).toNat)
  case atStart => exact ⟨1900, by omega, by omega, rfl, by rw [Dt.dby_1900]⟩
  case round =>
    obtain ⟨j, hj1, hj2, rfl, rfl⟩ := hrel
    have db := Dt.dby_bd j (by omega) (by omega)
    by_cases hlt : j < y
    · have HS := Lib.hid (Dt.dby_succ j)
      cases hl : Dt.leapB j
      · have HE : Hid (Dt.lp j = 0) := Lib.hid (by simp [Dt.lp, hl])
        have HL := Lib.hid hl
        clear hl
        go_wp2_with (go_at_call 149; refine (rleap_any _ _ (by omega) (by omega)).mono ?_; rintro e w' ⟨rfl, rfl⟩; rw [HL.out])
        go_round
        case rel => exact ⟨j + 1, by omega, by omega, by go_num, by rw [HS.out, HE.out]; go_num⟩
        case measure => simp [intOf]; omega
      · have HE : Hid (Dt.lp j = 1) := Lib.hid (by simp [Dt.lp, hl])
        have HL := Lib.hid hl
        clear hl
        go_wp2_with (go_at_call 149; refine (rleap_any _ _ (by omega) (by omega)).mono ?_; rintro e w' ⟨rfl, rfl⟩; rw [HL.out])
        go_round
        case rel => exact ⟨j + 1, by omega, by omega, by go_num, by rw [HS.out, HE.out]⟩
        case measure => simp [intOf]; omega
    · obtain rfl : j = y := by omega
      go_wp2_with fail
      go_loop [8, 10] (fun t k => ∃ i : Int, 1 ≤ i ∧ i ≤ m ∧ k = .int .i64 i ∧ t = .int .i64 (Dt.dby j + Dt.mcum (Dt.lp j) i)) (fun _ k => (m - intOf k).toNat)
      case atStart => exact ⟨1, by omega, by omega, rfl, by rw [Dt.mcum_1]; go_num⟩
      case round =>
        obtain ⟨i, hi1, hi2, rfl, rfl⟩ := hrel
        have c := Dt.mcum_bd (Dt.lp j) i (by omega) (by omega)
        by_cases hlt2 : i < m
        · have cs := Lib.hid (Dt.mcum_succ (Dt.lp j) i (by omega) (by omega))
          have HD := Lib.hid (Dt.days_in j i (by omega) (by omega) (by omega) (by omega))
          have dj := Dt.days_bd j i
          go_wp2_with (go_at_call 148; refine (rdays_any _ _ _).mono ?_; rintro e w2 ⟨rfl, rfl⟩)
          go_round
          case rel => exact ⟨i + 1, by omega, by omega, by go_num, by rw [cs.out, ← HD.out]; go_num⟩
          case measure => simp [intOf]; omega
        · obtain rfl : i = m := by omega
          go_wp2_with fail
          go_ret2
          exact ⟨by rw [HN.out]; rfl, rfl⟩

theorem Dt.wd_eq (n : Int) (h1 : -25567 ≤ n) : ((n + 3).tmod 7 + 7) % 7 = Dt.wd n := by
  unfold Dt.wd
  have : (0 ≤ n + 3 ∧ (n + 3).tmod 7 = (n + 3) % 7) ∨ (n + 3 < 0 ∧ (n + 3).tmod 7 = -((-(n + 3)) % 7)) := by
    rcases Int.lt_or_le (n + 3) 0 with h | h
    · right
      refine ⟨h, ?_⟩
      have : (n + 3).tmod 7 = -((-(n + 3)).tmod 7) := by rw [Int.neg_tmod]; omega
      rw [this, Int.tmod_eq_emod_of_nonneg (by omega)]
    · exact Or.inl ⟨h, Int.tmod_eq_emod_of_nonneg h⟩
  omega
theorem Dt.tmod7 (a : Int) : -7 < a.tmod 7 ∧ a.tmod 7 < 7 := by
  have h1 := Int.tmod_lt_of_pos a (show (0 : Int) < 7 by omega)
  have h2 := Int.tmod_lt_of_pos (-a) (show (0 : Int) < 7 by omega)
  rw [Int.neg_tmod] at h2
  omega
end Go.Proofs.Ytpklnlpeedkmdaa
/- One contract for each date function of numbers: what it returns for any arguments. -/
namespace Go.Proofs.Ytpklnlpeedkmdaa
set_option linter.unusedVariables false
set_option linter.unusedSimpArgs false
open Go.RowKit

theorem dof_any (y m d : Int) (w : World) (hd1 : -9223372036854775808 ≤ d) (hd2 : d ≤ 9223372036854775807) :
    Calls Try.prog 104 #[.int .i64 y, .int .i64 m, .int .i64 d] w fun e w' => e = .returned (.tuple #[.int .i64 (Dt.ofV y m d), .int .i64 (Dt.ofE y m d)]) ∧ Below w.heap.size w w' := by
  unfold Dt.ofV Dt.ofE
  cases h : Dt.vld y m d
  · exact of_no y m d w h hd1 hd2
  · exact of_yes y m d w h
theorem rof_any (y m d : Int) (w : World) :
    Calls Try.prog 127 #[.int .i64 y, .int .i64 m, .int .i64 d] w fun e w' => e = .returned (.tuple #[.int .i64 (Dt.ofV y m d), .int .i64 (Dt.ofE y m d)]) ∧ w = w' := by
  unfold Dt.ofV Dt.ofE
  cases h : Dt.vld y m d
  · exact rof_no y m d w h
  · exact rof_yes y m d w h
theorem rcivil_any (n : Int) (w : World) :
    Calls Try.prog 150 #[.int .i64 n] w fun e w' => e = .returned (.tuple #[.int .i64 (Dt.cvY n), .int .i64 (Dt.cvM n), .int .i64 (Dt.cvD n), .int .i64 (Dt.cvE n)]) ∧ w = w' := by
  unfold Dt.cvY Dt.cvM Dt.cvD Dt.cvE
  cases h : Dt.isD n
  · exact rcivil_no n w ((Dt.isD_not n).1 h)
  · exact rcivil_yes n w ((Dt.isD_iff n).1 h).1 ((Dt.isD_iff n).1 h).2
theorem isd_any (n : Int) (w : World) : Calls Try.prog 132 #[.int .i64 n] w fun e w' => e = .returned (.bool (Dt.isD n)) ∧ w = w' := dvalid_any n w
theorem risd_any (n : Int) (w : World) : Calls Try.prog 103 #[.int .i64 n] w fun e w' => e = .returned (.bool (Dt.isD n)) ∧ w = w' := drvalid_any n w

theorem Dt.add_far (n k : Int) (h : Dt.isD n = true) (hk : k < -3600 ∨ 3600 < k) : Dt.addOk n k = false := by
  have c := Dt.cY_bd n h
  rw [← Bool.not_eq_true]
  unfold Dt.addOk Dt.mon
  simp only [Bool.and_eq_true, decide_eq_true_eq]
  omega
theorem Dt.add_noD (n k : Int) (h : Dt.isD n = false) : Dt.addOk n k = false := by unfold Dt.addOk; rw [h]; rfl

theorem Dt.add_of (n k : Int) (h : Dt.isD n = true) (_k1 : -4800 ≤ k) (_k2 : k ≤ 4800) :
    Dt.ofV (Dt.mon n k / 12) (Dt.mon n k % 12 + 1) (min (Dt.cD n) (max 1 (Dt.days (Dt.mon n k / 12) (Dt.mon n k % 12 + 1)))) = Dt.addV n k ∧
    Dt.ofE (Dt.mon n k / 12) (Dt.mon n k % 12 + 1) (min (Dt.cD n) (max 1 (Dt.days (Dt.mon n k / 12) (Dt.mon n k % 12 + 1)))) = Dt.addE n k := by
  have c := Dt.cY_bd n h
  cases ha : Dt.addOk n k
  · have hy : Dt.mon n k < 22800 ∨ 26399 < Dt.mon n k := by
      rw [← Bool.not_eq_true] at ha
      unfold Dt.addOk at ha
      rw [h] at ha
      simp only [Bool.true_and, Bool.and_eq_true, decide_eq_true_eq] at ha
      omega
    have hz : Dt.days (Dt.mon n k / 12) (Dt.mon n k % 12 + 1) = 0 := by unfold Dt.days; rw [if_pos (by omega)]
    have v : Dt.vld (Dt.mon n k / 12) (Dt.mon n k % 12 + 1) (min (Dt.cD n) (max 1 (Dt.days (Dt.mon n k / 12) (Dt.mon n k % 12 + 1)))) = false := by
      rw [← Bool.not_eq_true, Dt.vld_iff, hz]; omega
    unfold Dt.ofV Dt.ofE Dt.addV Dt.addE
    rw [v, ha]
    exact ⟨rfl, rfl⟩
  · have v := Dt.add_vld n k ha
    have hp : 0 < Dt.days (Dt.mon n k / 12) (Dt.mon n k % 12 + 1) := by rw [Dt.vld_iff] at v; omega
    rw [show max 1 (Dt.days (Dt.mon n k / 12) (Dt.mon n k % 12 + 1)) = Dt.days (Dt.mon n k / 12) (Dt.mon n k % 12 + 1) from by omega]
    unfold Dt.ofV Dt.ofE Dt.addV Dt.addE
    rw [v, ha]
    exact ⟨rfl, rfl⟩

set_option maxHeartbeats 1000000 in
theorem radd_any (n k : Int) (w : World) :
    Calls Try.prog 128 #[.int .i64 n, .int .i64 k] w fun e w' => e = .returned (.tuple #[.int .i64 (Dt.addV n k), .int .i64 (Dt.addE n k)]) ∧ w = w' := by
  cases hD : Dt.isD n
  · have hr := (Dt.isD_not n).1 hD
    have e : Dt.addOk n k = false := Dt.add_noD n k hD
    unfold Dt.addV Dt.addE
    rw [e]
    have H := Lib.hid hr
    clear hr hD e
    go_enter Try.func128, Try.ntmps128
    go_wp2_with (go_at_call 150; refine (rcivil_no _ _ H.out).mono ?_; rintro e w' ⟨rfl, rfl⟩)
    go_ret2
    exact ⟨rfl, rfl⟩
  · have c := Dt.cY_bd n hD
    obtain ⟨r1, r2⟩ := (Dt.isD_iff n).1 hD
    by_cases hk : k < -3600 ∨ 3600 < k
    · have e : Dt.addOk n k = false := Dt.add_far n k hD (by omega)
      unfold Dt.addV Dt.addE
      rw [e]
      clear e hD
      rcases hk with hk | hk
      · go_enter Try.func128, Try.ntmps128
        go_wp2_with (go_at_call 150; refine (rcivil_yes _ _ r1 r2).mono ?_; rintro e w1 ⟨rfl, rfl⟩)
        go_ret2
        exact ⟨rfl, rfl⟩
      · have h2 : ¬ k < -3600 := by omega
        go_enter Try.func128, Try.ntmps128
        go_wp2_with (go_at_call 150; refine (rcivil_yes _ _ r1 r2).mono ?_; rintro e w1 ⟨rfl, rfl⟩)
        go_ret2
        exact ⟨rfl, rfl⟩
    · have k1 : -3600 ≤ k := by omega
      have k2 : k ≤ 3600 := by omega
      have hm : Dt.mon n k = 12 * Dt.cY n + Dt.cM n - 1 + k := rfl
      by_cases hy : 22800 ≤ 12 * Dt.cY n + Dt.cM n - 1 + k ∧ 12 * Dt.cY n + Dt.cM n - 1 + k ≤ 26399
      · have ha : Dt.addOk n k = true := by
          unfold Dt.addOk; rw [hD]; simp only [Bool.true_and, Bool.and_eq_true, decide_eq_true_eq]; rw [hm]; exact hy
        have v := Dt.add_vld n k ha
        unfold Dt.addV Dt.addE Dt.addN
        rw [ha]
        rw [hm] at v ⊢
        have H := Lib.hid (show ∀ x, x = min (Dt.cD n) (Dt.days ((12 * Dt.cY n + Dt.cM n - 1 + k) / 12) ((12 * Dt.cY n + Dt.cM n - 1 + k) % 12 + 1)) → Dt.vld ((12 * Dt.cY n + Dt.cM n - 1 + k) / 12) ((12 * Dt.cY n + Dt.cM n - 1 + k) % 12 + 1) x = true from fun x hx => by rw [hx]; exact v)
        obtain ⟨y1, y2⟩ := hy
        obtain ⟨c1, c2, c3, c4, c5, c6, c7⟩ := c
        clear c6 ha v hm hD hk
        go_enter Try.func128, Try.ntmps128
        go_wp2_with (first
          | (go_at_call 150; refine (rcivil_yes _ _ r1 r2).mono ?_; rintro e w1 ⟨rfl, rfl⟩)
          | (go_at_call 148; refine (rdays_any _ _ _).mono ?_; rintro e w2 ⟨rfl, rfl⟩)
          | (go_at_call 127; refine (rof_yes _ _ _ _ (H.out _ (by omega))).mono ?_; rintro e w3 ⟨rfl, rfl⟩))
        all_goals
          go_ret2
          exact ⟨ret_pair ⟨by congr 1; omega, rfl⟩, rfl⟩
      · have ha : Dt.addOk n k = false := by
          unfold Dt.addOk; rw [hD, ← Bool.not_eq_true]; simp only [Bool.true_and, Bool.and_eq_true, decide_eq_true_eq]; rw [hm]; exact hy
        unfold Dt.addV Dt.addE
        rw [ha]
        obtain ⟨c1, c2, c3, c4, c5, c6, c7⟩ := c
        clear c6 ha hm hD hk
        by_cases hy1 : 12 * Dt.cY n + Dt.cM n - 1 + k < 22800
        · clear hy
          go_enter Try.func128, Try.ntmps128
          go_wp2_with (go_at_call 150; refine (rcivil_yes _ _ r1 r2).mono ?_; rintro e w1 ⟨rfl, rfl⟩)
          go_ret2
          exact ⟨rfl, rfl⟩
        · have hy2 : 26399 < 12 * Dt.cY n + Dt.cM n - 1 + k := by omega
          clear hy
          go_enter Try.func128, Try.ntmps128
          go_wp2_with (go_at_call 150; refine (rcivil_yes _ _ r1 r2).mono ?_; rintro e w1 ⟨rfl, rfl⟩)
          go_ret2
          exact ⟨rfl, rfl⟩
theorem risd_is (n : Int) (b : Bool) (w : World) (h : Hid (Dt.isD n = b)) : Calls Try.prog 103 #[.int .i64 n] w fun e w' => e = .returned (.bool b) ∧ w = w' := by
  have := risd_any n w
  rw [h.out] at this
  exact this
theorem of_is (y m d a e : Int) (w : World) (hd1 : -9223372036854775808 ≤ d) (hd2 : d ≤ 9223372036854775807) (h1 : Hid (Dt.ofV y m d = a)) (h2 : Hid (Dt.ofE y m d = e)) :
    Calls Try.prog 104 #[.int .i64 y, .int .i64 m, .int .i64 d] w fun r w' => r = .returned (.tuple #[.int .i64 a, .int .i64 e]) ∧ Below w.heap.size w w' := by
  have := dof_any y m d w hd1 hd2
  rw [h1.out, h2.out] at this
  exact this
end Go.Proofs.Ytpklnlpeedkmdaa
