/- The walks of Valid and Civil, program's and reference's. -/
import Derived.Test.YtfalmodejpaeaaaDateWalksC
namespace Go.Proofs.Ytfalmodejpaeaaa
open Go.RowKit

set_option maxHeartbeats 400000 in
theorem valid_any (n : Int) (w : World) :
    Calls Try.prog 82 #[.int .i64 n] w fun e w' => e = .returned (.bool (decide (-25567 ≤ n) && decide (n ≤ 84005))) ∧ w = w' := by
  by_cases h1 : -25567 ≤ n
  · go_enter Try.func82, Try.ntmps82
    go_wp2_with fail
    go_ret
    exact ⟨ret_bool (by simp [h1]), rfl⟩
  · have h3 : decide (-25567 ≤ n) = false := by simpa using h1
    go_enter Try.func82, Try.ntmps82
    go_wp2_with fail
    go_ret
    exact ⟨ret_bool (by simp), rfl⟩
set_option maxHeartbeats 400000 in
theorem rvalid_any (n : Int) (w : World) :
    Calls Try.prog 60 #[.int .i64 n] w fun e w' => e = .returned (.bool (decide (-25567 ≤ n) && decide (n ≤ 84005))) ∧ w = w' := by
  by_cases h1 : -25567 ≤ n
  · go_enter Try.func60, Try.ntmps60
    go_wp2_with fail
    go_ret
    exact ⟨ret_bool (by simp [h1]), rfl⟩
  · have h3 : decide (-25567 ≤ n) = false := by simpa using h1
    go_enter Try.func60, Try.ntmps60
    go_wp2_with fail
    go_ret
    exact ⟨ret_bool (by simp), rfl⟩

theorem valid_yes (n : Int) (w : World) (h1 : -25567 ≤ n) (h2 : n ≤ 84005) : Calls Try.prog 82 #[.int .i64 n] w fun e w' => e = .returned (.bool true) ∧ w = w' :=
  (valid_any n w).mono fun _ _ h => by simpa [h1, h2] using h
theorem valid_no (n : Int) (w : World) (h : n < -25567 ∨ 84005 < n) : Calls Try.prog 82 #[.int .i64 n] w fun e w' => e = .returned (.bool false) ∧ w = w' :=
  (valid_any n w).mono fun _ _ k => by
    have : (decide (-25567 ≤ n) && decide (n ≤ 84005)) = false := by simp; omega
    rw [this] at k; exact k
theorem rvalid_yes (n : Int) (w : World) (h1 : -25567 ≤ n) (h2 : n ≤ 84005) : Calls Try.prog 60 #[.int .i64 n] w fun e w' => e = .returned (.bool true) ∧ w = w' :=
  (rvalid_any n w).mono fun _ _ h => by simpa [h1, h2] using h
theorem rvalid_no (n : Int) (w : World) (h : n < -25567 ∨ 84005 < n) : Calls Try.prog 60 #[.int .i64 n] w fun e w' => e = .returned (.bool false) ∧ w = w' :=
  (rvalid_any n w).mono fun _ _ k => by
    have : (decide (-25567 ≤ n) && decide (n ≤ 84005)) = false := by simp; omega
    rw [this] at k; exact k

set_option maxHeartbeats 400000 in
theorem civil_no (n : Int) (w : World) (h : n < -25567 ∨ 84005 < n) :
    Calls Try.prog 57 #[.int .i64 n] w fun e w' => e = .returned (.tuple #[.int .i64 0, .int .i64 0, .int .i64 0, .int .i64 2]) ∧ w = w' := by
  have H := Lib.hid h
  clear h
  go_enter Try.func57, Try.ntmps57
  go_wp2_with (go_at_call 82; refine (valid_no _ _ H.out).mono ?_; rintro e w' ⟨rfl, rfl⟩)
  refine bodyPost_ret (results_tmp4 rfl _ _ _) rfl ?_
  exact ⟨rfl, rfl⟩

set_option maxHeartbeats 400000 in
theorem rcivil_no (n : Int) (w : World) (h : n < -25567 ∨ 84005 < n) :
    Calls Try.prog 30 #[.int .i64 n] w fun e w' => e = .returned (.tuple #[.int .i64 0, .int .i64 0, .int .i64 0, .int .i64 2]) ∧ w = w' := by
  have H := Lib.hid h
  clear h
  go_enter Try.func30, Try.ntmps30
  go_wp2_with (go_at_call 60; refine (rvalid_no _ _ H.out).mono ?_; rintro e w' ⟨rfl, rfl⟩)
  refine bodyPost_ret (results_tmp4 rfl _ _ _) rfl ?_
  exact ⟨rfl, rfl⟩

theorem Dt.first_guess (n : Int) (h1 : -25567 ≤ n) (h2 : n ≤ 84005) : 1899 ≤ 1968 + n.tdiv 366 ∧ 1968 + n.tdiv 366 ≤ 2200 ∧ (1968 + n.tdiv 366 = 1899 ∨ Dt.dby (1968 + n.tdiv 366) ≤ n) := by
  have hq : (0 ≤ n ∧ n.tdiv 366 = n / 366) ∨ (n < 0 ∧ n.tdiv 366 = -(-n / 366)) := by
    rcases Int.lt_or_le n 0 with h | h
    · right
      refine ⟨h, ?_⟩
      have : n.tdiv 366 = -((-n).tdiv 366) := by rw [Int.neg_tdiv]; omega
      rw [this, Int.tdiv_eq_ediv_of_nonneg (by omega)]
    · exact Or.inl ⟨h, Int.tdiv_eq_ediv_of_nonneg h⟩
  generalize n.tdiv 366 = q at *
  unfold Dt.dby
  omega

/-- what is known of the year of a date -/
theorem Dt.cY_ok (n : Int) (h1 : -25567 ≤ n) (h2 : n ≤ 84005) : 1900 ≤ Dt.cY n ∧ Dt.cY n ≤ 2199 ∧ Dt.dby (Dt.cY n) ≤ n ∧ n < Dt.dby (Dt.cY n + 1) := by
  have hy := Dt.findY_ok 299 1900 n (by rw [Dt.dby_1900]; exact h1) (by show n < Dt.dby 2200; rw [Dt.dby_2200]; omega)
  change 1900 ≤ Dt.cY n ∧ Dt.cY n ≤ 1900 + 299 ∧ Dt.dby (Dt.cY n) ≤ n ∧ n < Dt.dby (Dt.cY n + 1) at hy
  omega
theorem Dt.cM_ok (n : Int) (h1 : -25567 ≤ n) (h2 : n ≤ 84005) : 1 ≤ Dt.cM n ∧ Dt.cM n ≤ 12 ∧ Dt.mcum (Dt.lp (Dt.cY n)) (Dt.cM n) ≤ n - Dt.dby (Dt.cY n) ∧ n - Dt.dby (Dt.cY n) < Dt.mcum (Dt.lp (Dt.cY n)) (Dt.cM n) + Dt.mlen (Dt.lp (Dt.cY n)) (Dt.cM n) := by
  have hy := Dt.cY_ok n h1 h2
  have s := Dt.dby_succ (Dt.cY n)
  have hm := Dt.findM_ok 11 (Dt.lp (Dt.cY n)) 1 (n - Dt.dby (Dt.cY n)) (by rw [Dt.mcum_1]; omega) (by show _ < Dt.mcum _ 13; rw [Dt.mcum_13]; omega)
  change 1 ≤ Dt.cM n ∧ Dt.cM n ≤ 1 + 11 ∧ Dt.mcum (Dt.lp (Dt.cY n)) (Dt.cM n) ≤ n - Dt.dby (Dt.cY n) ∧ n - Dt.dby (Dt.cY n) < Dt.mcum (Dt.lp (Dt.cY n)) (Dt.cM n + 1) at hm
  have ms := Dt.mcum_succ (Dt.lp (Dt.cY n)) (Dt.cM n) (by omega) (by omega)
  omega

set_option maxHeartbeats 1000000 in
theorem civil_yes (n : Int) (w : World) (h1 : -25567 ≤ n) (h2 : n ≤ 84005) :
    Calls Try.prog 57 #[.int .i64 n] w fun e w' => e = .returned (.tuple #[.int .i64 (Dt.cY n), .int .i64 (Dt.cM n), .int .i64 (Dt.cD n), .int .i64 0]) ∧ Below w.heap.size w w' := by
  obtain ⟨y1, y2, y3, y4⟩ := Dt.cY_ok n h1 h2
  obtain ⟨m1, m2, m3, m4⟩ := Dt.cM_ok n h1 h2
  have hD : Dt.cD n = n - Dt.dby (Dt.cY n) - Dt.mcum (Dt.lp (Dt.cY n)) (Dt.cM n) + 1 := rfl
  have hg := Dt.first_guess n h1 h2
  rw [hD]
  clear hD
  have l := Dt.lp_01 (Dt.cY n)
  have hq : 1968 + n.tdiv 366 ≤ Dt.cY n := by
    rcases hg.2.2 with h | h
    · omega
    · rcases Int.lt_or_le (Dt.cY n) (1968 + n.tdiv 366) with k | k
      · have := Dt.dby_mono (Dt.cY n + 1) (1968 + n.tdiv 366) (by omega); omega
      · exact k
  generalize Dt.cY n = Y at *
  generalize Dt.cM n = M at *
  have g1 : 1899 ≤ 1968 + n.tdiv 366 := hg.1
  clear hg
  have g2 : n.tdiv 366 ≤ 300 := by omega
  have g3 : -100 ≤ n.tdiv 366 := by omega
  go_enter Try.func57, Try.ntmps57
  go_wp2_with (go_at_call 82; refine (valid_yes _ _ h1 h2).mono ?_; rintro e w' ⟨rfl, rfl⟩)
  go_loopw [2] (fun t wr => ∃ y : Int, 1899 ≤ y ∧ y ≤ Y ∧ t = .int .i64 y ∧ Below w.heap.size w wr) (fun t _ => (Y - intOf t).toNat)
  case atStart => exact ⟨1968 + n.tdiv 366, g1, hq, by go_num, Below.refl _ _⟩
  case round =>
    obtain ⟨y, ya, yb, rfl, hbr⟩ := hrel
    clear g1 g2 g3 hq
    by_cases hlt : y < Y
    · have hm := Dt.dby_mono (y + 1) Y (by omega)
      have hle : Dt.dby (y + 1) ≤ n := by omega
      by_cases h19 : y < 1900
      · go_wp2_with fail
        go_roundw
        case rel => exact ⟨y + 1, by omega, by omega, by go_num, hbr⟩
        case measure => simp [intOf]; omega
      · go_wp2_with (go_at_call 83; refine (begin_any _ _ (by omega) (by omega)).mono ?_; rintro e w' ⟨rfl, rfl⟩)
        go_roundw
        case rel => exact ⟨y + 1, by omega, by omega, by go_num, hbr⟩
        case measure => simp [intOf]; omega
    · obtain rfl : y = Y := by omega
      have db := Dt.dby_bd y (by omega) (by omega)
      have mb := Dt.mcum_bd (Dt.lp y) M (by omega) (by omega)
      go_wp2_with (go_at_call 83; refine (begin_any _ _ (by omega) (by omega)).mono ?_; rintro e w' ⟨rfl, rfl⟩)
      obtain ⟨wo, rfl⟩ : ∃ wo : World, wo = wr := ⟨_, rfl⟩
      go_loopw [3, 4] (fun k r wr => ∃ m : Int, 1 ≤ m ∧ m ≤ M ∧ k = .int .i64 m ∧ r = .int .i64 (n - Dt.dby y - Dt.mcum (Dt.lp y) m) ∧ Below w.heap.size w wr) (fun k _ _ => (M - intOf k).toNat)
      case atStart => exact ⟨1, by omega, by omega, rfl, by rw [Dt.mcum_1]; go_num, hbr⟩
      case round =>
        obtain ⟨m, ma, mb', rfl, rfl, hbr2⟩ := hrel
        have c := Dt.mcum_bd (Dt.lp y) m (by omega) (by omega)
        have dj := Dt.days_bd y m
        have HD := Lib.hid (Dt.days_in y m (by omega) (by omega) (by omega) (by omega))
        by_cases hlt2 : m < M
        · have cs := Lib.hid (Dt.mcum_succ (Dt.lp y) m (by omega) (by omega))
          have hml := Dt.mcum_lt (Dt.lp y) m M (by omega) (by omega) (by omega) hlt2 (by omega)
          rw [← HD.out] at hml
          have hge : Dt.days y m ≤ n - Dt.dby y - Dt.mcum (Dt.lp y) m := by omega
          go_wp2_with (go_at_call 58; refine (days_any _ _ _).mono ?_; rintro e w2 ⟨rfl, hb2⟩; replace hbr2 := bel hbr2 hb2; clear hb2)
          go_roundw
          case rel => exact ⟨m + 1, by omega, by omega, by go_num, by rw [cs.out, ← HD.out]; go_num, hbr2⟩
          case measure => simp [intOf]; omega
        · obtain rfl : m = M := by omega
          rw [← HD.out] at m4
          have hlt3 : ¬ Dt.days y m ≤ n - Dt.dby y - Dt.mcum (Dt.lp y) m := by omega
          go_wp2_with (go_at_call 58; refine (days_any _ _ _).mono ?_; rintro e w2 ⟨rfl, hb2⟩; replace hbr2 := bel hbr2 hb2; clear hb2)
          refine bodyPost_ret (results_tmp4 rfl _ _ _) rfl ?_
          exact ⟨rfl, hbr2⟩
end Go.Proofs.Ytfalmodejpaeaaa
