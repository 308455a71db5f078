/- Texts of this claim, put together. -/
import Derived.Test.YtnkmjdaeafeaaaaGreatJAQ
import Derived.Test.YtnkmjdaeafeaaaaGreatChecked
import Derived.Test.YtnkmjdaeafeaaaaGreatJAA
import Derived.Test.YtnkmjdaeafeaaaaGreatJAD
import Derived.Test.YtnkmjdaeafeaaaaGreatChartWalksHZ
/- The walks of the date functions: what each call returns, and that it changes nothing that was there. -/
namespace Go.Proofs.YtnkmjdaeafeaaaaGreat
set_option linter.unusedVariables false
set_option linter.unusedSimpArgs false
open Go.RowKit


set_option maxHeartbeats 400000 in
theorem leap_any (y : Int) (w : World) (h0 : 0 ≤ y) (h1 : y ≤ 100000) :
    Calls Tryz.prog 154 #[.int .i64 y] w fun e w' => e = .returned (.bool (Dt.leapB y)) ∧ w = w' := by
  by_cases h4 : y % 4 = 0
  · by_cases h100 : y % 100 = 0
    · by_cases h400 : y % 400 = 0
      · have hb : Dt.leapB y = true := by simp [Dt.leapB, h4, h100, h400]
        go_enter Tryz.func154, Tryz.ntmps154
        go_wp2
        go_ret
        exact ⟨ret_bool (by rw [hb]; try simp [*]), rfl⟩
      · have hb : Dt.leapB y = false := by simp [Dt.leapB, h4, h100, h400]
        go_enter Tryz.func154, Tryz.ntmps154
        go_wp2
        go_ret
        exact ⟨ret_bool (by rw [hb]; try simp [*]), rfl⟩
    · have hb : Dt.leapB y = true := by simp [Dt.leapB, h4, h100]
      go_enter Tryz.func154, Tryz.ntmps154
      go_wp2
      go_ret
      exact ⟨ret_bool (by rw [hb]; try simp [*]), rfl⟩
  · have hb : Dt.leapB y = false := by simp [Dt.leapB, h4]
    go_enter Tryz.func154, Tryz.ntmps154
    go_wp2
    go_ret
    exact ⟨ret_bool (by rw [hb]; try simp [*]), rfl⟩

set_option maxHeartbeats 400000 in
theorem begin_any (y : Int) (w : World) (h0 : 1 ≤ y) (h1 : y ≤ 100000) :
    Calls Tryz.prog 142 #[.int .i64 y] w fun e w' => e = .returned (.int .i64 (Dt.dby y)) ∧ w = w' := by
  go_enter Tryz.func142, Tryz.ntmps142
  go_wp2
  go_ret
  exact ⟨rfl, rfl⟩

set_option maxHeartbeats 1000000 in
theorem days_any (y m : Int) (w : World) :
    Calls Tryz.prog 141 #[.int .i64 y, .int .i64 m] w fun e w' => e = .returned (.int .i64 (Dt.days y m)) ∧ Below w.heap.size w w' := by
  by_cases hy1 : y < 1900
  · go_enter Tryz.func141, Tryz.ntmps141
    go_wp2
    go_ret
    exact ⟨ret_int (by unfold Dt.days; rw [if_pos (by omega)]), Below.refl _ _⟩
  by_cases hy2 : 2199 < y
  · go_enter Tryz.func141, Tryz.ntmps141
    go_wp2
    go_ret
    exact ⟨ret_int (by unfold Dt.days; rw [if_pos (by omega)]), Below.refl _ _⟩
  by_cases hm1 : m < 1
  · go_enter Tryz.func141, Tryz.ntmps141
    go_wp2
    go_ret
    exact ⟨ret_int (by unfold Dt.days; rw [if_pos (by omega)]), Below.refl _ _⟩
  by_cases hm2 : 12 < m
  · go_enter Tryz.func141, Tryz.ntmps141
    go_wp2
    go_ret
    exact ⟨ret_int (by unfold Dt.days; rw [if_pos (by omega)]), Below.refl _ _⟩
  have hd : Dt.days y m = Dt.mlen (Dt.lp y) m := Dt.days_in y m (by omega) (by omega) (by omega) (by omega)
  rw [hd]
  clear hd
  by_cases hm : m = 2
  · subst hm
    by_cases hl : Dt.leapB y = true
    · have hd : Dt.mlen (Dt.lp y) 2 = 29 := by simp [Dt.mlen, Dt.lp, hl]
      rw [hd]
      have HL := Lib.hid hl
      clear hl hd
      go_enter Tryz.func141, Tryz.ntmps141
      go_wp2_with (go_at_call 154; refine (leap_any _ _ (by omega) (by omega)).mono ?_; rintro e w' ⟨rfl, rfl⟩; rw [HL.out])
      go_ret
      exact ⟨rfl, (Below.refl _ _).alloc (Nat.le_refl _) _⟩
    · have hl' : Dt.leapB y = false := by simpa using hl
      have hd : Dt.mlen (Dt.lp y) 2 = 28 := by simp [Dt.mlen, Dt.lp, hl']
      rw [hd]
      have HL := Lib.hid hl'
      clear hl hl' hd
      go_enter Tryz.func141, Tryz.ntmps141
      go_wp2_with (go_at_call 154; refine (leap_any _ _ (by omega) (by omega)).mono ?_; rintro e w' ⟨rfl, rfl⟩; rw [HL.out])
      go_ret
      exact ⟨rfl, (Below.refl _ _).alloc (Nat.le_refl _) _⟩
  · have : m = 1 ∨ m = 3 ∨ m = 4 ∨ m = 5 ∨ m = 6 ∨ m = 7 ∨ m = 8 ∨ m = 9 ∨ m = 10 ∨ m = 11 ∨ m = 12 := by omega
    rcases this with rfl | rfl | rfl | rfl | rfl | rfl | rfl | rfl | rfl | rfl | rfl
    all_goals
      clear hm hm1 hm2
      go_enter Tryz.func141, Tryz.ntmps141
      go_wp2
      go_ret
      exact ⟨ret_int (by simp [Dt.mlen]), (Below.refl _ _).alloc (Nat.le_refl _) _⟩
end Go.Proofs.YtnkmjdaeafeaaaaGreat
/- The walks of the reference's leap and Days. -/
namespace Go.Proofs.YtnkmjdaeafeaaaaGreat
set_option linter.unusedVariables false
set_option linter.unusedSimpArgs false
open Go.RowKit

set_option maxHeartbeats 400000 in
theorem rleap_any (y : Int) (w : World) (h0 : 0 ≤ y) (h1 : y ≤ 100000) :
    Calls Tryz.prog 152 #[.int .i64 y] w fun e w' => e = .returned (.bool (Dt.leapB y)) ∧ w = w' := by
  by_cases h4 : y % 4 = 0
  · by_cases h100 : y % 100 = 0
    · by_cases h400 : y % 400 = 0
      · have hb : Dt.leapB y = true := by simp [Dt.leapB, h4, h100, h400]
        go_enter Tryz.func152, Tryz.ntmps152
        go_wp2
        go_ret
        exact ⟨ret_bool (by rw [hb]), rfl⟩
      · have hb : Dt.leapB y = false := by simp [Dt.leapB, h4, h100, h400]
        go_enter Tryz.func152, Tryz.ntmps152
        go_wp2
        go_ret
        exact ⟨ret_bool (by rw [hb]; try simp [*]), rfl⟩
    · have hb : Dt.leapB y = true := by simp [Dt.leapB, h4, h100]
      go_enter Tryz.func152, Tryz.ntmps152
      go_wp2
      go_ret
      exact ⟨ret_bool (by rw [hb]), rfl⟩
  · have hb : Dt.leapB y = false := by simp [Dt.leapB, h4]
    go_enter Tryz.func152, Tryz.ntmps152
    go_wp2
    go_ret
    exact ⟨ret_bool (by rw [hb]), rfl⟩


theorem rdays_idx (m l : Int) (h1 : 1 ≤ m) (h2 : m ≤ 12) (h3 : m ≠ 2 ∨ l = 0) (w : World) :
    (Instr.index 203 (.agg #[.int .i64 31, .int .i64 28, .int .i64 31, .int .i64 30, .int .i64 31, .int .i64 30, .int .i64 31, .int .i64 31, .int .i64 30, .int .i64 31, .int .i64 30, .int .i64 31]) (.int .i64 (m - 1))).run Tryz.prog w = .ok (.int .i64 (Dt.mlen l m)) w := by
  obtain ⟨i0, hi, hz0, hz1, hz2⟩ := info_parts int_info
  refine run_index_agg1 Tryz.underlying203 Tryz.underlying3 hi hz1 _ _ _ (by omega) (by omega) ?_ w
  have : m = 1 ∨ m = 2 ∨ m = 3 ∨ m = 4 ∨ m = 5 ∨ m = 6 ∨ m = 7 ∨ m = 8 ∨ m = 9 ∨ m = 10 ∨ m = 11 ∨ m = 12 := by omega
  rcases this with rfl | rfl | rfl | rfl | rfl | rfl | rfl | rfl | rfl | rfl | rfl | rfl
  case inr.inl =>
    obtain rfl : l = 0 := by omega
    rfl
  all_goals rfl

set_option maxHeartbeats 1000000 in
theorem rdays_any (y m : Int) (w : World) :
    Calls Tryz.prog 151 #[.int .i64 y, .int .i64 m] w fun e w' => e = .returned (.int .i64 (Dt.days y m)) ∧ w = w' := by
  by_cases hy : y < 1900 ∨ 2199 < y ∨ m < 1 ∨ 12 < m
  · have hd : Dt.days y m = 0 := by unfold Dt.days; rw [if_pos hy]
    rw [hd]
    clear hd
    by_cases hm1 : m < 1
    · clear hy
      go_enter Tryz.func151, Tryz.ntmps151
      go_wp2
      go_ret
      exact ⟨rfl, rfl⟩
    by_cases hm2 : 12 < m
    · clear hy
      go_enter Tryz.func151, Tryz.ntmps151
      go_wp2
      go_ret
      exact ⟨rfl, rfl⟩
    by_cases hy1 : y < 1900
    · clear hy
      go_enter Tryz.func151, Tryz.ntmps151
      go_wp2
      go_ret
      exact ⟨rfl, rfl⟩
    have hy2 : 2199 < y := by omega
    clear hy
    go_enter Tryz.func151, Tryz.ntmps151
    go_wp2
    go_ret
    exact ⟨rfl, rfl⟩
  have hd : Dt.days y m = Dt.mlen (Dt.lp y) m := Dt.days_in y m (by omega) (by omega) (by omega) (by omega)
  rw [hd]
  have b1 : 1900 ≤ y := by omega
  have b2 : y ≤ 2199 := by omega
  have b3 : 1 ≤ m := by omega
  have b4 : m ≤ 12 := by omega
  clear hd hy
  have l01 := Dt.lp_01 y
  by_cases hm : m = 2 ∧ Dt.leapB y = true
  · obtain ⟨rfl, hl⟩ := hm
    have hd : Dt.mlen (Dt.lp y) 2 = 29 := by simp [Dt.mlen, Dt.lp, hl]
    rw [hd]
    have HL := Lib.hid hl
    clear hl hd l01
    go_enter Tryz.func151, Tryz.ntmps151
    go_wp2_with (go_at_call 152; refine (rleap_any _ _ (by omega) (by omega)).mono ?_; rintro e w' ⟨rfl, rfl⟩; rw [HL.out])
    go_ret
    exact ⟨rfl, rfl⟩
  · have hidx := rdays_idx m (Dt.lp y) b3 b4 (by
      by_cases h2 : m = 2
      · exact Or.inr (by unfold Dt.lp; rw [if_neg (fun h => hm ⟨h2, h⟩)])
      · exact Or.inl h2)
    generalize Dt.mlen (Dt.lp y) m = v at *
    by_cases h2 : m = 2
    · have HL : Hid (Dt.leapB y = false) := by
        have : ¬ Dt.leapB y = true := fun h => hm ⟨h2, h⟩
        exact Lib.hid (by simpa using this)
      subst h2
      rw [show (2 : Int) - 1 = 1 from rfl] at hidx
      clear hm l01
      go_enter Tryz.func151, Tryz.ntmps151
      go_wp2_with (go_at_call 152; refine (rleap_any _ _ (by omega) (by omega)).mono ?_; rintro e w' ⟨rfl, rfl⟩; rw [HL.out])
      go_ret
      exact ⟨rfl, rfl⟩
    · clear hm l01
      go_enter Tryz.func151, Tryz.ntmps151
      go_wp2_with fail
      go_ret
      exact ⟨rfl, rfl⟩
end Go.Proofs.YtnkmjdaeafeaaaaGreat
/- The walks of Of, program's and reference's. -/
namespace Go.Proofs.YtnkmjdaeafeaaaaGreat
set_option linter.unusedVariables false
set_option linter.unusedSimpArgs false
open Go.RowKit

theorem Dt.num_first (y m d : Int) : Dt.dby y + d - 1 + Dt.mcum (Dt.lp y) m = Dt.num y m d := by unfold Dt.num; omega

set_option maxHeartbeats 1000000 in
theorem of_no (y m d : Int) (w : World) (h : Dt.vld y m d = false) (hd1 : -9223372036854775808 ≤ d) (hd2 : d ≤ 9223372036854775807) :
    Calls Tryz.prog 109 #[.int .i64 y, .int .i64 m, .int .i64 d] w fun e w' => e = .returned (.tuple #[.int .i64 0, .int .i64 2]) ∧ Below w.heap.size w w' := by
  have hv : ¬ (1 ≤ d ∧ d ≤ Dt.days y m) := by rw [← Dt.vld_iff, h]; simp
  clear h
  by_cases h1 : d < 1
  · clear hv
    go_enter Tryz.func109, Tryz.ntmps109
    go_wp2_with fail
    go_ret2
    exact ⟨rfl, Below.refl _ _⟩
  · have h2 : Dt.days y m < d := by omega
    clear hv
    go_enter Tryz.func109, Tryz.ntmps109
    go_wp2_with (go_at_call 141; refine (days_any _ _ _).mono ?_; rintro e w1 ⟨rfl, hb⟩)
    go_ret2
    exact ⟨rfl, hb⟩

set_option maxHeartbeats 1000000 in
theorem of_yes (y m d : Int) (w : World) (h : Dt.vld y m d = true) :
    Calls Tryz.prog 109 #[.int .i64 y, .int .i64 m, .int .i64 d] w fun e w' => e = .returned (.tuple #[.int .i64 (Dt.num y m d), .int .i64 0]) ∧ Below w.heap.size w w' := by
  have hv := (Dt.vld_iff y m d).1 h
  obtain ⟨a1, a2, a3, a4, a5, a6, a7⟩ := Dt.vld_pos y m d h
  obtain ⟨v1, v2⟩ := hv
  have v3 := Dt.days_bd y m
  have l := Dt.lp_01 y
  have db := Dt.dby_bd y (by omega) (by omega)
  clear h a6
  go_enter Tryz.func109, Tryz.ntmps109
  go_wp2_with (first
    | (go_at_call 141; refine (days_any _ _ _).mono ?_; rintro e w1 ⟨rfl, hb⟩)
    | (go_at_call 142; refine (begin_any _ _ (by omega) (by omega)).mono ?_; rintro e w' ⟨rfl, rfl⟩))
  go_loopw [8, 9] (fun n k wr => ∃ j : Int, 1 ≤ j ∧ j ≤ m ∧ k = .int .i64 j ∧ n = .int .i64 (Dt.dby y + d - 1 + Dt.mcum (Dt.lp y) j) ∧ Below w.heap.size w wr) (fun _ k _ => (m - intOf k).toNat)
  case atStart => exact ⟨1, by omega, by omega, rfl, by rw [Dt.mcum_1]; go_num, hb⟩
  case round =>
    obtain ⟨j, hj1, hj2, rfl, rfl, hbr⟩ := hrel
    have c := Dt.mcum_bd (Dt.lp y) j (by omega) (by omega)
    by_cases hlt : j < m
    · have cs := Lib.hid (Dt.mcum_succ (Dt.lp y) j (by omega) (by omega))
      have HD := Lib.hid (Dt.days_in y j (by omega) (by omega) (by omega) (by omega))
      have dj := Dt.days_bd y j
      go_wp2_with (go_at_call 141; refine (days_any _ _ _).mono ?_; rintro e w2 ⟨rfl, hb2⟩)
      go_roundw
      case rel => exact ⟨j + 1, by omega, by omega, by go_num, by rw [cs.out, ← HD.out]; go_num, hbr.trans (hb2.mono hbr.size)⟩
      case measure => simp [intOf]; omega
    · go_wp2_with fail
      go_ret2
      obtain rfl : j = m := by omega
      exact ⟨by rw [← Dt.num_first]; rfl, hbr⟩
end Go.Proofs.YtnkmjdaeafeaaaaGreat
/- The walks of Valid and Civil, program's and reference's. -/
namespace Go.Proofs.YtnkmjdaeafeaaaaGreat
set_option linter.unusedVariables false
set_option linter.unusedSimpArgs false
open Go.RowKit

set_option maxHeartbeats 400000 in
theorem dvalid_any (n : Int) (w : World) :
    Calls Tryz.prog 144 #[.int .i64 n] w fun e w' => e = .returned (.bool (decide (-25567 ≤ n) && decide (n ≤ 84005))) ∧ w = w' := by
  by_cases h1 : -25567 ≤ n
  · go_enter Tryz.func144, Tryz.ntmps144
    go_wp2_with fail
    go_ret
    exact ⟨ret_bool (by simp [h1]), rfl⟩
  · have h3 : decide (-25567 ≤ n) = false := by simpa using h1
    go_enter Tryz.func144, Tryz.ntmps144
    go_wp2_with fail
    go_ret
    exact ⟨ret_bool (by simp), rfl⟩
set_option maxHeartbeats 400000 in
theorem drvalid_any (n : Int) (w : World) :
    Calls Tryz.prog 119 #[.int .i64 n] w fun e w' => e = .returned (.bool (decide (-25567 ≤ n) && decide (n ≤ 84005))) ∧ w = w' := by
  by_cases h1 : -25567 ≤ n
  · go_enter Tryz.func119, Tryz.ntmps119
    go_wp2_with fail
    go_ret
    exact ⟨ret_bool (by simp [h1]), rfl⟩
  · have h3 : decide (-25567 ≤ n) = false := by simpa using h1
    go_enter Tryz.func119, Tryz.ntmps119
    go_wp2_with fail
    go_ret
    exact ⟨ret_bool (by simp), rfl⟩

theorem valid_yes (n : Int) (w : World) (h1 : -25567 ≤ n) (h2 : n ≤ 84005) : Calls Tryz.prog 144 #[.int .i64 n] w fun e w' => e = .returned (.bool true) ∧ w = w' :=
  (dvalid_any n w).mono fun _ _ h => by simpa [h1, h2] using h
theorem dvalid_no (n : Int) (w : World) (h : n < -25567 ∨ 84005 < n) : Calls Tryz.prog 144 #[.int .i64 n] w fun e w' => e = .returned (.bool false) ∧ w = w' :=
  (dvalid_any n w).mono fun _ _ k => by
    have : (decide (-25567 ≤ n) && decide (n ≤ 84005)) = false := by simp; omega
    rw [this] at k; exact k
theorem rvalid_yes (n : Int) (w : World) (h1 : -25567 ≤ n) (h2 : n ≤ 84005) : Calls Tryz.prog 119 #[.int .i64 n] w fun e w' => e = .returned (.bool true) ∧ w = w' :=
  (drvalid_any n w).mono fun _ _ h => by simpa [h1, h2] using h
theorem drvalid_no (n : Int) (w : World) (h : n < -25567 ∨ 84005 < n) : Calls Tryz.prog 119 #[.int .i64 n] w fun e w' => e = .returned (.bool false) ∧ w = w' :=
  (drvalid_any n w).mono fun _ _ k => by
    have : (decide (-25567 ≤ n) && decide (n ≤ 84005)) = false := by simp; omega
    rw [this] at k; exact k

set_option maxHeartbeats 400000 in
theorem rcivil_no (n : Int) (w : World) (h : n < -25567 ∨ 84005 < n) :
    Calls Tryz.prog 153 #[.int .i64 n] w fun e w' => e = .returned (.tuple #[.int .i64 0, .int .i64 0, .int .i64 0, .int .i64 2]) ∧ w = w' := by
  have H := Lib.hid h
  clear h
  go_enter Tryz.func153, Tryz.ntmps153
  go_wp2_with (go_at_call 119; refine (drvalid_no _ _ H.out).mono ?_; rintro e w' ⟨rfl, rfl⟩)
  refine bodyPost_ret (results_tmp4 rfl _ _ _) rfl ?_
  exact ⟨rfl, rfl⟩

theorem Dt.first_guess (n : Int) (h1 : -25567 ≤ n) (h2 : n ≤ 84005) : 1899 ≤ 1968 + n.tdiv 366 ∧ 1968 + n.tdiv 366 ≤ 2200 ∧ (1968 + n.tdiv 366 = 1899 ∨ Dt.dby (1968 + n.tdiv 366) ≤ n) := by
  have hq : (0 ≤ n ∧ n.tdiv 366 = n / 366) ∨ (n < 0 ∧ n.tdiv 366 = -(-n / 366)) := by
    rcases Int.lt_or_le n 0 with h | h
    · right
      refine ⟨h, ?_⟩
      have : n.tdiv 366 = -((-n).tdiv 366) := by rw [Int.neg_tdiv]; omega
      rw [this, Int.tdiv_eq_ediv_of_nonneg (by omega)]
    · exact Or.inl ⟨h, Int.tdiv_eq_ediv_of_nonneg h⟩
  generalize n.tdiv 366 = q at *
  unfold Dt.dby
  omega

/-- what is known of the year of a date -/
theorem Dt.cY_ok (n : Int) (h1 : -25567 ≤ n) (h2 : n ≤ 84005) : 1900 ≤ Dt.cY n ∧ Dt.cY n ≤ 2199 ∧ Dt.dby (Dt.cY n) ≤ n ∧ n < Dt.dby (Dt.cY n + 1) := by
  have hy := Dt.findY_ok 299 1900 n (by rw [Dt.dby_1900]; exact h1) (by show n < Dt.dby 2200; rw [Dt.dby_2200]; omega)
  change 1900 ≤ Dt.cY n ∧ Dt.cY n ≤ 1900 + 299 ∧ Dt.dby (Dt.cY n) ≤ n ∧ n < Dt.dby (Dt.cY n + 1) at hy
  omega
theorem Dt.cM_ok (n : Int) (h1 : -25567 ≤ n) (h2 : n ≤ 84005) : 1 ≤ Dt.cM n ∧ Dt.cM n ≤ 12 ∧ Dt.mcum (Dt.lp (Dt.cY n)) (Dt.cM n) ≤ n - Dt.dby (Dt.cY n) ∧ n - Dt.dby (Dt.cY n) < Dt.mcum (Dt.lp (Dt.cY n)) (Dt.cM n) + Dt.mlen (Dt.lp (Dt.cY n)) (Dt.cM n) := by
  have hy := Dt.cY_ok n h1 h2
  have s := Dt.dby_succ (Dt.cY n)
  have hm := Dt.findM_ok 11 (Dt.lp (Dt.cY n)) 1 (n - Dt.dby (Dt.cY n)) (by rw [Dt.mcum_1]; omega) (by show _ < Dt.mcum _ 13; rw [Dt.mcum_13]; omega)
  change 1 ≤ Dt.cM n ∧ Dt.cM n ≤ 1 + 11 ∧ Dt.mcum (Dt.lp (Dt.cY n)) (Dt.cM n) ≤ n - Dt.dby (Dt.cY n) ∧ n - Dt.dby (Dt.cY n) < Dt.mcum (Dt.lp (Dt.cY n)) (Dt.cM n + 1) at hm
  have ms := Dt.mcum_succ (Dt.lp (Dt.cY n)) (Dt.cM n) (by omega) (by omega)
  omega

end Go.Proofs.YtnkmjdaeafeaaaaGreat
/- The walk of mapping.link. -/
namespace Go.Proofs.YtnkmjdaeafeaaaaGreat
set_option linter.unusedVariables false
set_option linter.unusedSimpArgs false
open Go.RowKit

theorem day_any (n : Int) (w : World) : Calls Tryz.prog 144 #[.int .i64 n] w fun e w' => e = .returned (.bool (Gr.dayV n)) ∧ w = w' := dvalid_any n w
set_option maxRecDepth 100000 in
set_option maxHeartbeats 4000000 in
theorem link_any (xn xc : ByteArray) (l1 : List Acc) (A1 : Option Addr) (c1 : Nat) (v2 : Value) (xj : Bool) (cl : List Acc) (cA : Option Addr) (cc : Nat) (f t s : Int) (l2n : Nat) (A2 : Option Addr) (c2 : Nat) (w : World)
    (h1 : Rd w w.heap.size 4 A1 l1.length (Ch.cells l1)) (h2 : Rd w w.heap.size 4 cA cl.length (Ch.cells cl)) (hn1 : l1.length ≤ 300000) (hn2 : cl.length ≤ 300000) :
    Calls Tryz.prog 113 #[.agg #[.string xn, .string xc, .slice A1 l1.length c1, .slice A2 l2n c2, .bool xj], .slice cA cl.length cc, .agg #[.int .i64 f, .int .i64 t, .int .i64 s]] w (BoolPost (Gr.linkV l1 cl ⟨f, t, s⟩) w) := by
  have H1 := Lib.hid h1
  have H2 := Lib.hid h2
  have HD : Hid (Gr.linkV l1 cl ⟨f, t, s⟩ = (Ch.fnB l1 f && (Ch.fnB cl t && (decide ((Ch.fnV l1 f).kind = (Ch.fnV cl t).kind) && Gr.dayV s)))) := Lib.hid rfl
  have hb : Below w.heap.size w ((w.alloc (.cells #[.string xn, .string xc, .slice A1 l1.length c1, .slice A2 l2n c2, .bool xj] 120)).alloc (.cells #[.int .i64 f, .int .i64 t, .int .i64 s] 141)) := by
    have hb := Below.refl w.heap.size w
    exact (by repeat (first | exact hb | refine Below.alloc ?_ (by have hbs := hb.size; first | omega | (simp; done) | (simp; omega)) _ | refine Below.drew ?_ | refine below_drewN_ ?_ _ | refine Below.setCell ?_ (by simp) _))
  have hB0 := Blk.new (w.alloc (.cells #[.string xn, .string xc, .slice A1 l1.length c1, .slice A2 l2n c2, .bool xj] 120)) 141 #[.int .i64 f, .int .i64 t, .int .i64 s]
  have e1 : (w.alloc (.cells #[.string xn, .string xc, .slice A1 l1.length c1, .slice A2 l2n c2, .bool xj] 120)).heap.size = w.heap.size + 1 := by simp
  rw [e1] at hB0
  have HB := Lib.hid hB0
  clear h1 h2 e1 hB0
  generalize Gr.linkV l1 cl ⟨f, t, s⟩ = V at *
  have K1 := Lib.hid (fun W h => find_gen l1 f A1 c1 W h hn1)
  have K2 := Lib.hid (fun W h => find_gen cl t cA cc W h hn2)
  have K3 := Lib.hid (fun W => day_any s W)
  generalize Ch.fnV l1 f = a1 at *
  generalize Ch.fnB l1 f = b1 at *
  generalize Ch.fnV cl t = a2 at *
  generalize Ch.fnB cl t = b2 at *
  generalize Gr.dayV s = d at *
  go_enter Tryz.func113, Tryz.ntmps113
  go_wp2_with fail
  generalize hgen : (w.alloc (.cells #[.string xn, .string xc, .slice A1 l1.length c1, .slice A2 l2n c2, .bool xj] 120)).alloc (.cells #[.int .i64 f, .int .i64 t, .int .i64 s] 141) = W at *
  clear hgen
  refine (K1.out W (Rd.now H1.out hb)).mono ?_
  rintro e w2 ⟨rfl, hb9⟩
  replace hb := bel hb hb9
  have HX := Lib.hid (Blk.new w2 138 #[.int .i64 a1.code, .int .i64 a1.kind, .int .i64 a1.basis, .int .i64 a1.parent])
  have HB2 := Lib.hid ((HB.out.step hb9).alloc (.cells #[.int .i64 a1.code, .int .i64 a1.kind, .int .i64 a1.basis, .int .i64 a1.parent] 138))
  have f1 : (w2.alloc (.cells #[.int .i64 a1.code, .int .i64 a1.kind, .int .i64 a1.basis, .int .i64 a1.parent] 138)).cell? ⟨w.heap.size + 1, 1, none⟩ = some (.int .i64 t) := HB2.out.cell 1
  have hb1 := hb.alloc hb.size (.cells #[.int .i64 a1.code, .int .i64 a1.kind, .int .i64 a1.basis, .int .i64 a1.parent] 138)
  clear hb9 HB
  go_wp2_with fail
  clear f1
  generalize hgen : w2.alloc (.cells #[.int .i64 a1.code, .int .i64 a1.kind, .int .i64 a1.basis, .int .i64 a1.parent] 138) = W2 at *
  clear hgen
  refine (K2.out W2 (Rd.now H2.out hb1)).mono ?_
  rintro e w3 ⟨rfl, hb9⟩
  have hb2 := bel hb1 hb9
  have hX := (HX.out.step hb9).alloc (.cells #[.int .i64 a2.code, .int .i64 a2.kind, .int .i64 a2.basis, .int .i64 a2.parent] 138)
  have hL := (HB2.out.step hb9).alloc (.cells #[.int .i64 a2.code, .int .i64 a2.kind, .int .i64 a2.basis, .int .i64 a2.parent] 138)
  have q1 : (w3.alloc (.cells #[.int .i64 a2.code, .int .i64 a2.kind, .int .i64 a2.basis, .int .i64 a2.parent] 138)).cell? ⟨w2.heap.size, 1, none⟩ = some (.int .i64 a1.kind) := hX.cell 1
  have q2 : (w3.alloc (.cells #[.int .i64 a2.code, .int .i64 a2.kind, .int .i64 a2.basis, .int .i64 a2.parent] 138)).cell? ⟨w.heap.size + 1, 2, none⟩ = some (.int .i64 s) := hL.cell 2
  have hb3 := hb2.alloc hb2.size (.cells #[.int .i64 a2.code, .int .i64 a2.kind, .int .i64 a2.basis, .int .i64 a2.parent] 138)
  have HD' := Lib.hid HD.out
  clear hX hL hb9 HB2 HX
  cases hk : (a1.kind == a2.kind) <;> cases b1 <;> cases b2
  all_goals
    go_wp2_with (go_at_call 144; refine ((K3.out _)).mono ?_; rintro e w2 ⟨rfl, rfl⟩)
    go_ret
    exact ⟨by rw [HD'.out]; simp at hk; simp [hk], hb3⟩
end Go.Proofs.YtnkmjdaeafeaaaaGreat
