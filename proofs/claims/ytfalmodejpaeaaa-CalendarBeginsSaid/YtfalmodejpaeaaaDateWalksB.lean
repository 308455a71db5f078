/- The walks of the reference's leap and Days. -/
import Derived.Test.YtfalmodejpaeaaaDateWalks
namespace Go.Proofs.Ytfalmodejpaeaaa
open Go.RowKit

set_option maxHeartbeats 400000 in
theorem rleap_any (y : Int) (w : World) (h0 : 0 ≤ y) (h1 : y ≤ 100000) :
    Calls Try.prog 61 #[.int .i64 y] w fun e w' => e = .returned (.bool (Dt.leapB y)) ∧ w = w' := by
  by_cases h4 : y % 4 = 0
  · by_cases h100 : y % 100 = 0
    · by_cases h400 : y % 400 = 0
      · have hb : Dt.leapB y = true := by simp [Dt.leapB, h4, h100, h400]
        go_enter Try.func61, Try.ntmps61
        go_wp2
        go_ret
        exact ⟨ret_bool (by rw [hb]), rfl⟩
      · have hb : Dt.leapB y = false := by simp [Dt.leapB, h4, h100, h400]
        go_enter Try.func61, Try.ntmps61
        go_wp2
        go_ret
        exact ⟨ret_bool (by rw [hb]; try simp [*]), rfl⟩
    · have hb : Dt.leapB y = true := by simp [Dt.leapB, h4, h100]
      go_enter Try.func61, Try.ntmps61
      go_wp2
      go_ret
      exact ⟨ret_bool (by rw [hb]), rfl⟩
  · have hb : Dt.leapB y = false := by simp [Dt.leapB, h4]
    go_enter Try.func61, Try.ntmps61
    go_wp2
    go_ret
    exact ⟨ret_bool (by rw [hb]), rfl⟩

theorem int_info : (Try.prog.info? 3).map (fun i => (i.zero, i.size, i.bytes)) = some (some (.int .i64 0), 1, 8) := by kernel_rfl

theorem rdays_idx (m l : Int) (h1 : 1 ≤ m) (h2 : m ≤ 12) (h3 : m ≠ 2 ∨ l = 0) (w : World) :
    (Instr.index 69 (.agg #[.int .i64 31, .int .i64 28, .int .i64 31, .int .i64 30, .int .i64 31, .int .i64 30, .int .i64 31, .int .i64 31, .int .i64 30, .int .i64 31, .int .i64 30, .int .i64 31]) (.int .i64 (m - 1))).run Try.prog w = .ok (.int .i64 (Dt.mlen l m)) w := by
  obtain ⟨i0, hi, hz0, hz1, hz2⟩ := info_parts int_info
  refine run_index_agg1 Try.underlying69 Try.underlying3 hi hz1 _ _ _ (by omega) (by omega) ?_ w
  have : m = 1 ∨ m = 2 ∨ m = 3 ∨ m = 4 ∨ m = 5 ∨ m = 6 ∨ m = 7 ∨ m = 8 ∨ m = 9 ∨ m = 10 ∨ m = 11 ∨ m = 12 := by omega
  rcases this with rfl | rfl | rfl | rfl | rfl | rfl | rfl | rfl | rfl | rfl | rfl | rfl
  case inr.inl =>
    obtain rfl : l = 0 := by omega
    rfl
  all_goals rfl

set_option maxHeartbeats 1000000 in
theorem rdays_any (y m : Int) (w : World) :
    Calls Try.prog 59 #[.int .i64 y, .int .i64 m] w fun e w' => e = .returned (.int .i64 (Dt.days y m)) ∧ w = w' := by
  by_cases hy : y < 1900 ∨ 2199 < y ∨ m < 1 ∨ 12 < m
  · have hd : Dt.days y m = 0 := by unfold Dt.days; rw [if_pos hy]
    rw [hd]
    clear hd
    by_cases hm1 : m < 1
    · clear hy
      go_enter Try.func59, Try.ntmps59
      go_wp2
      go_ret
      exact ⟨rfl, rfl⟩
    by_cases hm2 : 12 < m
    · clear hy
      go_enter Try.func59, Try.ntmps59
      go_wp2
      go_ret
      exact ⟨rfl, rfl⟩
    by_cases hy1 : y < 1900
    · clear hy
      go_enter Try.func59, Try.ntmps59
      go_wp2
      go_ret
      exact ⟨rfl, rfl⟩
    have hy2 : 2199 < y := by omega
    clear hy
    go_enter Try.func59, Try.ntmps59
    go_wp2
    go_ret
    exact ⟨rfl, rfl⟩
  have hd : Dt.days y m = Dt.mlen (Dt.lp y) m := Dt.days_in y m (by omega) (by omega) (by omega) (by omega)
  rw [hd]
  have b1 : 1900 ≤ y := by omega
  have b2 : y ≤ 2199 := by omega
  have b3 : 1 ≤ m := by omega
  have b4 : m ≤ 12 := by omega
  clear hd hy
  have l01 := Dt.lp_01 y
  by_cases hm : m = 2 ∧ Dt.leapB y = true
  · obtain ⟨rfl, hl⟩ := hm
    have hd : Dt.mlen (Dt.lp y) 2 = 29 := by simp [Dt.mlen, Dt.lp, hl]
    rw [hd]
    have HL := Lib.hid hl
    clear hl hd l01
    go_enter Try.func59, Try.ntmps59
    go_wp2_with (go_at_call 61; refine (rleap_any _ _ (by omega) (by omega)).mono ?_; rintro e w' ⟨rfl, rfl⟩; rw [HL.out])
    go_ret
    exact ⟨rfl, rfl⟩
  · have hidx := rdays_idx m (Dt.lp y) b3 b4 (by
      by_cases h2 : m = 2
      · exact Or.inr (by unfold Dt.lp; rw [if_neg (fun h => hm ⟨h2, h⟩)])
      · exact Or.inl h2)
    generalize Dt.mlen (Dt.lp y) m = v at *
    by_cases h2 : m = 2
    · have HL : Hid (Dt.leapB y = false) := by
        have : ¬ Dt.leapB y = true := fun h => hm ⟨h2, h⟩
        exact Lib.hid (by simpa using this)
      subst h2
      rw [show (2 : Int) - 1 = 1 from rfl] at hidx
      clear hm l01
      go_enter Try.func59, Try.ntmps59
      go_wp2_with (go_at_call 61; refine (rleap_any _ _ (by omega) (by omega)).mono ?_; rintro e w' ⟨rfl, rfl⟩; rw [HL.out])
      go_ret
      exact ⟨rfl, rfl⟩
    · clear hm l01
      go_enter Try.func59, Try.ntmps59
      go_wp2_with fail
      go_ret
      exact ⟨rfl, rfl⟩
end Go.Proofs.Ytfalmodejpaeaaa
