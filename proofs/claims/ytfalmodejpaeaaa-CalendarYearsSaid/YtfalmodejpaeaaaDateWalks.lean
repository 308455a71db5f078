/- The walks of the date functions: what each call returns, and that it changes nothing that was there. -/
import Derived.Test.YtfalmodejpaeaaaDateMath
import Derived.Test.YtfalmodejpaeaaaChecked
import Derived.Test.YtfalmodejpaeaaaLibA
namespace Go.Proofs.Ytfalmodejpaeaaa
open Go.RowKit


set_option maxHeartbeats 400000 in
theorem leap_any (y : Int) (w : World) (h0 : 0 ≤ y) (h1 : y ≤ 100000) :
    Calls Try.prog 84 #[.int .i64 y] w fun e w' => e = .returned (.bool (Dt.leapB y)) ∧ w = w' := by
  by_cases h4 : y % 4 = 0
  · by_cases h100 : y % 100 = 0
    · by_cases h400 : y % 400 = 0
      · have hb : Dt.leapB y = true := by simp [Dt.leapB, h4, h100, h400]
        go_enter Try.func84, Try.ntmps84
        go_wp2
        go_ret
        exact ⟨ret_bool (by rw [hb]; try simp [*]), rfl⟩
      · have hb : Dt.leapB y = false := by simp [Dt.leapB, h4, h100, h400]
        go_enter Try.func84, Try.ntmps84
        go_wp2
        go_ret
        exact ⟨ret_bool (by rw [hb]; try simp [*]), rfl⟩
    · have hb : Dt.leapB y = true := by simp [Dt.leapB, h4, h100]
      go_enter Try.func84, Try.ntmps84
      go_wp2
      go_ret
      exact ⟨ret_bool (by rw [hb]; try simp [*]), rfl⟩
  · have hb : Dt.leapB y = false := by simp [Dt.leapB, h4]
    go_enter Try.func84, Try.ntmps84
    go_wp2
    go_ret
    exact ⟨ret_bool (by rw [hb]; try simp [*]), rfl⟩

set_option maxHeartbeats 400000 in
theorem begin_any (y : Int) (w : World) (h0 : 1 ≤ y) (h1 : y ≤ 100000) :
    Calls Try.prog 83 #[.int .i64 y] w fun e w' => e = .returned (.int .i64 (Dt.dby y)) ∧ w = w' := by
  go_enter Try.func83, Try.ntmps83
  go_wp2
  go_ret
  exact ⟨rfl, rfl⟩

set_option maxHeartbeats 1000000 in
theorem days_any (y m : Int) (w : World) :
    Calls Try.prog 58 #[.int .i64 y, .int .i64 m] w fun e w' => e = .returned (.int .i64 (Dt.days y m)) ∧ Below w.heap.size w w' := by
  by_cases hy1 : y < 1900
  · go_enter Try.func58, Try.ntmps58
    go_wp2
    go_ret
    exact ⟨ret_int (by unfold Dt.days; rw [if_pos (by omega)]), Below.refl _ _⟩
  by_cases hy2 : 2199 < y
  · go_enter Try.func58, Try.ntmps58
    go_wp2
    go_ret
    exact ⟨ret_int (by unfold Dt.days; rw [if_pos (by omega)]), Below.refl _ _⟩
  by_cases hm1 : m < 1
  · go_enter Try.func58, Try.ntmps58
    go_wp2
    go_ret
    exact ⟨ret_int (by unfold Dt.days; rw [if_pos (by omega)]), Below.refl _ _⟩
  by_cases hm2 : 12 < m
  · go_enter Try.func58, Try.ntmps58
    go_wp2
    go_ret
    exact ⟨ret_int (by unfold Dt.days; rw [if_pos (by omega)]), Below.refl _ _⟩
  have hd : Dt.days y m = Dt.mlen (Dt.lp y) m := Dt.days_in y m (by omega) (by omega) (by omega) (by omega)
  rw [hd]
  clear hd
  by_cases hm : m = 2
  · subst hm
    by_cases hl : Dt.leapB y = true
    · have hd : Dt.mlen (Dt.lp y) 2 = 29 := by simp [Dt.mlen, Dt.lp, hl]
      rw [hd]
      have HL := Lib.hid hl
      clear hl hd
      go_enter Try.func58, Try.ntmps58
      go_wp2_with (go_at_call 84; refine (leap_any _ _ (by omega) (by omega)).mono ?_; rintro e w' ⟨rfl, rfl⟩; rw [HL.out])
      go_ret
      exact ⟨rfl, (Below.refl _ _).alloc (Nat.le_refl _) _⟩
    · have hl' : Dt.leapB y = false := by simpa using hl
      have hd : Dt.mlen (Dt.lp y) 2 = 28 := by simp [Dt.mlen, Dt.lp, hl']
      rw [hd]
      have HL := Lib.hid hl'
      clear hl hl' hd
      go_enter Try.func58, Try.ntmps58
      go_wp2_with (go_at_call 84; refine (leap_any _ _ (by omega) (by omega)).mono ?_; rintro e w' ⟨rfl, rfl⟩; rw [HL.out])
      go_ret
      exact ⟨rfl, (Below.refl _ _).alloc (Nat.le_refl _) _⟩
  · have : m = 1 ∨ m = 3 ∨ m = 4 ∨ m = 5 ∨ m = 6 ∨ m = 7 ∨ m = 8 ∨ m = 9 ∨ m = 10 ∨ m = 11 ∨ m = 12 := by omega
    rcases this with rfl | rfl | rfl | rfl | rfl | rfl | rfl | rfl | rfl | rfl | rfl
    all_goals
      clear hm hm1 hm2
      go_enter Try.func58, Try.ntmps58
      go_wp2
      go_ret
      exact ⟨ret_int (by simp [Dt.mlen]), (Below.refl _ _).alloc (Nat.le_refl _) _⟩
end Go.Proofs.Ytfalmodejpaeaaa
