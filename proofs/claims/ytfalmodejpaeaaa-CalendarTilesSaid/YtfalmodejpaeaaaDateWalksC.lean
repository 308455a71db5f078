/- The walks of Of, program's and reference's. -/
import Derived.Test.YtfalmodejpaeaaaDateWalksB
namespace Go.Proofs.Ytfalmodejpaeaaa
open Go.RowKit

theorem Dt.num_first (y m d : Int) : Dt.dby y + d - 1 + Dt.mcum (Dt.lp y) m = Dt.num y m d := by unfold Dt.num; omega

set_option maxHeartbeats 1000000 in
theorem of_no (y m d : Int) (w : World) (h : Dt.vld y m d = false) (hd1 : -9223372036854775808 ≤ d) (hd2 : d ≤ 9223372036854775807) :
    Calls Try.prog 77 #[.int .i64 y, .int .i64 m, .int .i64 d] w fun e w' => e = .returned (.tuple #[.int .i64 0, .int .i64 2]) ∧ Below w.heap.size w w' := by
  have hv : ¬ (1 ≤ d ∧ d ≤ Dt.days y m) := by rw [← Dt.vld_iff, h]; simp
  clear h
  by_cases h1 : d < 1
  · clear hv
    go_enter Try.func77, Try.ntmps77
    go_wp2_with fail
    go_ret2
    exact ⟨rfl, Below.refl _ _⟩
  · have h2 : Dt.days y m < d := by omega
    clear hv
    go_enter Try.func77, Try.ntmps77
    go_wp2_with (go_at_call 58; refine (days_any _ _ _).mono ?_; rintro e w1 ⟨rfl, hb⟩)
    go_ret2
    exact ⟨rfl, hb⟩

set_option maxHeartbeats 1000000 in
theorem of_yes (y m d : Int) (w : World) (h : Dt.vld y m d = true) :
    Calls Try.prog 77 #[.int .i64 y, .int .i64 m, .int .i64 d] w fun e w' => e = .returned (.tuple #[.int .i64 (Dt.num y m d), .int .i64 0]) ∧ Below w.heap.size w w' := by
  have hv := (Dt.vld_iff y m d).1 h
  obtain ⟨a1, a2, a3, a4, a5, a6, a7⟩ := Dt.vld_pos y m d h
  obtain ⟨v1, v2⟩ := hv
  have v3 := Dt.days_bd y m
  have l := Dt.lp_01 y
  have db := Dt.dby_bd y (by omega) (by omega)
  clear h a6
  go_enter Try.func77, Try.ntmps77
  go_wp2_with (first
    | (go_at_call 58; refine (days_any _ _ _).mono ?_; rintro e w1 ⟨rfl, hb⟩)
    | (go_at_call 83; refine (begin_any _ _ (by omega) (by omega)).mono ?_; rintro e w' ⟨rfl, rfl⟩))
  go_loopw [8, 9] (fun n k wr => ∃ j : Int, 1 ≤ j ∧ j ≤ m ∧ k = .int .i64 j ∧ n = .int .i64 (Dt.dby y + d - 1 + Dt.mcum (Dt.lp y) j) ∧ Below w.heap.size w wr) (fun _ k _ => (m - intOf k).toNat)
  case atStart => exact ⟨1, by omega, by omega, rfl, by rw [Dt.mcum_1]; go_num, hb⟩
  case round =>
    obtain ⟨j, hj1, hj2, rfl, rfl, hbr⟩ := hrel
    have c := Dt.mcum_bd (Dt.lp y) j (by omega) (by omega)
    by_cases hlt : j < m
    · have cs := Lib.hid (Dt.mcum_succ (Dt.lp y) j (by omega) (by omega))
      have HD := Lib.hid (Dt.days_in y j (by omega) (by omega) (by omega) (by omega))
      have dj := Dt.days_bd y j
      go_wp2_with (go_at_call 58; refine (days_any _ _ _).mono ?_; rintro e w2 ⟨rfl, hb2⟩)
      go_roundw
      case rel => exact ⟨j + 1, by omega, by omega, by go_num, by rw [cs.out, ← HD.out]; go_num, hbr.trans (hb2.mono hbr.size)⟩
      case measure => simp [intOf]; omega
    · go_wp2_with fail
      go_ret2
      obtain rfl : j = m := by omega
      exact ⟨by rw [← Dt.num_first]; rfl, hbr⟩
end Go.Proofs.Ytfalmodejpaeaaa
