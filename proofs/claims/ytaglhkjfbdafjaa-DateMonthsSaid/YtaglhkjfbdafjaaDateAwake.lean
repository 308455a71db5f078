/- The walk of awake of the date laws: the example holds. -/
import Derived.Test.YtaglhkjfbdafjaaDateWalksG
namespace Go.Proofs.Ytaglhkjfbdafjaa
open Go.RowKit

theorem Dt.awake_pr : Dt.prV [50, 48, 50, 54, 45, 49, 49, 45, 49, 54] = 20773 ∧ Dt.prE [50, 48, 50, 54, 45, 49, 49, 45, 49, 54] = 0 := by decide
theorem Dt.awake_wd : Dt.wdV 20773 = 0 ∧ Dt.cvE 20773 = 0 := by decide
theorem parse_awake (w : World) :
    Calls Try.prog 25 #[.string ⟨#[50, 48, 50, 54, 45, 49, 49, 45, 49, 54]⟩] w fun e w' => e = .returned (.tuple #[.int .i64 20773, .int .i64 0]) ∧ Below w.heap.size w w' := by
  have := parse_any ⟨#[50, 48, 50, 54, 45, 49, 49, 45, 49, 54]⟩ w (by decide)
  have e : (⟨#[50, 48, 50, 54, 45, 49, 49, 45, 49, 54]⟩ : ByteArray).data.toList = [50, 48, 50, 54, 45, 49, 49, 45, 49, 54] := rfl
  rw [e, Dt.awake_pr.1, Dt.awake_pr.2] at this
  exact this
theorem wd_awake (w : World) : Calls Try.prog 20 #[.int .i64 20773] w fun e w' => e = .returned (.tuple #[.int .i64 0, .int .i64 0]) ∧ w = w' := by
  have := wd_any 20773 w
  rw [Dt.awake_wd.1, Dt.awake_wd.2] at this
  exact this
set_option maxHeartbeats 400000 in
theorem awake_any (w : World) : Calls Try.prog 11 #[] w fun e w' => e = .returned (.bool true) ∧ Below w.heap.size w w' := by
  go_enter Try.func11, Try.ntmps11
  go_wp2_with (first
    | (go_at_call 25; refine (parse_awake _).mono ?_; rintro e w1 ⟨rfl, hb⟩)
    | (go_at_call 20; refine (wd_awake _).mono ?_; rintro e w' ⟨rfl, rfl⟩))
  go_ret
  exact ⟨rfl, hb⟩
end Go.Proofs.Ytaglhkjfbdafjaa
