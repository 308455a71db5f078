/- The walk of Compare. -/
import Derived.Test.YthenamibehbdnaaLibC
import Derived.Test.YthenamibehbdnaaChecked
namespace Go.Proofs.Ythenamibehbdnaa
set_option linter.unusedVariables false
set_option linter.unusedSimpArgs false
open Go.RowKit

def BoolPost (b : Bool) (w : World) (e : Ending) (w' : World) : Prop := e = .returned (.bool b) ∧ Below w.heap.size w w'
def cmpV (a b : Int) : Int := if a < b then -1 else if b < a then 1 else 0
theorem isNaN_any (a : Int) (w : World) : Calls Try.prog 56 #[.int .i64 a] w (fun e w' => e = .returned (.bool false) ∧ w = w') := by
  have h : (a != a) = false := by simp
  go_enter Try.func56, Try.ntmps56
  go_wp2_with fail
  go_ret
  exact ⟨rfl, rfl⟩
theorem compare_any (a b : Int) (w : World) : Calls Try.prog 46 #[.int .i64 a, .int .i64 b] w (fun e w' => e = .returned (.int .i64 (cmpV a b)) ∧ w = w') := by
  by_cases h1 : a < b
  · have HE : Hid (cmpV a b = -1) := Lib.hid (by unfold cmpV; rw [if_pos h1])
    go_enter Try.func46, Try.ntmps46
    go_wp2_with (go_at_call 56; refine (isNaN_any _ _).mono ?_; rintro e w2 ⟨rfl, rfl⟩)
    go_ret
    exact ⟨ret_int HE.out.symm, rfl⟩
  by_cases h2 : b < a
  · have HE : Hid (cmpV a b = 1) := Lib.hid (by unfold cmpV; rw [if_neg h1, if_pos h2])
    go_enter Try.func46, Try.ntmps46
    go_wp2_with (go_at_call 56; refine (isNaN_any _ _).mono ?_; rintro e w2 ⟨rfl, rfl⟩)
    go_ret
    exact ⟨ret_int HE.out.symm, rfl⟩
  · have HE : Hid (cmpV a b = 0) := Lib.hid (by unfold cmpV; rw [if_neg h1, if_neg h2])
    go_enter Try.func46, Try.ntmps46
    go_wp2_with (go_at_call 56; refine (isNaN_any _ _).mono ?_; rintro e w2 ⟨rfl, rfl⟩)
    go_ret
    exact ⟨ret_int HE.out.symm, rfl⟩
end Go.Proofs.Ythenamibehbdnaa
