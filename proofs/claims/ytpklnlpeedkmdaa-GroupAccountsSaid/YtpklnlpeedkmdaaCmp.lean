/- The walk of Compare. -/
import Derived.Test.YtpklnlpeedkmdaaLibC
import Derived.Test.YtpklnlpeedkmdaaChecked
namespace Go.Proofs.Ytpklnlpeedkmdaa
set_option linter.unusedVariables false
set_option linter.unusedSimpArgs false
open Go.RowKit

def BoolPost (b : Bool) (w : World) (e : Ending) (w' : World) : Prop := e = .returned (.bool b) ∧ Below w.heap.size w w'
def cmpV (a b : Int) : Int := if a < b then -1 else if b < a then 1 else 0
theorem isNaN_any (a : Int) (w : World) : Calls Try.prog 155 #[.int .i64 a] w (fun e w' => e = .returned (.bool false) ∧ w = w') := by
  have h : (a != a) = false := by simp
  go_enter Try.func155, Try.ntmps155
  go_wp2_with fail
  go_ret
  exact ⟨rfl, rfl⟩
end Go.Proofs.Ytpklnlpeedkmdaa
