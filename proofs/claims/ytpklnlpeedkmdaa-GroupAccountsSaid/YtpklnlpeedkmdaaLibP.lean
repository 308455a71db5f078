/- What every walk of this program needs of int, bool and string. -/
import Derived.Test.YtpklnlpeedkmdaaLibD
import Derived.Test.YtpklnlpeedkmdaaProg
namespace Go.Proofs.Ytpklnlpeedkmdaa
set_option linter.unusedVariables false
set_option linter.unusedSimpArgs false
open Go.RowKit
open Go.Maps (Keyed)

theorem int_info : (Try.prog.info? 3).map (fun i => (i.zero, i.size, i.bytes)) = some (some (.int .i64 0), 1, 8) := by kernel_rfl
theorem zero_int (w : World) : (zeroValue 3).run Try.prog w = .ok (.int .i64 0) w := by kernel_rfl
theorem zero_bool (w : World) : (zeroValue 4).run Try.prog w = .ok (.bool false) w := by kernel_rfl
theorem keyed_int : Keyed Try.prog 3 := Maps.int_keyed Try.underlying3
end Go.Proofs.Ytpklnlpeedkmdaa
