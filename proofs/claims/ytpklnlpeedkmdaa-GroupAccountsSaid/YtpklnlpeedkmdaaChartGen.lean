/- Lists of accounts as lists of records. No program. -/
import Derived.Test.YtpklnlpeedkmdaaChartMath
import Derived.Test.YtpklnlpeedkmdaaLibG
namespace Go.Proofs.Ytpklnlpeedkmdaa
set_option linter.unusedVariables false
set_option linter.unusedSimpArgs false
open Go.RowKit

theorem cells_gen (l : List Acc) : Ch.cells l = cellsOf Ch.cells1 l := by
  induction l with
  | nil => rfl
  | cons a l ih => simp [Ch.cells, cellsOf, ih]
instance accInh : Inhabited Acc := ⟨Ch.zero⟩
theorem acc_mk (r : List Int) (h : r.length = 4) : ∃ a : Acc, Ch.cells1 a = r.map (Value.int .i64) := by
  match r, h with
  | [a, b, c, d], _ => exact ⟨⟨a, b, c, d⟩, rfl⟩
abbrev Acc.cells (a : Acc) : List Value := Ch.cells1 a
theorem Acc.len (a : Acc) : a.cells.length = 4 := rfl
theorem acc_gen (l : List Acc) : cellsOf Acc.cells l = Ch.cells l := (cells_gen l).symm
end Go.Proofs.Ytpklnlpeedkmdaa
