/- Texts of this claim, put together. -/
import Derived.Test.YtkfbchgabmffoaaJAJ
/- The walks of posting.Compare and posting.Equal. -/
namespace Go.Proofs.Ytkfbchgabmffoaa
set_option linter.unusedVariables false
set_option linter.unusedSimpArgs false
open Go.RowKit

theorem compare_bel (a b : Int) (w : World) : Calls Try.prog 29 #[.int .i64 a, .int .i64 b] w (fun e w' => e = .returned (.int .i64 (cmpV a b)) ∧ Below w.heap.size w w') :=
  (compare_any a b w).mono fun e w' h => ⟨h.1, h.2 ▸ Below.refl _ _⟩
theorem or_bel (l : List Int) (A : Option Addr) (cap : Nat) (w : World) (hr : Rd w w.heap.size 1 A l.length (intCells l)) (hn : l.length ≤ 1000000) :
    Calls Try.prog 28 #[.slice A l.length cap] w (fun e w' => e = .returned (.int .i64 (firstNZ l)) ∧ Below w.heap.size w w') :=
  (or_any l A cap w hr hn).mono fun e w' h => ⟨h.1, h.2 ▸ Below.refl _ _⟩
end Go.Proofs.Ytkfbchgabmffoaa
