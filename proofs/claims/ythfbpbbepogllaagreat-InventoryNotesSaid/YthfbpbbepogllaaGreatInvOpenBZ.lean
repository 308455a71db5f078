/- Texts of this claim, put together. -/
import Derived.Test.YthfbpbbepogllaaGreatJBB
/- How the laws' methods are opened. -/
namespace Go.Proofs.YthfbpbbepogllaaGreat
set_option linter.unusedVariables false
set_option linter.unusedSimpArgs false
open Go.RowKit Go.WideShapes Go.ChangeShapes

variable {H : Type} {enc : TypeId × Value → H} {w : World} {base : Nat} {spare : Nat → Bool} {held : Bool}
theorem opens_intsM : Opens enc Tryz.prog w base spare held 37 (fun s : Sl Int => [s.val]) (fun s => s.Lies w icellM 1 ∧ ∀ a ∈ s.l, (Lit.int .i64 a).wf = true) :=
  opens_slice Tryz.underlying37 (by kernel_rfl) (by decide) (fun _ => rfl) opens_icellM
end Go.Proofs.YthfbpbbepogllaaGreat
