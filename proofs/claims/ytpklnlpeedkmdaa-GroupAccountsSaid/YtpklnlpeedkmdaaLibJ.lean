/- Several calls that come up together, in every order. Over any program. -/
import Derived.Test.YtpklnlpeedkmdaaLibF
namespace Go.Proofs.Ytpklnlpeedkmdaa
set_option linter.unusedVariables false
set_option linter.unusedSimpArgs false
open Go.RowKit

section
variable {P : Program} {ops : Array Oper} {Q : Exit → Act → World → Prop} {W w : World} {fuel : Nat} {a : Act} {listed : Array Bool}
theorem rel_calls {is : List Nat} (hr : Region.ready .any ops listed = is) (hne : is ≠ [])
    (h : ∀ j ∈ is, ∃ o, ops[j]? = some o ∧ Region.wanted o (yielded ops a.tmps) = true ∧
      ∀ K : Act → World → Prop, (∀ a' w', Near W w' → (Near W w' → wpAnyH P .any ops Q (fun w' => ∃ d : Later W, w' = d.now) fuel (listed.setIfInBounds j true) a' w') → K a' w') → o.wp P a w K Q) :
    wpAnyH P .any ops Q (fun w' => ∃ d : Later W, w' = d.now) (fuel + 1) listed a w := by
  refine wpAnyH_all hr hne fun j hj => ?_
  obtain ⟨o, h1, hw, h2⟩ := h j hj
  unfold wpOp
  rw [h1]
  show if Region.wanted o (yielded ops a.tmps) = true then _ else _
  rw [if_pos hw]
  exact .inl (h2 _ fun a' w' hn hh => ⟨hn, hh hn⟩)
end
end Go.Proofs.Ytpklnlpeedkmdaa
