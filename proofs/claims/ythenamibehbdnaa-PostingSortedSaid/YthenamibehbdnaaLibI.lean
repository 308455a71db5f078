/- The capacity of a slice that came in. Over any program. -/
import Derived.Test.YthenamibehbdnaaLibH
namespace Go.Proofs.Ythenamibehbdnaa
set_option linter.unusedVariables false
set_option linter.unusedSimpArgs false
open Go.RowKit Go.ChangeShapes Go.WideShapes Go.Deep

section
variable {P : Program} {w : World} {base : Nat} {spare : Nat → Bool} {held : Bool} {H : Type} {enc : TypeId × Value → H}
theorem open_cap {t e : TypeId} {fs : Array Field} {A : Option Addr} {n cap : Nat} {d : DataW H} {p : List MemPlace} (ht : P.underlying t = some (.slice e)) (he : P.underlying e = some (.struct fs))
    (hone : oneCellFields P fs = true) (hC : P.cellsOf e = fs.size) (h : DataW.Trod enc P w base spare held t (.slice A n cap) d p) : n ≤ cap ∧ cap ≤ maxLen := by
  obtain ⟨fuel, hx⟩ := h
  rcases open_slice_fields ht he hone hC hx with ⟨hcs, -⟩ | ⟨a, len', cap', m, D, Pl, hcs, -, hl, hm, hmm, -, hi⟩
  · simp [Value.cells] at hcs
    obtain ⟨rfl, rfl, rfl⟩ := hcs
    simp [maxLen]
  · simp [Value.cells] at hcs
    obtain ⟨rfl, rfl, rfl⟩ := hcs
    exact ⟨hl, hm⟩
end
end Go.Proofs.Ythenamibehbdnaa
