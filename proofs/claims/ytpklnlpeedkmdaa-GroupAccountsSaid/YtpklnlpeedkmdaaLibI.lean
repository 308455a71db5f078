/- The capacity of a slice that came in. Over any program. -/
import Derived.Test.YtpklnlpeedkmdaaLibH
import Derived.Laws.IdiomArrays
import Derived.Lib.SmallJoins
namespace Go.Proofs.Ytpklnlpeedkmdaa
set_option linter.unusedVariables false
set_option linter.unusedSimpArgs false
open Go.RowKit Go.ChangeShapes Go.WideShapes Go.Deep

section
variable {P : Program} {w : World} {base : Nat} {spare : Nat → Bool} {held : Bool} {H : Type} {enc : TypeId × Value → H}
theorem open_cap {t e : TypeId} {fs : Array Field} {A : Option Addr} {n cap : Nat} {d : DataW H} {p : List MemPlace} (ht : P.underlying t = some (.slice e)) (he : P.underlying e = some (.struct fs))
    (hone : oneCellFields P fs = true) (hC : P.cellsOf e = fs.size) (h : DataW.Trod enc P w base spare held t (.slice A n cap) d p) : n ≤ cap ∧ cap ≤ maxLen := by
  obtain ⟨fuel, hx⟩ := h
  rcases open_slice_fields ht he hone hC hx with ⟨hcs, -⟩ | ⟨a, len', cap', m, D, Pl, hcs, -, hl, hm, hmm, -, hi⟩
  · simp [Value.cells] at hcs
    obtain ⟨rfl, rfl, rfl⟩ := hcs
    simp [maxLen]
  · simp [Value.cells] at hcs
    obtain ⟨rfl, rfl, rfl⟩ := hcs
    exact ⟨hl, hm⟩
theorem open_arr3 {r : Reach} {b0 : Nat} {t e : TypeId} {v : Value} {d : DataW H} {p : List MemPlace} (ht : P.underlying t = some (.array 3 e)) (hce : P.cellsOf e = 1) (hC : P.cellsOf t = 3)
    (hv : Value.okWide P w r b0 t v) (h : DataW.Trod enc P w base spare held t v d p) :
    ∃ (c0 c1 c2 : Value) (y0 y1 y2 : DataW H × List MemPlace) (n : Nat), v = .agg #[c0, c1, c2] ∧
      DataW.trod enc P w base spare held n e [c0] = some y0 ∧ DataW.trod enc P w base spare held n e [c1] = some y1 ∧ DataW.trod enc P w base spare held n e [c2] = some y2 := by
  simp only [Value.okWide, ht] at hv
  obtain ⟨cs, rfl, h2, _⟩ := hv
  obtain ⟨c0, c1, c2, rfl⟩ : ∃ a b c, cs = #[a, b, c] := by
    obtain ⟨l⟩ := cs
    match l, h2.trans hC with
    | [a, b, c], _ => exact ⟨a, b, c, rfl⟩
  obtain ⟨fuel, hf⟩ := h
  obtain ⟨y0, y1, y2, n, -, h0, h1, h2⟩ := trod_array3 ht hce (by simpa [Value.cells] using hf)
  exact ⟨c0, c1, c2, y0, y1, y2, n, rfl, h0, h1, h2⟩
theorem bounds_u16 {n : Int} (h : (Lit.int .u16 n).wf = true) : 0 ≤ n ∧ n ≤ 65535 := by
  simp [Lit.wf, IntKind.min, IntKind.max, IntKind.signed, IntKind.bits] at h
  omega
end
end Go.Proofs.Ytpklnlpeedkmdaa
