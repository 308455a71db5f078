/-
  No cell of these rows narrows 'for every input' (looked for: loops, veiled, ifaces, maps, wideKeys, modest, calm, conditions, laid).
  DERIVED. THE GIVEN ROWS OF THIS SEAT. 5 by the template 'for every input the law returns true; each argument reads behind the call as it read before'; 0 by the template 'total and deterministic' (their statements: YtkfbchgabmffoaaTotals.lean).
  GIVEN WITH THE SEED: the statements are not yours to turn. If you find one false, say at which input.
  Laid BY PROGRAM, IN A SANDBOX (cutbox-rows.mjs): the forced cells as the released guide's own fill.sh prints them over the translation e108112aaabe1838… (all of the seat's roots in one cut). By AI agents, Wed Nov 11 2026. No macro, syntax, notation, axiom, sorry.
-/
import Derived.Test.YtkfbchgabmffoaaChecked
import GoSem.Claim
import GoSem.ClaimJoined
import GoSem.ClaimMapViews
import Derived.JoinedTies
import Derived.KernelRfl
namespace Go.Proofs.Ytkfbchgabmffoaa
/- THE CELL 'sum', in the pinned program and in every row, IS THE sha256 OF THE DUMP (.gsa) THAT YtkfbchgabmffoaaProg.lean LOADS. Nothing in Lean hashes anything: it is a label: what it is worth is what the hold of that sum in a sandbox is worth. -/
noncomputable def Try.pinned : Pinned := { name := "ytkfbchgabmffoaa", sum := "e108112aaabe18389f5594e547a1272e3a15e8d7f5fa54a40675363ecc16d88d", checked := Try.checked }
namespace Rows
def none {H : Type} : Left H := { results := [], args := [] }

/-- 'tallystonelaw45.TraceLines': WHATEVER THE INPUT: true; the input reads as it did. -/
def traceLinesSpec : ChangeSpec := { name := "traceLines", fn := fun _ => fun
  | [d1, d2, d3] => { results := [.lit (.bool true)], args := [d1, d2, d3] }
  | _ => none }
def traceLinesRow : OpenClaim := { program := "ytkfbchgabmffoaa", sum := "e108112aaabe18389f5594e547a1272e3a15e8d7f5fa54a40675363ecc16d88d", func := "tallystone/tallystonelaw45.TraceLines", spec := "traceLines", unfollowed := true, recurses := true, plainKeys := false, apart := false }
def TraceLinesSaid : Prop := traceLinesRow.holds Try.pinned (OpenSpec.ofChange traceLinesSpec)

/-- ITS FALSE NEIGHBOUR: 'it returns false'. Refute it at one input. -/
def traceLinesWrong : ChangeSpec := { name := "traceLines", fn := fun _ => fun
  | [d1, d2, d3] => { results := [.lit (.bool false)], args := [d1, d2, d3] }
  | _ => none }
def TraceLinesWrongFalsely : Prop := traceLinesRow.holds Try.pinned (OpenSpec.ofChange traceLinesWrong)

/-- 'tallystonelaw45.TraceCheck': WHATEVER THE INPUT: true; the input reads as it did. -/
def traceCheckSpec : ChangeSpec := { name := "traceCheck", fn := fun _ => fun
  | [d] => { results := [.lit (.bool true)], args := [d] }
  | _ => none }
def traceCheckRow : OpenClaim := { program := "ytkfbchgabmffoaa", sum := "e108112aaabe18389f5594e547a1272e3a15e8d7f5fa54a40675363ecc16d88d", func := "tallystone/tallystonelaw45.TraceCheck", spec := "traceCheck", unfollowed := true, recurses := true, plainKeys := false, apart := false }
def TraceCheckSaid : Prop := traceCheckRow.holds Try.pinned (OpenSpec.ofChange traceCheckSpec)

/-- ITS FALSE NEIGHBOUR: 'it returns false'. Refute it at one input. -/
def traceCheckWrong : ChangeSpec := { name := "traceCheck", fn := fun _ => fun
  | [d] => { results := [.lit (.bool false)], args := [d] }
  | _ => none }
def TraceCheckWrongFalsely : Prop := traceCheckRow.holds Try.pinned (OpenSpec.ofChange traceCheckWrong)

/-- 'tallystonelaw45.TraceSums': WHATEVER THE INPUT: true; the input reads as it did. -/
def traceSumsSpec : ChangeSpec := { name := "traceSums", fn := fun _ => fun
  | [d1, d2, d3] => { results := [.lit (.bool true)], args := [d1, d2, d3] }
  | _ => none }
def traceSumsRow : OpenClaim := { program := "ytkfbchgabmffoaa", sum := "e108112aaabe18389f5594e547a1272e3a15e8d7f5fa54a40675363ecc16d88d", func := "tallystone/tallystonelaw45.TraceSums", spec := "traceSums", unfollowed := true, recurses := true, plainKeys := false, apart := false }
def TraceSumsSaid : Prop := traceSumsRow.holds Try.pinned (OpenSpec.ofChange traceSumsSpec)

/-- ITS FALSE NEIGHBOUR: 'it returns false'. Refute it at one input. -/
def traceSumsWrong : ChangeSpec := { name := "traceSums", fn := fun _ => fun
  | [d1, d2, d3] => { results := [.lit (.bool false)], args := [d1, d2, d3] }
  | _ => none }
def TraceSumsWrongFalsely : Prop := traceSumsRow.holds Try.pinned (OpenSpec.ofChange traceSumsWrong)

/-- 'tallystonelaw45.TraceRanges': WHATEVER THE INPUT: true; the input reads as it did. -/
def traceRangesSpec : ChangeSpec := { name := "traceRanges", fn := fun _ => fun
  | [d1, d2] => { results := [.lit (.bool true)], args := [d1, d2] }
  | _ => none }
def traceRangesRow : OpenClaim := { program := "ytkfbchgabmffoaa", sum := "e108112aaabe18389f5594e547a1272e3a15e8d7f5fa54a40675363ecc16d88d", func := "tallystone/tallystonelaw45.TraceRanges", spec := "traceRanges", unfollowed := true, recurses := true, plainKeys := false, apart := false }
def TraceRangesSaid : Prop := traceRangesRow.holds Try.pinned (OpenSpec.ofChange traceRangesSpec)

/-- ITS FALSE NEIGHBOUR: 'it returns false'. Refute it at one input. -/
def traceRangesWrong : ChangeSpec := { name := "traceRanges", fn := fun _ => fun
  | [d1, d2] => { results := [.lit (.bool false)], args := [d1, d2] }
  | _ => none }
def TraceRangesWrongFalsely : Prop := traceRangesRow.holds Try.pinned (OpenSpec.ofChange traceRangesWrong)

/-- 'tallystonelaw45.TraceSpoiled': WHATEVER THE INPUT: true; the input reads as it did. -/
def traceSpoiledSpec : ChangeSpec := { name := "traceSpoiled", fn := fun _ => fun
  | [d1, d2, d3] => { results := [.lit (.bool true)], args := [d1, d2, d3] }
  | _ => none }
def traceSpoiledRow : OpenClaim := { program := "ytkfbchgabmffoaa", sum := "e108112aaabe18389f5594e547a1272e3a15e8d7f5fa54a40675363ecc16d88d", func := "tallystone/tallystonelaw45.TraceSpoiled", spec := "traceSpoiled", unfollowed := true, recurses := true, plainKeys := false, apart := false }
def TraceSpoiledSaid : Prop := traceSpoiledRow.holds Try.pinned (OpenSpec.ofChange traceSpoiledSpec)

/-- ITS FALSE NEIGHBOUR: 'it returns false'. Refute it at one input. -/
def traceSpoiledWrong : ChangeSpec := { name := "traceSpoiled", fn := fun _ => fun
  | [d1, d2, d3] => { results := [.lit (.bool false)], args := [d1, d2, d3] }
  | _ => none }
def TraceSpoiledWrongFalsely : Prop := traceSpoiledRow.holds Try.pinned (OpenSpec.ofChange traceSpoiledWrong)

/- THE SECOND FORM. 'bulk': how many values and letters a reading holds, each counted each time it is reached (what is shared counts as often as it is met; a slice's spare places count too). A statement '..UptoSaid' is the law's where the arguments, and the package variables that the reading takes, are together of bulk at most 1048576: NARROWER than '..Said'. Prove '..Said' where nothing that the law and all that it calls make is longer than what came in: it says more and counts as full. Else prove '..UptoSaid'. A law counts once. -/
mutual
def uptoBulk {H : Type} : DataW H → Nat
  | .lit (.string bytes) => bytes.length + 1
  | .lit _ => 1
  | .nil => 1
  | .ptr d => uptoBulk d + 1
  | .slice elems spare => uptoBulkAll elems + uptoBulkAll spare + 1
  | .agg parts => uptoBulkAll parts + 1
  | .iface _ d => uptoBulk d + 1
  | .map entries => uptoBulkEntries entries + 1
  | .held _ => 1
def uptoBulkAll {H : Type} : List (DataW H) → Nat
  | [] => 0
  | d :: r => uptoBulk d + uptoBulkAll r
def uptoBulkEntries {H : Type} : List (Lit × DataW H) → Nat
  | [] => 0
  | x :: r => uptoBulkEntry x + uptoBulkEntries r
def uptoBulkEntry {H : Type} : Lit × DataW H → Nat
  | (.string bytes, d) => bytes.length + uptoBulk d + 1
  | (_, d) => uptoBulk d + 1
 end
def uptoSmall : (H : Type) → List (DataW H) → Bool := fun _ ds => decide (uptoBulkAll ds ≤ 1048576)
def OpenSpec.upto (s : _root_.Go.ChangeSpec) : _root_.Go.OpenSpec := { _root_.Go.OpenSpec.ofChange s with cond := some uptoSmall }

/-- 'tallystonelaw45.TraceLines', WHERE WHAT IT READS IS OF BULK AT MOST 1048576: true; the input reads as it did. -/
def traceLinesUptoRow : OpenClaim := { program := "ytkfbchgabmffoaa", sum := "e108112aaabe18389f5594e547a1272e3a15e8d7f5fa54a40675363ecc16d88d", func := "tallystone/tallystonelaw45.TraceLines", spec := "traceLines", unfollowed := true, recurses := true, plainKeys := false, apart := false, narrowed := true }
def TraceLinesUptoSaid : Prop := traceLinesUptoRow.holds Try.pinned (OpenSpec.upto traceLinesSpec)

/-- 'tallystonelaw45.TraceCheck', WHERE WHAT IT READS IS OF BULK AT MOST 1048576: true; the input reads as it did. -/
def traceCheckUptoRow : OpenClaim := { program := "ytkfbchgabmffoaa", sum := "e108112aaabe18389f5594e547a1272e3a15e8d7f5fa54a40675363ecc16d88d", func := "tallystone/tallystonelaw45.TraceCheck", spec := "traceCheck", unfollowed := true, recurses := true, plainKeys := false, apart := false, narrowed := true }
def TraceCheckUptoSaid : Prop := traceCheckUptoRow.holds Try.pinned (OpenSpec.upto traceCheckSpec)

/-- 'tallystonelaw45.TraceSums', WHERE WHAT IT READS IS OF BULK AT MOST 1048576: true; the input reads as it did. -/
def traceSumsUptoRow : OpenClaim := { program := "ytkfbchgabmffoaa", sum := "e108112aaabe18389f5594e547a1272e3a15e8d7f5fa54a40675363ecc16d88d", func := "tallystone/tallystonelaw45.TraceSums", spec := "traceSums", unfollowed := true, recurses := true, plainKeys := false, apart := false, narrowed := true }
def TraceSumsUptoSaid : Prop := traceSumsUptoRow.holds Try.pinned (OpenSpec.upto traceSumsSpec)

/-- 'tallystonelaw45.TraceRanges', WHERE WHAT IT READS IS OF BULK AT MOST 1048576: true; the input reads as it did. -/
def traceRangesUptoRow : OpenClaim := { program := "ytkfbchgabmffoaa", sum := "e108112aaabe18389f5594e547a1272e3a15e8d7f5fa54a40675363ecc16d88d", func := "tallystone/tallystonelaw45.TraceRanges", spec := "traceRanges", unfollowed := true, recurses := true, plainKeys := false, apart := false, narrowed := true }
def TraceRangesUptoSaid : Prop := traceRangesUptoRow.holds Try.pinned (OpenSpec.upto traceRangesSpec)

/-- 'tallystonelaw45.TraceSpoiled', WHERE WHAT IT READS IS OF BULK AT MOST 1048576: true; the input reads as it did. -/
def traceSpoiledUptoRow : OpenClaim := { program := "ytkfbchgabmffoaa", sum := "e108112aaabe18389f5594e547a1272e3a15e8d7f5fa54a40675363ecc16d88d", func := "tallystone/tallystonelaw45.TraceSpoiled", spec := "traceSpoiled", unfollowed := true, recurses := true, plainKeys := false, apart := false, narrowed := true }
def TraceSpoiledUptoSaid : Prop := traceSpoiledUptoRow.holds Try.pinned (OpenSpec.upto traceSpoiledSpec)

end Rows
end Go.Proofs.Ytkfbchgabmffoaa
