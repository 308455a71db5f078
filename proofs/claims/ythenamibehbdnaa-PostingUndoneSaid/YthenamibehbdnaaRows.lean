/-
  No cell of these rows narrows 'for every input' (looked for: loops, veiled, ifaces, maps, wideKeys, modest, calm, conditions, laid).
  DERIVED. THE GIVEN ROWS OF THIS SEAT. 11 by the template 'for every input the law returns true; each argument reads behind the call as it read before'; 0 by the template 'total and deterministic' (their statements: YthenamibehbdnaaTotals.lean).
  GIVEN WITH THE SEED: the statements are not yours to turn. If you find one false, say at which input.
  Laid BY PROGRAM, IN A SANDBOX (cutbox-rows.mjs): the forced cells as the released guide's own fill.sh prints them over the translation 9ded3f467dc137cc… (all of the seat's roots in one cut). By AI agents, Wed Nov 11 2026. No macro, syntax, notation, axiom, sorry.
-/
import Derived.Test.YthenamibehbdnaaChecked
import GoSem.Claim
import GoSem.ClaimJoined
import GoSem.ClaimMapViews
import Derived.JoinedTies
import Derived.KernelRfl
namespace Go.Proofs.Ythenamibehbdnaa
/- THE CELL 'sum', in the pinned program and in every row, IS THE sha256 OF THE DUMP (.gsa) THAT YthenamibehbdnaaProg.lean LOADS. Nothing in Lean hashes anything: it is a label: what it is worth is what the hold of that sum in a sandbox is worth. -/
noncomputable def Try.pinned : Pinned := { name := "ythenamibehbdnaa", sum := "9ded3f467dc137ccc1ba5bd66d704b4a2143cb4483406bbdb3e46344bdac2f21", checked := Try.checked }
namespace Rows
def none {H : Type} : Left H := { results := [], args := [] }

/-- 'tallystonelaw36.PostingSorted': WHATEVER THE INPUT: true; the input reads as it did. -/
def postingSortedSpec : ChangeSpec := { name := "postingSorted", fn := fun _ => fun
  | [d1, d2] => { results := [.lit (.bool true)], args := [d1, d2] }
  | _ => none }
def postingSortedRow : OpenClaim := { program := "ythenamibehbdnaa", sum := "9ded3f467dc137ccc1ba5bd66d704b4a2143cb4483406bbdb3e46344bdac2f21", func := "tallystone/tallystonelaw36.PostingSorted", spec := "postingSorted", recurses := true, plainKeys := false, apart := false }
def PostingSortedSaid : Prop := postingSortedRow.holds Try.pinned (OpenSpec.ofChange postingSortedSpec)

/-- ITS FALSE NEIGHBOUR: 'it returns false'. Refute it at one input. -/
def postingSortedWrong : ChangeSpec := { name := "postingSorted", fn := fun _ => fun
  | [d1, d2] => { results := [.lit (.bool false)], args := [d1, d2] }
  | _ => none }
def PostingSortedWrongFalsely : Prop := postingSortedRow.holds Try.pinned (OpenSpec.ofChange postingSortedWrong)

/-- 'tallystonelaw36.PostingRanges': WHATEVER THE INPUT: true; the input reads as it did. -/
def postingRangesSpec : ChangeSpec := { name := "postingRanges", fn := fun _ => fun
  | [d1, d2] => { results := [.lit (.bool true)], args := [d1, d2] }
  | _ => none }
def postingRangesRow : OpenClaim := { program := "ythenamibehbdnaa", sum := "9ded3f467dc137ccc1ba5bd66d704b4a2143cb4483406bbdb3e46344bdac2f21", func := "tallystone/tallystonelaw36.PostingRanges", spec := "postingRanges", recurses := true, plainKeys := false, apart := false }
def PostingRangesSaid : Prop := postingRangesRow.holds Try.pinned (OpenSpec.ofChange postingRangesSpec)

/-- ITS FALSE NEIGHBOUR: 'it returns false'. Refute it at one input. -/
def postingRangesWrong : ChangeSpec := { name := "postingRanges", fn := fun _ => fun
  | [d1, d2] => { results := [.lit (.bool false)], args := [d1, d2] }
  | _ => none }
def PostingRangesWrongFalsely : Prop := postingRangesRow.holds Try.pinned (OpenSpec.ofChange postingRangesWrong)

/-- 'tallystonelaw36.PostingClean': WHATEVER THE INPUT: true; the input reads as it did. -/
def postingCleanSpec : ChangeSpec := { name := "postingClean", fn := fun _ => fun
  | [d] => { results := [.lit (.bool true)], args := [d] }
  | _ => none }
def postingCleanRow : OpenClaim := { program := "ythenamibehbdnaa", sum := "9ded3f467dc137ccc1ba5bd66d704b4a2143cb4483406bbdb3e46344bdac2f21", func := "tallystone/tallystonelaw36.PostingClean", spec := "postingClean", recurses := true, plainKeys := false, apart := false }
def PostingCleanSaid : Prop := postingCleanRow.holds Try.pinned (OpenSpec.ofChange postingCleanSpec)

/-- ITS FALSE NEIGHBOUR: 'it returns false'. Refute it at one input. -/
def postingCleanWrong : ChangeSpec := { name := "postingClean", fn := fun _ => fun
  | [d] => { results := [.lit (.bool false)], args := [d] }
  | _ => none }
def PostingCleanWrongFalsely : Prop := postingCleanRow.holds Try.pinned (OpenSpec.ofChange postingCleanWrong)

/-- 'tallystonelaw36.PostingUndone': WHATEVER THE INPUT: true; the input reads as it did. -/
def postingUndoneSpec : ChangeSpec := { name := "postingUndone", fn := fun _ => fun
  | [d1, d2] => { results := [.lit (.bool true)], args := [d1, d2] }
  | _ => none }
def postingUndoneRow : OpenClaim := { program := "ythenamibehbdnaa", sum := "9ded3f467dc137ccc1ba5bd66d704b4a2143cb4483406bbdb3e46344bdac2f21", func := "tallystone/tallystonelaw36.PostingUndone", spec := "postingUndone", recurses := true, plainKeys := false, apart := false }
def PostingUndoneSaid : Prop := postingUndoneRow.holds Try.pinned (OpenSpec.ofChange postingUndoneSpec)

/-- ITS FALSE NEIGHBOUR: 'it returns false'. Refute it at one input. -/
def postingUndoneWrong : ChangeSpec := { name := "postingUndone", fn := fun _ => fun
  | [d1, d2] => { results := [.lit (.bool false)], args := [d1, d2] }
  | _ => none }
def PostingUndoneWrongFalsely : Prop := postingUndoneRow.holds Try.pinned (OpenSpec.ofChange postingUndoneWrong)

/-- 'tallystonelaw36.PostingTotal': WHATEVER THE INPUT: true; the input reads as it did. -/
def postingTotalSpec : ChangeSpec := { name := "postingTotal", fn := fun _ => fun
  | [d1, d2, d3] => { results := [.lit (.bool true)], args := [d1, d2, d3] }
  | _ => none }
def postingTotalRow : OpenClaim := { program := "ythenamibehbdnaa", sum := "9ded3f467dc137ccc1ba5bd66d704b4a2143cb4483406bbdb3e46344bdac2f21", func := "tallystone/tallystonelaw36.PostingTotal", spec := "postingTotal", recurses := true, plainKeys := false, apart := false }
def PostingTotalSaid : Prop := postingTotalRow.holds Try.pinned (OpenSpec.ofChange postingTotalSpec)

/-- ITS FALSE NEIGHBOUR: 'it returns false'. Refute it at one input. -/
def postingTotalWrong : ChangeSpec := { name := "postingTotal", fn := fun _ => fun
  | [d1, d2, d3] => { results := [.lit (.bool false)], args := [d1, d2, d3] }
  | _ => none }
def PostingTotalWrongFalsely : Prop := postingTotalRow.holds Try.pinned (OpenSpec.ofChange postingTotalWrong)

/-- 'tallystonelaw36.PostingOrder': WHATEVER THE INPUT: true; the input reads as it did. -/
def postingOrderSpec : ChangeSpec := { name := "postingOrder", fn := fun _ => fun
  | [d1, d2, d3] => { results := [.lit (.bool true)], args := [d1, d2, d3] }
  | _ => none }
def postingOrderRow : OpenClaim := { program := "ythenamibehbdnaa", sum := "9ded3f467dc137ccc1ba5bd66d704b4a2143cb4483406bbdb3e46344bdac2f21", func := "tallystone/tallystonelaw36.PostingOrder", spec := "postingOrder", recurses := true, plainKeys := false, apart := false }
def PostingOrderSaid : Prop := postingOrderRow.holds Try.pinned (OpenSpec.ofChange postingOrderSpec)

/-- ITS FALSE NEIGHBOUR: 'it returns false'. Refute it at one input. -/
def postingOrderWrong : ChangeSpec := { name := "postingOrder", fn := fun _ => fun
  | [d1, d2, d3] => { results := [.lit (.bool false)], args := [d1, d2, d3] }
  | _ => none }
def PostingOrderWrongFalsely : Prop := postingOrderRow.holds Try.pinned (OpenSpec.ofChange postingOrderWrong)

/-- 'tallystonelaw45.TraceLines': WHATEVER THE INPUT: true; the input reads as it did. -/
def traceLinesSpec : ChangeSpec := { name := "traceLines", fn := fun _ => fun
  | [d1, d2, d3] => { results := [.lit (.bool true)], args := [d1, d2, d3] }
  | _ => none }
def traceLinesRow : OpenClaim := { program := "ythenamibehbdnaa", sum := "9ded3f467dc137ccc1ba5bd66d704b4a2143cb4483406bbdb3e46344bdac2f21", func := "tallystone/tallystonelaw45.TraceLines", spec := "traceLines", unfollowed := true, recurses := true, plainKeys := false, apart := false }
def TraceLinesSaid : Prop := traceLinesRow.holds Try.pinned (OpenSpec.ofChange traceLinesSpec)

/-- ITS FALSE NEIGHBOUR: 'it returns false'. Refute it at one input. -/
def traceLinesWrong : ChangeSpec := { name := "traceLines", fn := fun _ => fun
  | [d1, d2, d3] => { results := [.lit (.bool false)], args := [d1, d2, d3] }
  | _ => none }
def TraceLinesWrongFalsely : Prop := traceLinesRow.holds Try.pinned (OpenSpec.ofChange traceLinesWrong)

/-- 'tallystonelaw45.TraceCheck': WHATEVER THE INPUT: true; the input reads as it did. -/
def traceCheckSpec : ChangeSpec := { name := "traceCheck", fn := fun _ => fun
  | [d] => { results := [.lit (.bool true)], args := [d] }
  | _ => none }
def traceCheckRow : OpenClaim := { program := "ythenamibehbdnaa", sum := "9ded3f467dc137ccc1ba5bd66d704b4a2143cb4483406bbdb3e46344bdac2f21", func := "tallystone/tallystonelaw45.TraceCheck", spec := "traceCheck", unfollowed := true, recurses := true, plainKeys := false, apart := false }
def TraceCheckSaid : Prop := traceCheckRow.holds Try.pinned (OpenSpec.ofChange traceCheckSpec)

/-- ITS FALSE NEIGHBOUR: 'it returns false'. Refute it at one input. -/
def traceCheckWrong : ChangeSpec := { name := "traceCheck", fn := fun _ => fun
  | [d] => { results := [.lit (.bool false)], args := [d] }
  | _ => none }
def TraceCheckWrongFalsely : Prop := traceCheckRow.holds Try.pinned (OpenSpec.ofChange traceCheckWrong)

/-- 'tallystonelaw45.TraceSums': WHATEVER THE INPUT: true; the input reads as it did. -/
def traceSumsSpec : ChangeSpec := { name := "traceSums", fn := fun _ => fun
  | [d1, d2, d3] => { results := [.lit (.bool true)], args := [d1, d2, d3] }
  | _ => none }
def traceSumsRow : OpenClaim := { program := "ythenamibehbdnaa", sum := "9ded3f467dc137ccc1ba5bd66d704b4a2143cb4483406bbdb3e46344bdac2f21", func := "tallystone/tallystonelaw45.TraceSums", spec := "traceSums", unfollowed := true, recurses := true, plainKeys := false, apart := false }
def TraceSumsSaid : Prop := traceSumsRow.holds Try.pinned (OpenSpec.ofChange traceSumsSpec)

/-- ITS FALSE NEIGHBOUR: 'it returns false'. Refute it at one input. -/
def traceSumsWrong : ChangeSpec := { name := "traceSums", fn := fun _ => fun
  | [d1, d2, d3] => { results := [.lit (.bool false)], args := [d1, d2, d3] }
  | _ => none }
def TraceSumsWrongFalsely : Prop := traceSumsRow.holds Try.pinned (OpenSpec.ofChange traceSumsWrong)

/-- 'tallystonelaw45.TraceRanges': WHATEVER THE INPUT: true; the input reads as it did. -/
def traceRangesSpec : ChangeSpec := { name := "traceRanges", fn := fun _ => fun
  | [d1, d2] => { results := [.lit (.bool true)], args := [d1, d2] }
  | _ => none }
def traceRangesRow : OpenClaim := { program := "ythenamibehbdnaa", sum := "9ded3f467dc137ccc1ba5bd66d704b4a2143cb4483406bbdb3e46344bdac2f21", func := "tallystone/tallystonelaw45.TraceRanges", spec := "traceRanges", unfollowed := true, recurses := true, plainKeys := false, apart := false }
def TraceRangesSaid : Prop := traceRangesRow.holds Try.pinned (OpenSpec.ofChange traceRangesSpec)

/-- ITS FALSE NEIGHBOUR: 'it returns false'. Refute it at one input. -/
def traceRangesWrong : ChangeSpec := { name := "traceRanges", fn := fun _ => fun
  | [d1, d2] => { results := [.lit (.bool false)], args := [d1, d2] }
  | _ => none }
def TraceRangesWrongFalsely : Prop := traceRangesRow.holds Try.pinned (OpenSpec.ofChange traceRangesWrong)

/-- 'tallystonelaw45.TraceSpoiled': WHATEVER THE INPUT: true; the input reads as it did. -/
def traceSpoiledSpec : ChangeSpec := { name := "traceSpoiled", fn := fun _ => fun
  | [d1, d2, d3] => { results := [.lit (.bool true)], args := [d1, d2, d3] }
  | _ => none }
def traceSpoiledRow : OpenClaim := { program := "ythenamibehbdnaa", sum := "9ded3f467dc137ccc1ba5bd66d704b4a2143cb4483406bbdb3e46344bdac2f21", func := "tallystone/tallystonelaw45.TraceSpoiled", spec := "traceSpoiled", unfollowed := true, recurses := true, plainKeys := false, apart := false }
def TraceSpoiledSaid : Prop := traceSpoiledRow.holds Try.pinned (OpenSpec.ofChange traceSpoiledSpec)

/-- ITS FALSE NEIGHBOUR: 'it returns false'. Refute it at one input. -/
def traceSpoiledWrong : ChangeSpec := { name := "traceSpoiled", fn := fun _ => fun
  | [d1, d2, d3] => { results := [.lit (.bool false)], args := [d1, d2, d3] }
  | _ => none }
def TraceSpoiledWrongFalsely : Prop := traceSpoiledRow.holds Try.pinned (OpenSpec.ofChange traceSpoiledWrong)

/- THE SECOND FORM. 'bulk': how many values and letters a reading holds, each counted each time it is reached (what is shared counts as often as it is met; a slice's spare places count too). A statement '..UptoSaid' is the law's where the arguments, and the package variables that the reading takes, are together of bulk at most 1048576: NARROWER than '..Said'. Prove '..Said' where nothing that the law and all that it calls make is longer than what came in: it says more and counts as full. Else prove '..UptoSaid'. A law counts once. -/
mutual
def uptoBulk {H : Type} : DataW H → Nat
  | .lit (.string bytes) => bytes.length + 1
  | .lit _ => 1
  | .nil => 1
  | .ptr d => uptoBulk d + 1
  | .slice elems spare => uptoBulkAll elems + uptoBulkAll spare + 1
  | .agg parts => uptoBulkAll parts + 1
  | .iface _ d => uptoBulk d + 1
  | .map entries => uptoBulkEntries entries + 1
  | .held _ => 1
def uptoBulkAll {H : Type} : List (DataW H) → Nat
  | [] => 0
  | d :: r => uptoBulk d + uptoBulkAll r
def uptoBulkEntries {H : Type} : List (Lit × DataW H) → Nat
  | [] => 0
  | x :: r => uptoBulkEntry x + uptoBulkEntries r
def uptoBulkEntry {H : Type} : Lit × DataW H → Nat
  | (.string bytes, d) => bytes.length + uptoBulk d + 1
  | (_, d) => uptoBulk d + 1
 end
def uptoSmall : (H : Type) → List (DataW H) → Bool := fun _ ds => decide (uptoBulkAll ds ≤ 1048576)
def OpenSpec.upto (s : _root_.Go.ChangeSpec) : _root_.Go.OpenSpec := { _root_.Go.OpenSpec.ofChange s with cond := some uptoSmall }

/-- 'tallystonelaw36.PostingSorted', WHERE WHAT IT READS IS OF BULK AT MOST 1048576: true; the input reads as it did. -/
def postingSortedUptoRow : OpenClaim := { program := "ythenamibehbdnaa", sum := "9ded3f467dc137ccc1ba5bd66d704b4a2143cb4483406bbdb3e46344bdac2f21", func := "tallystone/tallystonelaw36.PostingSorted", spec := "postingSorted", recurses := true, plainKeys := false, apart := false, narrowed := true }
def PostingSortedUptoSaid : Prop := postingSortedUptoRow.holds Try.pinned (OpenSpec.upto postingSortedSpec)

/-- 'tallystonelaw36.PostingRanges', WHERE WHAT IT READS IS OF BULK AT MOST 1048576: true; the input reads as it did. -/
def postingRangesUptoRow : OpenClaim := { program := "ythenamibehbdnaa", sum := "9ded3f467dc137ccc1ba5bd66d704b4a2143cb4483406bbdb3e46344bdac2f21", func := "tallystone/tallystonelaw36.PostingRanges", spec := "postingRanges", recurses := true, plainKeys := false, apart := false, narrowed := true }
def PostingRangesUptoSaid : Prop := postingRangesUptoRow.holds Try.pinned (OpenSpec.upto postingRangesSpec)

/-- 'tallystonelaw36.PostingClean', WHERE WHAT IT READS IS OF BULK AT MOST 1048576: true; the input reads as it did. -/
def postingCleanUptoRow : OpenClaim := { program := "ythenamibehbdnaa", sum := "9ded3f467dc137ccc1ba5bd66d704b4a2143cb4483406bbdb3e46344bdac2f21", func := "tallystone/tallystonelaw36.PostingClean", spec := "postingClean", recurses := true, plainKeys := false, apart := false, narrowed := true }
def PostingCleanUptoSaid : Prop := postingCleanUptoRow.holds Try.pinned (OpenSpec.upto postingCleanSpec)

/-- 'tallystonelaw36.PostingUndone', WHERE WHAT IT READS IS OF BULK AT MOST 1048576: true; the input reads as it did. -/
def postingUndoneUptoRow : OpenClaim := { program := "ythenamibehbdnaa", sum := "9ded3f467dc137ccc1ba5bd66d704b4a2143cb4483406bbdb3e46344bdac2f21", func := "tallystone/tallystonelaw36.PostingUndone", spec := "postingUndone", recurses := true, plainKeys := false, apart := false, narrowed := true }
def PostingUndoneUptoSaid : Prop := postingUndoneUptoRow.holds Try.pinned (OpenSpec.upto postingUndoneSpec)

/-- 'tallystonelaw36.PostingTotal', WHERE WHAT IT READS IS OF BULK AT MOST 1048576: true; the input reads as it did. -/
def postingTotalUptoRow : OpenClaim := { program := "ythenamibehbdnaa", sum := "9ded3f467dc137ccc1ba5bd66d704b4a2143cb4483406bbdb3e46344bdac2f21", func := "tallystone/tallystonelaw36.PostingTotal", spec := "postingTotal", recurses := true, plainKeys := false, apart := false, narrowed := true }
def PostingTotalUptoSaid : Prop := postingTotalUptoRow.holds Try.pinned (OpenSpec.upto postingTotalSpec)

/-- 'tallystonelaw36.PostingOrder', WHERE WHAT IT READS IS OF BULK AT MOST 1048576: true; the input reads as it did. -/
def postingOrderUptoRow : OpenClaim := { program := "ythenamibehbdnaa", sum := "9ded3f467dc137ccc1ba5bd66d704b4a2143cb4483406bbdb3e46344bdac2f21", func := "tallystone/tallystonelaw36.PostingOrder", spec := "postingOrder", recurses := true, plainKeys := false, apart := false, narrowed := true }
def PostingOrderUptoSaid : Prop := postingOrderUptoRow.holds Try.pinned (OpenSpec.upto postingOrderSpec)

/-- 'tallystonelaw45.TraceLines', WHERE WHAT IT READS IS OF BULK AT MOST 1048576: true; the input reads as it did. -/
def traceLinesUptoRow : OpenClaim := { program := "ythenamibehbdnaa", sum := "9ded3f467dc137ccc1ba5bd66d704b4a2143cb4483406bbdb3e46344bdac2f21", func := "tallystone/tallystonelaw45.TraceLines", spec := "traceLines", unfollowed := true, recurses := true, plainKeys := false, apart := false, narrowed := true }
def TraceLinesUptoSaid : Prop := traceLinesUptoRow.holds Try.pinned (OpenSpec.upto traceLinesSpec)

/-- 'tallystonelaw45.TraceCheck', WHERE WHAT IT READS IS OF BULK AT MOST 1048576: true; the input reads as it did. -/
def traceCheckUptoRow : OpenClaim := { program := "ythenamibehbdnaa", sum := "9ded3f467dc137ccc1ba5bd66d704b4a2143cb4483406bbdb3e46344bdac2f21", func := "tallystone/tallystonelaw45.TraceCheck", spec := "traceCheck", unfollowed := true, recurses := true, plainKeys := false, apart := false, narrowed := true }
def TraceCheckUptoSaid : Prop := traceCheckUptoRow.holds Try.pinned (OpenSpec.upto traceCheckSpec)

/-- 'tallystonelaw45.TraceSums', WHERE WHAT IT READS IS OF BULK AT MOST 1048576: true; the input reads as it did. -/
def traceSumsUptoRow : OpenClaim := { program := "ythenamibehbdnaa", sum := "9ded3f467dc137ccc1ba5bd66d704b4a2143cb4483406bbdb3e46344bdac2f21", func := "tallystone/tallystonelaw45.TraceSums", spec := "traceSums", unfollowed := true, recurses := true, plainKeys := false, apart := false, narrowed := true }
def TraceSumsUptoSaid : Prop := traceSumsUptoRow.holds Try.pinned (OpenSpec.upto traceSumsSpec)

/-- 'tallystonelaw45.TraceRanges', WHERE WHAT IT READS IS OF BULK AT MOST 1048576: true; the input reads as it did. -/
def traceRangesUptoRow : OpenClaim := { program := "ythenamibehbdnaa", sum := "9ded3f467dc137ccc1ba5bd66d704b4a2143cb4483406bbdb3e46344bdac2f21", func := "tallystone/tallystonelaw45.TraceRanges", spec := "traceRanges", unfollowed := true, recurses := true, plainKeys := false, apart := false, narrowed := true }
def TraceRangesUptoSaid : Prop := traceRangesUptoRow.holds Try.pinned (OpenSpec.upto traceRangesSpec)

/-- 'tallystonelaw45.TraceSpoiled', WHERE WHAT IT READS IS OF BULK AT MOST 1048576: true; the input reads as it did. -/
def traceSpoiledUptoRow : OpenClaim := { program := "ythenamibehbdnaa", sum := "9ded3f467dc137ccc1ba5bd66d704b4a2143cb4483406bbdb3e46344bdac2f21", func := "tallystone/tallystonelaw45.TraceSpoiled", spec := "traceSpoiled", unfollowed := true, recurses := true, plainKeys := false, apart := false, narrowed := true }
def TraceSpoiledUptoSaid : Prop := traceSpoiledUptoRow.holds Try.pinned (OpenSpec.upto traceSpoiledSpec)

end Rows
end Go.Proofs.Ythenamibehbdnaa
