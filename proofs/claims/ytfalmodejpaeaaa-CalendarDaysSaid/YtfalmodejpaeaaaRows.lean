/-
  No cell of these rows narrows 'for every input' (looked for: loops, veiled, ifaces, maps, wideKeys, modest, calm, conditions, laid).
  DERIVED. THE GIVEN ROWS OF THIS SEAT. 12 by the template 'for every input the law returns true; each argument reads behind the call as it read before'; 0 by the template 'total and deterministic' (their statements: YtfalmodejpaeaaaTotals.lean).
  GIVEN WITH THE SEED: the statements are not yours to turn. If you find one false, say at which input.
  Laid BY PROGRAM, IN A SANDBOX (cutbox-rows.mjs): the forced cells as the released guide's own fill.sh prints them over the translation a720cfc02d2fb89e… (all of the seat's roots in one cut). By AI agents, Wed Nov 11 2026. No macro, syntax, notation, axiom, sorry.
-/
import Derived.Test.YtfalmodejpaeaaaChecked
import GoSem.Claim
import GoSem.ClaimJoined
import GoSem.ClaimMapViews
import Derived.JoinedTies
import Derived.KernelRfl
namespace Go.Proofs.Ytfalmodejpaeaaa
/- THE CELL 'sum', in the pinned program and in every row, IS THE sha256 OF THE DUMP (.gsa) THAT YtfalmodejpaeaaaProg.lean LOADS. Nothing in Lean hashes anything: it is a label: what it is worth is what the hold of that sum in a sandbox is worth. -/
noncomputable def Try.pinned : Pinned := { name := "ytfalmodejpaeaaa", sum := "a720cfc02d2fb89e1f34ae37b80045df29711ca168e6484d4fe79b53a2ea239a", checked := Try.checked }
namespace Rows
def none {H : Type} : Left H := { results := [], args := [] }

/-- 'tallystonelaw07.CalendarValid': WHATEVER THE INPUT: true; the input reads as it did. -/
def calendarValidSpec : ChangeSpec := { name := "calendarValid", fn := fun _ => fun
  | [d1, d2] => { results := [.lit (.bool true)], args := [d1, d2] }
  | _ => none }
def calendarValidRow : OpenClaim := { program := "ytfalmodejpaeaaa", sum := "a720cfc02d2fb89e1f34ae37b80045df29711ca168e6484d4fe79b53a2ea239a", func := "tallystone/tallystonelaw07.CalendarValid", spec := "calendarValid", recurses := true, apart := false }
def CalendarValidSaid : Prop := calendarValidRow.holds Try.pinned (OpenSpec.ofChange calendarValidSpec)

/-- ITS FALSE NEIGHBOUR: 'it returns false'. Refute it at one input. -/
def calendarValidWrong : ChangeSpec := { name := "calendarValid", fn := fun _ => fun
  | [d1, d2] => { results := [.lit (.bool false)], args := [d1, d2] }
  | _ => none }
def CalendarValidWrongFalsely : Prop := calendarValidRow.holds Try.pinned (OpenSpec.ofChange calendarValidWrong)

/-- 'tallystonelaw07.CalendarYears': WHATEVER THE INPUT: true; the input reads as it did. -/
def calendarYearsSpec : ChangeSpec := { name := "calendarYears", fn := fun _ => fun
  | [d1, d2] => { results := [.lit (.bool true)], args := [d1, d2] }
  | _ => none }
def calendarYearsRow : OpenClaim := { program := "ytfalmodejpaeaaa", sum := "a720cfc02d2fb89e1f34ae37b80045df29711ca168e6484d4fe79b53a2ea239a", func := "tallystone/tallystonelaw07.CalendarYears", spec := "calendarYears", apart := false }
def CalendarYearsSaid : Prop := calendarYearsRow.holds Try.pinned (OpenSpec.ofChange calendarYearsSpec)

/-- ITS FALSE NEIGHBOUR: 'it returns false'. Refute it at one input. -/
def calendarYearsWrong : ChangeSpec := { name := "calendarYears", fn := fun _ => fun
  | [d1, d2] => { results := [.lit (.bool false)], args := [d1, d2] }
  | _ => none }
def CalendarYearsWrongFalsely : Prop := calendarYearsRow.holds Try.pinned (OpenSpec.ofChange calendarYearsWrong)

/-- 'tallystonelaw07.CalendarDays': WHATEVER THE INPUT: true; the input reads as it did. -/
def calendarDaysSpec : ChangeSpec := { name := "calendarDays", fn := fun _ => fun
  | [d1, d2] => { results := [.lit (.bool true)], args := [d1, d2] }
  | _ => none }
def calendarDaysRow : OpenClaim := { program := "ytfalmodejpaeaaa", sum := "a720cfc02d2fb89e1f34ae37b80045df29711ca168e6484d4fe79b53a2ea239a", func := "tallystone/tallystonelaw07.CalendarDays", spec := "calendarDays", apart := false }
def CalendarDaysSaid : Prop := calendarDaysRow.holds Try.pinned (OpenSpec.ofChange calendarDaysSpec)

/-- ITS FALSE NEIGHBOUR: 'it returns false'. Refute it at one input. -/
def calendarDaysWrong : ChangeSpec := { name := "calendarDays", fn := fun _ => fun
  | [d1, d2] => { results := [.lit (.bool false)], args := [d1, d2] }
  | _ => none }
def CalendarDaysWrongFalsely : Prop := calendarDaysRow.holds Try.pinned (OpenSpec.ofChange calendarDaysWrong)

/-- 'tallystonelaw07.CalendarParts': WHATEVER THE INPUT: true; the input reads as it did. -/
def calendarPartsSpec : ChangeSpec := { name := "calendarParts", fn := fun _ => fun
  | [d1, d2, d3] => { results := [.lit (.bool true)], args := [d1, d2, d3] }
  | _ => none }
def calendarPartsRow : OpenClaim := { program := "ytfalmodejpaeaaa", sum := "a720cfc02d2fb89e1f34ae37b80045df29711ca168e6484d4fe79b53a2ea239a", func := "tallystone/tallystonelaw07.CalendarParts", spec := "calendarParts", apart := false }
def CalendarPartsSaid : Prop := calendarPartsRow.holds Try.pinned (OpenSpec.ofChange calendarPartsSpec)

/-- ITS FALSE NEIGHBOUR: 'it returns false'. Refute it at one input. -/
def calendarPartsWrong : ChangeSpec := { name := "calendarParts", fn := fun _ => fun
  | [d1, d2, d3] => { results := [.lit (.bool false)], args := [d1, d2, d3] }
  | _ => none }
def CalendarPartsWrongFalsely : Prop := calendarPartsRow.holds Try.pinned (OpenSpec.ofChange calendarPartsWrong)

/-- 'tallystonelaw07.CalendarPeriod': WHATEVER THE INPUT: true; the input reads as it did. -/
def calendarPeriodSpec : ChangeSpec := { name := "calendarPeriod", fn := fun _ => fun
  | [d1, d2] => { results := [.lit (.bool true)], args := [d1, d2] }
  | _ => none }
def calendarPeriodRow : OpenClaim := { program := "ytfalmodejpaeaaa", sum := "a720cfc02d2fb89e1f34ae37b80045df29711ca168e6484d4fe79b53a2ea239a", func := "tallystone/tallystonelaw07.CalendarPeriod", spec := "calendarPeriod", apart := false }
def CalendarPeriodSaid : Prop := calendarPeriodRow.holds Try.pinned (OpenSpec.ofChange calendarPeriodSpec)

/-- ITS FALSE NEIGHBOUR: 'it returns false'. Refute it at one input. -/
def calendarPeriodWrong : ChangeSpec := { name := "calendarPeriod", fn := fun _ => fun
  | [d1, d2] => { results := [.lit (.bool false)], args := [d1, d2] }
  | _ => none }
def CalendarPeriodWrongFalsely : Prop := calendarPeriodRow.holds Try.pinned (OpenSpec.ofChange calendarPeriodWrong)

/-- 'tallystonelaw07.CalendarBegins': WHATEVER THE INPUT: true; the input reads as it did. -/
def calendarBeginsSpec : ChangeSpec := { name := "calendarBegins", fn := fun _ => fun
  | [d1, d2, d3] => { results := [.lit (.bool true)], args := [d1, d2, d3] }
  | _ => none }
def calendarBeginsRow : OpenClaim := { program := "ytfalmodejpaeaaa", sum := "a720cfc02d2fb89e1f34ae37b80045df29711ca168e6484d4fe79b53a2ea239a", func := "tallystone/tallystonelaw07.CalendarBegins", spec := "calendarBegins", apart := false }
def CalendarBeginsSaid : Prop := calendarBeginsRow.holds Try.pinned (OpenSpec.ofChange calendarBeginsSpec)

/-- ITS FALSE NEIGHBOUR: 'it returns false'. Refute it at one input. -/
def calendarBeginsWrong : ChangeSpec := { name := "calendarBegins", fn := fun _ => fun
  | [d1, d2, d3] => { results := [.lit (.bool false)], args := [d1, d2, d3] }
  | _ => none }
def CalendarBeginsWrongFalsely : Prop := calendarBeginsRow.holds Try.pinned (OpenSpec.ofChange calendarBeginsWrong)

/-- 'tallystonelaw07.CalendarTiles': WHATEVER THE INPUT: true; the input reads as it did. -/
def calendarTilesSpec : ChangeSpec := { name := "calendarTiles", fn := fun _ => fun
  | [d1, d2] => { results := [.lit (.bool true)], args := [d1, d2] }
  | _ => none }
def calendarTilesRow : OpenClaim := { program := "ytfalmodejpaeaaa", sum := "a720cfc02d2fb89e1f34ae37b80045df29711ca168e6484d4fe79b53a2ea239a", func := "tallystone/tallystonelaw07.CalendarTiles", spec := "calendarTiles", apart := false }
def CalendarTilesSaid : Prop := calendarTilesRow.holds Try.pinned (OpenSpec.ofChange calendarTilesSpec)

/-- ITS FALSE NEIGHBOUR: 'it returns false'. Refute it at one input. -/
def calendarTilesWrong : ChangeSpec := { name := "calendarTiles", fn := fun _ => fun
  | [d1, d2] => { results := [.lit (.bool false)], args := [d1, d2] }
  | _ => none }
def CalendarTilesWrongFalsely : Prop := calendarTilesRow.holds Try.pinned (OpenSpec.ofChange calendarTilesWrong)

/-- 'tallystonelaw08.ChartValid': WHATEVER THE INPUT: true; the input reads as it did. -/
def chartValidSpec : ChangeSpec := { name := "chartValid", fn := fun _ => fun
  | [d1, d2] => { results := [.lit (.bool true)], args := [d1, d2] }
  | _ => none }
def chartValidRow : OpenClaim := { program := "ytfalmodejpaeaaa", sum := "a720cfc02d2fb89e1f34ae37b80045df29711ca168e6484d4fe79b53a2ea239a", func := "tallystone/tallystonelaw08.ChartValid", spec := "chartValid", unfollowed := true, recurses := true, apart := false }
def ChartValidSaid : Prop := chartValidRow.holds Try.pinned (OpenSpec.ofChange chartValidSpec)

/-- ITS FALSE NEIGHBOUR: 'it returns false'. Refute it at one input. -/
def chartValidWrong : ChangeSpec := { name := "chartValid", fn := fun _ => fun
  | [d1, d2] => { results := [.lit (.bool false)], args := [d1, d2] }
  | _ => none }
def ChartValidWrongFalsely : Prop := chartValidRow.holds Try.pinned (OpenSpec.ofChange chartValidWrong)

/-- 'tallystonelaw08.ChartFinds': WHATEVER THE INPUT: true; the input reads as it did. -/
def chartFindsSpec : ChangeSpec := { name := "chartFinds", fn := fun _ => fun
  | [d1, d2] => { results := [.lit (.bool true)], args := [d1, d2] }
  | _ => none }
def chartFindsRow : OpenClaim := { program := "ytfalmodejpaeaaa", sum := "a720cfc02d2fb89e1f34ae37b80045df29711ca168e6484d4fe79b53a2ea239a", func := "tallystone/tallystonelaw08.ChartFinds", spec := "chartFinds", unfollowed := true, recurses := true, apart := false }
def ChartFindsSaid : Prop := chartFindsRow.holds Try.pinned (OpenSpec.ofChange chartFindsSpec)

/-- ITS FALSE NEIGHBOUR: 'it returns false'. Refute it at one input. -/
def chartFindsWrong : ChangeSpec := { name := "chartFinds", fn := fun _ => fun
  | [d1, d2] => { results := [.lit (.bool false)], args := [d1, d2] }
  | _ => none }
def ChartFindsWrongFalsely : Prop := chartFindsRow.holds Try.pinned (OpenSpec.ofChange chartFindsWrong)

/-- 'tallystonelaw08.ChartUnder': WHATEVER THE INPUT: true; the input reads as it did. -/
def chartUnderSpec : ChangeSpec := { name := "chartUnder", fn := fun _ => fun
  | [d1, d2] => { results := [.lit (.bool true)], args := [d1, d2] }
  | _ => none }
def chartUnderRow : OpenClaim := { program := "ytfalmodejpaeaaa", sum := "a720cfc02d2fb89e1f34ae37b80045df29711ca168e6484d4fe79b53a2ea239a", func := "tallystone/tallystonelaw08.ChartUnder", spec := "chartUnder", unfollowed := true, recurses := true, apart := false }
def ChartUnderSaid : Prop := chartUnderRow.holds Try.pinned (OpenSpec.ofChange chartUnderSpec)

/-- ITS FALSE NEIGHBOUR: 'it returns false'. Refute it at one input. -/
def chartUnderWrong : ChangeSpec := { name := "chartUnder", fn := fun _ => fun
  | [d1, d2] => { results := [.lit (.bool false)], args := [d1, d2] }
  | _ => none }
def ChartUnderWrongFalsely : Prop := chartUnderRow.holds Try.pinned (OpenSpec.ofChange chartUnderWrong)

/-- 'tallystonelaw08.ChartRoll': WHATEVER THE INPUT: true; the input reads as it did. -/
def chartRollSpec : ChangeSpec := { name := "chartRoll", fn := fun _ => fun
  | [d1, d2] => { results := [.lit (.bool true)], args := [d1, d2] }
  | _ => none }
def chartRollRow : OpenClaim := { program := "ytfalmodejpaeaaa", sum := "a720cfc02d2fb89e1f34ae37b80045df29711ca168e6484d4fe79b53a2ea239a", func := "tallystone/tallystonelaw08.ChartRoll", spec := "chartRoll", unfollowed := true, recurses := true, apart := false }
def ChartRollSaid : Prop := chartRollRow.holds Try.pinned (OpenSpec.ofChange chartRollSpec)

/-- ITS FALSE NEIGHBOUR: 'it returns false'. Refute it at one input. -/
def chartRollWrong : ChangeSpec := { name := "chartRoll", fn := fun _ => fun
  | [d1, d2] => { results := [.lit (.bool false)], args := [d1, d2] }
  | _ => none }
def ChartRollWrongFalsely : Prop := chartRollRow.holds Try.pinned (OpenSpec.ofChange chartRollWrong)

/-- 'tallystonelaw08.ChartAdds': WHATEVER THE INPUT: true; the input reads as it did. -/
def chartAddsSpec : ChangeSpec := { name := "chartAdds", fn := fun _ => fun
  | [d1, d2, d3] => { results := [.lit (.bool true)], args := [d1, d2, d3] }
  | _ => none }
def chartAddsRow : OpenClaim := { program := "ytfalmodejpaeaaa", sum := "a720cfc02d2fb89e1f34ae37b80045df29711ca168e6484d4fe79b53a2ea239a", func := "tallystone/tallystonelaw08.ChartAdds", spec := "chartAdds", unfollowed := true, recurses := true, apart := false }
def ChartAddsSaid : Prop := chartAddsRow.holds Try.pinned (OpenSpec.ofChange chartAddsSpec)

/-- ITS FALSE NEIGHBOUR: 'it returns false'. Refute it at one input. -/
def chartAddsWrong : ChangeSpec := { name := "chartAdds", fn := fun _ => fun
  | [d1, d2, d3] => { results := [.lit (.bool false)], args := [d1, d2, d3] }
  | _ => none }
def ChartAddsWrongFalsely : Prop := chartAddsRow.holds Try.pinned (OpenSpec.ofChange chartAddsWrong)

/- THE SECOND FORM. 'bulk': how many values and letters a reading holds, each counted each time it is reached (what is shared counts as often as it is met; a slice's spare places count too). A statement '..UptoSaid' is the law's where the arguments, and the package variables that the reading takes, are together of bulk at most 1048576: NARROWER than '..Said'. Prove '..Said' where nothing that the law and all that it calls make is longer than what came in: it says more and counts as full. Else prove '..UptoSaid'. A law counts once. -/
mutual
def uptoBulk {H : Type} : DataW H → Nat
  | .lit (.string bytes) => bytes.length + 1
  | .lit _ => 1
  | .nil => 1
  | .ptr d => uptoBulk d + 1
  | .slice elems spare => uptoBulkAll elems + uptoBulkAll spare + 1
  | .agg parts => uptoBulkAll parts + 1
  | .iface _ d => uptoBulk d + 1
  | .map entries => uptoBulkEntries entries + 1
  | .held _ => 1
def uptoBulkAll {H : Type} : List (DataW H) → Nat
  | [] => 0
  | d :: r => uptoBulk d + uptoBulkAll r
def uptoBulkEntries {H : Type} : List (Lit × DataW H) → Nat
  | [] => 0
  | x :: r => uptoBulkEntry x + uptoBulkEntries r
def uptoBulkEntry {H : Type} : Lit × DataW H → Nat
  | (.string bytes, d) => bytes.length + uptoBulk d + 1
  | (_, d) => uptoBulk d + 1
 end
def uptoSmall : (H : Type) → List (DataW H) → Bool := fun _ ds => decide (uptoBulkAll ds ≤ 1048576)
def OpenSpec.upto (s : _root_.Go.ChangeSpec) : _root_.Go.OpenSpec := { _root_.Go.OpenSpec.ofChange s with cond := some uptoSmall }

/-- 'tallystonelaw07.CalendarValid', WHERE WHAT IT READS IS OF BULK AT MOST 1048576: true; the input reads as it did. -/
def calendarValidUptoRow : OpenClaim := { program := "ytfalmodejpaeaaa", sum := "a720cfc02d2fb89e1f34ae37b80045df29711ca168e6484d4fe79b53a2ea239a", func := "tallystone/tallystonelaw07.CalendarValid", spec := "calendarValid", recurses := true, apart := false, narrowed := true }
def CalendarValidUptoSaid : Prop := calendarValidUptoRow.holds Try.pinned (OpenSpec.upto calendarValidSpec)

/-- 'tallystonelaw07.CalendarYears', WHERE WHAT IT READS IS OF BULK AT MOST 1048576: true; the input reads as it did. -/
def calendarYearsUptoRow : OpenClaim := { program := "ytfalmodejpaeaaa", sum := "a720cfc02d2fb89e1f34ae37b80045df29711ca168e6484d4fe79b53a2ea239a", func := "tallystone/tallystonelaw07.CalendarYears", spec := "calendarYears", apart := false, narrowed := true }
def CalendarYearsUptoSaid : Prop := calendarYearsUptoRow.holds Try.pinned (OpenSpec.upto calendarYearsSpec)

/-- 'tallystonelaw07.CalendarDays', WHERE WHAT IT READS IS OF BULK AT MOST 1048576: true; the input reads as it did. -/
def calendarDaysUptoRow : OpenClaim := { program := "ytfalmodejpaeaaa", sum := "a720cfc02d2fb89e1f34ae37b80045df29711ca168e6484d4fe79b53a2ea239a", func := "tallystone/tallystonelaw07.CalendarDays", spec := "calendarDays", apart := false, narrowed := true }
def CalendarDaysUptoSaid : Prop := calendarDaysUptoRow.holds Try.pinned (OpenSpec.upto calendarDaysSpec)

/-- 'tallystonelaw07.CalendarParts', WHERE WHAT IT READS IS OF BULK AT MOST 1048576: true; the input reads as it did. -/
def calendarPartsUptoRow : OpenClaim := { program := "ytfalmodejpaeaaa", sum := "a720cfc02d2fb89e1f34ae37b80045df29711ca168e6484d4fe79b53a2ea239a", func := "tallystone/tallystonelaw07.CalendarParts", spec := "calendarParts", apart := false, narrowed := true }
def CalendarPartsUptoSaid : Prop := calendarPartsUptoRow.holds Try.pinned (OpenSpec.upto calendarPartsSpec)

/-- 'tallystonelaw07.CalendarPeriod', WHERE WHAT IT READS IS OF BULK AT MOST 1048576: true; the input reads as it did. -/
def calendarPeriodUptoRow : OpenClaim := { program := "ytfalmodejpaeaaa", sum := "a720cfc02d2fb89e1f34ae37b80045df29711ca168e6484d4fe79b53a2ea239a", func := "tallystone/tallystonelaw07.CalendarPeriod", spec := "calendarPeriod", apart := false, narrowed := true }
def CalendarPeriodUptoSaid : Prop := calendarPeriodUptoRow.holds Try.pinned (OpenSpec.upto calendarPeriodSpec)

/-- 'tallystonelaw07.CalendarBegins', WHERE WHAT IT READS IS OF BULK AT MOST 1048576: true; the input reads as it did. -/
def calendarBeginsUptoRow : OpenClaim := { program := "ytfalmodejpaeaaa", sum := "a720cfc02d2fb89e1f34ae37b80045df29711ca168e6484d4fe79b53a2ea239a", func := "tallystone/tallystonelaw07.CalendarBegins", spec := "calendarBegins", apart := false, narrowed := true }
def CalendarBeginsUptoSaid : Prop := calendarBeginsUptoRow.holds Try.pinned (OpenSpec.upto calendarBeginsSpec)

/-- 'tallystonelaw07.CalendarTiles', WHERE WHAT IT READS IS OF BULK AT MOST 1048576: true; the input reads as it did. -/
def calendarTilesUptoRow : OpenClaim := { program := "ytfalmodejpaeaaa", sum := "a720cfc02d2fb89e1f34ae37b80045df29711ca168e6484d4fe79b53a2ea239a", func := "tallystone/tallystonelaw07.CalendarTiles", spec := "calendarTiles", apart := false, narrowed := true }
def CalendarTilesUptoSaid : Prop := calendarTilesUptoRow.holds Try.pinned (OpenSpec.upto calendarTilesSpec)

/-- 'tallystonelaw08.ChartValid', WHERE WHAT IT READS IS OF BULK AT MOST 1048576: true; the input reads as it did. -/
def chartValidUptoRow : OpenClaim := { program := "ytfalmodejpaeaaa", sum := "a720cfc02d2fb89e1f34ae37b80045df29711ca168e6484d4fe79b53a2ea239a", func := "tallystone/tallystonelaw08.ChartValid", spec := "chartValid", unfollowed := true, recurses := true, apart := false, narrowed := true }
def ChartValidUptoSaid : Prop := chartValidUptoRow.holds Try.pinned (OpenSpec.upto chartValidSpec)

/-- 'tallystonelaw08.ChartFinds', WHERE WHAT IT READS IS OF BULK AT MOST 1048576: true; the input reads as it did. -/
def chartFindsUptoRow : OpenClaim := { program := "ytfalmodejpaeaaa", sum := "a720cfc02d2fb89e1f34ae37b80045df29711ca168e6484d4fe79b53a2ea239a", func := "tallystone/tallystonelaw08.ChartFinds", spec := "chartFinds", unfollowed := true, recurses := true, apart := false, narrowed := true }
def ChartFindsUptoSaid : Prop := chartFindsUptoRow.holds Try.pinned (OpenSpec.upto chartFindsSpec)

/-- 'tallystonelaw08.ChartUnder', WHERE WHAT IT READS IS OF BULK AT MOST 1048576: true; the input reads as it did. -/
def chartUnderUptoRow : OpenClaim := { program := "ytfalmodejpaeaaa", sum := "a720cfc02d2fb89e1f34ae37b80045df29711ca168e6484d4fe79b53a2ea239a", func := "tallystone/tallystonelaw08.ChartUnder", spec := "chartUnder", unfollowed := true, recurses := true, apart := false, narrowed := true }
def ChartUnderUptoSaid : Prop := chartUnderUptoRow.holds Try.pinned (OpenSpec.upto chartUnderSpec)

/-- 'tallystonelaw08.ChartRoll', WHERE WHAT IT READS IS OF BULK AT MOST 1048576: true; the input reads as it did. -/
def chartRollUptoRow : OpenClaim := { program := "ytfalmodejpaeaaa", sum := "a720cfc02d2fb89e1f34ae37b80045df29711ca168e6484d4fe79b53a2ea239a", func := "tallystone/tallystonelaw08.ChartRoll", spec := "chartRoll", unfollowed := true, recurses := true, apart := false, narrowed := true }
def ChartRollUptoSaid : Prop := chartRollUptoRow.holds Try.pinned (OpenSpec.upto chartRollSpec)

/-- 'tallystonelaw08.ChartAdds', WHERE WHAT IT READS IS OF BULK AT MOST 1048576: true; the input reads as it did. -/
def chartAddsUptoRow : OpenClaim := { program := "ytfalmodejpaeaaa", sum := "a720cfc02d2fb89e1f34ae37b80045df29711ca168e6484d4fe79b53a2ea239a", func := "tallystone/tallystonelaw08.ChartAdds", spec := "chartAdds", unfollowed := true, recurses := true, apart := false, narrowed := true }
def ChartAddsUptoSaid : Prop := chartAddsUptoRow.holds Try.pinned (OpenSpec.upto chartAddsSpec)

end Rows
end Go.Proofs.Ytfalmodejpaeaaa
