/-
  No cell of these rows narrows 'for every input' (looked for: loops, veiled, ifaces, maps, wideKeys, modest, calm, conditions, laid).
  DERIVED. THE GIVEN ROWS OF THIS SEAT. 7 by the template 'for every input the law returns true; each argument reads behind the call as it read before'; 0 by the template 'total and deterministic' (their statements: YthfbpbbepogllaaGreatTotals.lean).
  GIVEN WITH THE SEED: the statements are not yours to turn. If you find one false, say at which input.
  Laid BY PROGRAM, IN A SANDBOX (cutbox-rows.mjs): the forced cells as the released guide's own fill.sh prints them over the translation 0128522d04989173… (all of the seat's roots in one cut). By AI agents, Wed Nov 11 2026. No macro, syntax, notation, axiom, sorry.
-/
import Derived.Test.YthfbpbbepogllaaGreatChecked
import GoSem.Claim
import GoSem.ClaimJoined
import GoSem.ClaimMapViews
import Derived.JoinedTies
import Derived.KernelRfl
namespace Go.Proofs.YthfbpbbepogllaaGreat
/- THE CELL 'sum', in the pinned program and in every row, IS THE sha256 OF THE DUMP (.gsa) THAT YthfbpbbepogllaaGreatProg.lean LOADS. Nothing in Lean hashes anything: it is a label: what it is worth is what the hold of that sum in a sandbox is worth. -/
noncomputable def Tryz.pinned : Pinned := { name := "ythfbpbbepogllaagreat", sum := "0128522d04989173c5f408a75209fdcee013cdb0f4ad64b4c90ac9002f63e5c0", checked := Tryz.checked }
namespace Rows
def none {H : Type} : Left H := { results := [], args := [] }

/-- 'tallystonelaw42.InventoryPosting': WHATEVER THE INPUT: true; the input reads as it did. -/
def inventoryPostingSpec : ChangeSpec := { name := "inventoryPosting", fn := fun _ => fun
  | [d1, d2, d3] => { results := [.lit (.bool true)], args := [d1, d2, d3] }
  | _ => none }
def inventoryPostingRow : OpenClaim := { program := "ythfbpbbepogllaagreat", sum := "0128522d04989173c5f408a75209fdcee013cdb0f4ad64b4c90ac9002f63e5c0", func := "tallystone/tallystonelaw42.InventoryPosting", spec := "inventoryPosting", unfollowed := true, recurses := true, plainKeys := false, apart := false }
def InventoryPostingSaid : Prop := inventoryPostingRow.holds Tryz.pinned (OpenSpec.ofChange inventoryPostingSpec)

/-- ITS FALSE NEIGHBOUR: 'it returns false'. Refute it at one input. -/
def inventoryPostingWrong : ChangeSpec := { name := "inventoryPosting", fn := fun _ => fun
  | [d1, d2, d3] => { results := [.lit (.bool false)], args := [d1, d2, d3] }
  | _ => none }
def InventoryPostingWrongFalsely : Prop := inventoryPostingRow.holds Tryz.pinned (OpenSpec.ofChange inventoryPostingWrong)

/-- 'tallystonelaw42.InventoryYears': WHATEVER THE INPUT: true; the input reads as it did. -/
def inventoryYearsSpec : ChangeSpec := { name := "inventoryYears", fn := fun _ => fun
  | [d1, d2, d3] => { results := [.lit (.bool true)], args := [d1, d2, d3] }
  | _ => none }
def inventoryYearsRow : OpenClaim := { program := "ythfbpbbepogllaagreat", sum := "0128522d04989173c5f408a75209fdcee013cdb0f4ad64b4c90ac9002f63e5c0", func := "tallystone/tallystonelaw42.InventoryYears", spec := "inventoryYears", unfollowed := true, recurses := true, plainKeys := false, apart := false }
def InventoryYearsSaid : Prop := inventoryYearsRow.holds Tryz.pinned (OpenSpec.ofChange inventoryYearsSpec)

/-- ITS FALSE NEIGHBOUR: 'it returns false'. Refute it at one input. -/
def inventoryYearsWrong : ChangeSpec := { name := "inventoryYears", fn := fun _ => fun
  | [d1, d2, d3] => { results := [.lit (.bool false)], args := [d1, d2, d3] }
  | _ => none }
def InventoryYearsWrongFalsely : Prop := inventoryYearsRow.holds Tryz.pinned (OpenSpec.ofChange inventoryYearsWrong)

/-- 'tallystonelaw42.InventoryNotes': WHATEVER THE INPUT: true; the input reads as it did. -/
def inventoryNotesSpec : ChangeSpec := { name := "inventoryNotes", fn := fun _ => fun
  | [d1, d2, d3] => { results := [.lit (.bool true)], args := [d1, d2, d3] }
  | _ => none }
def inventoryNotesRow : OpenClaim := { program := "ythfbpbbepogllaagreat", sum := "0128522d04989173c5f408a75209fdcee013cdb0f4ad64b4c90ac9002f63e5c0", func := "tallystone/tallystonelaw42.InventoryNotes", spec := "inventoryNotes", unfollowed := true, recurses := true, plainKeys := false, apart := false }
def InventoryNotesSaid : Prop := inventoryNotesRow.holds Tryz.pinned (OpenSpec.ofChange inventoryNotesSpec)

/-- ITS FALSE NEIGHBOUR: 'it returns false'. Refute it at one input. -/
def inventoryNotesWrong : ChangeSpec := { name := "inventoryNotes", fn := fun _ => fun
  | [d1, d2, d3] => { results := [.lit (.bool false)], args := [d1, d2, d3] }
  | _ => none }
def InventoryNotesWrongFalsely : Prop := inventoryNotesRow.holds Tryz.pinned (OpenSpec.ofChange inventoryNotesWrong)

/-- 'tallystonelaw42.InventoryValid': WHATEVER THE INPUT: true; the input reads as it did. -/
def inventoryValidSpec : ChangeSpec := { name := "inventoryValid", fn := fun _ => fun
  | [d1, d2, d3] => { results := [.lit (.bool true)], args := [d1, d2, d3] }
  | _ => none }
def inventoryValidRow : OpenClaim := { program := "ythfbpbbepogllaagreat", sum := "0128522d04989173c5f408a75209fdcee013cdb0f4ad64b4c90ac9002f63e5c0", func := "tallystone/tallystonelaw42.InventoryValid", spec := "inventoryValid", unfollowed := true, recurses := true, plainKeys := false, apart := false }
def InventoryValidSaid : Prop := inventoryValidRow.holds Tryz.pinned (OpenSpec.ofChange inventoryValidSpec)

/-- ITS FALSE NEIGHBOUR: 'it returns false'. Refute it at one input. -/
def inventoryValidWrong : ChangeSpec := { name := "inventoryValid", fn := fun _ => fun
  | [d1, d2, d3] => { results := [.lit (.bool false)], args := [d1, d2, d3] }
  | _ => none }
def InventoryValidWrongFalsely : Prop := inventoryValidRow.holds Tryz.pinned (OpenSpec.ofChange inventoryValidWrong)

/-- 'tallystonelaw42.InventoryPostings': WHATEVER THE INPUT: true; the input reads as it did. -/
def inventoryPostingsSpec : ChangeSpec := { name := "inventoryPostings", fn := fun _ => fun
  | [d1, d2, d3] => { results := [.lit (.bool true)], args := [d1, d2, d3] }
  | _ => none }
def inventoryPostingsRow : OpenClaim := { program := "ythfbpbbepogllaagreat", sum := "0128522d04989173c5f408a75209fdcee013cdb0f4ad64b4c90ac9002f63e5c0", func := "tallystone/tallystonelaw42.InventoryPostings", spec := "inventoryPostings", unfollowed := true, recurses := true, plainKeys := false, apart := false }
def InventoryPostingsSaid : Prop := inventoryPostingsRow.holds Tryz.pinned (OpenSpec.ofChange inventoryPostingsSpec)

/-- ITS FALSE NEIGHBOUR: 'it returns false'. Refute it at one input. -/
def inventoryPostingsWrong : ChangeSpec := { name := "inventoryPostings", fn := fun _ => fun
  | [d1, d2, d3] => { results := [.lit (.bool false)], args := [d1, d2, d3] }
  | _ => none }
def InventoryPostingsWrongFalsely : Prop := inventoryPostingsRow.holds Tryz.pinned (OpenSpec.ofChange inventoryPostingsWrong)

/-- 'tallystonelaw15.CarrySums': WHATEVER THE INPUT: true; the input reads as it did. -/
def carrySumsSpec : ChangeSpec := { name := "carrySums", fn := fun _ => fun
  | [d1, d2, d3] => { results := [.lit (.bool true)], args := [d1, d2, d3] }
  | _ => none }
def carrySumsRow : OpenClaim := { program := "ythfbpbbepogllaagreat", sum := "0128522d04989173c5f408a75209fdcee013cdb0f4ad64b4c90ac9002f63e5c0", func := "tallystone/tallystonelaw15.CarrySums", spec := "carrySums", unfollowed := true, recurses := true, plainKeys := false, apart := false }
def CarrySumsSaid : Prop := carrySumsRow.holds Tryz.pinned (OpenSpec.ofChange carrySumsSpec)

/-- ITS FALSE NEIGHBOUR: 'it returns false'. Refute it at one input. -/
def carrySumsWrong : ChangeSpec := { name := "carrySums", fn := fun _ => fun
  | [d1, d2, d3] => { results := [.lit (.bool false)], args := [d1, d2, d3] }
  | _ => none }
def CarrySumsWrongFalsely : Prop := carrySumsRow.holds Tryz.pinned (OpenSpec.ofChange carrySumsWrong)

/-- 'tallystonelaw15.CarryYears': WHATEVER THE INPUT: true; the input reads as it did. -/
def carryYearsSpec : ChangeSpec := { name := "carryYears", fn := fun _ => fun
  | [d1, d2, d3] => { results := [.lit (.bool true)], args := [d1, d2, d3] }
  | _ => none }
def carryYearsRow : OpenClaim := { program := "ythfbpbbepogllaagreat", sum := "0128522d04989173c5f408a75209fdcee013cdb0f4ad64b4c90ac9002f63e5c0", func := "tallystone/tallystonelaw15.CarryYears", spec := "carryYears", unfollowed := true, recurses := true, plainKeys := false, apart := false }
def CarryYearsSaid : Prop := carryYearsRow.holds Tryz.pinned (OpenSpec.ofChange carryYearsSpec)

/-- ITS FALSE NEIGHBOUR: 'it returns false'. Refute it at one input. -/
def carryYearsWrong : ChangeSpec := { name := "carryYears", fn := fun _ => fun
  | [d1, d2, d3] => { results := [.lit (.bool false)], args := [d1, d2, d3] }
  | _ => none }
def CarryYearsWrongFalsely : Prop := carryYearsRow.holds Tryz.pinned (OpenSpec.ofChange carryYearsWrong)

/- THE SECOND FORM. 'bulk': how many values and letters a reading holds, each counted each time it is reached (what is shared counts as often as it is met; a slice's spare places count too). A statement '..UptoSaid' is the law's where the arguments, and the package variables that the reading takes, are together of bulk at most 1048576: NARROWER than '..Said'. Prove '..Said' where nothing that the law and all that it calls make is longer than what came in: it says more and counts as full. Else prove '..UptoSaid'. A law counts once. -/
mutual
def uptoBulk {H : Type} : DataW H → Nat
  | .lit (.string bytes) => bytes.length + 1
  | .lit _ => 1
  | .nil => 1
  | .ptr d => uptoBulk d + 1
  | .slice elems spare => uptoBulkAll elems + uptoBulkAll spare + 1
  | .agg parts => uptoBulkAll parts + 1
  | .iface _ d => uptoBulk d + 1
  | .map entries => uptoBulkEntries entries + 1
  | .held _ => 1
def uptoBulkAll {H : Type} : List (DataW H) → Nat
  | [] => 0
  | d :: r => uptoBulk d + uptoBulkAll r
def uptoBulkEntries {H : Type} : List (Lit × DataW H) → Nat
  | [] => 0
  | x :: r => uptoBulkEntry x + uptoBulkEntries r
def uptoBulkEntry {H : Type} : Lit × DataW H → Nat
  | (.string bytes, d) => bytes.length + uptoBulk d + 1
  | (_, d) => uptoBulk d + 1
 end
def uptoSmall : (H : Type) → List (DataW H) → Bool := fun _ ds => decide (uptoBulkAll ds ≤ 1048576)
def OpenSpec.upto (s : _root_.Go.ChangeSpec) : _root_.Go.OpenSpec := { _root_.Go.OpenSpec.ofChange s with cond := some uptoSmall }

/-- 'tallystonelaw42.InventoryPosting', WHERE WHAT IT READS IS OF BULK AT MOST 1048576: true; the input reads as it did. -/
def inventoryPostingUptoRow : OpenClaim := { program := "ythfbpbbepogllaagreat", sum := "0128522d04989173c5f408a75209fdcee013cdb0f4ad64b4c90ac9002f63e5c0", func := "tallystone/tallystonelaw42.InventoryPosting", spec := "inventoryPosting", unfollowed := true, recurses := true, plainKeys := false, apart := false, narrowed := true }
def InventoryPostingUptoSaid : Prop := inventoryPostingUptoRow.holds Tryz.pinned (OpenSpec.upto inventoryPostingSpec)

/-- 'tallystonelaw42.InventoryYears', WHERE WHAT IT READS IS OF BULK AT MOST 1048576: true; the input reads as it did. -/
def inventoryYearsUptoRow : OpenClaim := { program := "ythfbpbbepogllaagreat", sum := "0128522d04989173c5f408a75209fdcee013cdb0f4ad64b4c90ac9002f63e5c0", func := "tallystone/tallystonelaw42.InventoryYears", spec := "inventoryYears", unfollowed := true, recurses := true, plainKeys := false, apart := false, narrowed := true }
def InventoryYearsUptoSaid : Prop := inventoryYearsUptoRow.holds Tryz.pinned (OpenSpec.upto inventoryYearsSpec)

/-- 'tallystonelaw42.InventoryNotes', WHERE WHAT IT READS IS OF BULK AT MOST 1048576: true; the input reads as it did. -/
def inventoryNotesUptoRow : OpenClaim := { program := "ythfbpbbepogllaagreat", sum := "0128522d04989173c5f408a75209fdcee013cdb0f4ad64b4c90ac9002f63e5c0", func := "tallystone/tallystonelaw42.InventoryNotes", spec := "inventoryNotes", unfollowed := true, recurses := true, plainKeys := false, apart := false, narrowed := true }
def InventoryNotesUptoSaid : Prop := inventoryNotesUptoRow.holds Tryz.pinned (OpenSpec.upto inventoryNotesSpec)

/-- 'tallystonelaw42.InventoryValid', WHERE WHAT IT READS IS OF BULK AT MOST 1048576: true; the input reads as it did. -/
def inventoryValidUptoRow : OpenClaim := { program := "ythfbpbbepogllaagreat", sum := "0128522d04989173c5f408a75209fdcee013cdb0f4ad64b4c90ac9002f63e5c0", func := "tallystone/tallystonelaw42.InventoryValid", spec := "inventoryValid", unfollowed := true, recurses := true, plainKeys := false, apart := false, narrowed := true }
def InventoryValidUptoSaid : Prop := inventoryValidUptoRow.holds Tryz.pinned (OpenSpec.upto inventoryValidSpec)

/-- 'tallystonelaw42.InventoryPostings', WHERE WHAT IT READS IS OF BULK AT MOST 1048576: true; the input reads as it did. -/
def inventoryPostingsUptoRow : OpenClaim := { program := "ythfbpbbepogllaagreat", sum := "0128522d04989173c5f408a75209fdcee013cdb0f4ad64b4c90ac9002f63e5c0", func := "tallystone/tallystonelaw42.InventoryPostings", spec := "inventoryPostings", unfollowed := true, recurses := true, plainKeys := false, apart := false, narrowed := true }
def InventoryPostingsUptoSaid : Prop := inventoryPostingsUptoRow.holds Tryz.pinned (OpenSpec.upto inventoryPostingsSpec)

/-- 'tallystonelaw15.CarrySums', WHERE WHAT IT READS IS OF BULK AT MOST 1048576: true; the input reads as it did. -/
def carrySumsUptoRow : OpenClaim := { program := "ythfbpbbepogllaagreat", sum := "0128522d04989173c5f408a75209fdcee013cdb0f4ad64b4c90ac9002f63e5c0", func := "tallystone/tallystonelaw15.CarrySums", spec := "carrySums", unfollowed := true, recurses := true, plainKeys := false, apart := false, narrowed := true }
def CarrySumsUptoSaid : Prop := carrySumsUptoRow.holds Tryz.pinned (OpenSpec.upto carrySumsSpec)

/-- 'tallystonelaw15.CarryYears', WHERE WHAT IT READS IS OF BULK AT MOST 1048576: true; the input reads as it did. -/
def carryYearsUptoRow : OpenClaim := { program := "ythfbpbbepogllaagreat", sum := "0128522d04989173c5f408a75209fdcee013cdb0f4ad64b4c90ac9002f63e5c0", func := "tallystone/tallystonelaw15.CarryYears", spec := "carryYears", unfollowed := true, recurses := true, plainKeys := false, apart := false, narrowed := true }
def CarryYearsUptoSaid : Prop := carryYearsUptoRow.holds Tryz.pinned (OpenSpec.upto carryYearsSpec)

end Rows
end Go.Proofs.YthfbpbbepogllaaGreat
