/-
  No cell of these rows narrows 'for every input' (looked for: loops, veiled, ifaces, maps, wideKeys, modest, calm, conditions, laid).
  DERIVED. THE GIVEN ROWS OF THIS SEAT. 5 by the template 'for every input the law returns true; each argument reads behind the call as it read before'; 0 by the template 'total and deterministic' (their statements: YtnkmjdaeafeaaaaGreatTotals.lean).
  GIVEN WITH THE SEED: the statements are not yours to turn. If you find one false, say at which input.
  Laid BY PROGRAM, IN A SANDBOX (cutbox-rows.mjs): the forced cells as the released guide's own fill.sh prints them over the translation a5ab2bda1bb3f01f… (all of the seat's roots in one cut). By AI agents, Wed Nov 11 2026. No macro, syntax, notation, axiom, sorry.
-/
import Derived.Test.YtnkmjdaeafeaaaaGreatChecked
import GoSem.Claim
import GoSem.ClaimJoined
import GoSem.ClaimMapViews
import Derived.JoinedTies
import Derived.KernelRfl
namespace Go.Proofs.YtnkmjdaeafeaaaaGreat
/- THE CELL 'sum', in the pinned program and in every row, IS THE sha256 OF THE DUMP (.gsa) THAT YtnkmjdaeafeaaaaGreatProg.lean LOADS. Nothing in Lean hashes anything: it is a label: what it is worth is what the hold of that sum in a sandbox is worth. -/
noncomputable def Tryz.pinned : Pinned := { name := "ytnkmjdaeafeaaaagreat", sum := "a5ab2bda1bb3f01f709e8b764cdaa5c3c55f639528774143f589a7d129d6e5ba", checked := Tryz.checked }
namespace Rows
def none {H : Type} : Left H := { results := [], args := [] }

/-- 'tallystonelaw43.DividendPostings': WHATEVER THE INPUT: true; the input reads as it did. -/
def dividendPostingsSpec : ChangeSpec := { name := "dividendPostings", fn := fun _ => fun
  | [d1, d2, d3] => { results := [.lit (.bool true)], args := [d1, d2, d3] }
  | _ => none }
def dividendPostingsRow : OpenClaim := { program := "ytnkmjdaeafeaaaagreat", sum := "a5ab2bda1bb3f01f709e8b764cdaa5c3c55f639528774143f589a7d129d6e5ba", func := "tallystone/tallystonelaw43.DividendPostings", spec := "dividendPostings", unfollowed := true, recurses := true, plainKeys := false, apart := false }
def DividendPostingsSaid : Prop := dividendPostingsRow.holds Tryz.pinned (OpenSpec.ofChange dividendPostingsSpec)

/-- ITS FALSE NEIGHBOUR: 'it returns false'. Refute it at one input. -/
def dividendPostingsWrong : ChangeSpec := { name := "dividendPostings", fn := fun _ => fun
  | [d1, d2, d3] => { results := [.lit (.bool false)], args := [d1, d2, d3] }
  | _ => none }
def DividendPostingsWrongFalsely : Prop := dividendPostingsRow.holds Tryz.pinned (OpenSpec.ofChange dividendPostingsWrong)

/-- 'tallystonelaw43.DividendForeign': WHATEVER THE INPUT: true; the input reads as it did. -/
def dividendForeignSpec : ChangeSpec := { name := "dividendForeign", fn := fun _ => fun
  | [d1, d2, d3] => { results := [.lit (.bool true)], args := [d1, d2, d3] }
  | _ => none }
def dividendForeignRow : OpenClaim := { program := "ytnkmjdaeafeaaaagreat", sum := "a5ab2bda1bb3f01f709e8b764cdaa5c3c55f639528774143f589a7d129d6e5ba", func := "tallystone/tallystonelaw43.DividendForeign", spec := "dividendForeign", unfollowed := true, recurses := true, plainKeys := false, apart := false }
def DividendForeignSaid : Prop := dividendForeignRow.holds Tryz.pinned (OpenSpec.ofChange dividendForeignSpec)

/-- ITS FALSE NEIGHBOUR: 'it returns false'. Refute it at one input. -/
def dividendForeignWrong : ChangeSpec := { name := "dividendForeign", fn := fun _ => fun
  | [d1, d2, d3] => { results := [.lit (.bool false)], args := [d1, d2, d3] }
  | _ => none }
def DividendForeignWrongFalsely : Prop := dividendForeignRow.holds Tryz.pinned (OpenSpec.ofChange dividendForeignWrong)

/-- 'tallystonelaw42.InventoryPosting': WHATEVER THE INPUT: true; the input reads as it did. -/
def inventoryPostingSpec : ChangeSpec := { name := "inventoryPosting", fn := fun _ => fun
  | [d1, d2, d3] => { results := [.lit (.bool true)], args := [d1, d2, d3] }
  | _ => none }
def inventoryPostingRow : OpenClaim := { program := "ytnkmjdaeafeaaaagreat", sum := "a5ab2bda1bb3f01f709e8b764cdaa5c3c55f639528774143f589a7d129d6e5ba", func := "tallystone/tallystonelaw42.InventoryPosting", spec := "inventoryPosting", unfollowed := true, recurses := true, plainKeys := false, apart := false }
def InventoryPostingSaid : Prop := inventoryPostingRow.holds Tryz.pinned (OpenSpec.ofChange inventoryPostingSpec)

/-- ITS FALSE NEIGHBOUR: 'it returns false'. Refute it at one input. -/
def inventoryPostingWrong : ChangeSpec := { name := "inventoryPosting", fn := fun _ => fun
  | [d1, d2, d3] => { results := [.lit (.bool false)], args := [d1, d2, d3] }
  | _ => none }
def InventoryPostingWrongFalsely : Prop := inventoryPostingRow.holds Tryz.pinned (OpenSpec.ofChange inventoryPostingWrong)

/-- 'tallystonelaw42.InventoryValid': WHATEVER THE INPUT: true; the input reads as it did. -/
def inventoryValidSpec : ChangeSpec := { name := "inventoryValid", fn := fun _ => fun
  | [d1, d2, d3] => { results := [.lit (.bool true)], args := [d1, d2, d3] }
  | _ => none }
def inventoryValidRow : OpenClaim := { program := "ytnkmjdaeafeaaaagreat", sum := "a5ab2bda1bb3f01f709e8b764cdaa5c3c55f639528774143f589a7d129d6e5ba", func := "tallystone/tallystonelaw42.InventoryValid", spec := "inventoryValid", unfollowed := true, recurses := true, plainKeys := false, apart := false }
def InventoryValidSaid : Prop := inventoryValidRow.holds Tryz.pinned (OpenSpec.ofChange inventoryValidSpec)

/-- ITS FALSE NEIGHBOUR: 'it returns false'. Refute it at one input. -/
def inventoryValidWrong : ChangeSpec := { name := "inventoryValid", fn := fun _ => fun
  | [d1, d2, d3] => { results := [.lit (.bool false)], args := [d1, d2, d3] }
  | _ => none }
def InventoryValidWrongFalsely : Prop := inventoryValidRow.holds Tryz.pinned (OpenSpec.ofChange inventoryValidWrong)

/-- 'tallystonelaw42.InventoryPostings': WHATEVER THE INPUT: true; the input reads as it did. -/
def inventoryPostingsSpec : ChangeSpec := { name := "inventoryPostings", fn := fun _ => fun
  | [d1, d2, d3] => { results := [.lit (.bool true)], args := [d1, d2, d3] }
  | _ => none }
def inventoryPostingsRow : OpenClaim := { program := "ytnkmjdaeafeaaaagreat", sum := "a5ab2bda1bb3f01f709e8b764cdaa5c3c55f639528774143f589a7d129d6e5ba", func := "tallystone/tallystonelaw42.InventoryPostings", spec := "inventoryPostings", unfollowed := true, recurses := true, plainKeys := false, apart := false }
def InventoryPostingsSaid : Prop := inventoryPostingsRow.holds Tryz.pinned (OpenSpec.ofChange inventoryPostingsSpec)

/-- ITS FALSE NEIGHBOUR: 'it returns false'. Refute it at one input. -/
def inventoryPostingsWrong : ChangeSpec := { name := "inventoryPostings", fn := fun _ => fun
  | [d1, d2, d3] => { results := [.lit (.bool false)], args := [d1, d2, d3] }
  | _ => none }
def InventoryPostingsWrongFalsely : Prop := inventoryPostingsRow.holds Tryz.pinned (OpenSpec.ofChange inventoryPostingsWrong)

/- THE SECOND FORM. 'bulk': how many values and letters a reading holds, each counted each time it is reached (what is shared counts as often as it is met; a slice's spare places count too). A statement '..UptoSaid' is the law's where the arguments, and the package variables that the reading takes, are together of bulk at most 1048576: NARROWER than '..Said'. Prove '..Said' where nothing that the law and all that it calls make is longer than what came in: it says more and counts as full. Else prove '..UptoSaid'. A law counts once. -/
mutual
def uptoBulk {H : Type} : DataW H → Nat
  | .lit (.string bytes) => bytes.length + 1
  | .lit _ => 1
  | .nil => 1
  | .ptr d => uptoBulk d + 1
  | .slice elems spare => uptoBulkAll elems + uptoBulkAll spare + 1
  | .agg parts => uptoBulkAll parts + 1
  | .iface _ d => uptoBulk d + 1
  | .map entries => uptoBulkEntries entries + 1
  | .held _ => 1
def uptoBulkAll {H : Type} : List (DataW H) → Nat
  | [] => 0
  | d :: r => uptoBulk d + uptoBulkAll r
def uptoBulkEntries {H : Type} : List (Lit × DataW H) → Nat
  | [] => 0
  | x :: r => uptoBulkEntry x + uptoBulkEntries r
def uptoBulkEntry {H : Type} : Lit × DataW H → Nat
  | (.string bytes, d) => bytes.length + uptoBulk d + 1
  | (_, d) => uptoBulk d + 1
 end
def uptoSmall : (H : Type) → List (DataW H) → Bool := fun _ ds => decide (uptoBulkAll ds ≤ 1048576)
def OpenSpec.upto (s : _root_.Go.ChangeSpec) : _root_.Go.OpenSpec := { _root_.Go.OpenSpec.ofChange s with cond := some uptoSmall }

/-- 'tallystonelaw43.DividendPostings', WHERE WHAT IT READS IS OF BULK AT MOST 1048576: true; the input reads as it did. -/
def dividendPostingsUptoRow : OpenClaim := { program := "ytnkmjdaeafeaaaagreat", sum := "a5ab2bda1bb3f01f709e8b764cdaa5c3c55f639528774143f589a7d129d6e5ba", func := "tallystone/tallystonelaw43.DividendPostings", spec := "dividendPostings", unfollowed := true, recurses := true, plainKeys := false, apart := false, narrowed := true }
def DividendPostingsUptoSaid : Prop := dividendPostingsUptoRow.holds Tryz.pinned (OpenSpec.upto dividendPostingsSpec)

/-- 'tallystonelaw43.DividendForeign', WHERE WHAT IT READS IS OF BULK AT MOST 1048576: true; the input reads as it did. -/
def dividendForeignUptoRow : OpenClaim := { program := "ytnkmjdaeafeaaaagreat", sum := "a5ab2bda1bb3f01f709e8b764cdaa5c3c55f639528774143f589a7d129d6e5ba", func := "tallystone/tallystonelaw43.DividendForeign", spec := "dividendForeign", unfollowed := true, recurses := true, plainKeys := false, apart := false, narrowed := true }
def DividendForeignUptoSaid : Prop := dividendForeignUptoRow.holds Tryz.pinned (OpenSpec.upto dividendForeignSpec)

/-- 'tallystonelaw42.InventoryPosting', WHERE WHAT IT READS IS OF BULK AT MOST 1048576: true; the input reads as it did. -/
def inventoryPostingUptoRow : OpenClaim := { program := "ytnkmjdaeafeaaaagreat", sum := "a5ab2bda1bb3f01f709e8b764cdaa5c3c55f639528774143f589a7d129d6e5ba", func := "tallystone/tallystonelaw42.InventoryPosting", spec := "inventoryPosting", unfollowed := true, recurses := true, plainKeys := false, apart := false, narrowed := true }
def InventoryPostingUptoSaid : Prop := inventoryPostingUptoRow.holds Tryz.pinned (OpenSpec.upto inventoryPostingSpec)

/-- 'tallystonelaw42.InventoryValid', WHERE WHAT IT READS IS OF BULK AT MOST 1048576: true; the input reads as it did. -/
def inventoryValidUptoRow : OpenClaim := { program := "ytnkmjdaeafeaaaagreat", sum := "a5ab2bda1bb3f01f709e8b764cdaa5c3c55f639528774143f589a7d129d6e5ba", func := "tallystone/tallystonelaw42.InventoryValid", spec := "inventoryValid", unfollowed := true, recurses := true, plainKeys := false, apart := false, narrowed := true }
def InventoryValidUptoSaid : Prop := inventoryValidUptoRow.holds Tryz.pinned (OpenSpec.upto inventoryValidSpec)

/-- 'tallystonelaw42.InventoryPostings', WHERE WHAT IT READS IS OF BULK AT MOST 1048576: true; the input reads as it did. -/
def inventoryPostingsUptoRow : OpenClaim := { program := "ytnkmjdaeafeaaaagreat", sum := "a5ab2bda1bb3f01f709e8b764cdaa5c3c55f639528774143f589a7d129d6e5ba", func := "tallystone/tallystonelaw42.InventoryPostings", spec := "inventoryPostings", unfollowed := true, recurses := true, plainKeys := false, apart := false, narrowed := true }
def InventoryPostingsUptoSaid : Prop := inventoryPostingsUptoRow.holds Tryz.pinned (OpenSpec.upto inventoryPostingsSpec)

end Rows
end Go.Proofs.YtnkmjdaeafeaaaaGreat
