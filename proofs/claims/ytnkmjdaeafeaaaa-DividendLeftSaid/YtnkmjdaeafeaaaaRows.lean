/-
  No cell of these rows narrows 'for every input' (looked for: loops, veiled, ifaces, maps, wideKeys, modest, calm, conditions, laid).
  DERIVED. THE GIVEN ROWS OF THIS SEAT. 7 by the template 'for every input the law returns true; each argument reads behind the call as it read before'; 0 by the template 'total and deterministic' (their statements: YtnkmjdaeafeaaaaTotals.lean).
  GIVEN WITH THE SEED: the statements are not yours to turn. If you find one false, say at which input.
  Laid BY PROGRAM, IN A SANDBOX (cutbox-rows.mjs): the forced cells as the released guide's own fill.sh prints them over the translation 2ff4b8c35ca752c5… (all of the seat's roots in one cut). By AI agents, Wed Nov 11 2026. No macro, syntax, notation, axiom, sorry.
-/
import Derived.Test.YtnkmjdaeafeaaaaChecked
import GoSem.Claim
import GoSem.ClaimJoined
import GoSem.ClaimMapViews
import Derived.JoinedTies
import Derived.KernelRfl
namespace Go.Proofs.Ytnkmjdaeafeaaaa
/- THE CELL 'sum', in the pinned program and in every row, IS THE sha256 OF THE DUMP (.gsa) THAT YtnkmjdaeafeaaaaProg.lean LOADS. Nothing in Lean hashes anything: it is a label: what it is worth is what the hold of that sum in a sandbox is worth. -/
noncomputable def Try.pinned : Pinned := { name := "ytnkmjdaeafeaaaa", sum := "2ff4b8c35ca752c5d0367e564bf4daf148dc37bda287dcb9a582834b18779de9", checked := Try.checked }
namespace Rows
def none {H : Type} : Left H := { results := [], args := [] }

/-- 'tallystonelaw10.GroupEntities': WHATEVER THE INPUT: true; the input reads as it did. -/
def groupEntitiesSpec : ChangeSpec := { name := "groupEntities", fn := fun _ => fun
  | [d1, d2, d3] => { results := [.lit (.bool true)], args := [d1, d2, d3] }
  | _ => none }
def groupEntitiesRow : OpenClaim := { program := "ytnkmjdaeafeaaaa", sum := "2ff4b8c35ca752c5d0367e564bf4daf148dc37bda287dcb9a582834b18779de9", func := "tallystone/tallystonelaw10.GroupEntities", spec := "groupEntities", unfollowed := true, recurses := true, plainKeys := false, apart := false }
def GroupEntitiesSaid : Prop := groupEntitiesRow.holds Try.pinned (OpenSpec.ofChange groupEntitiesSpec)

/-- ITS FALSE NEIGHBOUR: 'it returns false'. Refute it at one input. -/
def groupEntitiesWrong : ChangeSpec := { name := "groupEntities", fn := fun _ => fun
  | [d1, d2, d3] => { results := [.lit (.bool false)], args := [d1, d2, d3] }
  | _ => none }
def GroupEntitiesWrongFalsely : Prop := groupEntitiesRow.holds Try.pinned (OpenSpec.ofChange groupEntitiesWrong)

/-- 'tallystonelaw15.CarryKeeps': WHATEVER THE INPUT: true; the input reads as it did. -/
def carryKeepsSpec : ChangeSpec := { name := "carryKeeps", fn := fun _ => fun
  | [d1, d2, d3] => { results := [.lit (.bool true)], args := [d1, d2, d3] }
  | _ => none }
def carryKeepsRow : OpenClaim := { program := "ytnkmjdaeafeaaaa", sum := "2ff4b8c35ca752c5d0367e564bf4daf148dc37bda287dcb9a582834b18779de9", func := "tallystone/tallystonelaw15.CarryKeeps", spec := "carryKeeps", unfollowed := true, recurses := true, plainKeys := false, apart := false }
def CarryKeepsSaid : Prop := carryKeepsRow.holds Try.pinned (OpenSpec.ofChange carryKeepsSpec)

/-- ITS FALSE NEIGHBOUR: 'it returns false'. Refute it at one input. -/
def carryKeepsWrong : ChangeSpec := { name := "carryKeeps", fn := fun _ => fun
  | [d1, d2, d3] => { results := [.lit (.bool false)], args := [d1, d2, d3] }
  | _ => none }
def CarryKeepsWrongFalsely : Prop := carryKeepsRow.holds Try.pinned (OpenSpec.ofChange carryKeepsWrong)

/-- 'tallystonelaw36.PostingValid': WHATEVER THE INPUT: true; the input reads as it did. -/
def postingValidSpec : ChangeSpec := { name := "postingValid", fn := fun _ => fun
  | [d1, d2] => { results := [.lit (.bool true)], args := [d1, d2] }
  | _ => none }
def postingValidRow : OpenClaim := { program := "ytnkmjdaeafeaaaa", sum := "2ff4b8c35ca752c5d0367e564bf4daf148dc37bda287dcb9a582834b18779de9", func := "tallystone/tallystonelaw36.PostingValid", spec := "postingValid", unfollowed := true, recurses := true, plainKeys := false, apart := false }
def PostingValidSaid : Prop := postingValidRow.holds Try.pinned (OpenSpec.ofChange postingValidSpec)

/-- ITS FALSE NEIGHBOUR: 'it returns false'. Refute it at one input. -/
def postingValidWrong : ChangeSpec := { name := "postingValid", fn := fun _ => fun
  | [d1, d2] => { results := [.lit (.bool false)], args := [d1, d2] }
  | _ => none }
def PostingValidWrongFalsely : Prop := postingValidRow.holds Try.pinned (OpenSpec.ofChange postingValidWrong)

/-- 'tallystonelaw43.DividendPosting': WHATEVER THE INPUT: true; the input reads as it did. -/
def dividendPostingSpec : ChangeSpec := { name := "dividendPosting", fn := fun _ => fun
  | [d1, d2, d3] => { results := [.lit (.bool true)], args := [d1, d2, d3] }
  | _ => none }
def dividendPostingRow : OpenClaim := { program := "ytnkmjdaeafeaaaa", sum := "2ff4b8c35ca752c5d0367e564bf4daf148dc37bda287dcb9a582834b18779de9", func := "tallystone/tallystonelaw43.DividendPosting", spec := "dividendPosting", unfollowed := true, recurses := true, plainKeys := false, apart := false }
def DividendPostingSaid : Prop := dividendPostingRow.holds Try.pinned (OpenSpec.ofChange dividendPostingSpec)

/-- ITS FALSE NEIGHBOUR: 'it returns false'. Refute it at one input. -/
def dividendPostingWrong : ChangeSpec := { name := "dividendPosting", fn := fun _ => fun
  | [d1, d2, d3] => { results := [.lit (.bool false)], args := [d1, d2, d3] }
  | _ => none }
def DividendPostingWrongFalsely : Prop := dividendPostingRow.holds Try.pinned (OpenSpec.ofChange dividendPostingWrong)

/-- 'tallystonelaw43.DividendOthers': WHATEVER THE INPUT: true; the input reads as it did. -/
def dividendOthersSpec : ChangeSpec := { name := "dividendOthers", fn := fun _ => fun
  | [d1, d2, d3] => { results := [.lit (.bool true)], args := [d1, d2, d3] }
  | _ => none }
def dividendOthersRow : OpenClaim := { program := "ytnkmjdaeafeaaaa", sum := "2ff4b8c35ca752c5d0367e564bf4daf148dc37bda287dcb9a582834b18779de9", func := "tallystone/tallystonelaw43.DividendOthers", spec := "dividendOthers", unfollowed := true, recurses := true, plainKeys := false, apart := false }
def DividendOthersSaid : Prop := dividendOthersRow.holds Try.pinned (OpenSpec.ofChange dividendOthersSpec)

/-- ITS FALSE NEIGHBOUR: 'it returns false'. Refute it at one input. -/
def dividendOthersWrong : ChangeSpec := { name := "dividendOthers", fn := fun _ => fun
  | [d1, d2, d3] => { results := [.lit (.bool false)], args := [d1, d2, d3] }
  | _ => none }
def DividendOthersWrongFalsely : Prop := dividendOthersRow.holds Try.pinned (OpenSpec.ofChange dividendOthersWrong)

/-- 'tallystonelaw43.DividendLeft': WHATEVER THE INPUT: true; the input reads as it did. -/
def dividendLeftSpec : ChangeSpec := { name := "dividendLeft", fn := fun _ => fun
  | [d1, d2, d3] => { results := [.lit (.bool true)], args := [d1, d2, d3] }
  | _ => none }
def dividendLeftRow : OpenClaim := { program := "ytnkmjdaeafeaaaa", sum := "2ff4b8c35ca752c5d0367e564bf4daf148dc37bda287dcb9a582834b18779de9", func := "tallystone/tallystonelaw43.DividendLeft", spec := "dividendLeft", unfollowed := true, recurses := true, plainKeys := false, apart := false }
def DividendLeftSaid : Prop := dividendLeftRow.holds Try.pinned (OpenSpec.ofChange dividendLeftSpec)

/-- ITS FALSE NEIGHBOUR: 'it returns false'. Refute it at one input. -/
def dividendLeftWrong : ChangeSpec := { name := "dividendLeft", fn := fun _ => fun
  | [d1, d2, d3] => { results := [.lit (.bool false)], args := [d1, d2, d3] }
  | _ => none }
def DividendLeftWrongFalsely : Prop := dividendLeftRow.holds Try.pinned (OpenSpec.ofChange dividendLeftWrong)

/-- 'tallystonelaw42.InventorySums': WHATEVER THE INPUT: true; the input reads as it did. -/
def inventorySumsSpec : ChangeSpec := { name := "inventorySums", fn := fun _ => fun
  | [d1, d2, d3] => { results := [.lit (.bool true)], args := [d1, d2, d3] }
  | _ => none }
def inventorySumsRow : OpenClaim := { program := "ytnkmjdaeafeaaaa", sum := "2ff4b8c35ca752c5d0367e564bf4daf148dc37bda287dcb9a582834b18779de9", func := "tallystone/tallystonelaw42.InventorySums", spec := "inventorySums", unfollowed := true, recurses := true, plainKeys := false, apart := false }
def InventorySumsSaid : Prop := inventorySumsRow.holds Try.pinned (OpenSpec.ofChange inventorySumsSpec)

/-- ITS FALSE NEIGHBOUR: 'it returns false'. Refute it at one input. -/
def inventorySumsWrong : ChangeSpec := { name := "inventorySums", fn := fun _ => fun
  | [d1, d2, d3] => { results := [.lit (.bool false)], args := [d1, d2, d3] }
  | _ => none }
def InventorySumsWrongFalsely : Prop := inventorySumsRow.holds Try.pinned (OpenSpec.ofChange inventorySumsWrong)

/- THE SECOND FORM. 'bulk': how many values and letters a reading holds, each counted each time it is reached (what is shared counts as often as it is met; a slice's spare places count too). A statement '..UptoSaid' is the law's where the arguments, and the package variables that the reading takes, are together of bulk at most 1048576: NARROWER than '..Said'. Prove '..Said' where nothing that the law and all that it calls make is longer than what came in: it says more and counts as full. Else prove '..UptoSaid'. A law counts once. -/
mutual
def uptoBulk {H : Type} : DataW H → Nat
  | .lit (.string bytes) => bytes.length + 1
  | .lit _ => 1
  | .nil => 1
  | .ptr d => uptoBulk d + 1
  | .slice elems spare => uptoBulkAll elems + uptoBulkAll spare + 1
  | .agg parts => uptoBulkAll parts + 1
  | .iface _ d => uptoBulk d + 1
  | .map entries => uptoBulkEntries entries + 1
  | .held _ => 1
def uptoBulkAll {H : Type} : List (DataW H) → Nat
  | [] => 0
  | d :: r => uptoBulk d + uptoBulkAll r
def uptoBulkEntries {H : Type} : List (Lit × DataW H) → Nat
  | [] => 0
  | x :: r => uptoBulkEntry x + uptoBulkEntries r
def uptoBulkEntry {H : Type} : Lit × DataW H → Nat
  | (.string bytes, d) => bytes.length + uptoBulk d + 1
  | (_, d) => uptoBulk d + 1
 end
def uptoSmall : (H : Type) → List (DataW H) → Bool := fun _ ds => decide (uptoBulkAll ds ≤ 1048576)
def OpenSpec.upto (s : _root_.Go.ChangeSpec) : _root_.Go.OpenSpec := { _root_.Go.OpenSpec.ofChange s with cond := some uptoSmall }

/-- 'tallystonelaw10.GroupEntities', WHERE WHAT IT READS IS OF BULK AT MOST 1048576: true; the input reads as it did. -/
def groupEntitiesUptoRow : OpenClaim := { program := "ytnkmjdaeafeaaaa", sum := "2ff4b8c35ca752c5d0367e564bf4daf148dc37bda287dcb9a582834b18779de9", func := "tallystone/tallystonelaw10.GroupEntities", spec := "groupEntities", unfollowed := true, recurses := true, plainKeys := false, apart := false, narrowed := true }
def GroupEntitiesUptoSaid : Prop := groupEntitiesUptoRow.holds Try.pinned (OpenSpec.upto groupEntitiesSpec)

/-- 'tallystonelaw15.CarryKeeps', WHERE WHAT IT READS IS OF BULK AT MOST 1048576: true; the input reads as it did. -/
def carryKeepsUptoRow : OpenClaim := { program := "ytnkmjdaeafeaaaa", sum := "2ff4b8c35ca752c5d0367e564bf4daf148dc37bda287dcb9a582834b18779de9", func := "tallystone/tallystonelaw15.CarryKeeps", spec := "carryKeeps", unfollowed := true, recurses := true, plainKeys := false, apart := false, narrowed := true }
def CarryKeepsUptoSaid : Prop := carryKeepsUptoRow.holds Try.pinned (OpenSpec.upto carryKeepsSpec)

/-- 'tallystonelaw36.PostingValid', WHERE WHAT IT READS IS OF BULK AT MOST 1048576: true; the input reads as it did. -/
def postingValidUptoRow : OpenClaim := { program := "ytnkmjdaeafeaaaa", sum := "2ff4b8c35ca752c5d0367e564bf4daf148dc37bda287dcb9a582834b18779de9", func := "tallystone/tallystonelaw36.PostingValid", spec := "postingValid", unfollowed := true, recurses := true, plainKeys := false, apart := false, narrowed := true }
def PostingValidUptoSaid : Prop := postingValidUptoRow.holds Try.pinned (OpenSpec.upto postingValidSpec)

/-- 'tallystonelaw43.DividendPosting', WHERE WHAT IT READS IS OF BULK AT MOST 1048576: true; the input reads as it did. -/
def dividendPostingUptoRow : OpenClaim := { program := "ytnkmjdaeafeaaaa", sum := "2ff4b8c35ca752c5d0367e564bf4daf148dc37bda287dcb9a582834b18779de9", func := "tallystone/tallystonelaw43.DividendPosting", spec := "dividendPosting", unfollowed := true, recurses := true, plainKeys := false, apart := false, narrowed := true }
def DividendPostingUptoSaid : Prop := dividendPostingUptoRow.holds Try.pinned (OpenSpec.upto dividendPostingSpec)

/-- 'tallystonelaw43.DividendOthers', WHERE WHAT IT READS IS OF BULK AT MOST 1048576: true; the input reads as it did. -/
def dividendOthersUptoRow : OpenClaim := { program := "ytnkmjdaeafeaaaa", sum := "2ff4b8c35ca752c5d0367e564bf4daf148dc37bda287dcb9a582834b18779de9", func := "tallystone/tallystonelaw43.DividendOthers", spec := "dividendOthers", unfollowed := true, recurses := true, plainKeys := false, apart := false, narrowed := true }
def DividendOthersUptoSaid : Prop := dividendOthersUptoRow.holds Try.pinned (OpenSpec.upto dividendOthersSpec)

/-- 'tallystonelaw43.DividendLeft', WHERE WHAT IT READS IS OF BULK AT MOST 1048576: true; the input reads as it did. -/
def dividendLeftUptoRow : OpenClaim := { program := "ytnkmjdaeafeaaaa", sum := "2ff4b8c35ca752c5d0367e564bf4daf148dc37bda287dcb9a582834b18779de9", func := "tallystone/tallystonelaw43.DividendLeft", spec := "dividendLeft", unfollowed := true, recurses := true, plainKeys := false, apart := false, narrowed := true }
def DividendLeftUptoSaid : Prop := dividendLeftUptoRow.holds Try.pinned (OpenSpec.upto dividendLeftSpec)

/-- 'tallystonelaw42.InventorySums', WHERE WHAT IT READS IS OF BULK AT MOST 1048576: true; the input reads as it did. -/
def inventorySumsUptoRow : OpenClaim := { program := "ytnkmjdaeafeaaaa", sum := "2ff4b8c35ca752c5d0367e564bf4daf148dc37bda287dcb9a582834b18779de9", func := "tallystone/tallystonelaw42.InventorySums", spec := "inventorySums", unfollowed := true, recurses := true, plainKeys := false, apart := false, narrowed := true }
def InventorySumsUptoSaid : Prop := inventorySumsUptoRow.holds Try.pinned (OpenSpec.upto inventorySumsSpec)

end Rows
end Go.Proofs.Ytnkmjdaeafeaaaa
