/- A region that draws its order, whose operations read and whose calls make memory: one walk. Over any program. -/
import Derived.Test.YtpklnlpeedkmdaaLibD
import Derived.Deep.QuietTactic
import Derived.BigQuiet
namespace Go.Proofs.Ytpklnlpeedkmdaa
set_option linter.unusedVariables false
set_option linter.unusedSimpArgs false
open Go.RowKit

theorem own_base {w : World} {base base' : Nat} {e : TypeId} {sz : Nat} {v : Value} {n : Nat} {xs : List Value} (h : w.ownsRow base e sz v n xs) (hB : base' ≤ base) : w.ownsRow base' e sz v n xs :=
  ⟨h.1, h.2.imp id fun ⟨g, cap, cur, h1, h2, h3⟩ => ⟨g, cap, cur, h1, by omega, h3⟩⟩
theorem upto_succ {p : Nat → Prop} {k : Nat} (h : ∀ j, j < k → p j) (hk : p k) : ∀ j, j < k + 1 → p j := fun j hj => by
  by_cases e : j = k
  · subst e; exact hk
  · exact h j (by omega)
/-- a world in which all that was there is as it was -/
structure Later (w : World) where
  now : World
  below : Below w.heap.size w now
instance instLater (w : World) : Nonempty (Later w) := ⟨⟨w, Below.refl _ _⟩⟩
namespace Later
variable {w : World} {P : Program}
theorem cell (d : Later w) {b o : Nat} {v : Value} (hb : b < w.heap.size) (h : w.cell? ⟨b, o, none⟩ = some v) : d.now.cell? ⟨b, o, none⟩ = some v := (d.below.cell (p := ⟨b, o, none⟩) hb).trans h
theorem call {f : FuncId} {args : Array Value} {v : Value} (d : Later w) (h : Calls P f args d.now fun e w' => e = .returned v ∧ Below d.now.heap.size d.now w') :
    Calls P f args d.now fun e w' => e = .returned v ∧ ∃ d' : Later w, w' = d'.now :=
  h.mono fun _ _ ⟨he, hb⟩ => ⟨he, ⟨_, bel d.below hb⟩, rfl⟩
theorem same {f : FuncId} {args : Array Value} {v : Value} (d : Later w) (h : Calls P f args d.now fun e w' => e = .returned v ∧ d.now = w') :
    Calls P f args d.now fun e w' => e = .returned v ∧ ∃ d' : Later w, w' = d'.now :=
  h.mono fun _ _ ⟨he, hb⟩ => ⟨he, d, hb.symm⟩
end Later
theorem wp_region_later {P : Program} {id : Nat} {Q : Exit → Act → World → Prop} {a : Act} {w : World} {l : List Oper} (hm : P.follows .mixedOrders = true) (hB : Region.lexB .any l.toArray = true)
    (h : wpQuiet P l.toArray (fun w' => ∃ d : Later w, w' = d.now) (fun a' => ∀ w', (∃ d : Later w, w' = d.now) → Q .normal a' w') l a) : (Code.region id l.toArray true).wp P Q a w :=
  wp_region_quiet (C := fun w' => ∃ d : Later w, w' = d.now) hm hB ⟨⟨w.drew, (Below.refl _ _).drew⟩, rfl⟩ (by simpa using h)
end Go.Proofs.Ytpklnlpeedkmdaa
