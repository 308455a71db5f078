/- Texts of this claim, put together. -/
import Derived.Test.YtpklnlpeedkmdaaJAA
import Derived.Maps.Own
import Derived.Maps.OwnSet
import Derived.Maps.Views
import Derived.Maps.AppendAt
import Derived.Deep.QuietTactic
import Derived.BigQuiet
/- Words for maps of the call's own with whole numbers as keys: a set of numbers; sums. Over any program. -/
namespace Go.Proofs.Ytpklnlpeedkmdaa
set_option linter.unusedVariables false
set_option linter.unusedSimpArgs false
open Go.RowKit
open Go.Maps (Keyed)

theorem wf64 {c : Int} (h0 : -9223372036854775808 ≤ c) (h1 : c ≤ 9223372036854775807) : (Lit.int .i64 c).wf = true := by
  have := IntWalk.wrap64_in c ⟨h0, h1⟩
  rw [← this]
  exact wrap64_wf _

theorem grown_below {w w' : World} (h : Below w.heap.size w w') (row : Option Nat) : w.grownBy w' row := ⟨h.os, h.tape, h.output, h.size, fun j hj _ => h.block j hj⟩
theorem one_i64 (n : Int) : ∀ u ∈ [Value.int .i64 n], u.oneCell' = true := by
  intro u hu
  simp at hu
  subst hu
  rfl
/-- a row of the call's own stays through a call -/
theorem own_step {w w' : World} {base : Nat} {e : TypeId} {sz : Nat} {v : Value} {n : Nat} {xs : List Value} (h : w.ownsRow base e sz v n xs) (hb : Below w.heap.size w w') : w'.ownsRow base e sz v n xs := h.kept (grown_below hb none) (Classical.em _)

/-- Block b is a map of at most n entries in which just the numbers of S stand as true. -/
def SetW (P : Program) (k e : TypeId) (w : World) (b n : Nat) (S : List Int) : Prop :=
  ∃ D : DataW Unit, w.ownsMap P k (plainElem P e) b n D ∧ Maps.IsMap D ∧ ∀ c, D.atKey (.int .i64 c) (.lit (.bool false)) = .lit (.bool (decide (c ∈ S)))
/-- Block b is a map of at most n entries that says f. -/
def SumW (P : Program) (k e : TypeId) (w : World) (b n : Nat) (f : Int → Int) : Prop :=
  ∃ D : DataW Unit, w.ownsMap P k (plainElem P e) b n D ∧ Maps.IsMap D ∧ ∀ c, D.atKey (.int .i64 c) (.lit (.int .i64 0)) = .lit (.int .i64 (f c))

section
variable {P : Program} {k e t : TypeId} {w w' : World} {b n : Nat} {S : List Int} {f : Int → Int}
theorem SetW.made (w : World) : SetW P k e (w.alloc (.map #[] 0)) w.heap.size 0 [] := ⟨.map [], World.ownsMap_made _ _ _ _, Maps.isMap_empty, fun _ => by simp [DataW.atKey]⟩
theorem SumW.made (w : World) : SumW P k e (w.alloc (.map #[] 0)) w.heap.size 0 (fun _ => 0) := ⟨.map [], World.ownsMap_made _ _ _ _, Maps.isMap_empty, fun _ => by simp [DataW.atKey]⟩
theorem SetW.lt (h : SetW P k e w b n S) : b < w.heap.size := by obtain ⟨D, h, _⟩ := h; exact h.lt
theorem SumW.lt (h : SumW P k e w b n f) : b < w.heap.size := by obtain ⟨D, h, _⟩ := h; exact h.lt
theorem SetW.kept {row : Option Nat} (h : SetW P k e w b n S) (hg : w.grownBy w' row) (hne : some b ≠ row) : SetW P k e w' b n S := by obtain ⟨D, h, r⟩ := h; exact ⟨D, h.kept hg hne, r⟩
theorem SumW.kept {row : Option Nat} (h : SumW P k e w b n f) (hg : w.grownBy w' row) (hne : some b ≠ row) : SumW P k e w' b n f := by obtain ⟨D, h, r⟩ := h; exact ⟨D, h.kept hg hne, r⟩
theorem SetW.step (h : SetW P k e w b n S) (hb : Below w.heap.size w w') : SetW P k e w' b n S := h.kept (grown_below hb none) (by simp)
theorem SumW.step (h : SumW P k e w b n f) (hb : Below w.heap.size w w') : SumW P k e w' b n f := h.kept (grown_below hb none) (by simp)
theorem SetW.alloc (h : SetW P k e w b n S) (o : Obj) : SetW P k e (w.alloc o) b n S := h.kept (World.grownBy_alloc w o none) (by simp)
theorem SumW.alloc (h : SumW P k e w b n f) (o : Obj) : SumW P k e (w.alloc o) b n f := h.kept (World.grownBy_alloc w o none) (by simp)
theorem SetW.drewN (h : SetW P k e w b n S) (q : Nat) : SetW P k e (w.drewN q) b n S := h
theorem SumW.drewN (h : SumW P k e w b n f) (q : Nat) : SumW P k e (w.drewN q) b n f := h
theorem map_ne {R : Value → Option (DataW Unit × List MemPlace)} {D : DataW Unit} {base : Nat} {E : TypeId} {sz : Nat} {v : Value} {m : Nat} {xs : List Value} (h : w.ownsMap P k R b n D) (hr : w.ownsRow base E sz v m xs) : some b ≠ v.ownBlock := by
  obtain ⟨es, cl, hb, _⟩ := h
  rcases hr.2 with ⟨rfl, _⟩ | ⟨g, cap, cur, rfl, _, hg, _⟩
  · simp [Value.ownBlock]
  · simp only [Value.ownBlock, ne_eq, Option.some.injEq]
    rintro rfl
    rw [hb] at hg
    simp at hg
theorem SetW.ne {base : Nat} {E : TypeId} {sz : Nat} {v : Value} {m : Nat} {xs : List Value} (h : SetW P k e w b n S) (hr : w.ownsRow base E sz v m xs) : some b ≠ v.ownBlock := by
  obtain ⟨D, h, _⟩ := h
  exact map_ne h hr
theorem SumW.ne {base : Nat} {E : TypeId} {sz : Nat} {v : Value} {m : Nat} {xs : List Value} (h : SumW P k e w b n f) (hr : w.ownsRow base E sz v m xs) : some b ≠ v.ownBlock := by
  obtain ⟨D, h, _⟩ := h
  exact map_ne h hr
theorem SetW.blk_ne {g : Nat} {E : TypeId} {cs : Array Value} (h : SetW P k e w b n S) (hr : Blk w g E cs) : b ≠ g := by
  obtain ⟨D, ⟨es, cl, hb, _⟩, _⟩ := h
  rintro rfl
  unfold Blk at hr
  rw [hb] at hr
  simp at hr

theorem plainElem_bool_inv {e : TypeId} (he : P.underlying e = some .bool) {v : Value} {z : DataW Unit × List MemPlace} (h : plainElem P e v = some z) : ∃ x, v = .bool x ∧ z = (.lit (.bool x), []) := by
  unfold plainElem at h
  rw [he] at h
  cases v <;> simp at h
  exact ⟨_, rfl, h.symm⟩

/-- the look-up in a set -/
theorem SetW.look (h : SetW P k e w b n S) (hk : P.underlying k = some (.int .i64)) (he : P.underlying e = some .bool) (ht : P.underlying t = some (.map k e)) (hz : (zeroValue e).run P w = .ok (.bool false) w)
    {c : Int} (hc : (Lit.int .i64 c).wf = true) : (Instr.lookup t (.map (some b)) (.int .i64 c) false).run P w = .ok (.bool (decide (c ∈ S))) w := by
  obtain ⟨D, h, _, hD⟩ := h
  obtain ⟨v, ps, hrun, hv⟩ := h.lookup (Maps.int_keyed hk) ht hz (plainElem_bool he false) (Maps.keyOf_int_mk hk hc)
  obtain ⟨x, rfl, e2⟩ := plainElem_bool_inv he hv
  rw [hD c] at e2
  injection e2 with e2 _
  injection e2 with e2
  injection e2 with e2
  rw [hrun, e2]
/-- the look-up of a sum -/
theorem SumW.look (h : SumW P k e w b n f) (hk : P.underlying k = some (.int .i64)) (he : P.underlying e = some (.int .i64)) (ht : P.underlying t = some (.map k e)) (hz : (zeroValue e).run P w = .ok (.int .i64 0) w)
    {c : Int} (hc : (Lit.int .i64 c).wf = true) : (Instr.lookup t (.map (some b)) (.int .i64 c) false).run P w = .ok (.int .i64 (f c)) w := by
  obtain ⟨D, h, _, hD⟩ := h
  obtain ⟨x, hrun, hv, _⟩ := h.lookup_int (Maps.int_keyed hk) ht he hz (Maps.keyOf_int_mk hk hc)
  rw [hD c] at hv
  injection hv with hv
  injection hv with _ hv
  rw [hrun, hv]
theorem int_ne {c d : Int} (h : c ≠ d) : Lit.int .i64 c ≠ Lit.int .i64 d := fun e => h (by injection e)
theorem SetW.put {D : DataW Unit} {c : Int} (hm : Maps.IsMap D) (hD : ∀ c, D.atKey (.int .i64 c) (.lit (.bool false)) = .lit (.bool (decide (c ∈ S))))
    (h2 : w'.ownsMap P k (plainElem P e) b (n + 1) (D.put (.int .i64 c) (.lit (.bool true)))) : SetW P k e w' b (n + 1) (S ++ [c]) := by
  refine ⟨_, h2, hm.put _ _, fun d => ?_⟩
  by_cases hd : d = c
  · subst hd
    rw [Maps.atKey_put_same hm (show WideAt.IsKeyLit (.int .i64 d) from trivial)]
    simp
  · rw [Maps.atKey_put_other (int_ne hd), hD d]
    simp [hd]
theorem SumW.put {D : DataW Unit} {c x : Int} (hm : Maps.IsMap D) (hD : ∀ c, D.atKey (.int .i64 c) (.lit (.int .i64 0)) = .lit (.int .i64 (f c)))
    (h2 : w'.ownsMap P k (plainElem P e) b (n + 1) (D.put (.int .i64 c) (.lit (.int .i64 x)))) : SumW P k e w' b (n + 1) (fun d => if d = c then x else f d) := by
  refine ⟨_, h2, hm.put _ _, fun d => ?_⟩
  by_cases hd : d = c
  · subst hd
    rw [Maps.atKey_put_same hm (show WideAt.IsKeyLit (.int .i64 d) from trivial)]
    simp
  · rw [Maps.atKey_put_other (int_ne hd), hD d]
    simp [hd]
/-- a number is laid into the set: at the operation -/
theorem wpList_set_put {ops : Array Oper} {rest : List Oper} {o : Oper} {a : Act} {Q : Exit → Act → World → Prop} (hg : o.guard = none) (m x v : Operand) (t : TypeId) (hop : o.op = Op.mapUpdate t m x v)
    (hk : P.underlying k = some (.int .i64)) (he : P.underlying e = some .bool) (ht : P.underlying t = some (.map k e)) (h : SetW P k e w b n S) (hn : n < maxLen) (c : Int) (hc : (Lit.int .i64 c).wf = true)
    (hm : a.eval m = .map (some b)) (hx : a.eval x = .int .i64 c) (hv : a.eval v = .bool true)
    (hK : ∀ w', SetW P k e w' b (n + 1) (S ++ [c]) → w.grownBy w' (some b) → wpList P ops Q rest (a.put o.dst undef) w') : wpList P ops Q (o :: rest) a w := by
  obtain ⟨D, h, hM, hD⟩ := h
  exact wpList_mapUpdate_own w hg m x v t hop k e (Maps.int_keyed hk) ht _ b n D hm h hn _ _ _ hx hv (Maps.keyOf_int_mk hk hc) _ [] (plainElem_bool he true) fun w' h2 g2 => hK w' (SetW.put hM hD h2) g2
theorem wpList_sum_put {ops : Array Oper} {rest : List Oper} {o : Oper} {a : Act} {Q : Exit → Act → World → Prop} (hg : o.guard = none) (m x v : Operand) (t : TypeId) (hop : o.op = Op.mapUpdate t m x v)
    (hk : P.underlying k = some (.int .i64)) (he : P.underlying e = some (.int .i64)) (ht : P.underlying t = some (.map k e)) (h : SumW P k e w b n f) (hn : n < maxLen) (c y : Int) (hc : (Lit.int .i64 c).wf = true) (hy : (Lit.int .i64 y).wf = true)
    (hm : a.eval m = .map (some b)) (hx : a.eval x = .int .i64 c) (hv : a.eval v = .int .i64 y)
    (hK : ∀ w', SumW P k e w' b (n + 1) (fun d => if d = c then y else f d) → w.grownBy w' (some b) → wpList P ops Q rest (a.put o.dst undef) w') : wpList P ops Q (o :: rest) a w := by
  obtain ⟨D, h, hM, hD⟩ := h
  exact wpList_mapUpdate_own w hg m x v t hop k e (Maps.int_keyed hk) ht _ b n D hm h hn _ _ _ hx hv (Maps.keyOf_int_mk hk hc) _ [] (plainElem_int he hy) fun w' h2 g2 => hK w' (SumW.put hM hD h2) g2
end
end Go.Proofs.Ytpklnlpeedkmdaa
/- A region that draws its order, whose operations read and whose calls make memory: one walk. Over any program. -/
namespace Go.Proofs.Ytpklnlpeedkmdaa
set_option linter.unusedVariables false
set_option linter.unusedSimpArgs false
open Go.RowKit

theorem own_base {w : World} {base base' : Nat} {e : TypeId} {sz : Nat} {v : Value} {n : Nat} {xs : List Value} (h : w.ownsRow base e sz v n xs) (hB : base' ≤ base) : w.ownsRow base' e sz v n xs :=
  ⟨h.1, h.2.imp id fun ⟨g, cap, cur, h1, h2, h3⟩ => ⟨g, cap, cur, h1, by omega, h3⟩⟩
theorem upto_succ {p : Nat → Prop} {k : Nat} (h : ∀ j, j < k → p j) (hk : p k) : ∀ j, j < k + 1 → p j := fun j hj => by
  by_cases e : j = k
  · subst e; exact hk
  · exact h j (by omega)
/-- a world in which all that was there is as it was -/
structure Later (w : World) where
  now : World
  below : Below w.heap.size w now
instance instLater (w : World) : Nonempty (Later w) := ⟨⟨w, Below.refl _ _⟩⟩
namespace Later
variable {w : World} {P : Program}
theorem cell (d : Later w) {b o : Nat} {v : Value} (hb : b < w.heap.size) (h : w.cell? ⟨b, o, none⟩ = some v) : d.now.cell? ⟨b, o, none⟩ = some v := (d.below.cell (p := ⟨b, o, none⟩) hb).trans h
theorem call {f : FuncId} {args : Array Value} {v : Value} (d : Later w) (h : Calls P f args d.now fun e w' => e = .returned v ∧ Below d.now.heap.size d.now w') :
    Calls P f args d.now fun e w' => e = .returned v ∧ ∃ d' : Later w, w' = d'.now :=
  h.mono fun _ _ ⟨he, hb⟩ => ⟨he, ⟨_, bel d.below hb⟩, rfl⟩
theorem same {f : FuncId} {args : Array Value} {v : Value} (d : Later w) (h : Calls P f args d.now fun e w' => e = .returned v ∧ d.now = w') :
    Calls P f args d.now fun e w' => e = .returned v ∧ ∃ d' : Later w, w' = d'.now :=
  h.mono fun _ _ ⟨he, hb⟩ => ⟨he, d, hb.symm⟩
end Later
theorem wp_region_later {P : Program} {id : Nat} {Q : Exit → Act → World → Prop} {a : Act} {w : World} {l : List Oper} (hm : P.follows .mixedOrders = true) (hB : Region.lexB .any l.toArray = true)
    (h : wpQuiet P l.toArray (fun w' => ∃ d : Later w, w' = d.now) (fun a' => ∀ w', (∃ d : Later w, w' = d.now) → Q .normal a' w') l a) : (Code.region id l.toArray true).wp P Q a w :=
  wp_region_quiet (C := fun w' => ∃ d : Later w, w' = d.now) hm hB ⟨⟨w.drew, (Below.refl _ _).drew⟩, rfl⟩ (by simpa using h)
end Go.Proofs.Ytpklnlpeedkmdaa
