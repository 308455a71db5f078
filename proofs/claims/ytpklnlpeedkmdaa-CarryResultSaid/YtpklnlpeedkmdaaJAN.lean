/- Texts of this claim, put together. -/
import Derived.Test.YtpklnlpeedkmdaaJAB
import Derived.DeepKeys4
import Derived.Test.YtpklnlpeedkmdaaJAG
import Derived.Test.YtpklnlpeedkmdaaApiZ
/- A map of the call's own that says true or false of keys of any type. Over any program. -/
namespace Go.Proofs.Ytpklnlpeedkmdaa
set_option linter.unusedVariables false
set_option linter.unusedSimpArgs false
open Go.RowKit
open Go.Maps (Keyed)

/-- Block b is a map of at most n entries that says f of the keys. -/
def SaysW (P : Program) (k e : TypeId) (w : World) (b n : Nat) (f : Value → Bool) : Prop :=
  ∃ D : DataW Unit, w.ownsMap P k (plainElem P e) b n D ∧ Maps.IsMap D ∧ ∀ v l, keyOf P k v = some l → D.atKey l (.lit (.bool false)) = .lit (.bool (f v))
section
variable {P : Program} {k e t : TypeId} {w w' : World} {b n : Nat} {f g : Value → Bool}
theorem SaysW.made (w : World) : SaysW P k e (w.alloc (.map #[] 0)) w.heap.size 0 (fun _ => false) := ⟨.map [], World.ownsMap_made _ _ _ _, Maps.isMap_empty, fun _ _ _ => by simp [DataW.atKey]⟩
theorem SaysW.lt (h : SaysW P k e w b n f) : b < w.heap.size := by obtain ⟨D, h, _⟩ := h; exact h.lt
theorem SaysW.kept {row : Option Nat} (h : SaysW P k e w b n f) (hg : w.grownBy w' row) (hne : some b ≠ row) : SaysW P k e w' b n f := by obtain ⟨D, h, r⟩ := h; exact ⟨D, h.kept hg hne, r⟩
theorem SaysW.step (h : SaysW P k e w b n f) (hb : Below w.heap.size w w') : SaysW P k e w' b n f := h.kept (grown_below hb none) (by simp)
theorem SaysW.alloc (h : SaysW P k e w b n f) (o : Obj) : SaysW P k e (w.alloc o) b n f := h.kept (World.grownBy_alloc w o none) (by simp)
theorem SaysW.blk_ne {g : Nat} {E : TypeId} {cs : Array Value} (h : SaysW P k e w b n f) (hr : Blk w g E cs) : b ≠ g := by
  obtain ⟨D, ⟨es, cl, hb, _⟩, _⟩ := h
  rintro rfl
  unfold Blk at hr
  rw [hb] at hr
  simp at hr
theorem SaysW.congr (h : SaysW P k e w b n f) (hf : ∀ v l, keyOf P k v = some l → f v = g v) : SaysW P k e w b n g := by
  obtain ⟨D, h1, h2, h3⟩ := h
  exact ⟨D, h1, h2, fun v l hv => by rw [h3 v l hv, hf v l hv]⟩
/-- the look-up -/
theorem SaysW.look (h : SaysW P k e w b n f) (hk : Keyed P k) (he : P.underlying e = some .bool) (ht : P.underlying t = some (.map k e)) (hz : (zeroValue e).run P w = .ok (.bool false) w)
    {v : Value} {l : Lit} (hl : keyOf P k v = some l) : (Instr.lookup t (.map (some b)) v false).run P w = .ok (.bool (f v)) w := by
  obtain ⟨D, h, _, hD⟩ := h
  obtain ⟨v', ps, hrun, hv⟩ := h.lookup hk ht hz (plainElem_bool he false) hl
  obtain ⟨x, rfl, e2⟩ := plainElem_bool_inv he hv
  rw [hD v l hl] at e2
  injection e2 with e2 _
  injection e2 with e2
  injection e2 with e2
  rw [hrun, e2]
theorem SaysW.put {D : DataW Unit} {v : Value} {l : Lit} {x : Bool} (hk : Keyed P k) (hm : Maps.IsMap D) (hD : ∀ v l, keyOf P k v = some l → D.atKey l (.lit (.bool false)) = .lit (.bool (f v))) (hl : keyOf P k v = some l)
    (hg : g v = x) (hgo : ∀ u lu, keyOf P k u = some lu → u ≠ v → g u = f u) (h2 : w'.ownsMap P k (plainElem P e) b (n + 1) (D.put l (.lit (.bool x)))) : SaysW P k e w' b (n + 1) g := by
  refine ⟨_, h2, hm.put _ _, fun u lu hu => ?_⟩
  by_cases hd : lu = l
  · subst hd
    obtain rfl := hk.inj hu hl
    rw [Maps.atKey_put_same hm (hk.key hl), hg]
  · rw [Maps.atKey_put_other hd, hD u lu hu, hgo u lu hu (fun e => hd (by rw [e, hl] at hu; injection hu with hu; exact hu.symm))]
/-- a word is laid: at the operation -/
theorem wpList_says_put {ops : Array Oper} {rest : List Oper} {o : Oper} {a : Act} {Q : Exit → Act → World → Prop} (g : Value → Bool) (hgd : o.guard = none) (m x v : Operand) (t : TypeId) (hop : o.op = Op.mapUpdate t m x v)
    (hk : Keyed P k) (he : P.underlying e = some .bool) (ht : P.underlying t = some (.map k e)) (h : SaysW P k e w b n f) (hn : n < maxLen) (y : Value) (l : Lit) (z : Bool) (hl : keyOf P k y = some l)
    (hm : a.eval m = .map (some b)) (hx : a.eval x = y) (hv : a.eval v = .bool z) (hg : g y = z) (hgo : ∀ u lu, keyOf P k u = some lu → u ≠ y → g u = f u)
    (hK : ∀ w', SaysW P k e w' b (n + 1) g → w.grownBy w' (some b) → wpList P ops Q rest (a.put o.dst undef) w') : wpList P ops Q (o :: rest) a w := by
  obtain ⟨D, h, hM, hD⟩ := h
  exact wpList_mapUpdate_own w hgd m x v t hop k e hk ht _ b n D hm h hn _ _ _ hx hv hl _ [] (plainElem_bool he z) fun w' h2 g2 => hK w' (SaysW.put hk hM hD hl hg hgo h2) g2
end
theorem SetW.isMap {P : Program} {k e : TypeId} {w : World} {b n : Nat} {S : List Int} (h : SetW P k e w b n S) : ∃ es cl, w.heap[b]? = some (.map es cl) := by
  obtain ⟨D, ⟨es, cl, hb, _⟩, _⟩ := h
  exact ⟨es, cl, hb⟩
theorem SaysW.isMap {P : Program} {k e : TypeId} {w : World} {b n : Nat} {f : Value → Bool} (h : SaysW P k e w b n f) : ∃ es cl, w.heap[b]? = some (.map es cl) := by
  obtain ⟨D, ⟨es, cl, hb, _⟩, _⟩ := h
  exact ⟨es, cl, hb⟩
theorem SumW.isMap {P : Program} {k e : TypeId} {w : World} {b n : Nat} {f : Int → Int} (h : SumW P k e w b n f) : ∃ es cl, w.heap[b]? = some (.map es cl) := by
  obtain ⟨D, ⟨es, cl, hb, _⟩, _⟩ := h
  exact ⟨es, cl, hb⟩
/-- a list in cells stays where a map turns -/
theorem Rd.past {w w' : World} {B sz n m : Nat} {A : Option Addr} {xs : List Value} (h : Rd w B sz A n xs) (hg : w.grownBy w' (some m)) (hm : ∃ es cl, w.heap[m]? = some (.map es cl)) : Rd w' B sz A n xs :=
  ⟨h.1, fun hn => by
    obtain ⟨b, o, e, hb, hc⟩ := h.2 hn
    refine ⟨b, o, e, hb, fun j u hu => hg.cell (hc j u hu) fun e2 => ?_⟩
    injection e2 with e2
    obtain ⟨es, cl, hm⟩ := hm
    have h1 := hc j u hu
    subst e2
    simp [World.cell?, hm] at h1⟩
end Go.Proofs.Ytpklnlpeedkmdaa
/- Links as keys. -/
namespace Go.Proofs.Ytpklnlpeedkmdaa
set_option linter.unusedVariables false
set_option linter.unusedSimpArgs false
open Go.RowKit
open Go.Maps (Keyed)

theorem keyed_link : Keyed Try.prog 109 := Keyed.of_law (deep_law_laid (by kernel_rfl) (m := 3) (by decide) (of_decide_eq_true (by kernel_rfl)) (by kernel_rfl) (by kernel_rfl))
theorem int_lits (d : Nat) (hd : 0 < d) {a : Int} (ha : (Lit.int .i64 a).wf = true) : (Try.prog).keyLits d 3 [.int .i64 a] = some [.int .i64 a] := by
  obtain ⟨d, rfl⟩ : ∃ k, d = k + 1 := ⟨d - 1, by omega⟩
  unfold Program.keyLits
  rw [Try.underlying3]
  simp [ha]
theorem link_key {a b c : Int} (ha : (Lit.int .i64 a).wf = true) (hb : (Lit.int .i64 b).wf = true) (hc : (Lit.int .i64 c).wf = true) : ∃ l, keyOf Try.prog 109 (.agg #[.int .i64 a, .int .i64 b, .int .i64 c]) = some l := by
  have h1 : (Try.prog).keyType 109 = true := by kernel_rfl
  have h2 : (Try.prog).cellsOf 109 = 3 := by kernel_rfl
  have h3 : (Try.prog).cellsOf 3 = 1 := by kernel_rfl
  unfold keyOf
  rw [Try.underlying109]
  simp only [h1, Value.formed, Try.underlying109, h2, Bool.true_and]
  unfold Program.keyLits
  rw [Try.underlying109]
  simp [h2, h3, Value.cells, int_lits _ _ ha, int_lits _ _ hb, int_lits _ _ hc]
theorem link_val {a b c d : Int} (y z : Int) : (Value.agg #[.int .i64 a, .int .i64 y, .int .i64 b] = Value.agg #[.int .i64 c, .int .i64 z, .int .i64 d]) ↔ (a = c ∧ y = z ∧ b = d) := by simp
theorem zero_link (w : World) : (zeroValue 109).run Try.prog w = .ok (.agg #[.int .i64 0, .int .i64 0, .int .i64 0]) w := by kernel_rfl
end Go.Proofs.Ytpklnlpeedkmdaa
