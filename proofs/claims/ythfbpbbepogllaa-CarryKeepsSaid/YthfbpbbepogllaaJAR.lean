/- Texts of this claim, put together. -/
import Derived.Test.YthfbpbbepogllaaJAP
import Derived.Test.YthfbpbbepogllaaJAO
import Derived.Test.YthfbpbbepogllaaJAQ
import Derived.Test.YthfbpbbepogllaaJAA
import Derived.DeepKeys4
import Derived.Test.YthfbpbbepogllaaJAD
import Derived.Test.YthfbpbbepogllaaApiZ
/- The walk of mapping.link. -/
namespace Go.Proofs.Ythfbpbbepogllaa
set_option linter.unusedVariables false
set_option linter.unusedSimpArgs false
open Go.RowKit

theorem day_any (n : Int) (w : World) : Calls Try.prog 116 #[.int .i64 n] w fun e w' => e = .returned (.bool (Gr.dayV n)) ∧ w = w' := dvalid_any n w
set_option maxRecDepth 100000 in
set_option maxHeartbeats 4000000 in
theorem link_any (xn xc : ByteArray) (l1 : List Acc) (A1 : Option Addr) (c1 : Nat) (v2 : Value) (xj : Bool) (cl : List Acc) (cA : Option Addr) (cc : Nat) (f t s : Int) (l2n : Nat) (A2 : Option Addr) (c2 : Nat) (w : World)
    (h1 : Rd w w.heap.size 4 A1 l1.length (Ch.cells l1)) (h2 : Rd w w.heap.size 4 cA cl.length (Ch.cells cl)) (hn1 : l1.length ≤ 300000) (hn2 : cl.length ≤ 300000) :
    Calls Try.prog 110 #[.agg #[.string xn, .string xc, .slice A1 l1.length c1, .slice A2 l2n c2, .bool xj], .slice cA cl.length cc, .agg #[.int .i64 f, .int .i64 t, .int .i64 s]] w (BoolPost (Gr.linkV l1 cl ⟨f, t, s⟩) w) := by
  have H1 := Lib.hid h1
  have H2 := Lib.hid h2
  have HD : Hid (Gr.linkV l1 cl ⟨f, t, s⟩ = (Ch.fnB l1 f && (Ch.fnB cl t && (decide ((Ch.fnV l1 f).kind = (Ch.fnV cl t).kind) && Gr.dayV s)))) := Lib.hid rfl
  have hb : Below w.heap.size w ((w.alloc (.cells #[.string xn, .string xc, .slice A1 l1.length c1, .slice A2 l2n c2, .bool xj] 88)).alloc (.cells #[.int .i64 f, .int .i64 t, .int .i64 s] 118)) := by
    have hb := Below.refl w.heap.size w
    exact (by repeat (first | exact hb | refine Below.alloc ?_ (by have hbs := hb.size; first | omega | (simp; done) | (simp; omega)) _ | refine Below.drew ?_ | refine below_drewN_ ?_ _ | refine Below.setCell ?_ (by simp) _))
  have hB0 := Blk.new (w.alloc (.cells #[.string xn, .string xc, .slice A1 l1.length c1, .slice A2 l2n c2, .bool xj] 88)) 118 #[.int .i64 f, .int .i64 t, .int .i64 s]
  have e1 : (w.alloc (.cells #[.string xn, .string xc, .slice A1 l1.length c1, .slice A2 l2n c2, .bool xj] 88)).heap.size = w.heap.size + 1 := by simp
  rw [e1] at hB0
  have HB := Lib.hid hB0
  clear h1 h2 e1 hB0
  generalize Gr.linkV l1 cl ⟨f, t, s⟩ = V at *
  have K1 := Lib.hid (fun W h => find_gen l1 f A1 c1 W h hn1)
  have K2 := Lib.hid (fun W h => find_gen cl t cA cc W h hn2)
  have K3 := Lib.hid (fun W => day_any s W)
  generalize Ch.fnV l1 f = a1 at *
  generalize Ch.fnB l1 f = b1 at *
  generalize Ch.fnV cl t = a2 at *
  generalize Ch.fnB cl t = b2 at *
  generalize Gr.dayV s = d at *
  go_enter Try.func110, Try.ntmps110
  go_wp2_with fail
  generalize hgen : (w.alloc (.cells #[.string xn, .string xc, .slice A1 l1.length c1, .slice A2 l2n c2, .bool xj] 88)).alloc (.cells #[.int .i64 f, .int .i64 t, .int .i64 s] 118) = W at *
  clear hgen
  refine (K1.out W (Rd.now H1.out hb)).mono ?_
  rintro e w2 ⟨rfl, hb9⟩
  replace hb := bel hb hb9
  have HX := Lib.hid (Blk.new w2 99 #[.int .i64 a1.code, .int .i64 a1.kind, .int .i64 a1.basis, .int .i64 a1.parent])
  have HB2 := Lib.hid ((HB.out.step hb9).alloc (.cells #[.int .i64 a1.code, .int .i64 a1.kind, .int .i64 a1.basis, .int .i64 a1.parent] 99))
  have f1 : (w2.alloc (.cells #[.int .i64 a1.code, .int .i64 a1.kind, .int .i64 a1.basis, .int .i64 a1.parent] 99)).cell? ⟨w.heap.size + 1, 1, none⟩ = some (.int .i64 t) := HB2.out.cell 1
  have hb1 := hb.alloc hb.size (.cells #[.int .i64 a1.code, .int .i64 a1.kind, .int .i64 a1.basis, .int .i64 a1.parent] 99)
  clear hb9 HB
  go_wp2_with fail
  clear f1
  generalize hgen : w2.alloc (.cells #[.int .i64 a1.code, .int .i64 a1.kind, .int .i64 a1.basis, .int .i64 a1.parent] 99) = W2 at *
  clear hgen
  refine (K2.out W2 (Rd.now H2.out hb1)).mono ?_
  rintro e w3 ⟨rfl, hb9⟩
  have hb2 := bel hb1 hb9
  have hX := (HX.out.step hb9).alloc (.cells #[.int .i64 a2.code, .int .i64 a2.kind, .int .i64 a2.basis, .int .i64 a2.parent] 99)
  have hL := (HB2.out.step hb9).alloc (.cells #[.int .i64 a2.code, .int .i64 a2.kind, .int .i64 a2.basis, .int .i64 a2.parent] 99)
  have q1 : (w3.alloc (.cells #[.int .i64 a2.code, .int .i64 a2.kind, .int .i64 a2.basis, .int .i64 a2.parent] 99)).cell? ⟨w2.heap.size, 1, none⟩ = some (.int .i64 a1.kind) := hX.cell 1
  have q2 : (w3.alloc (.cells #[.int .i64 a2.code, .int .i64 a2.kind, .int .i64 a2.basis, .int .i64 a2.parent] 99)).cell? ⟨w.heap.size + 1, 2, none⟩ = some (.int .i64 s) := hL.cell 2
  have hb3 := hb2.alloc hb2.size (.cells #[.int .i64 a2.code, .int .i64 a2.kind, .int .i64 a2.basis, .int .i64 a2.parent] 99)
  have HD' := Lib.hid HD.out
  clear hX hL hb9 HB2 HX
  cases hk : (a1.kind == a2.kind) <;> cases b1 <;> cases b2
  all_goals
    go_wp2_with (go_at_call 116; refine ((K3.out _)).mono ?_; rintro e w2 ⟨rfl, rfl⟩)
    go_ret
    exact ⟨by rw [HD'.out]; simp at hk; simp [hk], hb3⟩
end Go.Proofs.Ythfbpbbepogllaa
/- A map of the call's own that says true or false of keys of any type. Over any program. -/
namespace Go.Proofs.Ythfbpbbepogllaa
set_option linter.unusedVariables false
set_option linter.unusedSimpArgs false
open Go.RowKit
open Go.Maps (Keyed)

/-- Block b is a map of at most n entries that says f of the keys. -/
def SaysW (P : Program) (k e : TypeId) (w : World) (b n : Nat) (f : Value → Bool) : Prop :=
  ∃ D : DataW Unit, w.ownsMap P k (plainElem P e) b n D ∧ Maps.IsMap D ∧ ∀ v l, keyOf P k v = some l → D.atKey l (.lit (.bool false)) = .lit (.bool (f v))
section
variable {P : Program} {k e t : TypeId} {w w' : World} {b n : Nat} {f g : Value → Bool}
theorem SaysW.made (w : World) : SaysW P k e (w.alloc (.map #[] 0)) w.heap.size 0 (fun _ => false) := ⟨.map [], World.ownsMap_made _ _ _ _, Maps.isMap_empty, fun _ _ _ => by simp [DataW.atKey]⟩
theorem SaysW.lt (h : SaysW P k e w b n f) : b < w.heap.size := by obtain ⟨D, h, _⟩ := h; exact h.lt
theorem SaysW.kept {row : Option Nat} (h : SaysW P k e w b n f) (hg : w.grownBy w' row) (hne : some b ≠ row) : SaysW P k e w' b n f := by obtain ⟨D, h, r⟩ := h; exact ⟨D, h.kept hg hne, r⟩
theorem SaysW.step (h : SaysW P k e w b n f) (hb : Below w.heap.size w w') : SaysW P k e w' b n f := h.kept (grown_below hb none) (by simp)
theorem SaysW.alloc (h : SaysW P k e w b n f) (o : Obj) : SaysW P k e (w.alloc o) b n f := h.kept (World.grownBy_alloc w o none) (by simp)
theorem SaysW.blk_ne {g : Nat} {E : TypeId} {cs : Array Value} (h : SaysW P k e w b n f) (hr : Blk w g E cs) : b ≠ g := by
  obtain ⟨D, ⟨es, cl, hb, _⟩, _⟩ := h
  rintro rfl
  unfold Blk at hr
  rw [hb] at hr
  simp at hr
theorem SaysW.congr (h : SaysW P k e w b n f) (hf : ∀ v l, keyOf P k v = some l → f v = g v) : SaysW P k e w b n g := by
  obtain ⟨D, h1, h2, h3⟩ := h
  exact ⟨D, h1, h2, fun v l hv => by rw [h3 v l hv, hf v l hv]⟩
/-- the look-up -/
theorem SaysW.look (h : SaysW P k e w b n f) (hk : Keyed P k) (he : P.underlying e = some .bool) (ht : P.underlying t = some (.map k e)) (hz : (zeroValue e).run P w = .ok (.bool false) w)
    {v : Value} {l : Lit} (hl : keyOf P k v = some l) : (Instr.lookup t (.map (some b)) v false).run P w = .ok (.bool (f v)) w := by
  obtain ⟨D, h, _, hD⟩ := h
  obtain ⟨v', ps, hrun, hv⟩ := h.lookup hk ht hz (plainElem_bool he false) hl
  obtain ⟨x, rfl, e2⟩ := plainElem_bool_inv he hv
  rw [hD v l hl] at e2
  injection e2 with e2 _
  injection e2 with e2
  injection e2 with e2
  rw [hrun, e2]
theorem SaysW.put {D : DataW Unit} {v : Value} {l : Lit} {x : Bool} (hk : Keyed P k) (hm : Maps.IsMap D) (hD : ∀ v l, keyOf P k v = some l → D.atKey l (.lit (.bool false)) = .lit (.bool (f v))) (hl : keyOf P k v = some l)
    (hg : g v = x) (hgo : ∀ u lu, keyOf P k u = some lu → u ≠ v → g u = f u) (h2 : w'.ownsMap P k (plainElem P e) b (n + 1) (D.put l (.lit (.bool x)))) : SaysW P k e w' b (n + 1) g := by
  refine ⟨_, h2, hm.put _ _, fun u lu hu => ?_⟩
  by_cases hd : lu = l
  · subst hd
    obtain rfl := hk.inj hu hl
    rw [Maps.atKey_put_same hm (hk.key hl), hg]
  · rw [Maps.atKey_put_other hd, hD u lu hu, hgo u lu hu (fun e => hd (by rw [e, hl] at hu; injection hu with hu; exact hu.symm))]
/-- a word is laid: at the operation -/
theorem wpList_says_put {ops : Array Oper} {rest : List Oper} {o : Oper} {a : Act} {Q : Exit → Act → World → Prop} (g : Value → Bool) (hgd : o.guard = none) (m x v : Operand) (t : TypeId) (hop : o.op = Op.mapUpdate t m x v)
    (hk : Keyed P k) (he : P.underlying e = some .bool) (ht : P.underlying t = some (.map k e)) (h : SaysW P k e w b n f) (hn : n < maxLen) (y : Value) (l : Lit) (z : Bool) (hl : keyOf P k y = some l)
    (hm : a.eval m = .map (some b)) (hx : a.eval x = y) (hv : a.eval v = .bool z) (hg : g y = z) (hgo : ∀ u lu, keyOf P k u = some lu → u ≠ y → g u = f u)
    (hK : ∀ w', SaysW P k e w' b (n + 1) g → w.grownBy w' (some b) → wpList P ops Q rest (a.put o.dst undef) w') : wpList P ops Q (o :: rest) a w := by
  obtain ⟨D, h, hM, hD⟩ := h
  exact wpList_mapUpdate_own w hgd m x v t hop k e hk ht _ b n D hm h hn _ _ _ hx hv hl _ [] (plainElem_bool he z) fun w' h2 g2 => hK w' (SaysW.put hk hM hD hl hg hgo h2) g2
end
theorem SetW.isMap {P : Program} {k e : TypeId} {w : World} {b n : Nat} {S : List Int} (h : SetW P k e w b n S) : ∃ es cl, w.heap[b]? = some (.map es cl) := by
  obtain ⟨D, ⟨es, cl, hb, _⟩, _⟩ := h
  exact ⟨es, cl, hb⟩
theorem SaysW.isMap {P : Program} {k e : TypeId} {w : World} {b n : Nat} {f : Value → Bool} (h : SaysW P k e w b n f) : ∃ es cl, w.heap[b]? = some (.map es cl) := by
  obtain ⟨D, ⟨es, cl, hb, _⟩, _⟩ := h
  exact ⟨es, cl, hb⟩
theorem SumW.isMap {P : Program} {k e : TypeId} {w : World} {b n : Nat} {f : Int → Int} (h : SumW P k e w b n f) : ∃ es cl, w.heap[b]? = some (.map es cl) := by
  obtain ⟨D, ⟨es, cl, hb, _⟩, _⟩ := h
  exact ⟨es, cl, hb⟩
/-- a list in cells stays where a map turns -/
theorem Rd.past {w w' : World} {B sz n m : Nat} {A : Option Addr} {xs : List Value} (h : Rd w B sz A n xs) (hg : w.grownBy w' (some m)) (hm : ∃ es cl, w.heap[m]? = some (.map es cl)) : Rd w' B sz A n xs :=
  ⟨h.1, fun hn => by
    obtain ⟨b, o, e, hb, hc⟩ := h.2 hn
    refine ⟨b, o, e, hb, fun j u hu => hg.cell (hc j u hu) fun e2 => ?_⟩
    injection e2 with e2
    obtain ⟨es, cl, hm⟩ := hm
    have h1 := hc j u hu
    subst e2
    simp [World.cell?, hm] at h1⟩
end Go.Proofs.Ythfbpbbepogllaa
/- Links as keys. -/
namespace Go.Proofs.Ythfbpbbepogllaa
set_option linter.unusedVariables false
set_option linter.unusedSimpArgs false
open Go.RowKit
open Go.Maps (Keyed)

theorem keyed_link : Keyed Try.prog 118 := Keyed.of_law (deep_law_laid (by kernel_rfl) (m := 3) (by decide) (of_decide_eq_true (by kernel_rfl)) (by kernel_rfl) (by kernel_rfl))
theorem int_lits (d : Nat) (hd : 0 < d) {a : Int} (ha : (Lit.int .i64 a).wf = true) : (Try.prog).keyLits d 3 [.int .i64 a] = some [.int .i64 a] := by
  obtain ⟨d, rfl⟩ : ∃ k, d = k + 1 := ⟨d - 1, by omega⟩
  unfold Program.keyLits
  rw [Try.underlying3]
  simp [ha]
theorem link_key {a b c : Int} (ha : (Lit.int .i64 a).wf = true) (hb : (Lit.int .i64 b).wf = true) (hc : (Lit.int .i64 c).wf = true) : ∃ l, keyOf Try.prog 118 (.agg #[.int .i64 a, .int .i64 b, .int .i64 c]) = some l := by
  have h1 : (Try.prog).keyType 118 = true := by kernel_rfl
  have h2 : (Try.prog).cellsOf 118 = 3 := by kernel_rfl
  have h3 : (Try.prog).cellsOf 3 = 1 := by kernel_rfl
  unfold keyOf
  rw [Try.underlying118]
  simp only [h1, Value.formed, Try.underlying118, h2, Bool.true_and]
  unfold Program.keyLits
  rw [Try.underlying118]
  simp [h2, h3, Value.cells, int_lits _ _ ha, int_lits _ _ hb, int_lits _ _ hc]
theorem link_val {a b c d : Int} (y z : Int) : (Value.agg #[.int .i64 a, .int .i64 y, .int .i64 b] = Value.agg #[.int .i64 c, .int .i64 z, .int .i64 d]) ↔ (a = c ∧ y = z ∧ b = d) := by simp
theorem zero_link (w : World) : (zeroValue 118).run Try.prog w = .ok (.agg #[.int .i64 0, .int .i64 0, .int .i64 0]) w := by kernel_rfl
end Go.Proofs.Ythfbpbbepogllaa
