/- Texts of this claim, put together. -/
import Derived.Test.YtnddoehhcpejjaaGreatJAI
import Derived.Test.YtnddoehhcpejjaaGreatChartWalksHZ
import Derived.Test.YtnddoehhcpejjaaGreatJAJ
import Derived.Test.YtnddoehhcpejjaaGreatJAA
import Derived.DeepKeys4
import Derived.Test.YtnddoehhcpejjaaGreatJAD
import Derived.Test.YtnddoehhcpejjaaGreatApiZ
import Derived.Test.YtnddoehhcpejjaaGreatJAH
/- The walk of mapping.link. -/
namespace Go.Proofs.YtnddoehhcpejjaaGreat
set_option linter.unusedVariables false
set_option linter.unusedSimpArgs false
open Go.RowKit

theorem day_any (n : Int) (w : World) : Calls Tryz.prog 45 #[.int .i64 n] w fun e w' => e = .returned (.bool (Gr.dayV n)) ∧ w = w' := dvalid_any n w
set_option maxRecDepth 100000 in
set_option maxHeartbeats 4000000 in
theorem link_any (xn xc : ByteArray) (l1 : List Acc) (A1 : Option Addr) (c1 : Nat) (v2 : Value) (xj : Bool) (cl : List Acc) (cA : Option Addr) (cc : Nat) (f t s : Int) (l2n : Nat) (A2 : Option Addr) (c2 : Nat) (w : World)
    (h1 : Rd w w.heap.size 4 A1 l1.length (Ch.cells l1)) (h2 : Rd w w.heap.size 4 cA cl.length (Ch.cells cl)) (hn1 : l1.length ≤ 300000) (hn2 : cl.length ≤ 300000) :
    Calls Tryz.prog 124 #[.agg #[.string xn, .string xc, .slice A1 l1.length c1, .slice A2 l2n c2, .bool xj], .slice cA cl.length cc, .agg #[.int .i64 f, .int .i64 t, .int .i64 s]] w (BoolPost (Gr.linkV l1 cl ⟨f, t, s⟩) w) := by
  have H1 := Lib.hid h1
  have H2 := Lib.hid h2
  have HD : Hid (Gr.linkV l1 cl ⟨f, t, s⟩ = (Ch.fnB l1 f && (Ch.fnB cl t && (decide ((Ch.fnV l1 f).kind = (Ch.fnV cl t).kind) && Gr.dayV s)))) := Lib.hid rfl
  have hb : Below w.heap.size w ((w.alloc (.cells #[.string xn, .string xc, .slice A1 l1.length c1, .slice A2 l2n c2, .bool xj] 90)).alloc (.cells #[.int .i64 f, .int .i64 t, .int .i64 s] 126)) := by
    have hb := Below.refl w.heap.size w
    exact (by repeat (first | exact hb | refine Below.alloc ?_ (by have hbs := hb.size; first | omega | (simp; done) | (simp; omega)) _ | refine Below.drew ?_ | refine below_drewN_ ?_ _ | refine Below.setCell ?_ (by simp) _))
  have hB0 := Blk.new (w.alloc (.cells #[.string xn, .string xc, .slice A1 l1.length c1, .slice A2 l2n c2, .bool xj] 90)) 126 #[.int .i64 f, .int .i64 t, .int .i64 s]
  have e1 : (w.alloc (.cells #[.string xn, .string xc, .slice A1 l1.length c1, .slice A2 l2n c2, .bool xj] 90)).heap.size = w.heap.size + 1 := by simp
  rw [e1] at hB0
  have HB := Lib.hid hB0
  clear h1 h2 e1 hB0
  generalize Gr.linkV l1 cl ⟨f, t, s⟩ = V at *
  have K1 := Lib.hid (fun W h => find_gen l1 f A1 c1 W h hn1)
  have K2 := Lib.hid (fun W h => find_gen cl t cA cc W h hn2)
  have K3 := Lib.hid (fun W => day_any s W)
  generalize Ch.fnV l1 f = a1 at *
  generalize Ch.fnB l1 f = b1 at *
  generalize Ch.fnV cl t = a2 at *
  generalize Ch.fnB cl t = b2 at *
  generalize Gr.dayV s = d at *
  go_enter Tryz.func124, Tryz.ntmps124
  go_wp2_with fail
  generalize hgen : (w.alloc (.cells #[.string xn, .string xc, .slice A1 l1.length c1, .slice A2 l2n c2, .bool xj] 90)).alloc (.cells #[.int .i64 f, .int .i64 t, .int .i64 s] 126) = W at *
  clear hgen
  refine (K1.out W (Rd.now H1.out hb)).mono ?_
  rintro e w2 ⟨rfl, hb9⟩
  replace hb := bel hb hb9
  have HX := Lib.hid (Blk.new w2 121 #[.int .i64 a1.code, .int .i64 a1.kind, .int .i64 a1.basis, .int .i64 a1.parent])
  have HB2 := Lib.hid ((HB.out.step hb9).alloc (.cells #[.int .i64 a1.code, .int .i64 a1.kind, .int .i64 a1.basis, .int .i64 a1.parent] 121))
  have f1 : (w2.alloc (.cells #[.int .i64 a1.code, .int .i64 a1.kind, .int .i64 a1.basis, .int .i64 a1.parent] 121)).cell? ⟨w.heap.size + 1, 1, none⟩ = some (.int .i64 t) := HB2.out.cell 1
  have hb1 := hb.alloc hb.size (.cells #[.int .i64 a1.code, .int .i64 a1.kind, .int .i64 a1.basis, .int .i64 a1.parent] 121)
  clear hb9 HB
  go_wp2_with fail
  clear f1
  generalize hgen : w2.alloc (.cells #[.int .i64 a1.code, .int .i64 a1.kind, .int .i64 a1.basis, .int .i64 a1.parent] 121) = W2 at *
  clear hgen
  refine (K2.out W2 (Rd.now H2.out hb1)).mono ?_
  rintro e w3 ⟨rfl, hb9⟩
  have hb2 := bel hb1 hb9
  have hX := (HX.out.step hb9).alloc (.cells #[.int .i64 a2.code, .int .i64 a2.kind, .int .i64 a2.basis, .int .i64 a2.parent] 121)
  have hL := (HB2.out.step hb9).alloc (.cells #[.int .i64 a2.code, .int .i64 a2.kind, .int .i64 a2.basis, .int .i64 a2.parent] 121)
  have q1 : (w3.alloc (.cells #[.int .i64 a2.code, .int .i64 a2.kind, .int .i64 a2.basis, .int .i64 a2.parent] 121)).cell? ⟨w2.heap.size, 1, none⟩ = some (.int .i64 a1.kind) := hX.cell 1
  have q2 : (w3.alloc (.cells #[.int .i64 a2.code, .int .i64 a2.kind, .int .i64 a2.basis, .int .i64 a2.parent] 121)).cell? ⟨w.heap.size + 1, 2, none⟩ = some (.int .i64 s) := hL.cell 2
  have hb3 := hb2.alloc hb2.size (.cells #[.int .i64 a2.code, .int .i64 a2.kind, .int .i64 a2.basis, .int .i64 a2.parent] 121)
  have HD' := Lib.hid HD.out
  clear hX hL hb9 HB2 HX
  cases hk : (a1.kind == a2.kind) <;> cases b1 <;> cases b2
  all_goals
    go_wp2_with (go_at_call 45; refine ((K3.out _)).mono ?_; rintro e w2 ⟨rfl, rfl⟩)
    go_ret
    exact ⟨by rw [HD'.out]; simp at hk; simp [hk], hb3⟩
end Go.Proofs.YtnddoehhcpejjaaGreat
/- A map of the call's own that says true or false of keys of any type. Over any program. -/
namespace Go.Proofs.YtnddoehhcpejjaaGreat
set_option linter.unusedVariables false
set_option linter.unusedSimpArgs false
open Go.RowKit
open Go.Maps (Keyed)

/-- Block b is a map of at most n entries that says f of the keys. -/
def SaysW (P : Program) (k e : TypeId) (w : World) (b n : Nat) (f : Value → Bool) : Prop :=
  ∃ D : DataW Unit, w.ownsMap P k (plainElem P e) b n D ∧ Maps.IsMap D ∧ ∀ v l, keyOf P k v = some l → D.atKey l (.lit (.bool false)) = .lit (.bool (f v))
section
variable {P : Program} {k e t : TypeId} {w w' : World} {b n : Nat} {f g : Value → Bool}
theorem SaysW.made (w : World) : SaysW P k e (w.alloc (.map #[] 0)) w.heap.size 0 (fun _ => false) := ⟨.map [], World.ownsMap_made _ _ _ _, Maps.isMap_empty, fun _ _ _ => by simp [DataW.atKey]⟩
theorem SaysW.lt (h : SaysW P k e w b n f) : b < w.heap.size := by obtain ⟨D, h, _⟩ := h; exact h.lt
theorem SaysW.kept {row : Option Nat} (h : SaysW P k e w b n f) (hg : w.grownBy w' row) (hne : some b ≠ row) : SaysW P k e w' b n f := by obtain ⟨D, h, r⟩ := h; exact ⟨D, h.kept hg hne, r⟩
theorem SaysW.step (h : SaysW P k e w b n f) (hb : Below w.heap.size w w') : SaysW P k e w' b n f := h.kept (grown_below hb none) (by simp)
theorem SaysW.alloc (h : SaysW P k e w b n f) (o : Obj) : SaysW P k e (w.alloc o) b n f := h.kept (World.grownBy_alloc w o none) (by simp)
theorem SaysW.blk_ne {g : Nat} {E : TypeId} {cs : Array Value} (h : SaysW P k e w b n f) (hr : Blk w g E cs) : b ≠ g := by
  obtain ⟨D, ⟨es, cl, hb, _⟩, _⟩ := h
  rintro rfl
  unfold Blk at hr
  rw [hb] at hr
  simp at hr
theorem SaysW.congr (h : SaysW P k e w b n f) (hf : ∀ v l, keyOf P k v = some l → f v = g v) : SaysW P k e w b n g := by
  obtain ⟨D, h1, h2, h3⟩ := h
  exact ⟨D, h1, h2, fun v l hv => by rw [h3 v l hv, hf v l hv]⟩
/-- the look-up -/
theorem SaysW.look (h : SaysW P k e w b n f) (hk : Keyed P k) (he : P.underlying e = some .bool) (ht : P.underlying t = some (.map k e)) (hz : (zeroValue e).run P w = .ok (.bool false) w)
    {v : Value} {l : Lit} (hl : keyOf P k v = some l) : (Instr.lookup t (.map (some b)) v false).run P w = .ok (.bool (f v)) w := by
  obtain ⟨D, h, _, hD⟩ := h
  obtain ⟨v', ps, hrun, hv⟩ := h.lookup hk ht hz (plainElem_bool he false) hl
  obtain ⟨x, rfl, e2⟩ := plainElem_bool_inv he hv
  rw [hD v l hl] at e2
  injection e2 with e2 _
  injection e2 with e2
  injection e2 with e2
  rw [hrun, e2]
theorem SaysW.put {D : DataW Unit} {v : Value} {l : Lit} {x : Bool} (hk : Keyed P k) (hm : Maps.IsMap D) (hD : ∀ v l, keyOf P k v = some l → D.atKey l (.lit (.bool false)) = .lit (.bool (f v))) (hl : keyOf P k v = some l)
    (hg : g v = x) (hgo : ∀ u lu, keyOf P k u = some lu → u ≠ v → g u = f u) (h2 : w'.ownsMap P k (plainElem P e) b (n + 1) (D.put l (.lit (.bool x)))) : SaysW P k e w' b (n + 1) g := by
  refine ⟨_, h2, hm.put _ _, fun u lu hu => ?_⟩
  by_cases hd : lu = l
  · subst hd
    obtain rfl := hk.inj hu hl
    rw [Maps.atKey_put_same hm (hk.key hl), hg]
  · rw [Maps.atKey_put_other hd, hD u lu hu, hgo u lu hu (fun e => hd (by rw [e, hl] at hu; injection hu with hu; exact hu.symm))]
/-- a word is laid: at the operation -/
theorem wpList_says_put {ops : Array Oper} {rest : List Oper} {o : Oper} {a : Act} {Q : Exit → Act → World → Prop} (g : Value → Bool) (hgd : o.guard = none) (m x v : Operand) (t : TypeId) (hop : o.op = Op.mapUpdate t m x v)
    (hk : Keyed P k) (he : P.underlying e = some .bool) (ht : P.underlying t = some (.map k e)) (h : SaysW P k e w b n f) (hn : n < maxLen) (y : Value) (l : Lit) (z : Bool) (hl : keyOf P k y = some l)
    (hm : a.eval m = .map (some b)) (hx : a.eval x = y) (hv : a.eval v = .bool z) (hg : g y = z) (hgo : ∀ u lu, keyOf P k u = some lu → u ≠ y → g u = f u)
    (hK : ∀ w', SaysW P k e w' b (n + 1) g → w.grownBy w' (some b) → wpList P ops Q rest (a.put o.dst undef) w') : wpList P ops Q (o :: rest) a w := by
  obtain ⟨D, h, hM, hD⟩ := h
  exact wpList_mapUpdate_own w hgd m x v t hop k e hk ht _ b n D hm h hn _ _ _ hx hv hl _ [] (plainElem_bool he z) fun w' h2 g2 => hK w' (SaysW.put hk hM hD hl hg hgo h2) g2
end
theorem SetW.isMap {P : Program} {k e : TypeId} {w : World} {b n : Nat} {S : List Int} (h : SetW P k e w b n S) : ∃ es cl, w.heap[b]? = some (.map es cl) := by
  obtain ⟨D, ⟨es, cl, hb, _⟩, _⟩ := h
  exact ⟨es, cl, hb⟩
theorem SaysW.isMap {P : Program} {k e : TypeId} {w : World} {b n : Nat} {f : Value → Bool} (h : SaysW P k e w b n f) : ∃ es cl, w.heap[b]? = some (.map es cl) := by
  obtain ⟨D, ⟨es, cl, hb, _⟩, _⟩ := h
  exact ⟨es, cl, hb⟩
theorem SumW.isMap {P : Program} {k e : TypeId} {w : World} {b n : Nat} {f : Int → Int} (h : SumW P k e w b n f) : ∃ es cl, w.heap[b]? = some (.map es cl) := by
  obtain ⟨D, ⟨es, cl, hb, _⟩, _⟩ := h
  exact ⟨es, cl, hb⟩
/-- a list in cells stays where a map turns -/
theorem Rd.past {w w' : World} {B sz n m : Nat} {A : Option Addr} {xs : List Value} (h : Rd w B sz A n xs) (hg : w.grownBy w' (some m)) (hm : ∃ es cl, w.heap[m]? = some (.map es cl)) : Rd w' B sz A n xs :=
  ⟨h.1, fun hn => by
    obtain ⟨b, o, e, hb, hc⟩ := h.2 hn
    refine ⟨b, o, e, hb, fun j u hu => hg.cell (hc j u hu) fun e2 => ?_⟩
    injection e2 with e2
    obtain ⟨es, cl, hm⟩ := hm
    have h1 := hc j u hu
    subst e2
    simp [World.cell?, hm] at h1⟩
end Go.Proofs.YtnddoehhcpejjaaGreat
/- Links as keys. -/
namespace Go.Proofs.YtnddoehhcpejjaaGreat
set_option linter.unusedVariables false
set_option linter.unusedSimpArgs false
open Go.RowKit
open Go.Maps (Keyed)

theorem keyed_link : Keyed Tryz.prog 126 := Keyed.of_law (deep_law_laid (by kernel_rfl) (m := 3) (by decide) (of_decide_eq_true (by kernel_rfl)) (by kernel_rfl) (by kernel_rfl))
theorem int_lits (d : Nat) (hd : 0 < d) {a : Int} (ha : (Lit.int .i64 a).wf = true) : (Tryz.prog).keyLits d 3 [.int .i64 a] = some [.int .i64 a] := by
  obtain ⟨d, rfl⟩ : ∃ k, d = k + 1 := ⟨d - 1, by omega⟩
  unfold Program.keyLits
  rw [Tryz.underlying3]
  simp [ha]
theorem link_key {a b c : Int} (ha : (Lit.int .i64 a).wf = true) (hb : (Lit.int .i64 b).wf = true) (hc : (Lit.int .i64 c).wf = true) : ∃ l, keyOf Tryz.prog 126 (.agg #[.int .i64 a, .int .i64 b, .int .i64 c]) = some l := by
  have h1 : (Tryz.prog).keyType 126 = true := by kernel_rfl
  have h2 : (Tryz.prog).cellsOf 126 = 3 := by kernel_rfl
  have h3 : (Tryz.prog).cellsOf 3 = 1 := by kernel_rfl
  unfold keyOf
  rw [Tryz.underlying126]
  simp only [h1, Value.formed, Tryz.underlying126, h2, Bool.true_and]
  unfold Program.keyLits
  rw [Tryz.underlying126]
  simp [h2, h3, Value.cells, int_lits _ _ ha, int_lits _ _ hb, int_lits _ _ hc]
theorem link_val {a b c d : Int} (y z : Int) : (Value.agg #[.int .i64 a, .int .i64 y, .int .i64 b] = Value.agg #[.int .i64 c, .int .i64 z, .int .i64 d]) ↔ (a = c ∧ y = z ∧ b = d) := by simp
theorem zero_link (w : World) : (zeroValue 126).run Tryz.prog w = .ok (.agg #[.int .i64 0, .int .i64 0, .int .i64 0]) w := by kernel_rfl
end Go.Proofs.YtnddoehhcpejjaaGreat
/- The walk of mapping.Valid. -/
namespace Go.Proofs.YtnddoehhcpejjaaGreat
set_option linter.unusedVariables false
set_option linter.unusedSimpArgs false
open Go.RowKit
open Go.Maps (Keyed)

def lkey (a s : Int) : Value := .agg #[.int .i64 a, .int .i64 0, .int .i64 s]
open Classical in
/-- the links before number k, by their keys -/
noncomputable def linkSeen (L : List LinkR) (k : Nat) (v : Value) : Bool := decide (∃ x ∈ L.take k, v = lkey x.from_ x.since)
theorem linkSeen_zero (L : List LinkR) : linkSeen L 0 = fun _ => false := by
  funext v
  simp [linkSeen]
theorem linkSeen_at (L : List LinkR) (k : Nat) (h : k < L.length) : linkSeen L k (lkey L[k].from_ L[k].since) = Gr.linkBefore L k := by
  unfold linkSeen Gr.linkBefore
  rw [getD_lt L k default h, Bool.eq_iff_iff]
  simp only [decide_eq_true_eq, List.any_eq_true, lkey, link_val, Bool.and_eq_true, beq_iff_eq]
  constructor
  · rintro ⟨x, hx, h1, -, h2⟩; exact ⟨x, hx, h1.symm, h2.symm⟩
  · rintro ⟨x, hx, h1, h2⟩; exact ⟨x, hx, h1.symm, trivial, h2.symm⟩
theorem linkSeen_here (L : List LinkR) (k : Nat) (h : k < L.length) : linkSeen L (k + 1) (lkey L[k].from_ L[k].since) = true := by
  unfold linkSeen
  rw [List.take_succ_eq_append_getElem h]
  simp only [decide_eq_true_eq]
  exact ⟨L[k], List.mem_append.2 (.inr (List.mem_singleton.2 rfl)), rfl⟩
theorem linkSeen_other (L : List LinkR) (k : Nat) (h : k < L.length) (u : Value) (hu : u ≠ lkey L[k].from_ L[k].since) : linkSeen L (k + 1) u = linkSeen L k u := by
  unfold linkSeen
  rw [List.take_succ_eq_append_getElem h, Bool.eq_iff_iff]
  simp only [decide_eq_true_eq, List.mem_append, List.mem_singleton]
  constructor
  · rintro ⟨x, hx | rfl, e⟩
    · exact ⟨x, hx, e⟩
    · exact absurd e hu
  · rintro ⟨x, hx, e⟩; exact ⟨x, .inl hx, e⟩
theorem mapV_no {e c : List Acc} {L : List LinkR} {k : Nat} (hk : k < L.length) (h : Gr.linkOk e c L k = false) : Gr.mapV e c L = false := by
  unfold Gr.mapV
  rw [show allAt L.length (Gr.linkOk e c L) = false from allAt_no hk h]
  simp
set_option maxRecDepth 100000 in
set_option maxHeartbeats 4000000 in
theorem mvalid_any (xn xc : ByteArray) (l1 : List Acc) (A1 : Option Addr) (c1 : Nat) (L : List LinkR) (A2 : Option Addr) (c2 : Nat) (xj : Bool) (cl : List Acc) (cA : Option Addr) (cc : Nat) (w : World)
    (h1 : Rd w w.heap.size 4 A1 l1.length (Ch.cells l1)) (h2 : Rd w w.heap.size 4 cA cl.length (Ch.cells cl)) (h3 : Rd w w.heap.size 3 A2 L.length (cellsOf LinkR.cells L)) (hn1 : l1.length ≤ 300000) (hn2 : cl.length ≤ 300000)
    (hw1 : ∀ a ∈ l1, (Lit.int .i64 a.code).wf = true) (hw2 : ∀ a ∈ cl, (Lit.int .i64 a.code).wf = true) (hw3 : ∀ x ∈ L, Wf x.from_ ∧ Wf x.to ∧ Wf x.since) :
    Calls Tryz.prog 90 #[.agg #[.string xn, .string xc, .slice A1 l1.length c1, .slice A2 L.length c2, .bool xj], .slice cA cl.length cc] w (BoolPost (Gr.mapV l1 cl L) w) := by
  have H1 := Lib.hid h1
  have H2 := Lib.hid h2
  have H3 := Lib.hid h3
  have HW1 := Lib.hid hw1
  have HW2 := Lib.hid hw2
  have HW3 := Lib.hid hw3
  clear h1 h2 h3 hw1 hw2 hw3
  have hb : Below w.heap.size w (w.alloc (.cells #[.string xn, .string xc, .slice A1 l1.length c1, .slice A2 L.length c2, .bool xj] 90)) := by
    have hb := Below.refl w.heap.size w
    exact (by repeat (first | exact hb | refine Below.alloc ?_ (by have hbs := hb.size; first | omega | (simp; done) | (simp; omega)) _ | refine Below.drew ?_ | refine below_drewN_ ?_ _ | refine Below.setCell ?_ (by simp) _))
  have HB := Lib.hid (Blk.new w 90 #[.string xn, .string xc, .slice A1 l1.length c1, .slice A2 L.length c2, .bool xj])
  have hmm := @run_makeMap Tryz.prog
  go_enter Tryz.func90, Tryz.ntmps90
  cases hv1 : Ch.validV cl true
  · have HE : Hid (Gr.mapV l1 cl L = false) := Lib.hid (by unfold Gr.mapV; rw [hv1]; rfl)
    have HV1 := Lib.hid hv1
    clear hv1
    go_wp2_with (go_at_call 83; (with_reducible refine (valid_any cl true cA cc _ (Rd.now H2.out hb) hn2 HW2.out).mono ?_); rintro e w2 ⟨rfl, hb2⟩; replace hb := bel hb hb2; rw [HV1.out]; have hB2 := HB.out.step hb2; have e2 := hB2.cell 2; have e3 := hB2.cell 3)
    go_ret
    exact ⟨by rw [HE.out]; rfl, hb⟩
  · have HV1 := Lib.hid hv1
    cases hv2 : Ch.validV l1 false
    · have HE : Hid (Gr.mapV l1 cl L = false) := Lib.hid (by unfold Gr.mapV; rw [hv1, hv2]; rfl)
      have HV2 := Lib.hid hv2
      clear hv1 hv2
      go_wp2_with (first | (go_at_call 83; (with_reducible refine (valid_any cl true cA cc _ (Rd.now H2.out hb) hn2 HW2.out).mono ?_); rintro e w2 ⟨rfl, hb2⟩; replace hb := bel hb hb2; rw [HV1.out]; have hB2 := HB.out.step hb2; have e2 := hB2.cell 2; have e3 := hB2.cell 3) | (go_at_call 83; (with_reducible refine (valid_any l1 false A1 c1 _ (Rd.now H1.out hb) hn1 HW1.out).mono ?_); rintro e w3 ⟨rfl, hb3⟩; replace hb := bel hb hb3; rw [HV2.out]; have hB3 := hB2.step hb3; have e4 := hB3.cell 3))
      go_ret
      exact ⟨by rw [HE.out]; rfl, hb⟩
    · have HV2 := Lib.hid hv2
      by_cases h400 : L.length ≤ 400
      · clear hv1 hv2
        go_wp2_with (first | (go_at_call 83; (with_reducible refine (valid_any cl true cA cc _ (Rd.now H2.out hb) hn2 HW2.out).mono ?_); rintro e w2 ⟨rfl, hb2⟩; replace hb := bel hb hb2; rw [HV1.out]; have hB2 := HB.out.step hb2; have e2 := hB2.cell 2; have e3 := hB2.cell 3) | (go_at_call 83; (with_reducible refine (valid_any l1 false A1 c1 _ (Rd.now H1.out hb) hn1 HW1.out).mono ?_); rintro e w3 ⟨rfl, hb3⟩; replace hb := bel hb hb3; rw [HV2.out]; have hB3 := hB2.step hb3; have e4 := hB3.cell 3; have e5 : (w3.alloc (.map #[] 0)).cell? ⟨w.heap.size, 3, none⟩ = some (.slice A2 L.length c2) := (hB3.alloc _).cell 3))
        have hl3 := hB3.lt
        have HB3 := Lib.hid hB3
        clear hB2 hB3 e2 e3 e4 e5
        go_loopw [28] (fun t wr => ∃ k : Nat, k ≤ L.length ∧ (∀ j, j < k → Gr.linkOk l1 cl L j = true) ∧ t = .int .i64 k ∧ SaysW Tryz.prog 126 4 wr w3.heap.size k (linkSeen L k) ∧ Blk wr w.heap.size 90 #[.string xn, .string xc, .slice A1 l1.length c1, .slice A2 L.length c2, .bool xj] ∧ Below w.heap.size w wr) (fun t _ => L.length - (intOf t).toNat)
        case atStart => exact ⟨0, by omega, fun j h => by omega, rfl, by rw [linkSeen_zero]; exact SaysW.made w3, HB3.out.alloc _, hb.alloc hb.size _⟩
        case round =>
          clear hb HB3
          obtain ⟨k, hk, hno, rfl, hS, hB, hb⟩ := hrel
          have HN := Lib.hid hno
          have hz := hb.size
          clear hno
          by_cases hlt : k < L.length
          · obtain ⟨b, o, hA, hbo, f0, f1, f2⟩ := LinkR.at_ (Rd.now H3.out hb) hlt
            subst hA
            obtain ⟨q1, q2, q3⟩ := HW3.out _ (List.getElem_mem hlt)
            have HX : Hid (Gr.linkOk l1 cl L k = (Gr.linkV l1 cl L[k] && !Gr.linkBefore L k)) := Lib.hid (by unfold Gr.linkOk; rw [getD_lt L k default hlt])
            have HS1 := Lib.hid (linkSeen_at L k hlt)
            have HS2 := Lib.hid (linkSeen_here L k hlt)
            have HS3 := Lib.hid (linkSeen_other L k hlt)
            generalize L[k] = x at *
            obtain ⟨f, t, s⟩ := x
            dsimp only at *
            obtain ⟨kl, hkl⟩ := link_key (a := f) (b := 0) (c := s) q1 (by decide) q3
            have hLL := ((hS.alloc (.cells #[.int .i64 f, .int .i64 t, .int .i64 s] 126)).alloc (.cells #[.int .i64 f, .int .i64 0, .int .i64 s] 126)).look (t := 175) keyed_link Tryz.underlying4 Tryz.underlying175 (zero_bool _) hkl
            rw [show linkSeen L k (.agg #[.int .i64 f, .int .i64 0, .int .i64 s]) = Gr.linkBefore L k from HS1.out] at hLL
            have hBB := (hB.alloc (.cells #[.int .i64 f, .int .i64 t, .int .i64 s] 126)).alloc (.cells #[.int .i64 f, .int .i64 0, .int .i64 s] 126)
            have e0 := hBB.cell 0
            have e1 := hBB.cell 1
            have e2 := hBB.cell 2
            have e3 := hBB.cell 3
            have e4 := hBB.cell 4
            have hbA : Below w.heap.size w ((wr.alloc (.cells #[.int .i64 f, .int .i64 t, .int .i64 s] 126)).alloc (.cells #[.int .i64 f, .int .i64 0, .int .i64 s] 126)) := (by repeat (first | exact hb | refine Below.alloc ?_ (by have hbs := hb.size; first | omega | (simp; done) | (simp; omega)) _ | refine Below.drew ?_ | refine below_drewN_ ?_ _ | refine Below.setCell ?_ (by simp) _))
            have hK0 := Blk.new (wr.alloc (.cells #[.int .i64 f, .int .i64 t, .int .i64 s] 126)) 126 #[.int .i64 f, .int .i64 0, .int .i64 s]
            have ez : (wr.alloc (.cells #[.int .i64 f, .int .i64 t, .int .i64 s] 126)).heap.size = wr.heap.size + 1 := by simp
            rw [ez] at hK0
            have HK := Lib.hid hK0
            have HBB := Lib.hid hBB
            have hSS := Lib.hid ((hS.alloc (.cells #[.int .i64 f, .int .i64 t, .int .i64 s] 126)).alloc (.cells #[.int .i64 f, .int .i64 0, .int .i64 s] 126))
            clear ez hK0 hBB hS hB HS1
            cases hbf : Gr.linkBefore L k
            · rw [hbf] at hLL HX
              clear hbf
              cases hv : Gr.linkV l1 cl ⟨f, t, s⟩
              · have HE : Hid (Gr.mapV l1 cl L = false) := Lib.hid (mapV_no hlt (by rw [HX.out, hv]; rfl))
                have HV := Lib.hid hv
                clear hv
                go_wp2_with (go_at_call 124; refine (link_any xn xc l1 A1 c1 (.bool true) xj cl cA cc f t s L.length (some ⟨b, o, none⟩) c2 _ (Rd.now H1.out hbA) (Rd.now H2.out hbA) hn1 hn2).mono ?_; rintro e w4 ⟨rfl, hb9⟩; rw [HV.out]; have hb4 := bel hbA hb9; clear hb9)
                go_ret
                exact ⟨by rw [HE.out]; rfl, hb4⟩
              · have HO : Hid (Gr.linkOk l1 cl L k = true) := Lib.hid (by rw [HX.out, hv]; rfl)
                have HV := Lib.hid hv
                clear hv
                go_wp2_with (first
                  | (go_at_call 124; refine (link_any xn xc l1 A1 c1 (.bool true) xj cl cA cc f t s L.length (some ⟨b, o, none⟩) c2 _ (Rd.now H1.out hbA) (Rd.now H2.out hbA) hn1 hn2).mono ?_; rintro e w4 ⟨rfl, hb9⟩; rw [HV.out]; have hb4 := bel hbA hb9; have hS4 := hSS.out.step hb9; have HB4 := Lib.hid (HBB.out.step hb9); have hK4 := HK.out.step hb9; have k0 := hK4.cell 0; have k1 := hK4.cell 1; have k2 := hK4.cell 2; clear hb9 e0 e1 e2 e3 e4)
                  | (at_mapUpdate; refine wpList_says_put (linkSeen L (k + 1)) rfl _ _ _ 175 rfl keyed_link Tryz.underlying4 Tryz.underlying175 hS4 (by unfold maxLen; omega) (.agg #[.int .i64 f, .int .i64 0, .int .i64 s]) kl true hkl rfl rfl rfl HS2.out (fun u lu _ hu => HS3.out u hu) ?_; intro w5 hS5 hg5))
                have hbz := hb4.size
                have hB5 := HB4.out.grown hg5 (by simp; omega)
                have hb5 : Below w.heap.size w w5 := Below.grown hb4 hg5 (by omega) (fun j hj => by injection hj with hj; omega)
                clear hg5 hS4 hK4 k0 k1 k2
                go_wp2_with fail
                go_roundw
                case rel =>
                  refine ⟨k + 1, by omega, fun j hj => ?_, by go_num, hS5, hB5, hb5⟩
                  by_cases e : j = k
                  · subst e; exact HO.out
                  · exact HN.out j (by omega)
                case measure => simp [intOf]; omega
            · rw [hbf] at hLL HX
              have HE : Hid (Gr.mapV l1 cl L = false) := Lib.hid (mapV_no hlt (by rw [HX.out]; simp))
              clear hbf
              go_wp2_with fail
              go_ret
              exact ⟨by rw [HE.out]; rfl, hbA⟩
          · have HE : Hid (Gr.mapV l1 cl L = true) := Lib.hid (by unfold Gr.mapV; rw [HV1.out, HV2.out, allAt_yes (fun j hj => HN.out j (by omega))]; simp [h400])
            go_wp2_with fail
            go_ret
            exact ⟨by rw [HE.out]; rfl, hb⟩
      · have HE : Hid (Gr.mapV l1 cl L = false) := Lib.hid (by unfold Gr.mapV; rw [hv1, hv2]; simp [h400])
        clear hv1 hv2
        go_wp2_with (first | (go_at_call 83; (with_reducible refine (valid_any cl true cA cc _ (Rd.now H2.out hb) hn2 HW2.out).mono ?_); rintro e w2 ⟨rfl, hb2⟩; replace hb := bel hb hb2; rw [HV1.out]; have hB2 := HB.out.step hb2; have e2 := hB2.cell 2; have e3 := hB2.cell 3) | (go_at_call 83; (with_reducible refine (valid_any l1 false A1 c1 _ (Rd.now H1.out hb) hn1 HW1.out).mono ?_); rintro e w3 ⟨rfl, hb3⟩; replace hb := bel hb hb3; rw [HV2.out]; have hB3 := hB2.step hb3; have e4 := hB3.cell 3))
        go_ret
        exact ⟨by rw [HE.out]; rfl, hb⟩
end Go.Proofs.YtnddoehhcpejjaaGreat
