/- Texts of this claim, put together. -/
import Derived.Test.YthfbpbbepogllaaGreatJAR
import Derived.Test.YthfbpbbepogllaaGreatJAX
import Derived.WideKeyEntry
import Derived.Test.YthfbpbbepogllaaGreatJAV
/- Sums in a map of the call's own, at keys that are arrays or structs, turned by 'm[k] += x'. Over any program. -/
namespace Go.Proofs.YthfbpbbepogllaaGreat
set_option linter.unusedVariables false
set_option linter.unusedSimpArgs false
open Go.RowKit Go.WideElems
open Go.Maps (Keyed)
open Go.WideMaps (KeyLaw)
open Go.ChangeMaps (setBlock)

/-- Block b is a map of at most n entries that says f of the keys. -/
def KSum (P : Program) (k e : TypeId) (w : World) (b n : Nat) (f : Value → Int) : Prop :=
  ∃ D : DataW Unit, w.ownsMap P k (plainElem P e) b n D ∧ Maps.IsMap D ∧ ∀ v l, keyOf P k v = some l → D.atKey l (.lit (.int .i64 0)) = .lit (.int .i64 (f v))
section
variable {P : Program} {k e t : TypeId} {w w' : World} {b n : Nat} {f g : Value → Int}
theorem KSum.made (w : World) : KSum P k e (w.alloc (.map #[] 0)) w.heap.size 0 (fun _ => 0) := ⟨.map [], World.ownsMap_made _ _ _ _, Maps.isMap_empty, fun _ _ _ => by simp [DataW.atKey]⟩
theorem KSum.lt (h : KSum P k e w b n f) : b < w.heap.size := by obtain ⟨D, h, _⟩ := h; exact h.lt
theorem KSum.kept {row : Option Nat} (h : KSum P k e w b n f) (hg : w.grownBy w' row) (hne : some b ≠ row) : KSum P k e w' b n f := by obtain ⟨D, h, r⟩ := h; exact ⟨D, h.kept hg hne, r⟩
theorem KSum.step (h : KSum P k e w b n f) (hb : Below w.heap.size w w') : KSum P k e w' b n f := h.kept (grown_below hb none) (by simp)
theorem KSum.alloc (h : KSum P k e w b n f) (o : Obj) : KSum P k e (w.alloc o) b n f := h.kept (World.grownBy_alloc w o none) (by simp)
theorem KSum.isMap (h : KSum P k e w b n f) : ∃ es cl, w.heap[b]? = some (.map es cl) := by
  obtain ⟨D, ⟨es, cl, hb, _⟩, _⟩ := h
  exact ⟨es, cl, hb⟩
theorem KSum.same (h : KSum P k e w b n f) (hb : w'.heap[b]? = w.heap[b]?) : KSum P k e w' b n f := by
  obtain ⟨D, ⟨es, cl, h1, h2⟩, r⟩ := h
  exact ⟨D, ⟨es, cl, hb.trans h1, h2⟩, r⟩
theorem KSum.more {m : Nat} (h : KSum P k e w b n f) (hm : n ≤ m) : KSum P k e w b m f := by
  obtain ⟨D, ⟨es, cl, h1, h2, h3, h4⟩, r⟩ := h
  exact ⟨D, ⟨es, cl, h1, h2, Nat.le_trans h3 hm, h4⟩, r⟩
/-- the look-up -/
theorem KSum.look (h : KSum P k e w b n f) (hk : Keyed P k) (he : P.underlying e = some (.int .i64)) (ht : P.underlying t = some (.map k e)) (hz : (zeroValue e).run P w = .ok (.int .i64 0) w)
    {v : Value} {l : Lit} (hl : keyOf P k v = some l) : (Instr.lookup t (.map (some b)) v false).run P w = .ok (.int .i64 (f v)) w ∧ (Lit.int .i64 (f v)).wf = true := by
  obtain ⟨D, h, _, hD⟩ := h
  obtain ⟨c, hrun, hat, hw⟩ := h.lookup_int hk ht he hz hl
  rw [hD v l hl] at hat
  injection hat with hat
  injection hat with _ hat
  subst hat
  exact ⟨hrun, hw⟩
theorem KSum.put {D : DataW Unit} {v : Value} {l : Lit} {x : Int} (hk : Keyed P k) (hm : Maps.IsMap D) (hD : ∀ v l, keyOf P k v = some l → D.atKey l (.lit (.int .i64 0)) = .lit (.int .i64 (f v))) (hl : keyOf P k v = some l)
    (hg : g v = x) (hgo : ∀ u lu, keyOf P k u = some lu → u ≠ v → g u = f u) (h2 : w'.ownsMap P k (plainElem P e) b (n + 1) (D.put l (.lit (.int .i64 x)))) : KSum P k e w' b (n + 1) g := by
  refine ⟨_, h2, hm.put _ _, fun u lu hu => ?_⟩
  by_cases hd : lu = l
  · subst hd
    obtain rfl := hk.inj hu hl
    rw [Maps.atKey_put_same hm (hk.key hl), hg]
  · rw [Maps.atKey_put_other hd, hD u lu hu, hgo u lu hu (fun e => hd (by rw [e, hl] at hu; injection hu with hu; exact hu.symm))]
/-- 'm[k] += x': the entry is found or made with what the look-up gives -/
theorem entry_update {es : Array MapEntry} {clock : Nat} {R : Value → Option (DataW Unit × List MemPlace)} (K : KeyLaw P k) (ht : P.underlying t = some (.map k e)) {z : Value} (hz : ∀ u : World, (zeroValue e).run P u = .ok z u) (hb : w.heap[b]? = some (.map es clock)) (F : Fit P k R es clock)
    {key : Value} {kl : Lit} (hkey : keyOf P k key = some kl) :
    ∃ (v0 : Value) (st : Nat) (wX : World), (Instr.mapEntry t (.map (some b)) key).run P w = .ok (.tuple #[v0, goInt st]) wX ∧ (Instr.mapUpdate t (.map (some b)) key v0).run P w = .ok () wX ∧ (Instr.lookup t (.map (some b)) key false).run P w = .ok v0 w := by
  rcases K.find w hkey es.toList F.keys with ⟨h1, h2⟩ | ⟨j, e0, h1, h2, h3⟩
  · refine ⟨z, clock, setBlock w b (.map (es.push ⟨key, z, clock⟩) (clock + 1)), ?_, ?_, ?_⟩
    rotate_left
    · simp [Instr.mapUpdate, run_underlying ht, MapKept.run_getObj_map hb, K.check w false hkey, h1, MapKept.run_setObj_map _ hb, Result.andThen, setBlock]
    · simp [Instr.lookup, run_underlying ht, MapKept.run_getObj_map hb, K.check w _ hkey, h1, hz, Result.andThen]
    · simp [Instr.mapEntry, run_underlying ht, MapKept.run_getObj_map hb, K.check w false hkey, h1, hz, MapKept.run_setObj_map _ hb, Result.andThen, setBlock]
  · have hj : es[j]? = some e0 := by simpa using h2
    have hm : es.modify j (fun e => { e with key := key }) = es.modify j (fun e => { e with key := key, val := e0.val }) := by
      apply Array.ext
      · simp
      · intro i i1 i2
        simp only [Array.getElem_modify]
        by_cases hji : j = i
        · subst hji
          have he0 : es[j]'(by simpa using i1) = e0 := by
            have := Array.getElem?_eq_some_iff.1 hj
            exact this.2
          simp [he0]
        · simp [hji]
    refine ⟨e0.val, e0.born, setBlock w b (.map (es.modify j fun e => { e with key := key, val := e0.val }) clock), ?_, ?_, ?_⟩
    rotate_left
    · simp [Instr.mapUpdate, run_underlying ht, MapKept.run_getObj_map hb, K.check w false hkey, h1, hj, h3, K.stays w hkey, MapKept.run_setObj_map _ hb, Result.andThen, setBlock]
    · simp [Instr.lookup, run_underlying ht, MapKept.run_getObj_map hb, K.check w _ hkey, h1, Result.andThen]
    · simp [Instr.mapEntry, run_underlying ht, MapKept.run_getObj_map hb, K.check w false hkey, h1, hj, h3, K.stays w hkey, hm, MapKept.run_setObj_map _ hb, Result.andThen, setBlock]
end
end Go.Proofs.YthfbpbbepogllaaGreat
/- LibW's region that draws its order and ends in a store, over a property of worlds. Over any program. -/
namespace Go.Proofs.YthfbpbbepogllaaGreat
set_option linter.unusedVariables false
set_option linter.unusedSimpArgs false
open Go.RowKit

/-- a world of which S holds -/
structure LaterS (S : World → Prop) where
  now : World
  is : S now
theorem LaterS.of {S : World → Prop} {w : World} (h : S w) : ∃ d : LaterS S, w = d.now := ⟨⟨w, h⟩, rfl⟩
theorem LaterS.un {S : World → Prop} {w : World} (h : ∃ d : LaterS S, w = d.now) : S w := by obtain ⟨d, rfl⟩ := h; exact d.is
section
variable {P : Program} {ops : Array Oper} {Q : Exit → Act → World → Prop} {t : Nat} {S : World → Prop} {w : World} {i fuel : Nat} {o : Oper} {a : Act} {listed : Array Bool}
theorem relS_begin {id n : Nat} {l : List Oper} (S : World → Prop) (t : Nat) (hm : P.follows .mixedOrders = true) (hn : l.length = n)
    (h : wpAnyT P l.toArray Q (fun w' => ∃ d : LaterS S, w' = d.now) t n (Array.replicate n false) a w.drew) : (Code.region id l.toArray true).wp P Q a w := by
  subst hn
  exact wp_region_any hm (wpAny_of_tail _ _ _ _ (by simpa using h))
theorem relS_want {rest : List Oper} (hl : ops.toList.drop i = o :: rest) (hp : plainB o.op = true) (hs : Region.noSelect ops = true) (hf : Region.free .any ops listed i = true) (hr : (Region.ready .any ops listed).contains i = true)
    (hw : Region.wanted o (yielded ops a.tmps) = true) (hit : decide (i ≠ t) = true) (hwait : waitsB ops t i = true) (ht : listed.getD t false = false) (hQ : ∀ c a v w, Q (.panic c) (Act.put a o.dst v) w → Q (.panic c) a w) (hS : (∃ d : LaterS S, w = d.now))
    (h : ∀ K : Act → Prop, (∀ a', wpAnyT P ops Q (fun w' => ∃ d : LaterS S, w' = d.now) t fuel (listed.setIfInBounds i true) a' w → K a') → o.quiet P a (fun w' => ∃ d : LaterS S, w' = d.now) K) :
    wpAnyT P ops Q (fun w' => ∃ d : LaterS S, w' = d.now) t (fuel + 1) listed a w := by
  obtain ⟨v, h1, h2⟩ := h (fun a' => wpAnyT P ops Q (fun w' => ∃ d : LaterS S, w' = d.now) t fuel (listed.setIfInBounds i true) a' w) (fun _ h => h)
  refine wpAnyT_first (v := v) (of_decide_eq_true hit) hwait (drop_at hl) (Region.noSelect_spec hs) (fun c a w h => hQ c a _ w h) fuel listed a w ht (Region.free_spec (drop_at hl) hf) (by simpa using hr) (.inl ⟨hw, fun w' hw' => ?_⟩) hS h2
  have h3 := h1 w' hw'
  unfold Oper.quietAt at h3
  generalize hx : (execOp a.eval o).run P w' = r at h3
  cases r with
  | ok n w2 =>
    obtain ⟨u, rfl⟩ := plain_value hp hx
    simp only [Oper.quietUpon] at h3
    rw [h3.1, h3.2]
  | halt x w2 => simp only [Oper.quietUpon] at h3
theorem relS_call {rest : List Oper} (hr : Region.ready .any ops listed = [i]) (hl : ops.toList.drop i = o :: rest) (hw : Region.wanted o (yielded ops a.tmps) = true)
    (h : ∀ K : Act → World → Prop, (∀ a' w', (listed.getD t false = true ∨ i = t ∨ (∃ d : LaterS S, w' = d.now)) → wpAnyT P ops Q (fun w' => ∃ d : LaterS S, w' = d.now) t fuel (listed.setIfInBounds i true) a' w' → K a' w') → o.wp P a w K Q) :
    wpAnyT P ops Q (fun w' => ∃ d : LaterS S, w' = d.now) t (fuel + 1) listed a w := by
  refine ⟨fun h0 => absurd (hr ▸ h0) (by simp), fun j hj => ?_⟩
  rw [hr, List.mem_singleton] at hj
  subst hj
  unfold wpOp
  rw [drop_at hl]
  show if Region.wanted o (yielded ops a.tmps) = true then _ else _
  rw [if_pos hw]
  exact .inl (h _ fun a' w' hn hh => ⟨hn, hh⟩)
theorem relS_calls {is : List Nat} (hr : Region.ready .any ops listed = is) (hne : is ≠ []) (h : ∀ i ∈ is, ∃ o, ops[i]? = some o ∧ Region.wanted o (yielded ops a.tmps) = true ∧
      ∀ K : Act → World → Prop, (∀ a' w', (listed.getD t false = true ∨ i = t ∨ (∃ d : LaterS S, w' = d.now)) → wpAnyT P ops Q (fun w' => ∃ d : LaterS S, w' = d.now) t fuel (listed.setIfInBounds i true) a' w' → K a' w') → o.wp P a w K Q) :
    wpAnyT P ops Q (fun w' => ∃ d : LaterS S, w' = d.now) t (fuel + 1) listed a w := by
  refine ⟨fun h0 => absurd (hr ▸ h0) hne, fun j hj => ?_⟩
  rw [hr] at hj
  obtain ⟨o, ho, hw, h⟩ := h j hj
  unfold wpOp
  rw [ho]
  show if Region.wanted o (yielded ops a.tmps) = true then _ else _
  rw [if_pos hw]
  exact .inl (h _ fun a' w' hn hh => ⟨hn, hh⟩)
end
end Go.Proofs.YthfbpbbepogllaaGreat
/- Pairs of a seller and a buyer as keys. -/
namespace Go.Proofs.YthfbpbbepogllaaGreat
set_option linter.unusedVariables false
set_option linter.unusedSimpArgs false
open Go.RowKit
open Go.Maps (Keyed)
open Go.WideMaps (KeyLaw)

theorem law_pair : KeyLaw Tryz.prog 103 := deep_law_laid (by kernel_rfl) (m := 3) (by decide) (of_decide_eq_true (by kernel_rfl)) (by kernel_rfl) (by kernel_rfl)
theorem keyed_pair : Keyed Tryz.prog 103 := Keyed.of_law law_pair
def pairV (a b : Int) : Value := .agg #[.int .i64 a, .int .i64 b]
theorem pair_inj {a b c d : Int} (h : pairV a b = pairV c d) : a = c ∧ b = d := by unfold pairV at h; simpa using h
theorem pair_key {a b : Int} (ha : (Lit.int .i64 a).wf = true) (hb : (Lit.int .i64 b).wf = true) : ∃ l, keyOf Tryz.prog 103 (pairV a b) = some l := by
  have h1 : (Tryz.prog).keyType 103 = true := by kernel_rfl
  have h2 : (Tryz.prog).cellsOf 103 = 2 := by kernel_rfl
  have h3 : (Tryz.prog).cellsOf 3 = 1 := by kernel_rfl
  unfold keyOf pairV
  rw [Tryz.underlying103]
  simp only [h1, Value.formed, Tryz.underlying103, h2, Bool.true_and]
  unfold Program.keyLits
  rw [Tryz.underlying103]
  simp [h2, h3, Value.cells, show List.range 2 = [0, 1] from rfl, int_lits _ _ ha, int_lits _ _ hb]
open Classical in
/-- what the sums in the map say of a key -/
noncomputable def Iv.says (q : Int) (l : List StkR) (v : Value) : Int := ((l.filter fun x => x.period == q && decide (pairV x.seller x.buyer = v)).map Iv.one).sum
theorem iv_says (q a b : Int) (l : List StkR) : Iv.says q l (pairV a b) = Iv.sum a b q l := by
  unfold Iv.says Iv.sum
  congr 2
  apply List.filter_congr
  intro x _
  unfold Iv.hit
  congr 1
  rw [Bool.eq_iff_iff]
  simp only [decide_eq_true_eq, Bool.and_eq_true, beq_iff_eq]
  exact ⟨fun h => pair_inj h, fun h => by rw [h.1, h.2]⟩
theorem iv_says_nil (q : Int) (v : Value) : Iv.says q [] v = 0 := rfl
open Classical in
theorem iv_says_take (q : Int) (l : List StkR) (k : Nat) (hk : k < l.length) (v : Value) (h : ¬ (l[k].period = q ∧ pairV l[k].seller l[k].buyer = v)) : Iv.says q (l.take (k + 1)) v = Iv.says q (l.take k) v := by
  unfold Iv.says
  rw [List.take_add_one, List.getElem?_eq_getElem hk, Option.toList_some, List.filter_append, List.map_append, List.sum_append]
  have : (l[k].period == q && decide (pairV l[k].seller l[k].buyer = v)) = false := by
    rw [Bool.eq_false_iff]
    intro h2
    simp only [decide_eq_true_eq, Bool.and_eq_true, beq_iff_eq] at h2
    exact h h2
  simp [List.filter, this]
end Go.Proofs.YthfbpbbepogllaaGreat
/- 'm[k] += x' upon sums in a map of the call's own. Over any program. -/
namespace Go.Proofs.YthfbpbbepogllaaGreat
set_option linter.unusedVariables false
set_option linter.unusedSimpArgs false
open Go.RowKit Go.WideElems
open Go.Maps (Keyed)
open Go.WideMaps (KeyLaw)
open Go.ChangeMaps (setBlock heap_setBlock_same heap_setBlock_other)

section
variable {P : Program} {k e t : TypeId} {w : World} {b n : Nat} {f g : Value → Int}
/-- a map of the call's own that grows leaves what lies below -/
theorem below_grown {B : Nat} {w0 w w' : World} (h : Below B w0 w) (hb : B ≤ b) (hl : b < w.heap.size) (hg : w.grownBy w' (some b)) : Below B w0 w' :=
  ⟨hg.os.trans h.os, hg.tape.trans h.tape, hg.output.trans h.output, Nat.le_trans h.size hg.size, fun i hi => (hg.block i (by omega) (by simp; omega)).trans (h.block i hi)⟩
/-- the entry, and the store that waits for it -/
theorem KSum.entry (K : KeyLaw P k) (hK : Keyed P k) (he : P.underlying e = some (.int .i64)) (ht : P.underlying t = some (.map k e)) (hz : ∀ u : World, (zeroValue e).run P u = .ok (.int .i64 0) u) (h : KSum P k e w b n f) (hn : n < maxLen)
    {v : Value} {l : Lit} (hl : keyOf P k v = some l) {x : Int} (hx : (Lit.int .i64 x).wf = true) (hg : g v = x) (hgo : ∀ u lu, keyOf P k u = some lu → u ≠ v → g u = f u) :
    ∃ (v0 : Value) (st : Nat) (wX : World), (Instr.mapEntry t (.map (some b)) v).run P w = .ok (.tuple #[v0, goInt st]) wX ∧ w.grownBy wX (some b) ∧ KSum P k e wX b (n + 1) f ∧
      ∀ w2 : World, w2.heap = wX.heap → ∃ w3, (Instr.entryStore t (.map (some b)) (goInt st) (.int .i64 x)).run P w2 = .ok () w3 ∧ KSum P k e w3 b (n + 1) g ∧ w2.grownBy w3 (some b) := by
  obtain ⟨D, hO, hM, hD⟩ := h
  obtain ⟨es, cl, hb, F, hsz, hDD⟩ := id hO
  obtain ⟨v0, st, es1, cl1, hE, hor, hS⟩ := entry_then_store K ht hz hb F hl
  obtain ⟨v1, st1, wX, u1, u2, u3⟩ := entry_update K ht hz hb F hl
  have hS0 : KSum P k e w b n f := ⟨D, hO, hM, hD⟩
  obtain ⟨l1, l2⟩ := hS0.look hK he ht (hz w) hl
  rw [l1] at u3
  injection u3 with u3 _
  subst u3
  have pl : ∀ y : Int, (Lit.int .i64 y).wf = true → plainElem (H := Unit) P e (.int .i64 y) = some (.lit (.int .i64 y), []) := fun y hy => by simp [plainElem, he, hy]
  obtain ⟨wY, y1, y2, y3⟩ := hO.update hK ht hn hl (pl _ l2)
  rw [u2] at y1
  injection y1 with _ y1
  subst y1
  refine ⟨_, st1, wX, u1, y3, KSum.put hK hM hD hl rfl (fun _ _ _ _ => rfl) y2, fun w2 hw2 => ?_⟩
  rw [hE] at u1
  injection u1 with u4 u5
  have hst : st = st1 := by
    have := u4
    simp [goInt] at this
    omega
  subst hst
  have hX : wX.heap[b]? = some (.map es1 cl1) := by rw [← u5]; exact heap_setBlock_same hb _
  have h2 : w2.heap[b]? = some (.map es1 cl1) := by rw [hw2]; exact hX
  obtain ⟨es', cl', r1, r2⟩ := hS w2 (.int .i64 x) h2
  refine ⟨_, r1, ?_, ⟨rfl, rfl, rfl, by simp [setBlock], fun i _ hne => heap_setBlock_other h2 _ (fun e => hne (by rw [e]))⟩⟩
  obtain ⟨wZ, z1, z2, z3⟩ := hO.update hK ht hn hl (pl _ hx)
  rw [r2] at z1
  injection z1 with _ z1
  have hZ : KSum P k e wZ b (n + 1) g := KSum.put hK hM hD hl hg hgo z2
  refine hZ.same ?_
  rw [← z1]
  exact (heap_setBlock_same h2 _).trans (heap_setBlock_same hb _).symm
end
end Go.Proofs.YthfbpbbepogllaaGreat
/- The walk of inventory's profits. -/
namespace Go.Proofs.YthfbpbbepogllaaGreat
set_option linter.unusedVariables false
set_option linter.unusedSimpArgs false
open Go.RowKit

section
variable (p : Int) (w : World)
/-- the map of the sums -/
def SumPost (q : Int) (l : List StkR) (w : World) (e : Ending) (w' : World) : Prop :=
  ∃ g, e = .returned (.map (some g)) ∧ KSum Tryz.prog 103 3 w' g l.length (Iv.says q l) ∧ w.heap.size ≤ g ∧ Below w.heap.size w w'
set_option maxRecDepth 100000 in
set_option maxHeartbeats 8000000 in
theorem iprofits_any (l : List StkR) (A : Option Addr) (lc : Nat) (q : Int) (n : Nat) (hS : SIn w l A) (hok : l.all (Iv.ok p n) = true) (hn : l.length ≤ 200) (hnn : n ≤ 1000) :
    Calls Tryz.prog 38 #[.slice A l.length lc, .int .i64 q] w (SumPost q l w) := by
  unfold SumPost
  have HS := Lib.hid hS
  have HOK := Lib.hid hok
  have hb0 : Below w.heap.size w (w.alloc (.map #[] 0)) := (Below.refl _ _).alloc (Nat.le_refl _) _
  have HK0 := Lib.hid (KSum.made (P := Tryz.prog) (k := 103) (e := 3) w)
  clear hS hok
  have hmm := @run_makeMap Tryz.prog
  go_enter Tryz.func38, Tryz.ntmps38
  go_wp2_with fail
  generalize w.alloc (.map #[] 0) = W0 at *
  go_loopw [13] (fun t wr => ∃ k : Nat, k ≤ l.length ∧ t = .int .i64 k ∧ KSum Tryz.prog 103 3 wr w.heap.size k (Iv.says q (l.take k)) ∧ Below w.heap.size w wr) (fun t _ => l.length - (intOf t).toNat)
  case atStart => exact ⟨0, by omega, rfl, HK0.out, hb0⟩
  case round =>
    clear hb0 HK0
    obtain ⟨k, hk, rfl, hK, hb⟩ := hrel
    have HK := Lib.hid hK
    have hgl := hK.lt
    clear hK
    by_cases hlt : k < l.length
    · obtain ⟨b0, o, hA, hbo, f0, f1, f2, f3, f4⟩ := StkR.at_ (Rd.now HS.out.rd hb) hlt
      subst hA
      have hox : Iv.ok p n l[k] = true := List.all_eq_true.1 HOK.out _ (List.getElem_mem hlt)
      obtain ⟨m0, m1⟩ := iv_mul hox
      have KR := Lib.hid (fun W => rnd_any (l[k].amount * l[k].margin) W m0 (by omega))
      have HST := Lib.hid (iv_says_take q l k hlt)
      have HSUM0 : Hid (l[k].period = q → Iv.says q (l.take (k + 1)) (pairV l[k].seller l[k].buyer) = Iv.says q (l.take k) (pairV l[k].seller l[k].buyer) + rndV (l[k].amount * l[k].margin)) := Lib.hid (fun he => by
        rw [iv_says, iv_says, iv_sum_take _ _ _ l k hlt, if_pos (by unfold Iv.hit; simp [he])]
        rfl)
      have HSV : Hid (0 ≤ Iv.says q (l.take k) (pairV l[k].seller l[k].buyer) ∧ Iv.says q (l.take k) (pairV l[k].seller l[k].buyer) ≤ 200000000000000) := Lib.hid (by
        rw [iv_says]
        have h1 := iv_sum_in (p := p) (n := n) l[k].seller l[k].buyer q (l.take k) (List.all_eq_true.2 fun x hx => List.all_eq_true.1 HOK.out x (List.mem_of_mem_take hx))
        have h2 : (l.take k).length ≤ 200 := by rw [List.length_take]; omega
        omega)
      have HRV : Hid (0 ≤ rndV (l[k].amount * l[k].margin) ∧ rndV (l[k].amount * l[k].margin) ≤ 1000000000000) := Lib.hid (iv_one hox)
      have HWS : Hid ((Lit.int .i64 l[k].seller).wf = true ∧ (Lit.int .i64 l[k].buyer).wf = true) := Lib.hid (by
        obtain ⟨_, _, h1, h2, _⟩ := iv_ok.1 hox
        have h3 := iv_ent.1 h1
        have h4 := iv_ent.1 h2
        exact ⟨wf64 (by omega) (by omega), wf64 (by omega) (by omega)⟩)
      clear hox
      generalize hxx : l[k] = x at *
      have HXX := Lib.hid hxx
      clear hxx
      obtain ⟨e, xs, xb, am, mg⟩ := x
      dsimp only at *
      unfold RndPost at KR
      generalize rndV (am * mg) = r at *
      have hbn := hb.alloc hb.size (.cells #[.int .i64 e, .int .i64 xs, .int .i64 xb, .int .i64 am, .int .i64 mg] 59)
      have HKn := Lib.hid (HK.out.alloc (.cells #[.int .i64 e, .int .i64 xs, .int .i64 xb, .int .i64 am, .int .i64 mg] 59))
      have HBn := Lib.hid (Blk.new wr 59 #[.int .i64 e, .int .i64 xs, .int .i64 xb, .int .i64 am, .int .i64 mg])
      cases c1 : (e == q)
      · have hne : e ≠ q := by simpa using c1
        have HE : Hid (Iv.says q (l.take (k + 1)) = Iv.says q (l.take k)) := Lib.hid (funext fun v => HST.out v (fun h => hne h.1))
        clear hne
        go_wp2_with fail
        go_roundw
        case rel => exact ⟨k + 1, by omega, by go_num, by rw [HE.out]; exact HKn.out.more (by omega), hbn⟩
        case measure => simp [intOf]; omega
      · have hm : IntKind.i64.wrap (am * mg) = am * mg := IntWalk.i64_in _ (by omega)
        go_wp2_with (go_at_call 73; refine (KR.out _).mono ?_; rintro en w3 ⟨rfl, hb9⟩; have hb3 := bel hbn hb9; have HK3 := Lib.hid (HKn.out.step hb9); have HB3 := Lib.hid (HBn.out.step hb9); clear hb9)
        have hne : some wr.heap.size ≠ some w.heap.size := by intro e1; injection e1 with e1; omega
        have p1 : ∀ d : LaterS (fun w' => w3.grownBy w' (some w.heap.size) ∧ KSum Tryz.prog 103 3 w' w.heap.size (k + 1) (Iv.says q (l.take k))), d.now.cell? ⟨wr.heap.size, 1, none⟩ = some (.int .i64 xs) := fun d => (HB3.out.grown d.is.1 hne).cell 1
        have p2 : ∀ d : LaterS (fun w' => w3.grownBy w' (some w.heap.size) ∧ KSum Tryz.prog 103 3 w' w.heap.size (k + 1) (Iv.says q (l.take k))), d.now.cell? ⟨wr.heap.size, 2, none⟩ = some (.int .i64 xb) := fun d => (HB3.out.grown d.is.1 hne).cell 2
        refine relS_begin (n := 12) (fun w' => w3.grownBy w' (some w.heap.size) ∧ KSum Tryz.prog 103 3 w' w.heap.size (k + 1) (Iv.says q (l.take k))) 11 (by kernel_rfl) rfl ?_
        have hC : ∃ d : LaterS (fun w' => w3.grownBy w' (some w.heap.size) ∧ KSum Tryz.prog 103 3 w' w.heap.size (k + 1) (Iv.says q (l.take k))), w3.drew = d.now := LaterS.of ⟨(grown_below (Below.refl _ w3).drew _), (HK3.out.step (Below.refl _ w3).drew).more (by omega)⟩
        haveI : Nonempty (LaterS (fun w' => w3.grownBy w' (some w.heap.size) ∧ KSum Tryz.prog 103 3 w' w.heap.size (k + 1) (Iv.says q (l.take k)))) := by obtain ⟨d, _⟩ := hC; exact ⟨d⟩
        have hkey := pair_key (a := xs) (b := xb) HWS.out.1 HWS.out.2
        have HSUM : Hid (Iv.says q (l.take (k + 1)) (pairV xs xb) = Iv.says q (l.take k) (pairV xs xb) + r) := Lib.hid (HSUM0.out (by simpa using c1))
        have hsv0 := HSV.out.1
        have hsv1 := HSV.out.2
        have hr0 := HRV.out.1
        have hr1 := HRV.out.2
        obtain ⟨kl, hkl⟩ := hkey
        have hL6 : ∀ d : LaterS (fun w' => w3.grownBy w' (some w.heap.size) ∧ KSum Tryz.prog 103 3 w' w.heap.size (k + 1) (Iv.says q (l.take k))), (Instr.lookup 104 (.map (some w.heap.size)) (.agg #[.int .i64 xs, .int .i64 xb]) false).run Tryz.prog d.now = .ok (.int .i64 (Iv.says q (l.take k) (pairV xs xb))) d.now := fun d => (d.is.2.look keyed_pair Tryz.underlying3 Tryz.underlying104 (zero_int _) hkl).1
        generalize hsv : Iv.says q (l.take k) (pairV xs xb) = sv at *
        have hw6 : IntKind.i64.wrap (sv + r) = sv + r := IntWalk.i64_in _ (by omega)
        refine relS_want (i := 0) rfl rfl (by kernel_rfl) (by kernel_rfl) (by kernel_rfl) rfl rfl (by kernel_rfl) (by kernel_rfl) (fun _ _ _ _ h => h) hC ?_
        intro K hK
        go_big_quiet_op
        go_big_quiet_on
        refine relS_want (i := 1) rfl rfl (by kernel_rfl) (by kernel_rfl) (by kernel_rfl) rfl rfl (by kernel_rfl) (by kernel_rfl) (fun _ _ _ _ h => h) hC ?_
        intro K hK
        go_big_quiet_op
        go_big_quiet_on
        refine relS_want (i := 2) rfl rfl (by kernel_rfl) (by kernel_rfl) (by kernel_rfl) rfl rfl (by kernel_rfl) (by kernel_rfl) (fun _ _ _ _ h => h) hC ?_
        intro K hK
        go_big_quiet_op
        go_big_quiet_on
        refine relS_want (i := 3) rfl rfl (by kernel_rfl) (by kernel_rfl) (by kernel_rfl) rfl rfl (by kernel_rfl) (by kernel_rfl) (fun _ _ _ _ h => h) hC ?_
        intro K hK
        go_big_quiet_op
        go_big_quiet_on
        refine relS_want (i := 4) rfl rfl (by kernel_rfl) (by kernel_rfl) (by kernel_rfl) rfl rfl (by kernel_rfl) (by kernel_rfl) (fun _ _ _ _ h => h) hC ?_
        intro K hK
        go_big_quiet_op
        go_big_quiet_on
        refine relS_want (i := 5) rfl rfl (by kernel_rfl) (by kernel_rfl) (by kernel_rfl) rfl rfl (by kernel_rfl) (by kernel_rfl) (fun _ _ _ _ h => h) hC ?_
        intro K hK
        go_big_quiet_op
        go_big_quiet_on
        refine relS_want (i := 7) rfl rfl (by kernel_rfl) (by kernel_rfl) (by kernel_rfl) rfl rfl (by kernel_rfl) (by kernel_rfl) (fun _ _ _ _ h => h) hC ?_
        intro K hK
        go_big_quiet_op
        go_big_quiet_on
        refine relS_want (i := 6) rfl rfl (by kernel_rfl) (by kernel_rfl) (by kernel_rfl) rfl rfl (by kernel_rfl) (by kernel_rfl) (fun _ _ _ _ h => h) hC ?_
        intro K hK
        go_big_quiet_op
        go_big_quiet_on
        refine relS_want (i := 8) rfl rfl (by kernel_rfl) (by kernel_rfl) (by kernel_rfl) rfl rfl (by kernel_rfl) (by kernel_rfl) (fun _ _ _ _ h => h) hC ?_
        intro K hK
        go_big_quiet_op
        go_big_quiet_on
        clear p1 p2 hL6
        obtain ⟨v0, st, wX, e1, e2, e3, e4⟩ := KSum.entry law_pair keyed_pair Tryz.underlying3 Tryz.underlying104 zero_int (HK3.out.step (Below.refl _ w3).drew) (by unfold maxLen; omega) hkl (x := sv + r) (g := Iv.says q (l.take (k + 1))) (wf64 (by omega) (by omega)) HSUM.out (fun u lu _ hne => HST.out u (fun h => hne h.2.symm))
        obtain ⟨w9, f1, f2, f3⟩ := e4 wX rfl
        have hbe := below_grown hb3 (Nat.le_refl _) HK3.out.lt (((grown_below (Below.refl _ w3).drew _).trans e2).trans f3)
        clear f3
        have F2 := Lib.hid f2
        have E3 := Lib.hid e3
        clear e4 f2 e3
        unfold pairV at e1
        have hSX := LaterS.of (S := fun w' => w3.grownBy w' (some w.heap.size) ∧ KSum Tryz.prog 103 3 w' w.heap.size (k + 1) (Iv.says q (l.take k))) ⟨(grown_below (Below.refl _ w3).drew _).trans e2, E3.out⟩
        unfold goInt at e1 f1
        refine relS_call (i := 9) (by kernel_rfl) rfl rfl ?_
        intro K hK
        go_simp
        refine hK _ _ (.inr (.inr hSX)) ?_
        clear hK K e1
        try simp only [Act.put, List.setIfInBounds_toArray, List.set_cons_zero, List.set_cons_succ]
        refine relS_call (i := 10) (by kernel_rfl) rfl rfl ?_
        intro K hK
        go_simp
        refine hK _ _ (.inr (.inr hSX)) ?_
        clear hK K
        try simp only [Act.put, List.setIfInBounds_toArray, List.set_cons_zero, List.set_cons_succ]
        refine relS_call (i := 11) (by kernel_rfl) rfl rfl ?_
        intro K hK
        go_simp
        refine hK _ _ (.inr (.inl rfl)) ?_
        clear hK K
        try simp only [Act.put, List.setIfInBounds_toArray, List.set_cons_zero, List.set_cons_succ]
        refine wpAnyT_done (by kernel_rfl) ?_ _
        go_wp2_with fail
        go_roundw
        case rel => exact ⟨k + 1, by omega, by go_num, F2.out, hbe⟩
        case measure => simp [intOf]; omega
    · have hke : l.take k = l := List.take_of_length_le (by omega)
      rw [hke] at HK
      clear hke
      go_wp2_with fail
      go_ret
      exact ⟨w.heap.size, rfl, HK.out.more hk, Nat.le_refl _, hb⟩
end
end Go.Proofs.YthfbpbbepogllaaGreat
