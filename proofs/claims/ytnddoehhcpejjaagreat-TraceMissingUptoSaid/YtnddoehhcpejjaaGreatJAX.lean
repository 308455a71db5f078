/- Texts of this claim, put together. -/
import Derived.Test.YtnddoehhcpejjaaGreatJAA
import Derived.Test.YtnddoehhcpejjaaGreatJAW
import Derived.Maps.OwnSet
import Derived.Test.YtnddoehhcpejjaaGreatJAD
/- A map of the call's own from numbers to numbers, asked with ', ok'. Over any program. -/
namespace Go.Proofs.YtnddoehhcpejjaaGreat
set_option linter.unusedVariables false
set_option linter.unusedSimpArgs false
open Go.RowKit Go.WideElems
open Go.Maps (Keyed)

/-- Block b is a map of at most n entries that holds f. -/
def MapI (P : Program) (k e : TypeId) (w : World) (b n : Nat) (f : Int → Option Int) : Prop :=
  ∃ D : DataW Unit, w.ownsMap P k (plainElem P e) b n D ∧ Maps.IsMap D ∧ (∀ c, D.atKey (.int .i64 c) (.lit (.int .i64 0)) = .lit (.int .i64 ((f c).getD 0))) ∧ ∀ c, Maps.has D (.int .i64 c) = (f c).isSome
section
variable {P : Program} {k e t : TypeId} {w w' : World} {b n : Nat} {f g : Int → Option Int}
theorem MapI.made (w : World) : MapI P k e (w.alloc (.map #[] 0)) w.heap.size 0 (fun _ => none) := ⟨.map [], World.ownsMap_made _ _ _ _, Maps.isMap_empty, fun _ => by simp [DataW.atKey], fun _ => by simp [Maps.has_eq]⟩
theorem MapI.lt (h : MapI P k e w b n f) : b < w.heap.size := by obtain ⟨D, h1, _⟩ := h; exact h1.lt
theorem MapI.kept {row : Option Nat} (h : MapI P k e w b n f) (hg : w.grownBy w' row) (hne : some b ≠ row) : MapI P k e w' b n f := by obtain ⟨D, h, r⟩ := h; exact ⟨D, h.kept hg hne, r⟩
theorem MapI.step (h : MapI P k e w b n f) (hb : Below w.heap.size w w') : MapI P k e w' b n f := h.kept (grown_below hb none) (by simp)
theorem MapI.alloc (h : MapI P k e w b n f) (o : Obj) : MapI P k e (w.alloc o) b n f := h.kept (World.grownBy_alloc w o none) (by simp)
theorem MapI.isMap (h : MapI P k e w b n f) : ∃ es cl, w.heap[b]? = some (.map es cl) := by
  obtain ⟨D, ⟨es, cl, hb, _⟩, _⟩ := h
  exact ⟨es, cl, hb⟩
theorem MapI.same (h : MapI P k e w b n f) (hb : w'.heap[b]? = w.heap[b]?) : MapI P k e w' b n f := by
  obtain ⟨D, ⟨es, cl, h1, h2⟩, r⟩ := h
  exact ⟨D, ⟨es, cl, hb.trans h1, h2⟩, r⟩
theorem MapI.congr (h : MapI P k e w b n f) (hf : ∀ c, f c = g c) : MapI P k e w b n g := by
  obtain rfl : f = g := funext hf
  exact h
theorem MapI.more (h : MapI P k e w b n f) {m : Nat} (hm : n ≤ m) : MapI P k e w b m f := by
  obtain ⟨D, ⟨es, cl, h1, h2, h3, h4⟩, r⟩ := h
  exact ⟨D, ⟨es, cl, h1, h2, Nat.le_trans h3 hm, h4⟩, r⟩
theorem MapI.blk_ne {q : Nat} {E : TypeId} {cs : Array Value} (h : MapI P k e w b n f) (hr : Blk w q E cs) : b ≠ q := by
  obtain ⟨es, cl, hb⟩ := h.isMap
  rintro rfl
  unfold Blk at hr
  rw [hb] at hr
  simp at hr
/-- asked with ', ok': the run -/
theorem MapI.look (h : MapI P k e w b n f) (hk : P.underlying k = some (.int .i64)) (he : P.underlying e = some (.int .i64)) (ht : P.underlying t = some (.map k e)) (hz : (zeroValue e).run P w = .ok (.int .i64 0) w) {c : Int} (hc : (Lit.int .i64 c).wf = true) :
    (Instr.lookup t (.map (some b)) (.int .i64 c) true).run P w = .ok (.tuple #[.int .i64 ((f c).getD 0), .bool (f c).isSome]) w := by
  obtain ⟨D, h, _, hD, hh⟩ := h
  obtain ⟨v, ps, hrun, hv⟩ := h.look_ok (Maps.int_keyed hk) ht hz (plainElem_int he (by decide)) (Maps.keyOf_int_mk hk hc)
  obtain ⟨x, rfl, e2, _⟩ := plainElem_int_inv he hv
  rw [hD c] at e2
  injection e2 with e2 _
  injection e2 with e2
  injection e2 with _ e2
  rw [hrun, hh c, e2]
/-- asked with ', ok' -/
theorem wpList_mapI_look {ops : Array Oper} {rest : List Oper} {o : Oper} {a : Act} {Q : Exit → Act → World → Prop} (hgd : o.guard = none) (m x : Operand) (t : TypeId) (hop : o.op = Op.lookup t m x true)
    (hk : P.underlying k = some (.int .i64)) (he : P.underlying e = some (.int .i64)) (ht : P.underlying t = some (.map k e)) (hz : (zeroValue e).run P w = .ok (.int .i64 0) w) (h : MapI P k e w b n f) (c : Int) (hc : (Lit.int .i64 c).wf = true)
    (hm : a.eval m = .map (some b)) (hx : a.eval x = .int .i64 c) (y : Int) (z : Bool) (hy : (f c).getD 0 = y) (hz2 : (f c).isSome = z)
    (hK : wpList P ops Q rest (a.put o.dst (.tuple #[.int .i64 y, .bool z])) w) : wpList P ops Q (o :: rest) a w := by
  obtain ⟨D, h, _, hD, hh⟩ := h
  refine wpList_lookup_own_ok_int w hgd m x t hop k e .i64 (Maps.int_keyed hk) ht he hz b n D hm h _ (.int .i64 c) hx (Maps.keyOf_int_mk hk hc) ?_
  intro c' hc' _
  rw [hD c] at hc'
  injection hc' with hc'
  injection hc' with _ hc'
  rw [hh c, hz2, ← hc', hy]
  exact hK
/-- a number is laid: the run -/
theorem MapI.put (h : MapI P k e w b n f) (hk : P.underlying k = some (.int .i64)) (he : P.underlying e = some (.int .i64)) (ht : P.underlying t = some (.map k e)) (hn : n < maxLen) {c y : Int} (hc : (Lit.int .i64 c).wf = true) (hy : (Lit.int .i64 y).wf = true)
    (hg : g c = some y) (hgo : ∀ d, d ≠ c → g d = f d) : ∃ w2, (Instr.mapUpdate t (.map (some b)) (.int .i64 c) (.int .i64 y)).run P w = .ok () w2 ∧ MapI P k e w2 b (n + 1) g ∧ w.grownBy w2 (some b) := by
  obtain ⟨D, h1, hM, hD, hh⟩ := h
  obtain ⟨w2, r1, r2, r3⟩ := h1.update (Maps.int_keyed hk) ht hn (Maps.keyOf_int_mk hk hc) (plainElem_int he hy)
  refine ⟨w2, r1, ⟨_, r2, hM.put _ _, fun d => ?_, fun d => ?_⟩, r3⟩
  · by_cases hd : d = c
    · subst hd
      rw [Maps.atKey_put_same hM (show WideAt.IsKeyLit (.int .i64 d) from trivial), hg]
      rfl
    · rw [Maps.atKey_put_other (int_ne hd), hD d, hgo d hd]
  · by_cases hd : d = c
    · subst hd
      rw [Maps.has_put_same hM (show WideAt.IsKeyLit (.int .i64 d) from trivial), hg]
      rfl
    · rw [Maps.has_put_other (int_ne hd), hh d, hgo d hd]
theorem MapI.ne_row {base : Nat} {E : TypeId} {sz : Nat} {v : Value} {m : Nat} {xs : List Value} (h : MapI P k e w b n f) (hr : w.ownsRow base E sz v m xs) : some b ≠ v.ownBlock := by
  obtain ⟨D, h, _⟩ := h
  exact map_ne h hr
/-- a number is laid: at the operation -/
theorem wpList_mapI_put {ops : Array Oper} {rest : List Oper} {o : Oper} {a : Act} {Q : Exit → Act → World → Prop} (g : Int → Option Int) (hgd : o.guard = none) (m x v : Operand) (t : TypeId) (hop : o.op = Op.mapUpdate t m x v)
    (hk : P.underlying k = some (.int .i64)) (he : P.underlying e = some (.int .i64)) (ht : P.underlying t = some (.map k e)) (h : MapI P k e w b n f) (hn : n < maxLen) (c y : Int) (hc : (Lit.int .i64 c).wf = true) (hy : (Lit.int .i64 y).wf = true)
    (hm : a.eval m = .map (some b)) (hx : a.eval x = .int .i64 c) (hv : a.eval v = .int .i64 y) (hg : g c = some y) (hgo : ∀ d, d ≠ c → g d = f d)
    (hK : ∀ w', MapI P k e w' b (n + 1) g → w.grownBy w' (some b) → wpList P ops Q rest (a.put o.dst undef) w') : wpList P ops Q (o :: rest) a w := by
  obtain ⟨D, h, hM, hD, hh⟩ := h
  refine wpList_mapUpdate_own w hgd m x v t hop k e (Maps.int_keyed hk) ht _ b n D hm h hn _ _ (.int .i64 c) hx hv (Maps.keyOf_int_mk hk hc) (.lit (.int .i64 y)) [] (plainElem_int he hy) fun w' h2 g2 => hK w' ⟨_, h2, hM.put _ _, fun d => ?_, fun d => ?_⟩ g2
  · by_cases hd : d = c
    · subst hd
      rw [Maps.atKey_put_same hM (show WideAt.IsKeyLit (.int .i64 d) from trivial), hg]
      rfl
    · rw [Maps.atKey_put_other (int_ne hd), hD d, hgo d hd]
  · by_cases hd : d = c
    · subst hd
      rw [Maps.has_put_same hM (show WideAt.IsKeyLit (.int .i64 d) from trivial), hg]
      rfl
    · rw [Maps.has_put_other (int_ne hd), hh d, hgo d hd]
end
end Go.Proofs.YtnddoehhcpejjaaGreat
/- A journal in memory; the walk of New. -/
namespace Go.Proofs.YtnddoehhcpejjaaGreat
set_option linter.unusedVariables false
set_option linter.unusedSimpArgs false
open Go.RowKit

/-- a journal's cells -/
def jOf (G : Array Value) (v : Value) (b1 b2 : Nat) : Array Value := (G.toList ++ ([v, .map (some b1), .map (some b2)] : List Value)).toArray
section
variable {G : Array Value} {v v' : Value} {b1 b2 : Nat}
theorem jOf_size (h : G.size = 21) : (jOf G v b1 b2).size = 24 := by simp [jOf, h]
theorem jOf_low (h : G.size = 21) {j : Nat} (hj : j < 21) : (jOf G v b1 b2)[j]? = G[j]? := by
  have : j < G.toList.length := by rw [Array.length_toList, h]; exact hj
  unfold jOf
  rw [List.getElem?_toArray, List.getElem?_append_left this, Array.getElem?_toList]
theorem jOf_high (h : G.size = 21) (k : Nat) : (jOf G v b1 b2)[21 + k]? = ([v, .map (some b1), .map (some b2)] : List Value)[k]? := by
  unfold jOf
  rw [List.getElem?_toArray, List.getElem?_append_right (by rw [Array.length_toList, h]; omega), Array.length_toList, h, Nat.add_sub_cancel_left]
theorem jOf_set (h : G.size = 21) : (jOf G v b1 b2).setIfInBounds 21 v' = jOf G v' b1 b2 := by
  unfold jOf
  rw [List.setIfInBounds_toArray, List.set_append_right _ _ (by rw [Array.length_toList, h]; omega), Array.length_toList, h]
  rfl
theorem jOf_range {w : World} {b : Nat} {t : TypeId} (hB : Blk w b t (jOf G v b1 b2)) (h : G.size = 21) : w.rangeAt b 0 G.toList := fun j u hu => by
  have hj : j < 21 := by
    have := (List.getElem?_eq_some_iff.1 hu).1
    rwa [Array.length_toList, h] at this
  rw [Nat.zero_add, hB.cell j, jOf_low h hj, ← Array.getElem?_toList]
  exact hu
end
theorem jOf_built {gcs : Array Value} {cur : ByteArray} {y m p : Int} {nc : Nat} {cA : Option Addr} {cc : Nat} {ro : RolesR} {ne : Nat} {eA : Option Addr} {ec : Nat} (HG : gcs = gcArr cur y m p nc cA cc ro ne eA ec) (b1 b2 : Nat) :
    (Tryz.prog).built 104 [(0, .agg gcs), (2, .map (some b1)), (3, .map (some b2))] = some (jOf gcs (.slice none 0 0) b1 b2) := by
  rw [HG]
  kernel_rfl
/-- an entry but for where its lines lie -/
def bareE (x : EntryR) : EntryR := ⟨x.id, x.entity, x.date, x.kind, x.of, x.text, ⟨x.lines.l, none, 0⟩⟩
/-- a journal with some entries; below its own memory all is as it was -/
structure JIn (w1 w : World) (jb b1 b2 : Nat) (G : Array Value) (v : Value) (L es : List EntryR) : Prop where
  j0 : w1.heap.size ≤ jb
  m10 : w1.heap.size ≤ b1
  m20 : w1.heap.size ≤ b2
  m12 : b1 ≠ b2
  below : Below w1.heap.size w1 w
  blk : Blk w jb 104 (jOf G v b1 b2)
  row : w.ownsRow w1.heap.size 67 7 v L.length (cellsOf EntryR.cells L)
  lines : ∀ x ∈ L, OwnL LineR.cells w1.heap.size 69 3 w x.lines
  same : L.map bareE = es.map bareE
  m1 : MapI Tryz.prog 3 3 w b1 es.length (fun id => (Jn.get es id).map Int.ofNat)
  m2 : MapI Tryz.prog 3 3 w b2 es.length (Jn.rev es)
def NewPost (V : Bool) (cur : ByteArray) (y m p : Int) (cl : List Acc) (ro : RolesR) (el : List EntR) (w : World) (e : Ending) (w' : World) : Prop :=
  (V = false ∧ e = .returned (.tuple #[.pointer none, .int .i64 1]) ∧ Below w.heap.size w w') ∨
  (V = true ∧ ∃ (jb b1 b2 : Nat) (cA2 : Option Addr) (cc2 : Nat) (el2 : List EntR) (eA2 : Option Addr) (ec2 : Nat) (w1 : World), e = .returned (.tuple #[.pointer (some ⟨jb, 0, none⟩), .int .i64 0]) ∧
    GIn w1 cl cA2 el2 eA2 ∧ el2.map bare = el.map bare ∧ Below w.heap.size w w1 ∧ JIn w1 w' jb b1 b2 (gcArr cur y m p cl.length cA2 cc2 ro el.length eA2 ec2) (.slice none 0 0) [] [])
theorem gv_one {cur : ByteArray} {cl : List Acc} {ro : RolesR} {el : List EntR} {cal : Bool} (h : Gr.gv cur cl ro el cal = true) : 1 ≤ el.length := by
  unfold Gr.gv at h
  simp only [Bool.and_eq_true, decide_eq_true_eq] at h
  exact h.2.2.2.1
section
variable (gcs : Array Value) (cur : ByteArray) (y m p : Int) (cl : List Acc) (cA : Option Addr) (cc : Nat) (ro : RolesR) (el : List EntR) (eA : Option Addr) (ec : Nat) (w : World)
set_option maxRecDepth 100000 in
set_option maxHeartbeats 8000000 in
theorem new_any (HG : Hid (gcs = #[.string cur, .int .i64 y, .int .i64 m, .int .i64 p, .slice cA cl.length cc, .int .i64 ro.investment, .int .i64 ro.goodwill, .int .i64 ro.associates, .int .i64 ro.inventory, .int .i64 ro.reserve, .int .i64 ro.minority, .int .i64 ro.retained, .int .i64 ro.acquired, .int .i64 ro.owners, .int .i64 ro.disposal, .int .i64 ro.associateProfit, .int .i64 ro.dividends, .int .i64 ro.minorityProfit, .int .i64 ro.difference, .int .i64 ro.margin, .slice eA el.length ec])) (h : GIn w cl cA el eA) (hF : FewOk cur cl el) : Calls Tryz.prog 25 #[.agg gcs] w (NewPost (Gr.gv cur cl ro el (Cal.ok y m p)) cur y m p cl ro el w) := by
  have H := Lib.hid h
  have HVC := Lib.hid (fun W (h : GIn W cl cA el eA) => gvalid_any gcs cur y m p cl cA cc ro el eA ec W HG h hF)
  have HCC := Lib.hid (fun W (h : GIn W cl cA el eA) h1 => gcopy_any gcs cur y m p cl cA cc ro el eA ec W HG h hF h1)
  have H1 := Lib.hid (fun (hv : Gr.gv cur cl ro el (Cal.ok y m p) = true) => gv_one hv)
  clear h hF
  have hgi : (Tryz.prog.info? 29).map (·.size) = some gcs.size := by rw [HG.out]; exact grp_size
  have hb : Below w.heap.size w (w.alloc (.cells gcs 29)) := (Below.refl _ _).alloc (Nat.le_refl _) _
  have HB := Lib.hid (Blk.new w 29 gcs)
  have hmm := @run_makeMap Tryz.prog
  generalize Gr.gv cur cl ro el (Cal.ok y m p) = V at *
  go_enter Tryz.func25, Tryz.ntmps25
  go_upto_region 1 with fail
  generalize w.alloc (.cells gcs 29) = W at *
  cases V
  · go_wp2_with (first
      | (refine wpList_load_blk 29 (.tmp 1) rfl (w.heap.size) rfl (by kernel_rfl) (HB).out Tryz.underlying29 hgi ?_)
      | (go_at_call 38; refine (HVC.out _ (H.out.step hb)).mono ?_; rintro e w3 ⟨rfl, hb3⟩; have hb4 := bel hb hb3))
    go_ret2
    exact .inl ⟨rfl, rfl, hb4⟩
  · have h1 := H1.out rfl
    have HN1 := Lib.hid h1
    clear h1
    go_upto_region 3 with (first
      | (refine wpList_load_blk 29 (.tmp 1) rfl (w.heap.size) rfl (by kernel_rfl) (HB).out Tryz.underlying29 hgi ?_)
      | (go_at_call 38; refine (HVC.out _ (H.out.step hb)).mono ?_; rintro e w3 ⟨rfl, hb3⟩; have hb4 := bel hb hb3; have HB3 := Lib.hid (HB.out.step hb3); clear hb3))
    clear hb HB
    go_wp2_with (first
      | (refine wpList_load_blk 29 (.tmp 1) rfl (w.heap.size) rfl (by kernel_rfl) (HB3).out Tryz.underlying29 hgi ?_)
      | (go_at_call 39; refine (HCC.out _ (H.out.step hb4) HN1.out).mono ?_; rintro e w5 ⟨cA2, cc2, el2, eA2, ec2, rfl, hg5, hbr, hb9⟩; have hb5 := bel hb4 hb9; have HG5 := Lib.hid hg5; have HBR := Lib.hid hbr; clear hb9 hg5 hbr; obtain ⟨G2, hG2⟩ : ∃ G2, G2 = gcArr cur y m p cl.length cA2 cc2 ro el.length eA2 ec2 := ⟨_, rfl⟩; have HGE := Lib.hid hG2; rw [← hG2]; clear hG2; have HBT := Lib.hid (jOf_built HGE.out w5.heap.size (w5.heap.size + 1)))
      | (refine wpList_builtV rfl 11 rfl 104 _ rfl (jOf G2 (.slice none 0 0) w5.heap.size (w5.heap.size + 1)) [(0, .agg G2), (2, .map (some w5.heap.size)), (3, .map (some (w5.heap.size + 1)))] (by kernel_rfl) HBT.out ?_))
    go_ret2
    refine .inr ⟨rfl, w5.heap.size + 1 + 1, w5.heap.size, w5.heap.size + 1, cA2, cc2, el2, eA2, ec2, w5, rfl, HG5.out, HBR.out, hb5, ?_⟩
    rw [← HGE.out]
    refine ⟨by omega, Nat.le_refl _, by omega, by omega, (((Below.refl _ _).alloc (Nat.le_refl _) _).alloc (by simp) _).alloc (by simp; omega) _, ?_, World.ownsRow_nil _ _ _ _, fun x hx => by (cases hx), rfl, ?_, ?_⟩
    · have := Blk.new ((w5.alloc (.map #[] 0)).alloc (.map #[] 0)) 104 (jOf G2 (.slice none 0 0) w5.heap.size (w5.heap.size + 1))
      rwa [World.size_alloc, World.size_alloc] at this
    · exact ((MapI.made (P := Tryz.prog) (k := 3) (e := 3) w5).alloc _).alloc _
    · have := (MapI.made (P := Tryz.prog) (k := 3) (e := 3) (w5.alloc (.map #[] 0))).alloc (.cells (jOf G2 (.slice none 0 0) w5.heap.size (w5.heap.size + 1)) 104)
      rwa [World.size_alloc] at this
end
end Go.Proofs.YtnddoehhcpejjaaGreat
/- The walk of reverses. -/
namespace Go.Proofs.YtnddoehhcpejjaaGreat
set_option linter.unusedVariables false
set_option linter.unusedSimpArgs false
open Go.RowKit

namespace Jn
theorem rv_none {es : List EntryR} {x : EntryR} (h : get es x.of = none) : rvE es x = 8 := by
  unfold rvE
  rw [h]
theorem rv_at {es : List EntryR} {x o : EntryR} {k : Nat} (h : get es x.of = some k) (ho : bareE o = bareE (es.getD k default)) :
    rvE es x = if decide (o.kind = 3) || (rev es x.of).isSome then 7 else if decide (o.entity = x.entity) && decide (o.date ≤ x.date) && oppB x.lines.l o.lines.l then 0 else 18 := by
  unfold rvE
  rw [h]
  dsimp only
  generalize es.getD k default = z at *
  obtain ⟨z1, z2, z3, z4, z5, z6, ⟨z7, z8, z9⟩⟩ := z
  obtain ⟨o1, o2, o3, o4, o5, o6, ⟨o7, o8, o9⟩⟩ := o
  unfold bareE at ho
  dsimp only at ho
  injection ho with h1 h2 h3 h4 h5 h6 h7
  injection h7 with h7
  subst h1 h2 h3 h4 h5 h6 h7
  rfl
end Jn
section
variable (w : World) (id en da kd fo : Int) (tx : ByteArray) (ll : List LineR) (lA : Option Addr) (lc : Nat)
set_option maxRecDepth 100000 in
set_option maxHeartbeats 8000000 in
theorem reverses_any (w1 : World) (jb b1 b2 : Nat) (G : Array Value) (v : Value) (L es : List EntryR) (h : JIn w1 w jb b1 b2 G v L es) (hG : G.size = 21) (hes : ∀ y ∈ es, y.lines.l.length ≤ 40 ∧ ∀ l ∈ y.lines.l, -1000000000000 ≤ l.amount ∧ l.amount ≤ 1000000000000) (hln : es.length ≤ 1000)
    (hr : Rd w w.heap.size 3 lA ll.length (cellsOf LineR.cells ll)) (hn : ll.length ≤ 1000) (hfo : Wf fo) :
    Calls Tryz.prog 41 #[.pointer (some ⟨jb, 0, none⟩), .agg #[.int .i64 id, .int .i64 en, .int .i64 da, .int .i64 kd, .int .i64 fo, .string tx, .slice lA ll.length lc]] w (IntPost (Jn.rvE es ⟨id, en, da, kd, fo, tx, ⟨ll, lA, lc⟩⟩) w) := by
  have J := Lib.hid h
  have HR := Lib.hid hr
  have HES := Lib.hid hes
  obtain ⟨A, c, hv, hrow⟩ := Rd.of_own h.row
  subst hv
  have HROW := Lib.hid hrow
  have hll : L.length = es.length := by have := congrArg List.length h.same; simpa using this
  clear h hr hes hrow
  have hb : Below w.heap.size w (w.alloc (.cells #[.int .i64 id, .int .i64 en, .int .i64 da, .int .i64 kd, .int .i64 fo, .string tx, .slice lA ll.length lc] 67)) := (Below.refl _ _).alloc (Nat.le_refl _) _
  have HP := Lib.hid (Blk.new w 67 #[.int .i64 id, .int .i64 en, .int .i64 da, .int .i64 kd, .int .i64 fo, .string tx, .slice lA ll.length lc])
  have HM1 := Lib.hid (J.out.m1.alloc (.cells #[.int .i64 id, .int .i64 en, .int .i64 da, .int .i64 kd, .int .i64 fo, .string tx, .slice lA ll.length lc] 67))
  have HM2 := Lib.hid (J.out.m2.alloc (.cells #[.int .i64 id, .int .i64 en, .int .i64 da, .int .i64 kd, .int .i64 fo, .string tx, .slice lA ll.length lc] 67))
  have HJ := Lib.hid (J.out.blk.alloc (.cells #[.int .i64 id, .int .i64 en, .int .i64 da, .int .i64 kd, .int .i64 fo, .string tx, .slice lA ll.length lc] 67))
  generalize hX : Jn.rvE es ⟨id, en, da, kd, fo, tx, ⟨ll, lA, lc⟩⟩ = X at *
  have HX := Lib.hid hX
  clear hX
  go_enter Tryz.func41, Tryz.ntmps41
  go_upto_region 1 with fail
  generalize w.alloc (.cells #[.int .i64 id, .int .i64 en, .int .i64 da, .int .i64 kd, .int .i64 fo, .string tx, .slice lA ll.length lc] 67) = W at *
  have q0 : ∀ d : Later W, d.now.cell? ⟨jb, 22, none⟩ = some (.map (some b1)) := fun d => d.cell HJ.out.lt ((HJ.out.cell 22).trans (jOf_high hG 1))
  have q1 : ∀ d : Later W, d.now.cell? ⟨w.heap.size, 4, none⟩ = some (.int .i64 fo) := fun d => d.cell HP.out.lt (HP.out.cell 4)
  have qL : ∀ d : Later W, (Instr.lookup 99 (.map (some b1)) (.int .i64 fo) true).run Tryz.prog d.now = .ok (.tuple #[.int .i64 (((Jn.get es fo).map Int.ofNat).getD 0), .bool ((Jn.get es fo).map Int.ofNat).isSome]) d.now := fun d => (HM1.out.step d.below).look Tryz.underlying3 Tryz.underlying3 Tryz.underlying99 (zero_int _) hfo
  cases hget : Jn.get es fo with
  | none =>
    have HE : Hid (X = 8) := Lib.hid (by rw [← HX.out]; exact Jn.rv_none hget)
    rw [hget] at qL
    dsimp only [Option.map_none, Option.getD_none, Option.isSome_none] at qL
    clear hget
    refine wp_region_later (by kernel_rfl) (by kernel_rfl) ?_; (repeat (go_big_quiet_step ((fail)))); refine wpQuiet_nil ?_; rintro _ ⟨dq, rfl⟩
    have hbe := bel hb dq.below
    go_wp2_with fail
    go_ret
    exact ⟨by rw [HE.out]; rfl, hbe⟩
  | some k =>
    obtain ⟨hk, -⟩ := Jn.get_lt hget
    have hkL : k < L.length := by omega
    have HRV := Lib.hid (fun o ho => Jn.rv_at (x := ⟨id, en, da, kd, fo, tx, ⟨ll, lA, lc⟩⟩) (o := o) hget ho)
    rw [hget] at qL
    dsimp only [Option.map_some, Option.getD_some, Option.isSome_some] at qL
    clear hget
    have hofn : Int.ofNat k = (k : Int) := rfl
    rw [hofn] at qL
    clear hofn
    refine wp_region_later (by kernel_rfl) (by kernel_rfl) ?_; (repeat (go_big_quiet_step ((fail)))); refine wpQuiet_nil ?_; rintro _ ⟨dq, rfl⟩
    have hbe := bel hb dq.below
    replace HP := Lib.hid (HP.out.step dq.below)
    replace HM2 := Lib.hid (HM2.out.step dq.below)
    replace HJ := Lib.hid (HJ.out.step dq.below)
    clear q0 q1 qL HM1 hb
    generalize dq.now = W2 at *
    clear dq
    obtain ⟨bb, o, hA, hbo, f0, f1, f2, f3, f4, f5, f6⟩ := EntryR.at_ (Rd.now HROW.out hbe) hkL
    subst hA
    have hLK := J.out.lines _ (List.getElem_mem hkL)
    have hsm : bareE L[k] = bareE (es.getD k default) := by
      have h1 : (L.map bareE)[k]'(by rw [List.length_map]; exact hkL) = (es.map bareE)[k]'(by rw [List.length_map]; exact hk) := by simp only [J.out.same]
      rw [List.getElem_map, List.getElem_map] at h1
      rw [h1, getD_lt es k default hk]
    have hbd := HES.out _ (List.getElem_mem hk)
    rw [← getD_lt es k default hk] at hbd
    have HRVX := Lib.hid (HRV.out _ hsm)
    have hbd2 : L[k].lines.l.length ≤ 40 ∧ ∀ l ∈ L[k].lines.l, -1000000000000 ≤ l.amount ∧ l.amount ≤ 1000000000000 := by
      have h7 : L[k].lines.l = (es.getD k default).lines.l := by
        show (bareE L[k]).lines.l = (bareE (es.getD k default)).lines.l
        rw [hsm]
      rw [h7]; exact hbd
    have HSM := Lib.hid hbd2
    have hrl : Rd w w.heap.size 3 L[k].lines.A L[k].lines.l.length (cellsOf LineR.cells L[k].lines.l) := (hLK.lies).1
    have HRL := Lib.hid hrl
    have k21 : W2.cell? ⟨jb, 21, none⟩ = some (.slice (some ⟨bb, o, none⟩) L.length c) := (HJ.out.cell 21).trans (jOf_high hG 0)
    clear hLK hsm hbd hbd2 hrl HRV
    generalize L[k] = z at *
    obtain ⟨oi, oe, od, ok, oo, ot, ⟨ol, oA, oc⟩⟩ := z
    dsimp only [Sl.val] at *
    have hst := (Below.refl W2.heap.size W2).alloc (Nat.le_refl _) (.cells #[.int .i64 oi, .int .i64 oe, .int .i64 od, .int .i64 ok, .int .i64 oo, .string ot, .slice oA ol.length oc] 67)
    have HO := Lib.hid (Blk.new W2 67 #[.int .i64 oi, .int .i64 oe, .int .i64 od, .int .i64 ok, .int .i64 oo, .string ot, .slice oA ol.length oc])
    replace HP := Lib.hid (HP.out.step hst)
    replace HM2 := Lib.hid (HM2.out.step hst)
    replace HJ := Lib.hid (HJ.out.step hst)
    replace hbe := bel hbe hst
    have hkk : (0 : Int) ≤ (k : Int) := by omega
    have hkk2 : (k : Int) < L.length := by omega
    go_upto_region 5 with fail
    have hfr : fo = (⟨id, en, da, kd, fo, tx, ⟨ll, lA, lc⟩⟩ : EntryR).of := rfl
    clear hfr k21
    generalize W2.alloc (.cells #[.int .i64 oi, .int .i64 oe, .int .i64 od, .int .i64 ok, .int .i64 oo, .string ot, .slice oA ol.length oc] 67) = W3 at *
    have p0 : ∀ d : Later W3, d.now.cell? ⟨jb, 23, none⟩ = some (.map (some b2)) := fun d => d.cell HJ.out.lt ((HJ.out.cell 23).trans (jOf_high hG 2))
    have p1 : ∀ d : Later W3, d.now.cell? ⟨w.heap.size, 4, none⟩ = some (.int .i64 fo) := fun d => d.cell HP.out.lt (HP.out.cell 4)
    have pL : ∀ d : Later W3, (Instr.lookup 99 (.map (some b2)) (.int .i64 fo) true).run Tryz.prog d.now = .ok (.tuple #[.int .i64 ((Jn.rev es fo).getD 0), .bool (Jn.rev es fo).isSome]) d.now := fun d => (HM2.out.step d.below).look Tryz.underlying3 Tryz.underlying3 Tryz.underlying99 (zero_int _) hfo
    generalize (Jn.rev es fo).getD 0 = rv at *
    generalize (Jn.rev es fo).isSome = rb at *
    rw [HX.out] at HRVX
    clear f0 f1 f2 f3 f4 f5 f6 hst hkk hkk2
    refine wp_region_later (by kernel_rfl) (by kernel_rfl) ?_; (repeat (go_big_quiet_step ((fail)))); refine wpQuiet_nil ?_; rintro _ ⟨dq, rfl⟩
    have hbx := bel hbe dq.below
    have HP4 := Lib.hid (HP.out.step dq.below)
    have HO4 := Lib.hid (HO.out.step dq.below)
    clear p0 p1 pL HP HO HM2 HJ hbe
    generalize hwz : W2.heap.size = wz at *
    clear hwz
    generalize dq.now = W4 at *
    clear dq
    have e1 : W4.cell? ⟨w.heap.size, 1, none⟩ = some (.int .i64 en) := HP4.out.cell 1
    have e2 : W4.cell? ⟨w.heap.size, 2, none⟩ = some (.int .i64 da) := HP4.out.cell 2
    have e6 : W4.cell? ⟨w.heap.size, 6, none⟩ = some (.slice lA ll.length lc) := HP4.out.cell 6
    have o1 : W4.cell? ⟨wz, 1, none⟩ = some (.int .i64 oe) := HO4.out.cell 1
    have o2 : W4.cell? ⟨wz, 2, none⟩ = some (.int .i64 od) := HO4.out.cell 2
    have o3 : W4.cell? ⟨wz, 3, none⟩ = some (.int .i64 ok) := HO4.out.cell 3
    have o6 : W4.cell? ⟨wz, 6, none⟩ = some (.slice oA ol.length oc) := HO4.out.cell 6
    cases rb
    · cases hk3 : (ok == 3)
      · have hk3' : decide (ok = 3) = false := by simpa using hk3
        have HQ : Hid (X = if decide (oe = en) && decide (od ≤ da) && Jn.oppB ll ol then 0 else 18) := Lib.hid (by rw [HRVX.out]; simp [hk3'])
        clear hk3' HRVX
        cases hoe : (oe != en)
        · by_cases hda : da < od
          · have HE : Hid (X = 18) := Lib.hid (by rw [HQ.out]; simp; omega)
            go_wp2_with fail
            go_ret
            exact ⟨by rw [HE.out]; rfl, hbx⟩
          · have hoe' : decide (oe = en) = true := by simpa using hoe
            have hda' : decide (od ≤ da) = true := by simp; omega
            have HQ2 : Hid (X = if Jn.oppB ll ol then 0 else 18) := Lib.hid (by rw [HQ.out, hoe', hda']; rfl)
            clear hoe' hda' HQ
            have K := Lib.hid (opp_any ll ol lA oA lc oc W4 (Rd.now HR.out hbx) (Rd.now HRL.out hbx) hn (by have := HSM.out.1; omega) (fun y hy => by have := HSM.out.2 y hy; omega))
            cases hop : Jn.oppB ll ol
            · have HE : Hid (X = 18) := Lib.hid (by rw [HQ2.out, hop]; rfl)
              rw [hop] at K
              clear hop
              go_wp2_with (go_at_call 68; refine K.out.mono ?_; rintro e w5 ⟨rfl, hb9⟩; have hb5 := bel hbx hb9; clear hb9)
              go_ret
              exact ⟨by rw [HE.out]; rfl, hb5⟩
            · have HE : Hid (X = 0) := Lib.hid (by rw [HQ2.out, hop]; rfl)
              rw [hop] at K
              clear hop
              go_wp2_with (go_at_call 68; refine K.out.mono ?_; rintro e w5 ⟨rfl, hb9⟩; have hb5 := bel hbx hb9; clear hb9)
              go_ret
              exact ⟨by rw [HE.out]; rfl, hb5⟩
        · have hoe' : decide (oe = en) = false := by simpa using hoe
          have HE : Hid (X = 18) := Lib.hid (by rw [HQ.out, hoe']; rfl)
          clear hoe'
          go_wp2_with fail
          go_ret
          exact ⟨by rw [HE.out]; rfl, hbx⟩
      · have hk3' : decide (ok = 3) = true := by simpa using hk3
        have HE : Hid (X = 7) := Lib.hid (by rw [HRVX.out]; simp [hk3'])
        clear hk3'
        go_wp2_with fail
        go_ret
        exact ⟨by rw [HE.out]; rfl, hbx⟩
    · have HE : Hid (X = 7) := Lib.hid (by rw [HRVX.out]; simp)
      go_wp2_with fail
      go_ret
      exact ⟨by rw [HE.out]; rfl, hbx⟩
end
end Go.Proofs.YtnddoehhcpejjaaGreat
/- A journal's state between two stores, and behind one more entry. No walk. -/
namespace Go.Proofs.YtnddoehhcpejjaaGreat
set_option linter.unusedVariables false
set_option linter.unusedSimpArgs false
open Go.RowKit

namespace Jn
theorem get_app {C : EntryR → Int} {es : List EntryR} {x : EntryR} (h : poE C es x = 0) (id : Int) : get (es ++ [x]) id = if id = x.id then some es.length else get es id := by
  obtain ⟨_, h2, _, _⟩ := po_zero h
  rw [get_more]
  by_cases e : id = x.id
  · rw [if_pos e, e, h2]
    simp
  · rw [if_neg e]
    cases h3 : get es id with
    | some j => simp
    | none => simp; exact fun h4 => absurd h4.symm e
theorem rev_app3 {C : EntryR → Int} {es : List EntryR} {x : EntryR} (h : poE C es x = 0) (h3 : x.kind = 3) (id : Int) : rev (es ++ [x]) id = if id = x.of then some x.id else rev es id := by
  obtain ⟨_, _, h2, _⟩ := po_zero h
  have hr := rv_zero (h2 h3)
  rw [rev_more]
  by_cases e : id = x.of
  · rw [if_pos e, e, hr]
    simp [h3]
  · rw [if_neg e]
    cases h4 : rev es id with
    | some j => simp
    | none => simp; exact fun _ h5 => absurd h5.symm e
theorem rev_app {es : List EntryR} {x : EntryR} (h3 : x.kind ≠ 3) (id : Int) : rev (es ++ [x]) id = rev es id := by
  rw [rev_more]
  cases h4 : rev es id with
  | some j => simp
  | none => simp [h3]
theorem po_is {C : EntryR → Int} {es : List EntryR} {x : EntryR} (hl : es.length < 2000) :
    poE C es x = if C x = 0 then (if (get es x.id).isSome then 9 else if x.kind = 3 then rvE es x else 0) else C x := by
  unfold poE
  have : ¬ 2000 ≤ es.length := by omega
  simp only [if_neg this]
  by_cases h1 : C x = 0
  · rw [if_pos h1, if_pos h1]
    by_cases h2 : (get es x.id).isSome = true
    · rw [if_pos h2, if_pos h2]
    · rw [if_neg h2, if_neg h2]
      by_cases h3 : x.kind = 3
      · rw [if_pos h3, if_pos h3]
        by_cases h4 : rvE es x = 0
        · rw [if_pos h4, h4]
        · rw [if_neg h4]
      · rw [if_neg h3, if_neg h3]
  · rw [if_neg h1, if_neg h1]
end Jn
/-- a journal's parts, whatever its maps hold -/
structure JMid (w1 w : World) (jb b1 b2 : Nat) (G : Array Value) (v : Value) (L es : List EntryR) (n1 n2 : Nat) (f1 f2 : Int → Option Int) : Prop where
  j0 : w1.heap.size ≤ jb
  m10 : w1.heap.size ≤ b1
  m20 : w1.heap.size ≤ b2
  m12 : b1 ≠ b2
  below : Below w1.heap.size w1 w
  blk : Blk w jb 104 (jOf G v b1 b2)
  row : w.ownsRow w1.heap.size 67 7 v L.length (cellsOf EntryR.cells L)
  lines : ∀ x ∈ L, OwnL LineR.cells w1.heap.size 69 3 w x.lines
  same : L.map bareE = es.map bareE
  m1 : MapI Tryz.prog 3 3 w b1 n1 f1
  m2 : MapI Tryz.prog 3 3 w b2 n2 f2
section
variable {w1 w w' : World} {jb b1 b2 : Nat} {G : Array Value} {v : Value} {L es : List EntryR} {n1 n2 : Nat} {f1 f2 : Int → Option Int}
theorem JIn.mid (h : JIn w1 w jb b1 b2 G v L es) : JMid w1 w jb b1 b2 G v L es es.length es.length (fun id => (Jn.get es id).map Int.ofNat) (Jn.rev es) :=
  ⟨h.j0, h.m10, h.m20, h.m12, h.below, h.blk, h.row, h.lines, h.same, h.m1, h.m2⟩
theorem JMid.step (h : JMid w1 w jb b1 b2 G v L es n1 n2 f1 f2) (hb : Below w.heap.size w w') : JMid w1 w' jb b1 b2 G v L es n1 n2 f1 f2 :=
  ⟨h.j0, h.m10, h.m20, h.m12, h.below.trans (hb.mono h.below.size), h.blk.step hb, own_step h.row hb, fun x hx => own_step (h.lines x hx) hb, h.same, h.m1.step hb, h.m2.step hb⟩
theorem JIn.step (h : JIn w1 w jb b1 b2 G v L es) (hb : Below w.heap.size w w') : JIn w1 w' jb b1 b2 G v L es :=
  ⟨h.j0, h.m10, h.m20, h.m12, h.below.trans (hb.mono h.below.size), h.blk.step hb, own_step h.row hb, fun x hx => own_step (h.lines x hx) hb, h.same, h.m1.step hb, h.m2.step hb⟩
theorem JMid.put1 (h : JMid w1 w jb b1 b2 G v L es n1 n2 f1 f2) {g : Int → Option Int} {n : Nat} (hg : w.grownBy w' (some b1)) (hm : MapI Tryz.prog 3 3 w' b1 n g) : JMid w1 w' jb b1 b2 G v L es n n2 g f2 :=
  ⟨h.j0, h.m10, h.m20, h.m12, Below.grown h.below hg h.below.size (fun j hj => by injection hj with hj; rw [← hj]; exact h.m10), h.blk.grown hg (fun e => by injection e with e; exact h.m1.blk_ne h.blk e.symm), h.row.kept hg (.inr (fun e => h.m1.ne_row h.row e.symm)), fun x hx => (h.lines x hx).kept hg (.inr (fun e => h.m1.ne_row (h.lines x hx) e.symm)), h.same, hm, h.m2.kept hg (fun e => by injection e with e; exact h.m12 e.symm)⟩
theorem JMid.put2 (h : JMid w1 w jb b1 b2 G v L es n1 n2 f1 f2) {g : Int → Option Int} {n : Nat} (hg : w.grownBy w' (some b2)) (hm : MapI Tryz.prog 3 3 w' b2 n g) : JMid w1 w' jb b1 b2 G v L es n1 n f1 g :=
  ⟨h.j0, h.m10, h.m20, h.m12, Below.grown h.below hg h.below.size (fun j hj => by injection hj with hj; rw [← hj]; exact h.m20), h.blk.grown hg (fun e => by injection e with e; exact h.m2.blk_ne h.blk e.symm), h.row.kept hg (.inr (fun e => h.m2.ne_row h.row e.symm)), fun x hx => (h.lines x hx).kept hg (.inr (fun e => h.m2.ne_row (h.lines x hx) e.symm)), h.same, h.m1.kept hg (fun e => by injection e with e; exact h.m12 e), hm⟩
/-- one more entry: the list grows, then the journal's cell is set -/
theorem JMid.more {v' : Value} {x : EntryR} (h : JMid w1 w jb b1 b2 G v L es n1 n2 f1 f2) (hG : G.size = 21) (hx : OwnL LineR.cells w1.heap.size 69 3 w x.lines) (hg : w.grownBy w' v.ownBlock)
    (hr : w'.ownsRow w1.heap.size 67 7 v' (L ++ [x]).length (cellsOf EntryR.cells (L ++ [x]))) {y : EntryR} (hy : bareE x = bareE y) : JMid w1 (w'.setCell ⟨jb, 21, none⟩ v') jb b1 b2 G v' (L ++ [x]) (es ++ [y]) n1 n2 f1 f2 := by
  have hjne : some jb ≠ v.ownBlock := own_ne_blk h.row h.blk (by decide)
  have hB : Blk w' jb 104 (jOf G v b1 b2) := h.blk.grown hg hjne
  have hlines : ∀ z ∈ L ++ [x], OwnL LineR.cells w1.heap.size 69 3 w' z.lines := fun z hz => by
    rcases List.mem_append.1 hz with hz | hz
    · exact own_apart (h.lines z hz) h.row (by decide) hg
    · rw [List.mem_singleton] at hz
      subst hz
      exact own_apart hx h.row (by decide) hg
  have hm1 : MapI Tryz.prog 3 3 w' b1 n1 f1 := h.m1.kept hg (h.m1.ne_row h.row)
  have hm2 : MapI Tryz.prog 3 3 w' b2 n2 f2 := h.m2.kept hg (h.m2.ne_row h.row)
  have hset : w'.grownBy (w'.setCell ⟨jb, 21, none⟩ v') (some jb) := ⟨rfl, rfl, rfl, by simp, fun k _ hk => heap_setCell_other w' ⟨jb, 21, none⟩ k v' (fun e => hk (by simp [e]))⟩
  have hbel : Below w1.heap.size w1 w' := Below.grown h.below hg h.below.size (fun j hj => (h.row.lt j hj).1)
  refine ⟨h.j0, h.m10, h.m20, h.m12, hbel.setCell (p := ⟨jb, 21, none⟩) h.j0 _, ?_, hr.kept hset (.inr (fun e => own_ne_blk hr hB (by decide) e.symm)), fun z hz => (hlines z hz).kept hset (.inr (fun e => own_ne_blk (hlines z hz) hB (by decide) e.symm)), ?_, hm1.kept hset (fun e => by injection e with e; exact hm1.blk_ne hB e), hm2.kept hset (fun e => by injection e with e; exact hm2.blk_ne hB e)⟩
  · have := hB.set_ 21 v'
    rwa [jOf_set hG] at this
  · rw [List.map_append, List.map_append, h.same]
    simp only [List.map_cons, List.map_nil, hy]
theorem JMid.done {x : EntryR} (h : JMid w1 w jb b1 b2 G v L (es ++ [x]) n1 n2 f1 f2) (hn1 : n1 ≤ es.length + 1) (hn2 : n2 ≤ es.length + 1)
    (hf1 : ∀ id, f1 id = (Jn.get (es ++ [x]) id).map Int.ofNat) (hf2 : ∀ id, f2 id = Jn.rev (es ++ [x]) id) : JIn w1 w jb b1 b2 G v L (es ++ [x]) :=
  ⟨h.j0, h.m10, h.m20, h.m12, h.below, h.blk, h.row, h.lines, h.same, (h.m1.congr hf1).more (by rw [List.length_append]; exact hn1), (h.m2.congr hf2).more (by rw [List.length_append]; exact hn2)⟩
end
end Go.Proofs.YtnddoehhcpejjaaGreat
