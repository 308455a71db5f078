/- Texts of this claim, put together. -/
import Derived.Test.YtkfbchgabmffoaaJAA
import Derived.DeepKeys4
import Derived.Maps.OwnSet
import Derived.Test.YtkfbchgabmffoaaJAJ
import Derived.Test.YtkfbchgabmffoaaJAG
import Derived.Test.YtkfbchgabmffoaaJAH
/- A map of the call's own that says true or false of keys of any type. Over any program. -/
namespace Go.Proofs.Ytkfbchgabmffoaa
set_option linter.unusedVariables false
set_option linter.unusedSimpArgs false
open Go.RowKit
open Go.Maps (Keyed)

/-- Block b is a map of at most n entries that says f of the keys. -/
def SaysW (P : Program) (k e : TypeId) (w : World) (b n : Nat) (f : Value → Bool) : Prop :=
  ∃ D : DataW Unit, w.ownsMap P k (plainElem P e) b n D ∧ Maps.IsMap D ∧ ∀ v l, keyOf P k v = some l → D.atKey l (.lit (.bool false)) = .lit (.bool (f v))
section
variable {P : Program} {k e t : TypeId} {w w' : World} {b n : Nat} {f g : Value → Bool}
theorem SaysW.made (w : World) : SaysW P k e (w.alloc (.map #[] 0)) w.heap.size 0 (fun _ => false) := ⟨.map [], World.ownsMap_made _ _ _ _, Maps.isMap_empty, fun _ _ _ => by simp [DataW.atKey]⟩
theorem SaysW.lt (h : SaysW P k e w b n f) : b < w.heap.size := by obtain ⟨D, h, _⟩ := h; exact h.lt
theorem SaysW.kept {row : Option Nat} (h : SaysW P k e w b n f) (hg : w.grownBy w' row) (hne : some b ≠ row) : SaysW P k e w' b n f := by obtain ⟨D, h, r⟩ := h; exact ⟨D, h.kept hg hne, r⟩
theorem SaysW.step (h : SaysW P k e w b n f) (hb : Below w.heap.size w w') : SaysW P k e w' b n f := h.kept (grown_below hb none) (by simp)
theorem SaysW.alloc (h : SaysW P k e w b n f) (o : Obj) : SaysW P k e (w.alloc o) b n f := h.kept (World.grownBy_alloc w o none) (by simp)
theorem SaysW.blk_ne {g : Nat} {E : TypeId} {cs : Array Value} (h : SaysW P k e w b n f) (hr : Blk w g E cs) : b ≠ g := by
  obtain ⟨D, ⟨es, cl, hb, _⟩, _⟩ := h
  rintro rfl
  unfold Blk at hr
  rw [hb] at hr
  simp at hr
theorem SaysW.congr (h : SaysW P k e w b n f) (hf : ∀ v l, keyOf P k v = some l → f v = g v) : SaysW P k e w b n g := by
  obtain ⟨D, h1, h2, h3⟩ := h
  exact ⟨D, h1, h2, fun v l hv => by rw [h3 v l hv, hf v l hv]⟩
/-- the look-up -/
theorem SaysW.look (h : SaysW P k e w b n f) (hk : Keyed P k) (he : P.underlying e = some .bool) (ht : P.underlying t = some (.map k e)) (hz : (zeroValue e).run P w = .ok (.bool false) w)
    {v : Value} {l : Lit} (hl : keyOf P k v = some l) : (Instr.lookup t (.map (some b)) v false).run P w = .ok (.bool (f v)) w := by
  obtain ⟨D, h, _, hD⟩ := h
  obtain ⟨v', ps, hrun, hv⟩ := h.lookup hk ht hz (plainElem_bool he false) hl
  obtain ⟨x, rfl, e2⟩ := plainElem_bool_inv he hv
  rw [hD v l hl] at e2
  injection e2 with e2 _
  injection e2 with e2
  injection e2 with e2
  rw [hrun, e2]
theorem SaysW.put {D : DataW Unit} {v : Value} {l : Lit} {x : Bool} (hk : Keyed P k) (hm : Maps.IsMap D) (hD : ∀ v l, keyOf P k v = some l → D.atKey l (.lit (.bool false)) = .lit (.bool (f v))) (hl : keyOf P k v = some l)
    (hg : g v = x) (hgo : ∀ u lu, keyOf P k u = some lu → u ≠ v → g u = f u) (h2 : w'.ownsMap P k (plainElem P e) b (n + 1) (D.put l (.lit (.bool x)))) : SaysW P k e w' b (n + 1) g := by
  refine ⟨_, h2, hm.put _ _, fun u lu hu => ?_⟩
  by_cases hd : lu = l
  · subst hd
    obtain rfl := hk.inj hu hl
    rw [Maps.atKey_put_same hm (hk.key hl), hg]
  · rw [Maps.atKey_put_other hd, hD u lu hu, hgo u lu hu (fun e => hd (by rw [e, hl] at hu; injection hu with hu; exact hu.symm))]
/-- a word is laid: at the operation -/
theorem wpList_says_put {ops : Array Oper} {rest : List Oper} {o : Oper} {a : Act} {Q : Exit → Act → World → Prop} (g : Value → Bool) (hgd : o.guard = none) (m x v : Operand) (t : TypeId) (hop : o.op = Op.mapUpdate t m x v)
    (hk : Keyed P k) (he : P.underlying e = some .bool) (ht : P.underlying t = some (.map k e)) (h : SaysW P k e w b n f) (hn : n < maxLen) (y : Value) (l : Lit) (z : Bool) (hl : keyOf P k y = some l)
    (hm : a.eval m = .map (some b)) (hx : a.eval x = y) (hv : a.eval v = .bool z) (hg : g y = z) (hgo : ∀ u lu, keyOf P k u = some lu → u ≠ y → g u = f u)
    (hK : ∀ w', SaysW P k e w' b (n + 1) g → w.grownBy w' (some b) → wpList P ops Q rest (a.put o.dst undef) w') : wpList P ops Q (o :: rest) a w := by
  obtain ⟨D, h, hM, hD⟩ := h
  exact wpList_mapUpdate_own w hgd m x v t hop k e hk ht _ b n D hm h hn _ _ _ hx hv hl _ [] (plainElem_bool he z) fun w' h2 g2 => hK w' (SaysW.put hk hM hD hl hg hgo h2) g2
end
theorem SetW.isMap {P : Program} {k e : TypeId} {w : World} {b n : Nat} {S : List Int} (h : SetW P k e w b n S) : ∃ es cl, w.heap[b]? = some (.map es cl) := by
  obtain ⟨D, ⟨es, cl, hb, _⟩, _⟩ := h
  exact ⟨es, cl, hb⟩
theorem SaysW.isMap {P : Program} {k e : TypeId} {w : World} {b n : Nat} {f : Value → Bool} (h : SaysW P k e w b n f) : ∃ es cl, w.heap[b]? = some (.map es cl) := by
  obtain ⟨D, ⟨es, cl, hb, _⟩, _⟩ := h
  exact ⟨es, cl, hb⟩
theorem SumW.isMap {P : Program} {k e : TypeId} {w : World} {b n : Nat} {f : Int → Int} (h : SumW P k e w b n f) : ∃ es cl, w.heap[b]? = some (.map es cl) := by
  obtain ⟨D, ⟨es, cl, hb, _⟩, _⟩ := h
  exact ⟨es, cl, hb⟩
/-- a list in cells stays where a map turns -/
theorem Rd.past {w w' : World} {B sz n m : Nat} {A : Option Addr} {xs : List Value} (h : Rd w B sz A n xs) (hg : w.grownBy w' (some m)) (hm : ∃ es cl, w.heap[m]? = some (.map es cl)) : Rd w' B sz A n xs :=
  ⟨h.1, fun hn => by
    obtain ⟨b, o, e, hb, hc⟩ := h.2 hn
    refine ⟨b, o, e, hb, fun j u hu => hg.cell (hc j u hu) fun e2 => ?_⟩
    injection e2 with e2
    obtain ⟨es, cl, hm⟩ := hm
    have h1 := hc j u hu
    subst e2
    simp [World.cell?, hm] at h1⟩
end Go.Proofs.Ytkfbchgabmffoaa
/- A set of the call's own, 'map[K]struct{}', with keys of any type. Over any program. -/
namespace Go.Proofs.Ytkfbchgabmffoaa
set_option linter.unusedVariables false
set_option linter.unusedSimpArgs false
open Go.RowKit
open Go.Maps (Keyed)

/-- Block b is a map of at most n entries that has just the keys that f says. -/
def HasW (P : Program) (k : TypeId) (w : World) (b n : Nat) (f : Value → Bool) : Prop :=
  ∃ D : DataW Unit, w.ownsMap P k unitElem b n D ∧ Maps.IsMap D ∧ ∀ v l, keyOf P k v = some l → Maps.has D l = f v
section
variable {P : Program} {k e t : TypeId} {w w' : World} {b n : Nat} {f g : Value → Bool}
theorem HasW.made (w : World) : HasW P k (w.alloc (.map #[] 0)) w.heap.size 0 (fun _ => false) := ⟨.map [], World.ownsMap_made _ _ _ _, Maps.isMap_empty, fun _ _ _ => by simp [Maps.has_eq]⟩
theorem HasW.lt (h : HasW P k w b n f) : b < w.heap.size := by obtain ⟨D, h, _⟩ := h; exact h.lt
theorem HasW.kept {row : Option Nat} (h : HasW P k w b n f) (hg : w.grownBy w' row) (hne : some b ≠ row) : HasW P k w' b n f := by obtain ⟨D, h, r⟩ := h; exact ⟨D, h.kept hg hne, r⟩
theorem HasW.step (h : HasW P k w b n f) (hb : Below w.heap.size w w') : HasW P k w' b n f := h.kept (grown_below hb none) (by simp)
theorem HasW.alloc (h : HasW P k w b n f) (o : Obj) : HasW P k (w.alloc o) b n f := h.kept (World.grownBy_alloc w o none) (by simp)
theorem HasW.isMap (h : HasW P k w b n f) : ∃ es cl, w.heap[b]? = some (.map es cl) := by
  obtain ⟨D, ⟨es, cl, hb, _⟩, _⟩ := h
  exact ⟨es, cl, hb⟩
/-- asked with ', is' -/
theorem wpList_has_look {ops : Array Oper} {rest : List Oper} {o : Oper} {a : Act} {Q : Exit → Act → World → Prop} (hgd : o.guard = none) (m x : Operand) (t : TypeId) (hop : o.op = Op.lookup t m x true)
    (e : TypeId) (hk : Keyed P k) (ht : P.underlying t = some (.map k e)) (hz : (zeroValue e).run P w = .ok (.agg #[]) w) (h : HasW P k w b n f) (y : Value) (l : Lit) (hl : keyOf P k y = some l)
    (hm : a.eval m = .map (some b)) (hx : a.eval x = y) (c : Bool) (hc : f y = c)
    (hK : wpList P ops Q rest (a.put o.dst (.tuple #[.agg #[], .bool c])) w) : wpList P ops Q (o :: rest) a w := by
  obtain ⟨D, h, _, hD⟩ := h
  refine wpList_lookup_own_unit w hgd m x t hop k e hk ht hz b n D hm h y l hx hl ?_
  rw [hD y l hl, hc]
  exact hK
theorem HasW.put {D : DataW Unit} {v : Value} {l : Lit} (hk : Keyed P k) (hm : Maps.IsMap D) (hD : ∀ v l, keyOf P k v = some l → Maps.has D l = f v) (hl : keyOf P k v = some l)
    (hg : g v = true) (hgo : ∀ u lu, keyOf P k u = some lu → u ≠ v → g u = f u) (h2 : w'.ownsMap P k unitElem b (n + 1) (D.put l (.agg []))) : HasW P k w' b (n + 1) g := by
  refine ⟨_, h2, hm.put _ _, fun u lu hu => ?_⟩
  by_cases hd : lu = l
  · subst hd
    obtain rfl := hk.inj hu hl
    rw [Maps.has_put_same hm (hk.key hl), hg]
  · rw [Maps.has_put_other hd, hD u lu hu, hgo u lu hu (fun e => hd (by rw [e, hl] at hu; injection hu with hu; exact hu.symm))]
/-- a key is laid: at the operation -/
theorem wpList_has_put {ops : Array Oper} {rest : List Oper} {o : Oper} {a : Act} {Q : Exit → Act → World → Prop} (g : Value → Bool) (hgd : o.guard = none) (m x v : Operand) (t : TypeId) (hop : o.op = Op.mapUpdate t m x v)
    (e : TypeId) (hk : Keyed P k) (ht : P.underlying t = some (.map k e)) (h : HasW P k w b n f) (hn : n < maxLen) (y : Value) (l : Lit) (hl : keyOf P k y = some l)
    (hm : a.eval m = .map (some b)) (hx : a.eval x = y) (hv : a.eval v = .agg #[]) (hg : g y = true) (hgo : ∀ u lu, keyOf P k u = some lu → u ≠ y → g u = f u)
    (hK : ∀ w', HasW P k w' b (n + 1) g → w.grownBy w' (some b) → wpList P ops Q rest (a.put o.dst undef) w') : wpList P ops Q (o :: rest) a w := by
  obtain ⟨D, h, hM, hD⟩ := h
  exact wpList_mapUpdate_own w hgd m x v t hop k e hk ht _ b n D hm h hn _ _ _ hx hv hl _ [] unitElem_mk fun w' h2 g2 => hK w' (HasW.put hk hM hD hl hg hgo h2) g2
end
end Go.Proofs.Ytkfbchgabmffoaa
/- The walk of PostingClean. -/
namespace Go.Proofs.Ytkfbchgabmffoaa
set_option linter.unusedVariables false
set_option linter.unusedSimpArgs false
open Go.RowKit

/-- how collecting ends -/
def ColAlt (f : Int → Int) (L : List Bal) (E : Int) : Prop := (E = 0 ∧ IsC f L ∧ ∀ c, amV (f c) = true) ∨ (E = 2 ∧ L = [] ∧ ∃ c, amV (f c) = false)
theorem small_sum {m : List Bal} (h : smallV m = true) : sumW m = sumV m := by
  obtain ⟨h1, h2⟩ := small_is h
  exact sumW_eq m h1 (by omega) (by omega)
theorem small_of {m : List Bal} (h : smallV m = true) (c : Int) : ofW m c = ofV m c := by
  obtain ⟨h1, h2⟩ := small_is h
  exact ofW_eq' m c h1 (by omega) (by omega)
theorem clean_of {m L : List Bal} (hl : m.length ≤ 200) (h : IsC (ofW m) L) (ha : ∀ c, amV (ofW m c) = true) (c : Int) : ofW L c = ofW m c := by
  have := clean_len h
  rw [ofW_eq' L c (clean_amount h ha) (by omega) (by omega)]
  exact clean_again h c
theorem clean_twice {m L L2 : List Bal} {E2 : Int} (hs : smallV m = true) (h : IsC (ofW m) L) (ha : ∀ c, amV (ofW m c) = true) (h2 : ColAlt (ofW L) L2 E2) : E2 = 0 ∧ L2 = L ∧ sumW L = sumW m := by
  have hl := (small_is hs).2
  have hll := clean_len h
  have hof := clean_of hl h ha
  refine ⟨?_, ?_, ?_⟩
  · rcases h2 with ⟨e, _, _⟩ | ⟨_, _, c, hc⟩
    · exact e
    · rw [hof, ha c] at hc; cases hc
  · rcases h2 with ⟨_, h3, _⟩ | ⟨_, _, c, hc⟩
    · exact isC_unique h3 h hof
    · rw [hof, ha c] at hc; cases hc
  · rw [sumW_eq L (clean_amount h ha) (by omega) (by omega), small_sum hs]
    exact clean_sum h (small_of hs)
theorem col_len {f : Int → Int} {m L : List Bal} {E : Int} (h : ColAlt f L E) (hf : f = ofW m) : L.length ≤ m.length := by
  subst hf
  rcases h with ⟨_, h, _⟩ | ⟨_, rfl, _⟩
  · exact clean_len h
  · simp
theorem col_wf {m L : List Bal} {E : Int} (h : ColAlt (ofW m) L E) (hwf : ∀ x ∈ m, (Lit.int .i64 x.account).wf = true) : ∀ x ∈ L, (Lit.int .i64 x.account).wf = true := by
  rcases h with ⟨_, h, _⟩ | ⟨_, rfl, _⟩
  · intro x hx
    obtain ⟨y, hy, e⟩ := clean_in h hx
    rw [← e]; exact hwf y hy
  · intro x hx; simp at hx
end Go.Proofs.Ytkfbchgabmffoaa
/- The walks of posting.Total and of the reference's Parts. -/
namespace Go.Proofs.Ytkfbchgabmffoaa
set_option linter.unusedVariables false
set_option linter.unusedSimpArgs false
open Go.RowKit

set_option maxRecDepth 100000 in
set_option maxHeartbeats 4000000 in
theorem total_any (I : List ItemR) (AI : Option Addr) (cI : Nat) (P : List PostR) (AP : Option Addr) (cP : Nat) (w : World)
    (hI : Rd w w.heap.size 7 AI I.length (cellsOf ItemR.cells I)) (hP : Rd w w.heap.size 5 AP P.length (cellsOf PostR.cells P)) (hPP : ∀ p ∈ P, p.Ok w) (hW : ∀ x ∈ allB I P, Wf x.account)
    (hn : (allB I P).length ≤ 1000000) (hnI : I.length ≤ 1000000) (hnP : P.length ≤ 1000000) :
    Calls Try.prog 21 #[.slice AI I.length cI, .slice AP P.length cP] w (ColPost 47 w.heap.size (ofW (allB I P)) w) := by
  have hb := Below.refl w.heap.size w
  have HI := Lib.hid hI
  have HP := Lib.hid hP
  have HPP := Lib.hid hPP
  have HW := Lib.hid hW
  have HN := Lib.hid hn
  have hmm := @run_makeMap Try.prog
  clear hI hP hPP hW hn
  go_enter Try.func21, Try.ntmps21
  go_wp2_with fail
  go_loopw [16] (fun t wr => ∃ k : Nat, k ≤ I.length ∧ t = .int .i64 k ∧ SumW Try.prog 3 3 wr w.heap.size k (ofW (itBals (I.take k))) ∧ Below w.heap.size w wr) (fun t _ => I.length - (intOf t).toNat)
  case atStart => exact ⟨0, by omega, rfl, SumW.made w, (by repeat (first | exact hb | refine Below.alloc ?_ (by have hbs := hb.size; first | omega | (simp; done) | (simp; omega)) _ | refine Below.drew ?_ | refine below_drewN_ ?_ _ | refine Below.setCell ?_ (by simp) _))⟩
  case round =>
    clear hb
    obtain ⟨k, hk, rfl, hS, hb⟩ := hrel
    have hz := hb.size
    by_cases hlt : k < I.length
    · obtain ⟨x, o, hA, hbo, f0, f1, f2, f3, f4, f5, f6⟩ := ItemR.at_ (HI.out.below hb (Nat.le_refl _)) hlt
      subst hA
      have hc : (Lit.int .i64 I[k].account).wf = true := HW.out (itBal I[k]) (List.mem_append_left _ (List.mem_map.2 ⟨_, List.getElem_mem hlt, rfl⟩))
      have hy := wrap64_wf (ofW (itBals (I.take k)) I[k].account + I[k].amount)
      have hLL := (hS.alloc (.cells #[.int .i64 I[k].ref.entry, .int .i64 I[k].ref.line, .int .i64 I[k].entity, .int .i64 I[k].account, .int .i64 I[k].partner, .int .i64 I[k].date, .int .i64 I[k].amount] 45)).look (t := 70) Try.underlying3 Try.underlying3 Try.underlying70 (zero_int _) hc
      have HX := Lib.hid ((ofW_snoc (itBals (I.take k)) (itBal I[k])).trans (congrArg ofW (itBals_take I k hlt).symm))
      go_wp2_with (at_mapUpdate; refine wpList_sum_put rfl _ _ _ 70 rfl Try.underlying3 Try.underlying3 Try.underlying70 (hS.alloc _) (by unfold maxLen; omega) _ _ hc hy rfl rfl rfl ?_; intro w4 hS4 hg4)
      replace hS4 : SumW Try.prog 3 3 w4 w.heap.size (k + 1) (ofW (itBals (I.take (k + 1)))) := HX.out ▸ hS4
      have hb4 : Below w.heap.size w w4 := Below.grown (hb.alloc hz _) hg4 (by simp; omega) (fun k hk => by injection hk with hk; omega)
      clear hg4 hS hLL
      go_wp2_with fail
      go_roundw
      case rel => exact ⟨k + 1, by omega, by go_num, hS4, hb4⟩
      case measure => simp [intOf]; omega
    · have HE : Hid (I.take k = I) := Lib.hid (List.take_of_length_le (by omega))
      rw [HE.out] at hS
      replace hS : SumW Try.prog 3 3 wr w.heap.size k (ofW (itBals I ++ poBals (P.take 0))) := by simpa [poBals] using hS
      go_wp2_with fail
      go_loopw [30] (fun t wr => ∃ k n : Nat, k ≤ P.length ∧ t = .int .i64 k ∧ n = (itBals I ++ poBals (P.take k)).length ∧ SumW Try.prog 3 3 wr w.heap.size n (ofW (itBals I ++ poBals (P.take k))) ∧ Below w.heap.size w wr) (fun t _ => P.length - (intOf t).toNat)
      case atStart => exact ⟨0, k, by omega, rfl, by simp [poBals, itBals_len]; omega, hS, hb⟩
      case round =>
        clear hb hS
        obtain ⟨wo, rfl⟩ : ∃ wo : World, wo = wr := ⟨_, rfl⟩
        obtain ⟨k, n, hk, rfl, hnn, hS, hb⟩ := hrel
        have hz := hb.size
        by_cases hlt : k < P.length
        · obtain ⟨x, o, hA, hbo, f0, f1, f2, f3, f4⟩ := PostR.at_ (HP.out.below hb (Nat.le_refl _)) hlt
          subst hA
          have HT := Lib.hid (poBals_take P k hlt)
          obtain ⟨T, hT⟩ : ∃ T, T = itBals I ++ poBals (P.take k) := ⟨_, rfl⟩
          rw [← hT] at hnn hS
          have HTT := Lib.hid hT
          clear hT
          have HL := Lib.hid (poBals_len P k hlt)
          have HM : Hid (∀ x ∈ P[k].parts.l, Wf x.account) := Lib.hid fun x hx => HW.out x (List.mem_append_right _ (po_mem hlt hx))
          have HQ := Lib.hid (HPP.out _ (List.getElem_mem hlt)).2.2.2.2.1.1
          generalize P[k] = p at *
          obtain ⟨p1, p2, p3, p4, ⟨q, A, cap⟩⟩ := p
          dsimp only [Sl.val] at *
          have hb1 : Below w.heap.size w (wo.alloc (.cells #[.int .i64 p1, .int .i64 p2, .int .i64 p3, .int .i64 p4, .slice A q.length cap] 50)) := hb.alloc hz _
          have hS1 := hS.alloc (.cells #[.int .i64 p1, .int .i64 p2, .int .i64 p3, .int .i64 p4, .slice A q.length cap] 50)
          have hql : T.length + q.length ≤ 1000000 := by have h1 := HL.out; have h2 := HN.out; unfold allB at h2; rw [HTT.out]; rw [List.length_append] at h2 ⊢; omega
          go_wp2_with fail
          go_loopw [37] (fun t wr => ∃ j : Nat, j ≤ q.length ∧ t = .int .i64 j ∧ SumW Try.prog 3 3 wr w.heap.size (n + j) (ofW (T ++ q.take j)) ∧ Below w.heap.size w wr) (fun t _ => q.length - (intOf t).toNat)
          case atStart => exact ⟨0, by omega, rfl, by simpa using hS1, hb1⟩
          case round =>
            clear hb1 hS1 hS hb
            obtain ⟨j, hj, rfl, hS, hb⟩ := hrel
            have hz := hb.size
            by_cases hjl : j < q.length
            · obtain ⟨x, o, hA, hbo, f0, f1⟩ := Bal.at_ (HQ.out.below hb (Nat.le_refl _)) hjl
              subst hA
              have hc : (Lit.int .i64 q[j].account).wf = true := HM.out _ (List.getElem_mem hjl)
              have hy := wrap64_wf (ofW (T ++ q.take j) q[j].account + q[j].amount)
              have hLL := (hS.alloc (.cells #[.int .i64 q[j].account, .int .i64 q[j].amount] 51)).look (t := 70) Try.underlying3 Try.underlying3 Try.underlying70 (zero_int _) hc
              have HX := Lib.hid ((ofW_snoc (T ++ q.take j) q[j]).trans (congrArg ofW (show _ = T ++ q.take (j + 1) by rw [take_snoc' q j hjl, List.append_assoc])))
              go_wp2_with (at_mapUpdate; (refine wpList_sum_put rfl _ _ _ 70 rfl Try.underlying3 Try.underlying3 Try.underlying70 (hS.alloc _) (by unfold maxLen; omega) _ _ hc hy rfl rfl rfl ?_; intro w4 hS4 hg4))
              rw [HX.out] at hS4
              have hb4 : Below w.heap.size w w4 := Below.grown (hb.alloc hz _) hg4 (by simp; omega) (fun k hk => by injection hk with hk; omega)
              clear hg4 hS hLL
              go_wp2_with fail
              go_roundw
              case rel => exact ⟨j + 1, by omega, by go_num, hS4, hb4⟩
              case measure => simp [intOf]; omega
            · have HE : Hid (q.take j = q) := Lib.hid (List.take_of_length_le (by omega))
              rw [HE.out, HTT.out, List.append_assoc, ← HT.out] at hS
              go_wp2_with fail
              go_roundw
              case rel => exact ⟨k + 1, n + j, by omega, by go_num, by rw [HT.out, ← List.append_assoc, ← HTT.out, List.length_append, hnn]; have := congrArg List.length HE.out; simp at this; omega, hS, hb⟩
              case measure => simp [intOf]; omega
        · have HE : Hid (P.take k = P) := Lib.hid (List.take_of_length_le (by omega))
          rw [HE.out] at hS hnn
          have hN := HN.out
          unfold allB at hN
          go_wp2_with (go_at_call 30; refine (colb_any w.heap.size n (ofW (itBals I ++ poBals P)) wo hS (by omega)).mono ?_; rintro e w5 ⟨v5, L, E, rfl, ho5, hb5, hc5⟩)
          go_ret2
          exact ⟨v5, L, E, rfl, own_base ho5 hb.size, bel hb hb5, hc5⟩
end Go.Proofs.Ytkfbchgabmffoaa
