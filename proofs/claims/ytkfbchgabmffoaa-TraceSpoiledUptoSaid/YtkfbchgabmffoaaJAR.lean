/- Texts of this claim, put together. -/
import Derived.Test.YtkfbchgabmffoaaJAB
import Derived.Test.YtkfbchgabmffoaaJAL
import Derived.Test.YtkfbchgabmffoaaJAC
import Derived.Maps.AppendAt
import Derived.Test.YtkfbchgabmffoaaJAO
/- A region that draws its order and ends in a store: operations that read are taken first, if the store (operation number t) waits for them; blocks below B stay, but for that store. Over any program. -/
namespace Go.Proofs.Ytkfbchgabmffoaa
set_option linter.unusedVariables false
set_option linter.unusedSimpArgs false
open Go.RowKit

/-- a world in which all below B is as it was -/
structure LaterB (B : Nat) (w : World) where
  now : World
  below : Below B w now
instance instLaterB (B : Nat) (w : World) : Nonempty (LaterB B w) := ⟨⟨w, Below.refl _ _⟩⟩
theorem LaterB.cell {B : Nat} {w : World} (d : LaterB B w) {b o : Nat} {v : Value} (hb : b < B) (h : w.cell? ⟨b, o, none⟩ = some v) : d.now.cell? ⟨b, o, none⟩ = some v := (d.below.cell (p := ⟨b, o, none⟩) hb).trans h
def NearB (B : Nat) (W w : World) : Prop := ∃ d : LaterB B W, w = d.now
theorem NearB.of {B : Nat} {W w : World} (h : Below B W w) : NearB B W w := ⟨⟨w, h⟩, rfl⟩
theorem NearB.below {B : Nat} {W w : World} (h : NearB B W w) : Below B W w := by obtain ⟨d, rfl⟩ := h; exact d.below
def waitsB (ops : Array Oper) (t i : Nat) : Bool := match ops[t]? with
  | some o => o.after.any fun e => Region.binds .any e && e.on == i
  | none => true
section
variable {P : Program} {ops : Array Oper} {Q : Exit → Act → World → Prop} {S : World → Prop}
def wpAnyT (P : Program) (ops : Array Oper) (Q : Exit → Act → World → Prop) (S : World → Prop) (t : Nat) : Nat → Array Bool → Act → World → Prop
  | 0, listed, a, w => Region.ready .any ops listed = [] ∧ Q .normal a w
  | fuel + 1, listed, a, w =>
    (Region.ready .any ops listed = [] → Q .normal a w) ∧
    ∀ i ∈ Region.ready .any ops listed, wpOp P ops Q i (fun a' w' => (listed.getD t false = true ∨ i = t ∨ S w') ∧ wpAnyT P ops Q S t fuel (listed.setIfInBounds i true) a' w') a w
theorem wpAny_of_tail {t : Nat} : ∀ (fuel : Nat) (listed : Array Bool) (a : Act) (w : World), wpAnyT P ops Q S t fuel listed a w → wpAny P .any ops Q fuel listed a w
  | 0, _, _, _, h => h
  | fuel + 1, _, _, _, h => ⟨h.1, fun i hi => wpOp_mono (fun a' w' h' => wpAny_of_tail fuel _ a' w' h'.2) (h.2 i hi)⟩
theorem getD_false_ne {l : Array Bool} {i t : Nat} (h : i ≠ t) : (l.setIfInBounds i true).getD t false = l.getD t false := by
  simp only [Array.getD_eq_getD_getElem?]
  rw [Array.getElem?_setIfInBounds_ne h]
theorem wpAnyT_first {t i : Nat} {oi : Oper} {v : Value} (hit : i ≠ t) (hwait : waitsB ops t i = true) (hi : ops[i]? = some oi) (hsel : ∀ (j : Nat) (o : Oper) cs b, ops[j]? = some o → o.op ≠ .select cs b)
    (hQ : ∀ c a w, Q (.panic c) (a.put oi.dst v) w → Q (.panic c) a w) :
    ∀ (fuel : Nat) (listed : Array Bool) (a : Act) (w : World), listed.getD t false = false →
      (∀ j oj, ops[j]? = some oj → j ≠ i → listed.getD j true = false → (∀ e ∈ oj.after, Region.binds .any e = true → e.on ≠ i) → oi.apart ops oj = true) →
      i ∈ Region.ready .any ops listed → YieldsIf P ops S oi v a → S w →
      wpAnyT P ops Q S t fuel (listed.setIfInBounds i true) (a.put oi.dst v) w → wpAnyT P ops Q S t (fuel + 1) listed a w := by
  intro fuel
  induction fuel with
  | zero =>
    intro listed a w _ _ hr hy hS H
    refine ⟨fun h => (by rw [h] at hr; cases hr), fun j hj => ?_⟩
    by_cases hji : j = i
    · subst hji; exact hy.wpOp hi hS ⟨.inr (.inr hS), H⟩
    · have := ready_mono hj hji
      rw [H.1] at this
      cases this
  | succ fuel ih =>
    intro listed a w ht hfree hr hy hS H
    refine ⟨fun h => (by rw [h] at hr; cases hr), fun j hj => ?_⟩
    by_cases hji : j = i
    · subst hji; exact hy.wpOp hi hS ⟨.inr (.inr hS), H⟩
    · have h1 := H.2 j (ready_mono hj hji)
      obtain ⟨hjun, oj, hoj, hall⟩ := mem_ready.1 hj
      have hnot : ∀ e ∈ oj.after, Region.binds .any e = true → e.on ≠ i := fun e he hb heq => by
        have h1 := hall e he hb
        have h0 := (mem_ready.1 hr).1
        rw [heq] at h1
        rcases Nat.lt_or_ge i listed.size with h' | h'
        · simp [h'] at h0 h1; rw [h0] at h1; cases h1
        · simp [Array.getElem?_eq_none h'] at h1
      have hjt : j ≠ t := by
        rintro rfl
        unfold waitsB at hwait
        rw [hoj] at hwait
        simp only [Array.any_eq_true, Bool.and_eq_true, beq_iff_eq] at hwait
        obtain ⟨x, hx, hb, he⟩ := hwait
        exact hnot _ (Array.getElem_mem hx) hb he
      have ht1 : (listed.setIfInBounds i true).getD t false = false := by rw [getD_false_ne hit]; exact ht
      have h2 := wpOp_putIf hoj (hfree j oj hoj hji hjun hnot) (fun cs b => hsel i oi cs b hi) (fun cs b => hsel j oj cs b hoj) hQ hy h1
      have hfree' : ∀ k ok, ops[k]? = some ok → k ≠ i → (listed.setIfInBounds j true).getD k true = false →
          (∀ e ∈ ok.after, Region.binds .any e = true → e.on ≠ i) → oi.apart ops ok = true := fun k ok hk hki hun hno => by
        refine hfree k ok hk hki ?_ hno
        by_cases hjk : j = k
        · subst hjk; exact hjun
        · rw [getD_set_ne true hjk] at hun; exact hun
      refine wpOp_mono (fun a' w' h3 => ?_) h2
      have hS' : S w' := by
        rcases h3.2.1 with h | h | h
        · rw [ht1] at h; cases h
        · exact absurd h hjt
        · exact h
      refine ⟨.inr (.inr hS'), ih (listed.setIfInBounds j true) a' w' (by rw [getD_false_ne hjt]; exact ht) hfree' (ready_mono hr (Ne.symm hji)) h3.1 hS' ?_⟩
      rw [Array.setIfInBounds_comm _ _ hji]
      exact h3.2.2
theorem wpAnyT_done {t : Nat} {listed : Array Bool} {a : Act} {w : World} (hr : Region.ready .any ops listed = []) (h : Q .normal a w) : ∀ fuel, wpAnyT P ops Q S t fuel listed a w
  | 0 => ⟨hr, h⟩
  | _ + 1 => ⟨fun _ => h, by rw [hr]; simp⟩
end
section
variable {P : Program} {ops : Array Oper} {Q : Exit → Act → World → Prop} {B t : Nat} {W w : World} {i fuel : Nat} {o : Oper} {a : Act} {listed : Array Bool}
theorem relT_begin {id n : Nat} {l : List Oper} (B t : Nat) (W : World) (hm : P.follows .mixedOrders = true) (hn : l.length = n)
    (h : wpAnyT P l.toArray Q (fun w' => ∃ d : LaterB B W, w' = d.now) t n (Array.replicate n false) a w.drew) : (Code.region id l.toArray true).wp P Q a w := by
  subst hn
  exact wp_region_any hm (wpAny_of_tail _ _ _ _ (by simpa using h))
theorem relT_want {rest : List Oper} (hl : ops.toList.drop i = o :: rest) (hp : plainB o.op = true) (hs : Region.noSelect ops = true) (hf : Region.free .any ops listed i = true) (hr : (Region.ready .any ops listed).contains i = true)
    (hw : Region.wanted o (yielded ops a.tmps) = true) (hit : decide (i ≠ t) = true) (hwait : waitsB ops t i = true) (ht : listed.getD t false = false) (hQ : ∀ c a v w, Q (.panic c) (Act.put a o.dst v) w → Q (.panic c) a w) (hS : NearB B W w)
    (h : ∀ K : Act → Prop, (∀ a', wpAnyT P ops Q (fun w' => ∃ d : LaterB B W, w' = d.now) t fuel (listed.setIfInBounds i true) a' w → K a') → o.quiet P a (fun w' => ∃ d : LaterB B W, w' = d.now) K) :
    wpAnyT P ops Q (fun w' => ∃ d : LaterB B W, w' = d.now) t (fuel + 1) listed a w := by
  obtain ⟨v, h1, h2⟩ := h (fun a' => wpAnyT P ops Q (fun w' => ∃ d : LaterB B W, w' = d.now) t fuel (listed.setIfInBounds i true) a' w) (fun _ h => h)
  refine wpAnyT_first (v := v) (of_decide_eq_true hit) hwait (drop_at hl) (Region.noSelect_spec hs) (fun c a w h => hQ c a _ w h) fuel listed a w ht (Region.free_spec (drop_at hl) hf) (by simpa using hr) (.inl ⟨hw, fun w' hw' => ?_⟩) hS h2
  have h3 := h1 w' hw'
  unfold Oper.quietAt at h3
  generalize hx : (execOp a.eval o).run P w' = r at h3
  cases r with
  | ok n w2 =>
    obtain ⟨u, rfl⟩ := plain_value hp hx
    simp only [Oper.quietUpon] at h3
    rw [h3.1, h3.2]
  | halt x w2 => simp only [Oper.quietUpon] at h3
theorem relT_call {rest : List Oper} (hr : Region.ready .any ops listed = [i]) (hl : ops.toList.drop i = o :: rest) (hw : Region.wanted o (yielded ops a.tmps) = true)
    (h : ∀ K : Act → World → Prop, (∀ a' w', (listed.getD t false = true ∨ i = t ∨ NearB B W w') → wpAnyT P ops Q (fun w' => ∃ d : LaterB B W, w' = d.now) t fuel (listed.setIfInBounds i true) a' w' → K a' w') → o.wp P a w K Q) :
    wpAnyT P ops Q (fun w' => ∃ d : LaterB B W, w' = d.now) t (fuel + 1) listed a w := by
  refine ⟨fun h0 => absurd (hr ▸ h0) (by simp), fun j hj => ?_⟩
  rw [hr, List.mem_singleton] at hj
  subst hj
  unfold wpOp
  rw [drop_at hl]
  show if Region.wanted o (yielded ops a.tmps) = true then _ else _
  rw [if_pos hw]
  exact .inl (h _ fun a' w' hn hh => ⟨hn, hh⟩)
theorem relT_calls {is : List Nat} (hr : Region.ready .any ops listed = is) (hne : is ≠ []) (h : ∀ i ∈ is, ∃ o, ops[i]? = some o ∧ Region.wanted o (yielded ops a.tmps) = true ∧
      ∀ K : Act → World → Prop, (∀ a' w', (listed.getD t false = true ∨ i = t ∨ NearB B W w') → wpAnyT P ops Q (fun w' => ∃ d : LaterB B W, w' = d.now) t fuel (listed.setIfInBounds i true) a' w' → K a' w') → o.wp P a w K Q) :
    wpAnyT P ops Q (fun w' => ∃ d : LaterB B W, w' = d.now) t (fuel + 1) listed a w := by
  refine ⟨fun h0 => absurd (hr ▸ h0) hne, fun j hj => ?_⟩
  rw [hr] at hj
  obtain ⟨o, ho, hw, h⟩ := h j hj
  unfold wpOp
  rw [ho]
  show if Region.wanted o (yielded ops a.tmps) = true then _ else _
  rw [if_pos hw]
  exact .inl (h _ fun a' w' hn hh => ⟨hn, hh⟩)
end
end Go.Proofs.Ytkfbchgabmffoaa
/- A copy of a list by append to an empty slice that was just made: where it lies. Over any program. -/
namespace Go.Proofs.Ytkfbchgabmffoaa
set_option linter.unusedVariables false
set_option linter.unusedSimpArgs false
open Go.RowKit

section
variable {P : Program} {w : World} {o : Oper} {a : Act} {K : Act → World → Prop} {Q : Exit → Act → World → Prop} {α : Type}
theorem wp_copy_list (f : α → List Value) (size : Nat) (hf : ∀ a, (f a).length = size) (hone : ∀ a, ∀ u ∈ f a, u.oneCell' = true) (s x : Operand) (t : TypeId)
    (ho : o.op = .call { callee := .builtin .append, args := #[s, x], argTypes := #[t, t] }) (hgd : o.guard = none)
    (e : TypeId) (i : TypeInfo) (z : Value) (bytes : Nat) (ht : P.underlying t = some (.slice e)) (hi : P.info? e = some i) (hz : i.zero = some z) (hsize : i.size = size) (hby : i.bytes = bytes) (hzs : z.cells.size = size) (hsz : 0 < size)
    (e0 c0 : Nat) (l : List α) (hs : a.eval s = .slice (some ⟨e0, 0, none⟩) 0 c0) (hc0 : c0 ≤ maxLen) (cs0 : Array Value) (hcs0 : cs0.size = c0 * size) (hE : Blk w e0 e cs0) (B : Nat) (A : Option Addr) (c : Nat) (hx : a.eval x = .slice A l.length c) (hr : Rd w B size A l.length (cellsOf f l))
    (hl : 0 < l.length) (h63 : l.length ≤ maxLen) (hbytes : l.length * bytes ≤ 140737488355328)
    (h : ∀ (g cap : Nat) (cur : Array Value) (w' : World), Blk w' g e cur → (∀ (j : Nat) (u : Value), (cellsOf f l)[j]? = some u → cur[j]? = some u) → (g = e0 ∨ g = w.heap.size) → w.grownBy w' (some e0) → (l.length ≤ cap ∧ cap ≤ maxLen ∧ cur.size = cap * size ∧ cur.toList.take (l.length * size) = cellsOf f l) → K (a.put o.dst (.slice (some ⟨g, 0, none⟩) l.length cap)) w') : Oper.wp P o a w K Q := by
  obtain ⟨b, oo, rfl, hb, hc⟩ := hr.2 hl
  have hown : w.ownsRow e0 e size (.slice (some ⟨e0, 0, none⟩) 0 c0) 0 [] := ⟨by simp, .inr ⟨e0, c0, cs0, rfl, Nat.le_refl _, hE, Nat.zero_le _, hc0, hcs0, by simp⟩⟩
  obtain ⟨v', w', hrun, h2, h3, _, h5⟩ := run_append_own_at (P := P) w e0 t o.type e i z size bytes ht hi hz hsize hby hzs hsz _ 0 [] hown ⟨b, oo, none⟩ l.length c (cellsOf f l) (cellsOf_len hf l)
    (fun j u hu => by
      have ea : (⟨b, oo, none⟩ : Addr).add j = ⟨b, oo + j, none⟩ := by unfold Addr.add; split <;> simp_all
      rw [ea]; exact hc j u hu) (cells_one hone l) (by rw [Nat.zero_add]; exact h63) (by rw [Nat.zero_add]; exact hbytes) (by have := hE.lt; omega)
  rcases h2.2 with ⟨_, h0⟩ | ⟨g, cap, cur, rfl, -, hG, hnc, hcm, hsz2, hpre⟩
  · omega
  have hg : g = e0 ∨ g = w.heap.size := by
    simp only [Value.ownBlock, Option.some.injEq] at h5
    exact h5
  rw [Nat.zero_add] at hrun hnc hpre
  have hcs : ∀ (j : Nat) (u : Value), (cellsOf f l)[j]? = some u → cur[j]? = some u := fun j u hu => by
    have h7 := (List.getElem?_eq_some_iff.1 hu).1
    rw [cellsOf_len hf] at h7
    simp only [List.nil_append] at hpre
    rw [← hpre, List.getElem?_take_of_lt h7] at hu
    simpa using hu
  unfold Oper.wp execOp
  simp only [ho, resolve, invoke, builtin, Sem.run_bind, Sem.run_pure, Result.andThen_ok, List.map_toArray, List.map_cons, List.map_nil, hs, hx, hrun]
  exact h g cap cur w' hG hcs hg h3 ⟨hnc, hcm, hsz2, by simpa using hpre⟩
theorem wpList_copy_list {ops : Array Oper} {rest : List Oper} (f : α → List Value) (size : Nat) (hf : ∀ a, (f a).length = size) (hone : ∀ a, ∀ u ∈ f a, u.oneCell' = true) (hgd : o.guard = none) (s x : Operand) (t : TypeId)
    (ho : o.op = .call { callee := .builtin .append, args := #[s, x], argTypes := #[t, t] })
    (e : TypeId) (i : TypeInfo) (z : Value) (bytes : Nat) (ht : P.underlying t = some (.slice e)) (hi : P.info? e = some i) (hz : i.zero = some z) (hsize : i.size = size) (hby : i.bytes = bytes) (hzs : z.cells.size = size) (hsz : 0 < size)
    (e0 c0 : Nat) (l : List α) (hs : a.eval s = .slice (some ⟨e0, 0, none⟩) 0 c0) (hc0 : c0 ≤ maxLen) (cs0 : Array Value) (hcs0 : cs0.size = c0 * size) (hE : Blk w e0 e cs0) (B : Nat) (A : Option Addr) (c : Nat) (hx : a.eval x = .slice A l.length c) (hr : Rd w B size A l.length (cellsOf f l))
    (hl : 0 < l.length) (h63 : l.length ≤ maxLen) (hbytes : l.length * bytes ≤ 140737488355328)
    (h : ∀ (g cap : Nat) (cur : Array Value) (w' : World), Blk w' g e cur → (∀ (j : Nat) (u : Value), (cellsOf f l)[j]? = some u → cur[j]? = some u) → (g = e0 ∨ g = w.heap.size) → w.grownBy w' (some e0) → (l.length ≤ cap ∧ cap ≤ maxLen ∧ cur.size = cap * size ∧ cur.toList.take (l.length * size) = cellsOf f l) → wpList P ops Q rest (a.put o.dst (.slice (some ⟨g, 0, none⟩) l.length cap)) w') : wpList P ops Q (o :: rest) a w :=
  wpList_plain hgd fun _ hK => wp_copy_list f size hf hone s x t ho hgd e i z bytes ht hi hz hsize hby hzs hsz e0 c0 l hs hc0 cs0 hcs0 hE B A c hx hr hl h63 hbytes fun g cap cur w' h1 h2 h3 h4 h5 => hK _ _ (h g cap cur w' h1 h2 h3 h4 h5)
end
section
variable {P : Program} {ops : Array Oper} {Q : Exit → Act → World → Prop} {B t : Nat} {W w : World} {i j fuel : Nat} {oi oj : Oper} {a : Act} {listed : Array Bool}
/-- two operations are ready: both ways -/
theorem relT_two {ri rj : List Oper} (hr : Region.ready .any ops listed = [i, j]) (hi : ops.toList.drop i = oi :: ri) (hj : ops.toList.drop j = oj :: rj)
    (hwi : Region.wanted oi (yielded ops a.tmps) = true) (hwj : Region.wanted oj (yielded ops a.tmps) = true)
    (h1 : ∀ K : Act → World → Prop, (∀ a' w', (listed.getD t false = true ∨ i = t ∨ NearB B W w') → wpAnyT P ops Q (fun w' => ∃ d : LaterB B W, w' = d.now) t fuel (listed.setIfInBounds i true) a' w' → K a' w') → oi.wp P a w K Q)
    (h2 : ∀ K : Act → World → Prop, (∀ a' w', (listed.getD t false = true ∨ j = t ∨ NearB B W w') → wpAnyT P ops Q (fun w' => ∃ d : LaterB B W, w' = d.now) t fuel (listed.setIfInBounds j true) a' w' → K a' w') → oj.wp P a w K Q) :
    wpAnyT P ops Q (fun w' => ∃ d : LaterB B W, w' = d.now) t (fuel + 1) listed a w := by
  refine relT_calls hr (by simp) ?_
  intro k hk
  simp only [List.mem_cons, List.not_mem_nil, or_false] at hk
  rcases hk with rfl | rfl
  · exact ⟨oi, drop_at hi, hwi, h1⟩
  · exact ⟨oj, drop_at hj, hwj, h2⟩
end
end Go.Proofs.Ytkfbchgabmffoaa
/- A result with one amount changed, or with an item doubled, is not consistent; a list with one cell changed, in memory. No program. -/
namespace Go.Proofs.Ytkfbchgabmffoaa
set_option linter.unusedVariables false
set_option linter.unusedSimpArgs false
open Go.RowKit

theorem cellsOf_set {α : Type} {f : α → List Value} {sz : Nat} (hf : ∀ a, (f a).length = sz) (l : List α) (y : α) (o : Nat) (v : Value) (ho : o < sz) : ∀ (i : Nat) (hi : i < l.length), f y = (f l[i]).set o v → cellsOf f (l.set i y) = (cellsOf f l).set (i * sz + o) v := by
  induction l with
  | nil => intro i hi; simp at hi
  | cons x l ih =>
    intro i hi h
    cases i with
    | zero =>
      simp only [List.getElem_cons_zero] at h
      simp only [List.set_cons_zero, cellsOf, Nat.zero_mul, Nat.zero_add, h]
      rw [List.set_append_left _ _ (by rw [hf]; exact ho)]
    | succ i =>
      simp only [List.getElem_cons_succ] at h
      simp only [List.set_cons_succ, cellsOf]
      rw [ih i (by simpa using hi) h, List.set_append_right _ _ (by rw [hf, Nat.succ_mul]; omega), hf]
      congr 2
      rw [Nat.succ_mul]; omega
/-- the block of a list, one cell of one struct changed -/
theorem set_cur {α : Type} {f : α → List Value} {sz : Nat} (hf : ∀ a, (f a).length = sz) {l : List α} {cur : Array Value} (hc : ∀ (j : Nat) (u : Value), (cellsOf f l)[j]? = some u → cur[j]? = some u) (y : α) (o : Nat) (v : Value) (ho : o < sz) (i : Nat) (hi : i < l.length) (h : f y = (f l[i]).set o v) :
    ∀ (j : Nat) (u : Value), (cellsOf f (l.set i y))[j]? = some u → (cur.setIfInBounds (i * sz + o) v)[j]? = some u := by
  intro j u hu
  rw [cellsOf_set hf l y o v ho i hi h] at hu
  by_cases e : i * sz + o = j
  · subst e
    have hl : i * sz + o < (cellsOf f l).length := by
      rw [cellsOf_len hf]
      have := Nat.mul_le_mul_right sz (Nat.succ_le_of_lt hi)
      rw [Nat.succ_mul] at this
      omega
    rw [List.getElem?_set_self hl] at hu
    have hcl := hc _ _ (List.getElem?_eq_getElem hl)
    rw [Array.getElem?_setIfInBounds_self_of_lt (Array.getElem?_eq_some_iff.1 hcl).1]
    exact hu
  · rw [List.getElem?_set_ne e] at hu
    rw [Array.getElem?_setIfInBounds_ne e]
    exact hc j u hu
theorem rd_cur {α : Type} {f : α → List Value} {sz : Nat} (hf : ∀ a, (f a).length = sz) {l : List α} {w : World} {g : Nat} {t : TypeId} {cur : Array Value} (h : Blk w g t cur) (hc : ∀ (j : Nat) (u : Value), (cellsOf f l)[j]? = some u → cur[j]? = some u) (n : Nat) (hn : n = l.length) :
    Rd w w.heap.size sz (some ⟨g, 0, none⟩) n (cellsOf f l) := by
  subst hn
  refine ⟨cellsOf_len hf _, fun _ => ⟨g, 0, rfl, h.lt, fun j u hu => ?_⟩⟩
  rw [Nat.zero_add, h.cell]
  exact hc j u hu
theorem at_cur {α : Type} {f : α → List Value} {sz : Nat} (hf : ∀ a, (f a).length = sz) {l : List α} {w : World} {g : Nat} {t : TypeId} {cur : Array Value} (h : Blk w g t cur) (hc : ∀ (j : Nat) (u : Value), (cellsOf f l)[j]? = some u → cur[j]? = some u) (i : Nat) (hi : i < l.length) (o : Nat) (v : Value) (hv : (f l[i])[o]? = some v) :
    w.cell? ⟨g, i * sz + o, none⟩ = some v := by
  rw [h.cell]
  have ho : o < sz := by
    have := (List.getElem?_eq_some_iff.1 hv).1
    rwa [hf] at this
  refine hc _ _ ?_
  rw [cellsOf_at hf l i o hi ho]
  exact hv
def addI (x : ItemR) (d : Int) : ItemR := ⟨x.ref, x.entity, x.account, x.partner, x.date, x.amount + d⟩
def addB (x : Bal) (d : Int) : Bal := ⟨x.account, x.amount + d⟩
theorem addI_cells (x : ItemR) (d : Int) : ItemR.cells (addI x d) = (ItemR.cells x).set 6 (.int .i64 (x.amount + d)) := rfl
theorem addB_cells (x : Bal) (d : Int) : Bal.cells (addB x d) = (Bal.cells x).set 1 (.int .i64 (x.amount + d)) := rfl
theorem ofV_set (m : List Bal) (i : Nat) (hi : i < m.length) (d : Int) : ofV (m.set i (addB m[i] d)) m[i].account = ofV m m[i].account + d := by
  unfold ofV
  rw [sm_set m (addB m[i] d) _ i hi]
  simp only [addB, if_true]
  omega
theorem within_set {M : Int} {m : List Bal} (h : within M m) (i : Nat) (hi : i < m.length) (d : Int) (h0 : -32768 ≤ d) (h1 : d ≤ 32767) : within (M + 32768) (m.set i (addB m[i] d)) := by
  intro x hx
  rcases List.mem_or_eq_of_mem_set hx with hx | rfl
  · have := h x hx; omega
  · have := h m[i] (List.getElem_mem hi)
    show -(M + 32768) ≤ m[i].amount + d ∧ m[i].amount + d ≤ M + 32768
    omega
section
variable {I : List ItemR} {P : List PostR} {T : List Bal}
theorem allB_item (i : Nat) (hi : i < I.length) (d : Int) : ∃ hk : i < (allB I P).length, allB (I.set i (addI I[i] d)) P = (allB I P).set i (addB (allB I P)[i] d) := by
  refine ⟨by unfold allB; rw [List.length_append, itBals_len]; omega, ?_⟩
  have e : (allB I P)[i]'(by unfold allB; rw [List.length_append, itBals_len]; omega) = itBal I[i] := by
    unfold allB itBals
    rw [List.getElem_append_left (by simpa using hi), List.getElem_map]
  rw [e]
  unfold allB itBals
  rw [List.set_append_left _ _ (by simpa using hi), List.map_set]
  rfl
theorem all_same {J : List ItemR} {Q : List PostR} (hI : CheckOk I P T) (OK : SmallOk I P T) (d : Int) (h0 : -32768 ≤ d) (h1 : d ≤ 32767) (hd : d ≠ 0) (k : Nat) (hk : k < (allB I P).length) (e : allB J Q = (allB I P).set k (addB (allB I P)[k] d)) : checkV J Q T = false := by
  refine check_no fun h2 => ?_
  have hl := OK.all
  have hw2 : within (1125899906842624 + 32768) (allB J Q) := by rw [e]; exact within_set OK.am k hk d h0 h1
  have hl2 : (allB J Q).length = (allB I P).length := by rw [e, List.length_set]
  have := check_spoiled hI h2 OK.am (by omega) (by omega) hw2 (by omega) (by omega) (allB I P)[k].account
  rw [e, ofV_set _ k hk d] at this
  omega
theorem check_item (h : CheckOk I P T) (OK : SmallOk I P T) (i : Nat) (hi : i < I.length) (d : Int) (h0 : -32768 ≤ d) (h1 : d ≤ 32767) (hd : d ≠ 0) : checkV (I.set i (addI I[i] d)) P T = false := by
  obtain ⟨hk, e⟩ := allB_item (P := P) i hi d
  exact all_same h OK d h0 h1 hd i hk e
theorem check_twice (i : Nat) (hi : i < I.length) : checkV (I ++ [I[i]]) P T = false := by
  refine check_no fun h => ?_
  have := h.1
  rw [items_twice I i hi] at this
  cases this
theorem check_total (h : CheckOk I P T) (i : Nat) (hi : i < T.length) (d : Int) (hd : d ≠ 0) : checkV I P (T.set i (addB T[i] d)) = false := by
  refine check_no fun h2 => ?_
  have e1 := ((h.2.1.2 T[i]).1 (List.getElem_mem hi)).1
  have e2 := ((h2.2.1.2 (addB T[i] d)).1 (List.mem_set hi _)).1
  simp only [addB] at e2
  omega
def addP (p : PostR) (m : Nat) (d : Int) (A : Option Addr) (c : Nat) : PostR := ⟨p.kind, p.entity, p.other, p.rule, ⟨p.parts.l.set m (addB (p.parts.l.getD m default) d), A, c⟩⟩
theorem flat_set {α β : Type} (g : α → List β) (P : List α) (y : α) : ∀ (i : Nat) (hi : i < P.length) (m : Nat) (hm : m < (g P[i]).length) (z : β), g y = (g P[i]).set m z → ∃ k : Nat, ∃ hk : k < (P.flatMap g).length, (P.set i y).flatMap g = (P.flatMap g).set k z ∧ (P.flatMap g)[k] = (g P[i])[m] := by
  induction P with
  | nil => intro i hi; simp at hi
  | cons x P ih =>
    intro i hi m hm z h
    cases i with
    | zero =>
      simp only [List.getElem_cons_zero] at hm h
      refine ⟨m, by rw [List.flatMap_cons, List.length_append]; omega, ?_, ?_⟩
      · rw [List.set_cons_zero, List.flatMap_cons, List.flatMap_cons, h, List.set_append_left _ _ hm]
      · simp only [List.flatMap_cons, List.getElem_cons_zero]
        rw [List.getElem_append_left hm]
    | succ i =>
      simp only [List.getElem_cons_succ] at hm h
      obtain ⟨k, hk, e1, e2⟩ := ih i (by simpa using hi) m hm z h
      refine ⟨(g x).length + k, by rw [List.flatMap_cons, List.length_append]; omega, ?_, ?_⟩
      · rw [List.set_cons_succ, List.flatMap_cons, List.flatMap_cons, e1, List.set_append_right _ _ (by omega)]
        congr 2
        omega
      · simp only [List.flatMap_cons, List.getElem_cons_succ]
        rw [List.getElem_append_right (by omega)]
        simp only [Nat.add_sub_cancel_left]
        exact e2
theorem check_part (h : CheckOk I P T) (OK : SmallOk I P T) (i : Nat) (hi : i < P.length) (m : Nat) (hm : m < P[i].parts.l.length) (d : Int) (h0 : -32768 ≤ d) (h1 : d ≤ 32767) (hd : d ≠ 0) (A : Option Addr) (c : Nat) : checkV I (P.set i (addP P[i] m d A c)) T = false := by
  have eg : P[i].parts.l.getD m default = P[i].parts.l[m] := by rw [List.getD_eq_getElem?_getD, List.getElem?_eq_getElem hm]; rfl
  obtain ⟨k, hk, e1, e2⟩ := flat_set (fun p : PostR => p.parts.l) P (addP P[i] m d A c) i hi m hm (addB P[i].parts.l[m] d) (by show P[i].parts.l.set m _ = _; rw [eg])
  refine all_same (J := I) (Q := P.set i (addP P[i] m d A c)) h OK d h0 h1 hd ((itBals I).length + k) (by unfold allB poBals; rw [List.length_append]; omega) ?_
  have e3 : (allB I P)[(itBals I).length + k]'(by unfold allB poBals; rw [List.length_append]; omega) = P[i].parts.l[m] := by
    unfold allB
    rw [List.getElem_append_right (by omega)]
    simp only [Nat.add_sub_cancel_left]
    exact e2
  rw [e3]
  unfold allB
  rw [List.set_append_right _ _ (by omega), Nat.add_sub_cancel_left]
  unfold poBals
  rw [e1]
theorem RIn.item {w w2 : World} {AI AP AT A : Option Addr} (h : RIn w I AI P AP T AT) (hb : Below w.heap.size w w2) (i : Nat) (hi : i < I.length) (d : Int) (hr : Rd w2 w2.heap.size 7 A (I.set i (addI I[i] d)).length (cellsOf ItemR.cells (I.set i (addI I[i] d)))) : RIn w2 (I.set i (addI I[i] d)) A P AP T AT := by
  have h2 := h.step hb
  refine ⟨hr, h2.po, h2.to, h2.pok, fun x hx => ?_⟩
  rcases List.mem_or_eq_of_mem_set hx with hx | rfl
  · exact h2.iok x hx
  · exact h2.iok I[i] (List.getElem_mem hi)
theorem RIn.twice {w w2 : World} {AI AP AT A : Option Addr} (h : RIn w I AI P AP T AT) (hb : Below w.heap.size w w2) (i : Nat) (hi : i < I.length) (hr : Rd w2 w2.heap.size 7 A (I ++ [I[i]]).length (cellsOf ItemR.cells (I ++ [I[i]]))) : RIn w2 (I ++ [I[i]]) A P AP T AT := by
  have h2 := h.step hb
  refine ⟨hr, h2.po, h2.to, h2.pok, fun x hx => ?_⟩
  rcases List.mem_append.1 hx with hx | hx
  · exact h2.iok x hx
  · rw [List.mem_singleton.1 hx]
    exact h2.iok I[i] (List.getElem_mem hi)
theorem RIn.total {w w2 : World} {AI AP AT A : Option Addr} (h : RIn w I AI P AP T AT) (hb : Below w.heap.size w w2) (U : List Bal) (hr : Rd w2 w2.heap.size 2 A U.length (cellsOf Bal.cells U)) : RIn w2 I AI P AP U A := by
  have h2 := h.step hb
  exact ⟨h2.it, h2.po, hr, h2.pok, h2.iok⟩
theorem RIn.part {w w2 : World} {AI AP AT A : Option Addr} (h : RIn w I AI P AP T AT) (hb : Below w.heap.size w w2) (i : Nat) (y : PostR) (hy : y.Ok w2) (hr : Rd w2 w2.heap.size 5 A (P.set i y).length (cellsOf PostR.cells (P.set i y))) : RIn w2 I AI (P.set i y) A T AT := by
  have h2 := h.step hb
  refine ⟨h2.it, hr, h2.to, fun x hx => ?_, h2.iok⟩
  rcases List.mem_or_eq_of_mem_set hx with hx | rfl
  · exact h2.pok x hx
  · exact hy
end
theorem allB_more {I J : List ItemR} {P : List PostR} (n : Nat) (h : (allB I P).length + 1 ≤ n) (hJ : J.length ≤ I.length + 1) : (allB J P).length ≤ n := by
  unfold allB at h ⊢
  rw [List.length_append, itBals_len] at h ⊢
  omega
theorem RIn.row {w : World} {I : List ItemR} {P : List PostR} {T : List Bal} {AI AP AT A : Option Addr} {w2 : World} (h : RIn w I AI P AP T AT) (hb : Below w.heap.size w w2) (i : Nat) (hi : i < I.length) {base m c : Nat} {t : TypeId} {x : ItemR} (hx : x = I[i]) (ho : w2.ownsRow base t 7 (.slice A m c) (I ++ [x]).length (cellsOf ItemR.cells (I ++ [x]))) : RIn w2 (I ++ [I[i]]) A P AP T AT := by
  obtain ⟨A2, c2, e, hr⟩ := Rd.of_own ho
  injection e with e1 e2 e3
  subst e1
  rw [hx] at hr
  exact h.twice hb i hi hr
theorem wf_in {n : Int} (h0 : -9223372036854775808 ≤ n) (h1 : n ≤ 9223372036854775807) : Wf n := by
  have e1 : IntKind.i64.min = -9223372036854775808 := rfl
  have e2 : IntKind.i64.max = 9223372036854775807 := rfl
  unfold Wf Lit.wf
  simp
  omega
theorem addP_ok {w w2 : World} {p : PostR} (h : p.Ok w) (hb : Below w.heap.size w w2) (m : Nat) (hm : m < p.parts.l.length) (d : Int) (h0 : -9223372036854775808 ≤ p.parts.l[m].amount + d) (h1 : p.parts.l[m].amount + d ≤ 9223372036854775807) (A : Option Addr) (c : Nat)
    (hr : Rd w2 w2.heap.size 2 A (p.parts.l.set m (addB p.parts.l[m] d)).length (cellsOf Bal.cells (p.parts.l.set m (addB p.parts.l[m] d)))) (hc : p.parts.l.length ≤ c) (hc2 : c ≤ maxLen) : (addP p m d A c).Ok w2 := by
  have eg : p.parts.l.getD m default = p.parts.l[m] := by rw [List.getD_eq_getElem?_getD, List.getElem?_eq_getElem hm]; rfl
  have h2 := h.step hb
  refine ⟨h2.1, h2.2.1, h2.2.2.1, h2.2.2.2.1, ⟨?_, ?_, hc2⟩, ?_⟩
  · show Rd w2 w2.heap.size 2 A (p.parts.l.set m (addB (p.parts.l.getD m default) d)).length (cellsOf Bal.cells (p.parts.l.set m (addB (p.parts.l.getD m default) d)))
    rw [eg]; exact hr
  · show (p.parts.l.set m _).length ≤ c
    rw [List.length_set]; exact hc
  · intro y hy
    replace hy : y ∈ p.parts.l.set m (addB (p.parts.l.getD m default) d) := hy
    rw [eg] at hy
    rcases List.mem_or_eq_of_mem_set hy with hy | rfl
    · exact h2.2.2.2.2.2 y hy
    · exact ⟨(h2.2.2.2.2.2 _ (List.getElem_mem hm)).1, wf_in h0 h1⟩
theorem addP_cells (p : PostR) (m : Nat) (d : Int) (A : Option Addr) (c : Nat) : PostR.cells (addP p m d A c) = (PostR.cells p).set 4 (.slice A p.parts.l.length c) := by
  unfold PostR.cells addP Sl.val
  simp
theorem allB_part {I : List ItemR} {P : List PostR} (i : Nat) (hi : i < P.length) (m : Nat) (d : Int) (A : Option Addr) (c : Nat) : (allB I (P.set i (addP P[i] m d A c))).length = (allB I P).length := by
  unfold allB poBals
  rw [List.length_append, List.length_append]
  congr 1
  rw [List.length_flatMap, List.length_flatMap, List.map_set]
  congr 1
  have : (addP P[i] m d A c).parts.l.length = (P.map fun p => p.parts.l.length)[i]'(by simpa using hi) := by simp [addP]
  rw [this, List.set_getElem_self]
theorem tcheck_no (per : Int) (I : List ItemR) (AI : Option Addr) (cI nI : Nat) (P : List PostR) (AP : Option Addr) (cP nP : Nat) (T : List Bal) (AT : Option Addr) (cT nT : Nat) (w : World) (h : RIn w I AI P AP T AT) (eI : I.length = nI) (eP : P.length = nP) (eT : T.length = nT)
    (hn : (allB I P).length ≤ 1000000) (hnI : nI ≤ 1000000) (hnP : nP ≤ 1000000) (hnT : nT ≤ 1000000) (hf : checkV I P T = false) :
    Calls Try.prog 14 #[.agg #[.int .i64 per, .slice AI nI cI, .slice AP nP cP, .slice AT nT cT]] w (BoolPost false w) := by
  subst eI eP eT
  rw [← hf]
  exact tcheck_any per I AI cI P AP cP T AT cT w h hn hnI hnP hnT
end Go.Proofs.Ytkfbchgabmffoaa
