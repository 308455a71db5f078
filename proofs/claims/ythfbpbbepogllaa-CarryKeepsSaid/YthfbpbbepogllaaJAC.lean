/- Texts of this claim, put together. -/
import Derived.Test.YthfbpbbepogllaaJAB
/- Pairs of an account and an amount: their cells; lists in order. No program. -/
namespace Go.Proofs.Ythfbpbbepogllaa
set_option linter.unusedVariables false
set_option linter.unusedSimpArgs false
open Go.RowKit

structure Bal where
  account : Int
  amount : Int
namespace Bal
def zero : Bal := ⟨0, 0⟩
def cells (b : Bal) : List Value := [.int .i64 b.account, .int .i64 b.amount]
theorem one (b : Bal) : ∀ u ∈ cells b, u.oneCell' = true := by
  intro u hu
  simp [cells] at hu
  rcases hu with rfl | rfl <;> rfl
theorem mk_ (r : List Int) (h : r.length = 2) : ∃ a : Bal, cells a = r.map (Value.int .i64) := by
  match r, h with
  | [a, b], _ => exact ⟨⟨a, b⟩, rfl⟩
/-- where the pairs of a list lie -/
theorem at_ {w : World} {B : Nat} {A : Option Addr} {l : List Bal} (h : Rd w B 2 A l.length (cellsOf cells l)) {k : Nat} (hk : k < l.length) :
    ∃ b o, A = some ⟨b, o, none⟩ ∧ b < B ∧ w.cell? ⟨b, o + k * 2, none⟩ = some (.int .i64 l[k].account) ∧ w.cell? ⟨b, o + k * 2 + 1, none⟩ = some (.int .i64 l[k].amount) := by
  obtain ⟨b, o, e, hb, hc⟩ := rd_at (f := cells) (sz := 2) (fun _ => rfl) h hk
  exact ⟨b, o, e, hb, hc 0 _ rfl, hc 1 _ rfl⟩
theorem getD_at (l : List Bal) (k : Nat) (hk : k < l.length) : l.getD k zero = l[k] := by simp [List.getD, hk]
end Bal
instance balInh : Inhabited Bal := ⟨Bal.zero⟩
def amV (n : Int) : Bool := decide (-1000000000000 ≤ n) && decide (n ≤ 1000000000000)
theorem amV_is {n : Int} (h : amV n = true) : -1000000000000 ≤ n ∧ n ≤ 1000000000000 := by unfold amV at h; simpa using h
/-- a condition on every place -/
def allAt (n : Nat) (p : Nat → Bool) : Bool := (List.range n).all p
theorem allAt_no {n k : Nat} {p : Nat → Bool} (hk : k < n) (h : p k = false) : allAt n p = false := by
  unfold allAt
  rw [List.all_eq_false]
  exact ⟨k, by simpa using hk, by simp [h]⟩
theorem allAt_yes {n : Nat} {p : Nat → Bool} (h : ∀ j, j < n → p j = true) : allAt n p = true := by
  unfold allAt
  rw [List.all_eq_true]
  intro j hj
  exact h j (by simpa using hj)
theorem allAt_at {n k : Nat} {p : Nat → Bool} (h : allAt n p = true) (hk : k < n) : p k = true := by
  unfold allAt at h
  rw [List.all_eq_true] at h
  exact h k (by simpa using hk)
theorem allAt_and {n : Nat} {p q : Nat → Bool} : allAt n (fun j => p j && q j) = (allAt n p && allAt n q) := by
  rw [Bool.eq_iff_iff]
  simp only [Bool.and_eq_true]
  constructor
  · intro h
    exact ⟨allAt_yes fun j hj => by have := allAt_at h hj; simp at this; exact this.1, allAt_yes fun j hj => by have := allAt_at h hj; simp at this; exact this.2⟩
  · intro ⟨h1, h2⟩
    exact allAt_yes fun j hj => by simp [allAt_at h1 hj, allAt_at h2 hj]
/-- in order, and amounts that are let -/
def ascAt (b : List Bal) (j : Nat) : Bool := (j == 0 || decide ((b.getD (j - 1) Bal.zero).account < (b.getD j Bal.zero).account)) && amV (b.getD j Bal.zero).amount
def ascV (b : List Bal) : Bool := allAt b.length (ascAt b)
theorem asc_mk {b : List Bal} {k : Nat} (hk : k < b.length) (ho : k = 0 ∨ (b[k - 1]'(by omega)).account < b[k].account) (hm : amV b[k].amount = true) : ascAt b k = true := by
  unfold ascAt
  rw [Bal.getD_at b k hk, Bal.getD_at b (k - 1) (by omega), hm]
  rcases ho with h | h
  · simp [h]
  · simp [h]
theorem asc_no {b : List Bal} {k : Nat} (hk : k < b.length) (h : (0 < k ∧ b[k].account ≤ (b[k - 1]'(by omega)).account) ∨ amV b[k].amount = false) : ascAt b k = false := by
  unfold ascAt
  rw [Bal.getD_at b k hk, Bal.getD_at b (k - 1) (by omega)]
  rcases h with h | h
  · have h0 : (k == 0) = false := by simp; omega
    have h1 : decide ((b[k - 1]'(by omega)).account < b[k].account) = false := by simp; omega
    rw [h0, h1]; simp
  · rw [h]; simp
theorem asc_amount {b : List Bal} (h : ascV b = true) {x : Bal} (hx : x ∈ b) : amV x.amount = true := by
  obtain ⟨j, hj, rfl⟩ := List.mem_iff_getElem.1 hx
  have := allAt_at h hj
  unfold ascAt at this
  rw [Bal.getD_at b j hj] at this
  simp only [Bool.and_eq_true] at this
  exact this.2
end Go.Proofs.Ythfbpbbepogllaa
/- Sums over lists. No program. -/
namespace Go.Proofs.Ythfbpbbepogllaa
set_option linter.unusedVariables false
set_option linter.unusedSimpArgs false
open Go.RowKit

/-- the sum of f over a list -/
def sm {α : Type} (l : List α) (f : α → Int) : Int := (l.map f).sum
section
variable {α β : Type}
theorem sm_nil (f : α → Int) : sm [] f = 0 := rfl
theorem sm_cons (a : α) (l : List α) (f : α → Int) : sm (a :: l) f = f a + sm l f := by simp [sm]
theorem sm_app (l m : List α) (f : α → Int) : sm (l ++ m) f = sm l f + sm m f := by simp [sm]
theorem sm_congr {l : List α} {f g : α → Int} (h : ∀ a ∈ l, f a = g a) : sm l f = sm l g := by
  induction l with
  | nil => rfl
  | cons a l ih => rw [sm_cons, sm_cons, h a (by simp), ih (fun b hb => h b (by simp [hb]))]
theorem sm_add (l : List α) (f g : α → Int) : sm l (fun a => f a + g a) = sm l f + sm l g := by
  induction l with
  | nil => rfl
  | cons a l ih => rw [sm_cons, sm_cons, sm_cons, ih]; omega
theorem sm_zero {l : List α} {f : α → Int} (h : ∀ a ∈ l, f a = 0) : sm l f = 0 := by
  induction l with
  | nil => rfl
  | cons a l ih => rw [sm_cons, h a (by simp), ih (fun b hb => h b (by simp [hb]))]; omega
theorem sm_swap (l : List α) (m : List β) (f : α → β → Int) : sm l (fun a => sm m (f a)) = sm m (fun b => sm l (fun a => f a b)) := by
  induction l with
  | nil => rw [sm_nil, sm_zero]; intro b _; rfl
  | cons a l ih =>
    rw [sm_cons, ih, ← sm_add]
    exact sm_congr fun b _ => by rw [sm_cons]
theorem sm_map (l : List α) (g : α → β) (f : β → Int) : sm (l.map g) f = sm l (fun a => f (g a)) := by simp [sm, Function.comp_def]
theorem sm_filter (l : List α) (p : α → Bool) (f : α → Int) : sm (l.filter p) f = sm l (fun a => if p a then f a else 0) := by
  induction l with
  | nil => rfl
  | cons a l ih =>
    rw [sm_cons, List.filter_cons]
    cases h : p a
    · simp [ih]
    · simp [sm_cons, ih]
theorem sm_count (l : List α) (p : α → Bool) : ((l.filter p).length : Int) = sm l (fun a => if p a then 1 else 0) := by
  induction l with
  | nil => rfl
  | cons a l ih =>
    rw [sm_cons, List.filter_cons]
    cases h : p a
    · simp [ih]
    · simp [ih]; omega
theorem sm_mul_ite (l : List α) (p : α → Prop) [DecidablePred p] (c : Int) : sm l (fun a => if p a then c else 0) = c * sm l (fun a => if p a then 1 else 0) := by
  induction l with
  | nil => simp [sm_nil]
  | cons a l ih =>
    rw [sm_cons, sm_cons, ih, Int.mul_add]
    split <;> simp
theorem sm_take (l : List α) (k : Nat) (h : k < l.length) (f : α → Int) : sm (l.take (k + 1)) f = sm (l.take k) f + f l[k] := by
  rw [List.take_succ_eq_append_getElem h, sm_app, sm_cons, sm_nil]; omega
/-- just one place of a list has a key -/
theorem sm_one {l : List α} (key : α → Int) (hd : (l.map key).Nodup) {a : α} (ha : a ∈ l) (g : α → Int) : sm l (fun b => if key b = key a then g b else 0) = g a := by
  induction l with
  | nil => simp at ha
  | cons b l ih =>
    rw [List.map_cons, List.nodup_cons] at hd
    rw [sm_cons]
    rcases List.mem_cons.1 ha with rfl | h
    · rw [if_pos rfl, sm_zero]
      · omega
      · intro c hc
        rw [if_neg]
        intro e
        exact hd.1 (by rw [← e]; exact List.mem_map.2 ⟨c, hc, rfl⟩)
    · rw [if_neg, ih hd.2 h]
      · omega
      · intro e
        exact hd.1 (by rw [e]; exact List.mem_map.2 ⟨a, h, rfl⟩)
theorem sm_bd (l : List α) (f : α → Int) (M : Int) (h : ∀ a ∈ l, -M ≤ f a ∧ f a ≤ M) : -(M * l.length) ≤ sm l f ∧ sm l f ≤ M * l.length := by
  induction l with
  | nil => simp [sm_nil]
  | cons a l ih =>
    have h1 := ih (fun b hb => h b (by simp [hb]))
    have h2 := h a (by simp)
    rw [sm_cons]
    simp only [List.length_cons, Int.natCast_add, Int.natCast_one, Int.mul_add, Int.mul_one]
    omega
end

/-- what stands on an account, wrapping around -/
def ofW (m : List Bal) (c : Int) : Int := m.foldl (fun n x => if x.account = c then wrap64 (n + x.amount) else n) 0
def ofV (m : List Bal) (c : Int) : Int := sm m (fun x => if x.account = c then x.amount else 0)
theorem ofW_take (m : List Bal) (k : Nat) (h : k < m.length) (c : Int) : ofW (m.take (k + 1)) c = if m[k].account = c then wrap64 (ofW (m.take k) c + m[k].amount) else ofW (m.take k) c := by
  unfold ofW
  rw [List.take_succ_eq_append_getElem h, List.foldl_append]
  rfl
theorem ofV_bd (m : List Bal) (c : Int) (h : ∀ x ∈ m, amV x.amount = true) : -(1000000000000 * m.length) ≤ ofV m c ∧ ofV m c ≤ 1000000000000 * m.length := by
  refine sm_bd m _ _ fun x hx => ?_
  have := amV_is (h x hx)
  split <;> omega
theorem ofW_eq (m : List Bal) (c : Int) (h : ∀ x ∈ m, amV x.amount = true) (hl : m.length ≤ 1000000) : ofW m c = ofV m c := by
  have : ∀ k, k ≤ m.length → ofW (m.take k) c = ofV (m.take k) c := by
    intro k
    induction k with
    | zero => intro _; rfl
    | succ k ih =>
      intro hk
      have hk' : k < m.length := by omega
      rw [ofW_take m k hk', ih (by omega)]
      have e : ofV (m.take (k + 1)) c = ofV (m.take k) c + if m[k].account = c then m[k].amount else 0 := sm_take m k hk' _
      rw [e]
      have hb := ofV_bd (m.take k) c (fun x hx => h x (List.mem_of_mem_take hx))
      rw [List.length_take] at hb
      have hx := amV_is (h _ (List.getElem_mem hk'))
      by_cases hc : m[k].account = c
      · rw [if_pos hc, if_pos hc, IntWalk.wrap64_in _ ⟨by omega, by omega⟩]
      · rw [if_neg hc, if_neg hc]; omega
  have := this m.length (Nat.le_refl _)
  rwa [List.take_length] at this
end Go.Proofs.Ythfbpbbepogllaa
/- An append of a list that came in, nil or not, to a list of the call's own. Over any program. -/
namespace Go.Proofs.Ythfbpbbepogllaa
set_option linter.unusedVariables false
set_option linter.unusedSimpArgs false
open Go.RowKit

section
variable {P : Program} (w : World)
theorem run_append_of_nil (base : Nat) (t ty e : TypeId) (i : TypeInfo) (size : Nat) (ht : P.underlying t = some (.slice e)) (hi : P.info? e = some i)
    (v : Value) (n : Nat) (xs : List Value) (hown : w.ownsRow base e size v n xs) (c : Nat) : (Builtin.append_ #[t, t] ty #[v, .slice none 0 c]).run P w = .ok v w := by
  rcases hown.2 with ⟨rfl, rfl⟩ | ⟨g, cap, cur, rfl, _, _, hnc, _⟩
  · simp [Builtin.append_, run_underlying ht, sizeOf, typeInfo, hi, Builtin.lenOf, Builtin.firstCells]
  · simp [Builtin.append_, run_underlying ht, sizeOf, typeInfo, hi, Builtin.lenOf, Builtin.firstCells, hnc, storeCells]
theorem run_append_any (base : Nat) (t ty e : TypeId) (i : TypeInfo) (z : Value) (size bytes : Nat) (ht : P.underlying t = some (.slice e)) (hi : P.info? e = some i) (hz : i.zero = some z)
    (hsize : i.size = size) (hby : i.bytes = bytes) (hzs : z.cells.size = size) (hsz : 0 < size)
    (v : Value) (n : Nat) (xs : List Value) (hown : w.ownsRow base e size v n xs)
    (B : Nat) (A : Option Addr) (m c : Nat) (news : List Value) (hr : Rd w B size A m news) (h1 : ∀ u ∈ news, u.oneCell' = true)
    (h63 : n + m ≤ maxLen) (hbytes : (n + m) * bytes ≤ 140737488355328) (hbase : base ≤ w.heap.size) :
    ∃ v' w', (Builtin.append_ #[t, t] ty #[v, .slice A m c]).run P w = .ok v' w' ∧ w'.ownsRow base e size v' (n + m) (xs ++ news) ∧ w.grownBy w' v.ownBlock := by
  rcases A with _ | ad
  · have hm : m = 0 := by
      rcases Nat.eq_zero_or_pos m with h0 | h0
      · exact h0
      · obtain ⟨b, o, h, _⟩ := hr.2 h0
        cases h
    subst hm
    have hn : news = [] := List.eq_nil_of_length_eq_zero (by simpa using hr.1)
    subst hn
    exact ⟨v, w, run_append_of_nil w base t ty e i size ht hi v n xs hown c, by simpa using hown, World.grownBy.refl w _⟩
  · have hcells : ∀ j u, news[j]? = some u → w.cell? (ad.add j) = some u := by
      intro j u hu
      rcases Nat.eq_zero_or_pos m with h0 | h0
      · subst h0
        have hn : news = [] := List.eq_nil_of_length_eq_zero (by simpa using hr.1)
        subst hn
        simp at hu
      · obtain ⟨b, o, h, _, hc⟩ := hr.2 h0
        injection h with h
        subst h
        have ea : (⟨b, o, none⟩ : Addr).add j = ⟨b, o + j, none⟩ := by unfold Addr.add; split <;> simp_all
        rw [ea]
        exact hc j u hu
    obtain ⟨v', w', hrun, h2, h3, _, _⟩ := run_append_own_at (P := P) w base t ty e i z size bytes ht hi hz hsize hby hzs hsz v n xs hown ad m c news hr.1 hcells h1 h63 hbytes hbase
    exact ⟨v', w', hrun, h2, h3⟩
theorem wp_append_any {o : Oper} {a : Act} {K : Act → World → Prop} {Q : Exit → Act → World → Prop} (s x : Operand) (t : TypeId)
    (ho : o.op = .call { callee := .builtin .append, args := #[s, x], argTypes := #[t, t] })
    (base : Nat) (e : TypeId) (i : TypeInfo) (z : Value) (size bytes : Nat) (ht : P.underlying t = some (.slice e)) (hi : P.info? e = some i) (hz : i.zero = some z)
    (hsize : i.size = size) (hby : i.bytes = bytes) (hzs : z.cells.size = size) (hsz : 0 < size)
    (v : Value) (n : Nat) (xs : List Value) (hs : a.eval s = v) (hown : w.ownsRow base e size v n xs)
    (B : Nat) (A : Option Addr) (m c : Nat) (news : List Value) (hx : a.eval x = .slice A m c) (hr : Rd w B size A m news) (h1 : ∀ u ∈ news, u.oneCell' = true)
    (h63 : n + m ≤ maxLen) (hbytes : (n + m) * bytes ≤ 140737488355328) (hbase : base ≤ w.heap.size)
    (h : ∀ v' w', w'.ownsRow base e size v' (n + m) (xs ++ news) → w.grownBy w' v.ownBlock → K (a.put o.dst v') w') : o.wp P a w K Q := by
  obtain ⟨v', w', hrun, h2, h3⟩ := run_append_any (P := P) w base t o.type e i z size bytes ht hi hz hsize hby hzs hsz v n xs hown B A m c news hr h1 h63 hbytes hbase
  unfold Oper.wp execOp
  simp only [ho, resolve, invoke, builtin, Sem.run_bind, Sem.run_pure, Result.andThen_ok, List.map_toArray, List.map_cons, List.map_nil, hs, hx, hrun]
  exact h v' w' h2 h3
theorem wpList_append_any {ops : Array Oper} {rest : List Oper} {o : Oper} {a : Act} {Q : Exit → Act → World → Prop} (hgd : o.guard = none) (s x : Operand) (t : TypeId)
    (ho : o.op = .call { callee := .builtin .append, args := #[s, x], argTypes := #[t, t] })
    (base : Nat) (e : TypeId) (i : TypeInfo) (z : Value) (size bytes : Nat) (ht : P.underlying t = some (.slice e)) (hi : P.info? e = some i) (hz : i.zero = some z)
    (hsize : i.size = size) (hby : i.bytes = bytes) (hzs : z.cells.size = size) (hsz : 0 < size)
    (v : Value) (n : Nat) (xs : List Value) (hs : a.eval s = v) (hown : w.ownsRow base e size v n xs)
    (B : Nat) (A : Option Addr) (m c : Nat) (news : List Value) (hx : a.eval x = .slice A m c) (hr : Rd w B size A m news) (h1 : ∀ u ∈ news, u.oneCell' = true)
    (h63 : n + m ≤ maxLen) (hbytes : (n + m) * bytes ≤ 140737488355328) (hbase : base ≤ w.heap.size)
    (h : ∀ v' w', w'.ownsRow base e size v' (n + m) (xs ++ news) → w.grownBy w' v.ownBlock → wpList P ops Q rest (a.put o.dst v') w') : wpList P ops Q (o :: rest) a w :=
  wpList_plain hgd fun _ hK => wp_append_any w s x t ho base e i z size bytes ht hi hz hsize hby hzs hsz v n xs hs hown B A m c news hx hr h1 h63 hbytes hbase fun v' w' h2 h3 => hK _ _ (h v' w' h2 h3)
/-- an empty block that was just made is a row of the call's own -/
theorem own_empty (t : TypeId) (base size c : Nat) (hb : base ≤ w.heap.size) (cs : Array Value) (hc : cs.size = c * size) (hm : c ≤ maxLen) : (w.alloc (.cells cs t)).ownsRow base t size (.slice (some ⟨w.heap.size, 0, none⟩) 0 c) 0 [] :=
  ⟨by simp, .inr ⟨w.heap.size, c, cs, rfl, hb, heap_alloc_new w _, by omega, hm, hc, by simp⟩⟩
theorem cells_one {α : Type} {f : α → List Value} (h : ∀ a, ∀ u ∈ f a, u.oneCell' = true) (l : List α) : ∀ u ∈ cellsOf f l, u.oneCell' = true := by
  induction l with
  | nil => intro u hu; simp [cellsOf] at hu
  | cons a l ih =>
    intro u hu
    simp only [cellsOf, List.mem_append] at hu
    rcases hu with hu | hu
    · exact h a u hu
    · exact ih u hu
/-- an append of one struct, at the operation -/
theorem wp_append_rec {o : Oper} {a : Act} {K : Act → World → Prop} {Q : Exit → Act → World → Prop} {α : Type} (f : α → List Value) (size : Nat) (hf : ∀ a, (f a).length = size) (hone : ∀ a, ∀ u ∈ f a, u.oneCell' = true)
    (s x : Operand) (t : TypeId) (ho : o.op = .call { callee := .builtin .append, args := #[s, x], argTypes := #[t, t] })
    (base : Nat) (e : TypeId) (i : TypeInfo) (z : Value) (bytes : Nat) (ht : P.underlying t = some (.slice e)) (hi : P.info? e = some i) (hz : i.zero = some z) (hsize : i.size = size) (hby : i.bytes = bytes) (hzs : z.cells.size = size) (hsz : 0 < size)
    (v : Value) (l : List α) (hs : a.eval s = v) (hown : w.ownsRow base e size v l.length (cellsOf f l)) (g c : Nat) (y : α) (cs : Array Value) (hx : a.eval x = .slice (some ⟨g, 0, none⟩) 1 c) (hB : Blk w g e cs) (hcs : cs.toList = f y)
    (h63 : l.length + 1 ≤ maxLen) (hbytes : (l.length + 1) * bytes ≤ 140737488355328) (hbase : base ≤ w.heap.size)
    (h : ∀ v' w', w'.ownsRow base e size v' (l ++ [y]).length (cellsOf f (l ++ [y])) → w.grownBy w' v.ownBlock → K (a.put o.dst v') w') : o.wp P a w K Q :=
  wp_append_own w s x t ho base e i z size bytes ht hi hz hsize hby hzs hsz v l.length _ hs hown ⟨g, 0, none⟩ 1 c (f y) hx (by rw [hf]; omega)
    (fun j u hu => by rw [add_zero_, hB.cell j, ← Array.getElem?_toList, hcs]; exact hu) (hone y) h63 hbytes hbase
    fun v' w' h1 h2 _ => h v' w' (by rw [List.length_append, cellsOf_app, show cellsOf f [y] = f y from by simp [cellsOf]]; exact h1) h2
end
end Go.Proofs.Ythfbpbbepogllaa
