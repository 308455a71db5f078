/- Texts of this claim, put together. -/
import Derived.Test.YthfbpbbepogllaaJBB
import Derived.Test.YthfbpbbepogllaaJAB
/- Notes that are divided into two lists. No walk. -/
namespace Go.Proofs.Ythfbpbbepogllaa
set_option linter.unusedVariables false
set_option linter.unusedSimpArgs false
open Go.RowKit

namespace Iv
theorem sumc (a b q : Int) (x : StkR) (l : List StkR) : sum a b q (x :: l) = (if hit a b q x = true then one x else 0) + sum a b q l := by
  unfold sum
  rw [List.filter_cons]
  split
  · rw [List.map_cons, List.sum_cons]
  · omega
theorem sum_perm {a b q : Int} {l m : List StkR} (h : l.Perm m) : sum a b q l = sum a b q m := by
  induction h with
  | nil => rfl
  | cons x _ ih => rw [sumc, sumc, ih]
  | swap x y l => rw [sumc, sumc, sumc, sumc]; omega
  | trans _ _ h1 h2 => exact h1.trans h2
theorem sum_app (a b q : Int) (l m : List StkR) : sum a b q (l ++ m) = sum a b q l + sum a b q m := by
  unfold sum
  rw [List.filter_append, List.map_append, List.sum_append]
theorem val_sub' {V : Bool} {p : Int} {n : Nat} {l m : List StkR} (h : val V p n l = true) (hlen : m.length ≤ l.length) (hm : ∀ x ∈ m, x ∈ l) : val V p n m = true := by
  unfold val at h ⊢
  simp only [Bool.and_eq_true, decide_eq_true_eq, List.all_eq_true] at h ⊢
  exact ⟨h.1, by omega, fun x hx => h.2.2 x (hm x hx)⟩
theorem sums {V : Bool} {q p : Int} {n : Nat} {l od ev : List StkR} {a b : Int} (h : (od ++ ev).Perm l) (h0 : unE V q p n l a b = 0) :
    unE V q p n od a b = 0 ∧ unE V q p n ev a b = 0 ∧ unN V q p n l a b = unN V q p n od a b + unN V q p n ev a b ∧ 0 ≤ unN V q p n od a b ∧ 0 ≤ unN V q p n ev a b ∧ unN V q p n l a b ≤ 1000000000000 := by
  have hs := sum_perm (a := a) (b := b) (q := q) h
  rw [sum_app] at hs
  have hlen := h.length_eq
  rw [List.length_append] at hlen
  have hsub1 : ∀ x ∈ od, x ∈ l := fun x hx => h.mem_iff.1 (List.mem_append_left _ hx)
  have hsub2 : ∀ x ∈ ev, x ∈ l := fun x hx => h.mem_iff.1 (List.mem_append_right _ hx)
  unfold unN
  rw [h0, if_pos rfl]
  unfold unE at h0
  split at h0
  · rename_i hc
    obtain ⟨hok, hln, hV, hq0, hq1⟩ := iv_ck0 hc
    have hval : val V p n l = true := by
      unfold val
      simp only [Bool.and_eq_true, decide_eq_true_eq]
      exact ⟨hV, hln, hok⟩
    have hv1 := val_sub' hval (m := od) (by omega) hsub1
    have hv2 := val_sub' hval (m := ev) (by omega) hsub2
    rw [hval] at hc
    have ho1 : od.all (ok p n) = true := by unfold val at hv1; simp only [Bool.and_eq_true] at hv1; exact hv1.2.2
    have ho2 : ev.all (ok p n) = true := by unfold val at hv2; simp only [Bool.and_eq_true] at hv2; exact hv2.2.2
    obtain ⟨s0, -⟩ := iv_sum_in a b q od ho1
    obtain ⟨s1, -⟩ := iv_sum_in a b q ev ho2
    split at h0
    · rename_i hf
      unfold fit at hf
      simp only [Bool.and_eq_true] at hf
      have ham := amV_is hf.2.2
      have f1 : fit n a b (sum a b q od) = true := by
        unfold fit
        simp only [Bool.and_eq_true]
        refine ⟨hf.1, hf.2.1, ?_⟩
        unfold amV
        simp only [Bool.and_eq_true, decide_eq_true_eq]
        omega
      have f2 : fit n a b (sum a b q ev) = true := by
        unfold fit
        simp only [Bool.and_eq_true]
        refine ⟨hf.1, hf.2.1, ?_⟩
        unfold amV
        simp only [Bool.and_eq_true, decide_eq_true_eq]
        omega
      have e1 : unE V q p n od a b = 0 := by unfold unE; rw [hv1, if_pos hc, if_pos f1]
      have e2 : unE V q p n ev a b = 0 := by unfold unE; rw [hv2, if_pos hc, if_pos f2]
      rw [e1, e2, if_pos rfl, if_pos rfl]
      exact ⟨rfl, rfl, hs.symm, s0, s1, ham.2⟩
    · cases h0
  · rename_i hc
    exact absurd h0 hc
theorem perm_left {od ev l : List StkR} {x : StkR} {j : Nat} (h : (od ++ ev).Perm (l.take j)) (hj : j < l.length) (hx : l[j] = x) : ((od ++ [x]) ++ ev).Perm (l.take (j + 1)) := by
  rw [List.take_succ_eq_append_getElem hj, hx]
  have h1 : ((od ++ [x]) ++ ev).Perm ((od ++ ev) ++ [x]) := by
    rw [List.append_assoc, List.append_assoc]
    exact List.Perm.append_left od List.perm_append_comm
  exact h1.trans (h.append_right [x])
theorem perm_right {od ev l : List StkR} {x : StkR} {j : Nat} (h : (od ++ ev).Perm (l.take j)) (hj : j < l.length) (hx : l[j] = x) : (od ++ (ev ++ [x])).Perm (l.take (j + 1)) := by
  rw [List.take_succ_eq_append_getElem hj, hx, ← List.append_assoc]
  exact h.append_right [x]
end Iv
end Go.Proofs.Ythfbpbbepogllaa
/- An append that tells where the new row lies: in the old block, or past all that was. Over any program. -/
namespace Go.Proofs.Ythfbpbbepogllaa
set_option linter.unusedVariables false
set_option linter.unusedSimpArgs false
open Go.RowKit

theorem run_append_where {P : Program} (w : World) (base : Nat) (t ty e : TypeId) (i : TypeInfo) (z : Value) (size bytes : Nat) (ht : P.underlying t = some (.slice e)) (hi : P.info? e = some i) (hz : i.zero = some z)
    (hsize : i.size = size) (hby : i.bytes = bytes) (hzs : z.cells.size = size) (hsz : 0 < size)
    (v : Value) (n : Nat) (xs : List Value) (hown : w.ownsRow base e size v n xs)
    (a : Addr) (m c : Nat) (news : List Value) (hl : news.length = m * size) (hnews : ∀ j u, news[j]? = some u → w.cell? (a.add j) = some u) (h1 : ∀ u ∈ news, u.oneCell' = true)
    (h63 : n + m ≤ maxLen) (hbytes : (n + m) * bytes ≤ 140737488355328) (hbase : base ≤ w.heap.size) :
    ∃ v' w', (Builtin.append_ #[t, t] ty #[v, .slice (some a) m c]).run P w = .ok v' w' ∧ w'.ownsRow base e size v' (n + m) (xs ++ news) ∧ w.grownBy w' v.ownBlock ∧
      (∀ k, v'.ownBlock = some k → v.ownBlock = some k ∨ w.heap.size ≤ k) := by
  obtain ⟨v', w', hr, h2, h3, _⟩ := run_append_own (P := P) w base t ty e i z size bytes ht hi hz hsize hby hzs hsz v n xs hown a m c news hl hnews h1 h63 hbytes hbase
  refine ⟨v', w', hr, h2, h3, fun k hk => ?_⟩
  subst hsize
  subst hby
  have hsmall : n + m ≤ 9223372036854775807 := by simp only [maxLen] at h63; omega
  rcases hown.2 with ⟨rfl, rfl⟩ | ⟨g, cap, cur, rfl, hbg, hg, hnc, hcm, hcs, htake⟩
  · have hx : xs = [] := List.eq_nil_of_length_eq_zero (by simpa using hown.1)
    subst hx
    obtain ⟨v2, w2, hr2, g2, -, -⟩ := run_append_own (P := P) w w.heap.size t ty e i z i.size i.bytes ht hi hz rfl rfl hzs hsz (.slice none 0 0) 0 [] (World.ownsRow_nil _ _ _ _) a m c news hl hnews h1 h63 hbytes (Nat.le_refl _)
    rw [hr] at hr2
    injection hr2 with e1 e2
    subst e1
    exact .inr (g2.lt k hk).1
  · by_cases hroom : n + m ≤ cap
    · have hfit : n * i.size + news.length ≤ cur.size := by rw [hl, hcs, ← Nat.add_mul]; exact Nat.mul_le_mul_right _ hroom
      have hr2 := run_append_room (P := P) w t ty e i ht hi g n cap cur hg a m c news hl hnews h1 hroom hfit
      rw [hr] at hr2
      injection hr2 with e1 e2
      subst e1
      exact .inl hk
    · have holds : ∀ j u, xs[j]? = some u → w.cell? ((⟨g, 0, none⟩ : Addr).add j) = some u := hown.cells (g := g) rfl
      have hr2 := run_append_grow (P := P) w t ty e i z ht hi hz ⟨g, 0, none⟩ n cap xs hown.1 holds a m c news hl hnews (by omega) (by omega) (growslice_fits (by omega) hbytes)
      rw [hr] at hr2
      injection hr2 with e1 e2
      subst e1
      right
      simp only [Value.ownBlock, Option.some.injEq] at hk
      omega
section
variable {P : Program} {w : World} {o : Oper} {a : Act} {α : Type} (f : α → List Value) (size : Nat) (hf : ∀ a, (f a).length = size) (hone : ∀ a, ∀ u ∈ f a, u.oneCell' = true) (s x : Operand) (t : TypeId) (ho : o.op = .call { callee := .builtin .append, args := #[s, x], argTypes := #[t, t] })
  (base : Nat) (e : TypeId) (i : TypeInfo) (z : Value) (bytes : Nat) (ht : P.underlying t = some (.slice e)) (hi : P.info? e = some i) (hz : i.zero = some z) (hsize : i.size = size) (hby : i.bytes = bytes) (hzs : z.cells.size = size) (hsz : 0 < size)
  (v : Value) (l : List α) (hs : a.eval s = v) (hown : w.ownsRow base e size v l.length (cellsOf f l)) (g c : Nat) (y : α) (cs : Array Value) (hx : a.eval x = .slice (some ⟨g, 0, none⟩) 1 c) (hB : Blk w g e cs) (hcs : cs.toList = f y)
  (h63 : l.length + 1 ≤ maxLen) (hbytes : (l.length + 1) * bytes ≤ 140737488355328) (hbase : base ≤ w.heap.size)
include hf hone ho ht hi hz hsize hby hzs hsz hs hown hx hB hcs h63 hbytes hbase
theorem wp_append_where {K : Act → World → Prop} {Q : Exit → Act → World → Prop}
    (h : ∀ v' w', w'.ownsRow base e size v' (l ++ [y]).length (cellsOf f (l ++ [y])) → w.grownBy w' v.ownBlock → (∀ k, v'.ownBlock = some k → v.ownBlock = some k ∨ w.heap.size ≤ k) → K (a.put o.dst v') w') : o.wp P a w K Q := by
  obtain ⟨v', w', hr, h2, h3, h4⟩ := run_append_where (P := P) w base t o.type e i z size bytes ht hi hz hsize hby hzs hsz v l.length _ hown ⟨g, 0, none⟩ 1 c (f y) (by rw [hf]; omega) (fun j u hu => by rw [add_zero_, hB.cell j, ← Array.getElem?_toList, hcs]; exact hu) (hone y) h63 hbytes hbase
  unfold Oper.wp execOp
  simp only [ho, resolve, invoke, builtin, Sem.run_bind, Sem.run_pure, Result.andThen_ok, List.map_toArray, List.map_cons, List.map_nil, hs, hx, hr]
  exact h v' w' (by rw [List.length_append, cellsOf_app, show cellsOf f [y] = f y from by simp [cellsOf]]; exact h2) h3 h4
theorem wpList_append_where {ops : Array Oper} {rest : List Oper} {Q : Exit → Act → World → Prop} (hgd : o.guard = none)
    (h : ∀ v' w', w'.ownsRow base e size v' (l ++ [y]).length (cellsOf f (l ++ [y])) → w.grownBy w' v.ownBlock → (∀ k, v'.ownBlock = some k → v.ownBlock = some k ∨ w.heap.size ≤ k) → wpList P ops Q rest (a.put o.dst v') w') : wpList P ops Q (o :: rest) a w :=
  wpList_plain hgd fun _ hK => wp_append_where f size hf hone s x t ho base e i z bytes ht hi hz hsize hby hzs hsz v l hs hown g c y cs hx hB hcs h63 hbytes hbase fun v' w' h2 h3 h4 => hK _ _ (h v' w' h2 h3 h4)
end
/-- two rows of a call's own that share no block -/
def Apart (v u : Value) : Prop := ∀ k, v.ownBlock = some k → u.ownBlock ≠ some k
theorem apart_nil (u : Value) : Apart (.slice none 0 0) u := fun k h => by cases h
theorem Apart.flip {v u : Value} (h : Apart v u) : Apart u v := fun k h1 h2 => h k h2 h1
theorem Apart.ne {v u : Value} (h : Apart v u) : u.ownBlock = none ∨ u.ownBlock ≠ v.ownBlock := by
  cases hu : u.ownBlock with
  | none => exact .inl rfl
  | some k => exact .inr (fun e => h k e.symm hu)
theorem Apart.step {w : World} {base : Nat} {e : TypeId} {size n : Nat} {xs : List Value} {v v' u : Value} (h : Apart v u) (hu : w.ownsRow base e size u n xs) (hk : ∀ k, v'.ownBlock = some k → v.ownBlock = some k ∨ w.heap.size ≤ k) : Apart v' u := fun k h1 h2 => by
  rcases hk k h1 with h3 | h3
  · exact h k h3 h2
  · have := (hu.lt k h2).2
    omega
end Go.Proofs.Ythfbpbbepogllaa
