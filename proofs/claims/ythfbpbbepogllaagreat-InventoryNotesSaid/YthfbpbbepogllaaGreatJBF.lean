/- Texts of this claim, put together. -/
import Derived.Test.YthfbpbbepogllaaGreatJBD
import Derived.Test.YthfbpbbepogllaaGreatJAB
/- Notes that count, and notes in another order. No walk. -/
namespace Go.Proofs.YthfbpbbepogllaaGreat
set_option linter.unusedVariables false
set_option linter.unusedSimpArgs false
open Go.RowKit

namespace Iv
/-- the note counts for a pair, a period, or the end of the year before -/
def sel (i k q r : Int) (x : StkR) : Bool := x.seller == i && (x.buyer == k && ((x.period == q || x.period == r) && (decide (0 < x.amount) && decide (0 < x.margin))))
theorem one_idle {p : Int} {n : Nat} {i k q r s : Int} {x : StkR} (hok : ok p n x = true) (hs : s = q ∨ s = r) (hh : hit i k s x = true) (hn : sel i k q r x = false) : one x = 0 := by
  obtain ⟨_, _, _, _, _, a0, _, m0, _⟩ := iv_ok.1 hok
  unfold hit at hh
  simp only [Bool.and_eq_true, beq_iff_eq] at hh
  have h0 : x.amount * x.margin = 0 := by
    by_cases h1 : 0 < x.amount
    · by_cases h2 : 0 < x.margin
      · exfalso
        have : sel i k q r x = true := by
          unfold sel
          simp only [Bool.and_eq_true, Bool.or_eq_true, beq_iff_eq, decide_eq_true_eq]
          refine ⟨hh.2.1, hh.2.2, ?_, h1, h2⟩
          rw [hh.1]
          exact hs
        rw [this] at hn
        cases hn
      · rw [show x.margin = 0 by omega, Int.mul_zero]
    · rw [show x.amount = 0 by omega, Int.zero_mul]
  unfold one
  rw [h0]
  rfl
theorem sum_cons (a b q : Int) (x : StkR) (l : List StkR) : sum a b q (x :: l) = (if hit a b q x = true then one x else 0) + sum a b q l := by
  unfold sum
  rw [List.filter_cons]
  split
  · rw [List.map_cons, List.sum_cons]
  · omega
theorem sum_sel {p : Int} {n : Nat} {i k q r s : Int} (hs : s = q ∨ s = r) : ∀ (l : List StkR), l.all (ok p n) = true → sum i k s (l.filter (sel i k q r)) = sum i k s l
  | [], _ => rfl
  | x :: l, h => by
    simp only [List.all_cons, Bool.and_eq_true] at h
    have ih := sum_sel hs l h.2 (i := i) (k := k)
    rw [List.filter_cons, sum_cons i k s x l]
    split
    · rw [sum_cons, ih]
    · rename_i h1
      rw [ih]
      split
      · rename_i h2
        rw [one_idle h.1 hs h2 (by simpa using h1)]
        omega
      · omega
theorem sum_rev (a b q : Int) (l : List StkR) : sum a b q l.reverse = sum a b q l := by
  unfold sum
  rw [List.filter_reverse, List.map_reverse, List.sum_reverse]
theorem val_sub {V : Bool} {p : Int} {n : Nat} {l m : List StkR} (h : val V p n l = true) (hlen : m.length ≤ l.length) (hm : ∀ x ∈ m, x ∈ l) : val V p n m = true := by
  unfold val at h ⊢
  simp only [Bool.and_eq_true, decide_eq_true_eq, List.all_eq_true] at h ⊢
  exact ⟨h.1, by omega, fun x hx => h.2.2 x (hm x hx)⟩
theorem same_post {V : Bool} {q p : Int} {n : Nat} {ro : RolesR} {l m : List StkR} {c : List ConR} {a b : Int} (h1 : val V p n l = true) (h2 : val V p n m = true) (hs : 0 ≤ q → q < p → sum a b q m = sum a b q l ∧ bef q m a b = bef q l a b) :
    pE V q p n ro m c a b = pE V q p n ro l c a b ∧ pL V q p n ro m c a b = pL V q p n ro l c a b := by
  unfold pE pL
  rw [h1, h2]
  by_cases hc : Dv.ck true q p = 0
  · have h3 : 0 ≤ q ∧ q < p := by
      unfold Dv.ck at hc
      rw [if_pos rfl] at hc
      split at hc
      · assumption
      · cases hc
    have h4 := hs h3.1 h3.2
    have h5 : pts ro q m a b = pts ro q l a b := by unfold pts; rw [h4.1, h4.2]
    rw [h5]
    exact ⟨rfl, rfl⟩
  · rw [if_neg hc, if_neg hc, if_neg (fun e => hc e.1), if_neg (fun e => hc e.1)]
    exact ⟨rfl, rfl⟩
theorem own_post {V : Bool} {q r p : Int} {n : Nat} {ro : RolesR} {l : List StkR} {c : List ConR} {a b : Int} (h1 : val V p n l = true) (hr : 0 ≤ q → q < p → ¬ q < 12 → r = q - q % 12 - 1) :
    pE V q p n ro (l.filter (sel a b q r)) c a b = pE V q p n ro l c a b ∧ pL V q p n ro (l.filter (sel a b q r)) c a b = pL V q p n ro l c a b := by
  have hall : l.all (ok p n) = true := by unfold val at h1; simp only [Bool.and_eq_true] at h1; exact h1.2.2
  refine same_post h1 (val_sub h1 (List.length_filter_le _ _) (fun x hx => (List.mem_filter.1 hx).1)) (fun h2 h3 => ⟨sum_sel (.inl rfl) l hall, ?_⟩)
  unfold bef
  by_cases h12 : q < 12
  · rw [if_pos h12, if_pos h12]
  · rw [if_neg h12, if_neg h12, ← hr h2 h3 h12]
    exact sum_sel (.inr rfl) l hall
theorem back_post {V : Bool} {q p : Int} {n : Nat} {ro : RolesR} {l : List StkR} {c : List ConR} {a b : Int} (h1 : val V p n l = true) :
    pE V q p n ro l.reverse c a b = pE V q p n ro l c a b ∧ pL V q p n ro l.reverse c a b = pL V q p n ro l c a b := by
  refine same_post h1 (val_sub h1 (by simp) (fun x hx => List.mem_reverse.1 hx)) (fun _ _ => ⟨sum_rev _ _ _ l, ?_⟩)
  unfold bef
  split
  · rfl
  · exact sum_rev _ _ _ l
theorem sel_take (i k q r : Int) (l : List StkR) (j : Nat) (h : j < l.length) : (l.take (j + 1)).filter (sel i k q r) = if sel i k q r l[j] = true then (l.take j).filter (sel i k q r) ++ [l[j]] else (l.take j).filter (sel i k q r) := by
  rw [List.take_succ_eq_append_getElem h, List.filter_append]
  split
  · rename_i h1
    rw [List.filter_cons_of_pos h1]
    rfl
  · rename_i h1
    rw [List.filter_cons_of_neg h1]
    simp
theorem rev_take (l : List StkR) (j : Nat) (h : j < l.length) : l.reverse.take (j + 1) = l.reverse.take j ++ [l[l.length - 1 - j]'(by omega)] := by
  rw [List.take_succ_eq_append_getElem (by simpa using h), List.getElem_reverse]
end Iv
end Go.Proofs.YthfbpbbepogllaaGreat
/- An append that tells where the new row lies: in the old block, or past all that was. Over any program. -/
namespace Go.Proofs.YthfbpbbepogllaaGreat
set_option linter.unusedVariables false
set_option linter.unusedSimpArgs false
open Go.RowKit

theorem run_append_where {P : Program} (w : World) (base : Nat) (t ty e : TypeId) (i : TypeInfo) (z : Value) (size bytes : Nat) (ht : P.underlying t = some (.slice e)) (hi : P.info? e = some i) (hz : i.zero = some z)
    (hsize : i.size = size) (hby : i.bytes = bytes) (hzs : z.cells.size = size) (hsz : 0 < size)
    (v : Value) (n : Nat) (xs : List Value) (hown : w.ownsRow base e size v n xs)
    (a : Addr) (m c : Nat) (news : List Value) (hl : news.length = m * size) (hnews : ∀ j u, news[j]? = some u → w.cell? (a.add j) = some u) (h1 : ∀ u ∈ news, u.oneCell' = true)
    (h63 : n + m ≤ maxLen) (hbytes : (n + m) * bytes ≤ 140737488355328) (hbase : base ≤ w.heap.size) :
    ∃ v' w', (Builtin.append_ #[t, t] ty #[v, .slice (some a) m c]).run P w = .ok v' w' ∧ w'.ownsRow base e size v' (n + m) (xs ++ news) ∧ w.grownBy w' v.ownBlock ∧
      (∀ k, v'.ownBlock = some k → v.ownBlock = some k ∨ w.heap.size ≤ k) := by
  obtain ⟨v', w', hr, h2, h3, _⟩ := run_append_own (P := P) w base t ty e i z size bytes ht hi hz hsize hby hzs hsz v n xs hown a m c news hl hnews h1 h63 hbytes hbase
  refine ⟨v', w', hr, h2, h3, fun k hk => ?_⟩
  subst hsize
  subst hby
  have hsmall : n + m ≤ 9223372036854775807 := by simp only [maxLen] at h63; omega
  rcases hown.2 with ⟨rfl, rfl⟩ | ⟨g, cap, cur, rfl, hbg, hg, hnc, hcm, hcs, htake⟩
  · have hx : xs = [] := List.eq_nil_of_length_eq_zero (by simpa using hown.1)
    subst hx
    obtain ⟨v2, w2, hr2, g2, -, -⟩ := run_append_own (P := P) w w.heap.size t ty e i z i.size i.bytes ht hi hz rfl rfl hzs hsz (.slice none 0 0) 0 [] (World.ownsRow_nil _ _ _ _) a m c news hl hnews h1 h63 hbytes (Nat.le_refl _)
    rw [hr] at hr2
    injection hr2 with e1 e2
    subst e1
    exact .inr (g2.lt k hk).1
  · by_cases hroom : n + m ≤ cap
    · have hfit : n * i.size + news.length ≤ cur.size := by rw [hl, hcs, ← Nat.add_mul]; exact Nat.mul_le_mul_right _ hroom
      have hr2 := run_append_room (P := P) w t ty e i ht hi g n cap cur hg a m c news hl hnews h1 hroom hfit
      rw [hr] at hr2
      injection hr2 with e1 e2
      subst e1
      exact .inl hk
    · have holds : ∀ j u, xs[j]? = some u → w.cell? ((⟨g, 0, none⟩ : Addr).add j) = some u := hown.cells (g := g) rfl
      have hr2 := run_append_grow (P := P) w t ty e i z ht hi hz ⟨g, 0, none⟩ n cap xs hown.1 holds a m c news hl hnews (by omega) (by omega) (growslice_fits (by omega) hbytes)
      rw [hr] at hr2
      injection hr2 with e1 e2
      subst e1
      right
      simp only [Value.ownBlock, Option.some.injEq] at hk
      omega
section
variable {P : Program} {w : World} {o : Oper} {a : Act} {α : Type} (f : α → List Value) (size : Nat) (hf : ∀ a, (f a).length = size) (hone : ∀ a, ∀ u ∈ f a, u.oneCell' = true) (s x : Operand) (t : TypeId) (ho : o.op = .call { callee := .builtin .append, args := #[s, x], argTypes := #[t, t] })
  (base : Nat) (e : TypeId) (i : TypeInfo) (z : Value) (bytes : Nat) (ht : P.underlying t = some (.slice e)) (hi : P.info? e = some i) (hz : i.zero = some z) (hsize : i.size = size) (hby : i.bytes = bytes) (hzs : z.cells.size = size) (hsz : 0 < size)
  (v : Value) (l : List α) (hs : a.eval s = v) (hown : w.ownsRow base e size v l.length (cellsOf f l)) (g c : Nat) (y : α) (cs : Array Value) (hx : a.eval x = .slice (some ⟨g, 0, none⟩) 1 c) (hB : Blk w g e cs) (hcs : cs.toList = f y)
  (h63 : l.length + 1 ≤ maxLen) (hbytes : (l.length + 1) * bytes ≤ 140737488355328) (hbase : base ≤ w.heap.size)
include hf hone ho ht hi hz hsize hby hzs hsz hs hown hx hB hcs h63 hbytes hbase
theorem wp_append_where {K : Act → World → Prop} {Q : Exit → Act → World → Prop}
    (h : ∀ v' w', w'.ownsRow base e size v' (l ++ [y]).length (cellsOf f (l ++ [y])) → w.grownBy w' v.ownBlock → (∀ k, v'.ownBlock = some k → v.ownBlock = some k ∨ w.heap.size ≤ k) → K (a.put o.dst v') w') : o.wp P a w K Q := by
  obtain ⟨v', w', hr, h2, h3, h4⟩ := run_append_where (P := P) w base t o.type e i z size bytes ht hi hz hsize hby hzs hsz v l.length _ hown ⟨g, 0, none⟩ 1 c (f y) (by rw [hf]; omega) (fun j u hu => by rw [add_zero_, hB.cell j, ← Array.getElem?_toList, hcs]; exact hu) (hone y) h63 hbytes hbase
  unfold Oper.wp execOp
  simp only [ho, resolve, invoke, builtin, Sem.run_bind, Sem.run_pure, Result.andThen_ok, List.map_toArray, List.map_cons, List.map_nil, hs, hx, hr]
  exact h v' w' (by rw [List.length_append, cellsOf_app, show cellsOf f [y] = f y from by simp [cellsOf]]; exact h2) h3 h4
theorem wpList_append_where {ops : Array Oper} {rest : List Oper} {Q : Exit → Act → World → Prop} (hgd : o.guard = none)
    (h : ∀ v' w', w'.ownsRow base e size v' (l ++ [y]).length (cellsOf f (l ++ [y])) → w.grownBy w' v.ownBlock → (∀ k, v'.ownBlock = some k → v.ownBlock = some k ∨ w.heap.size ≤ k) → wpList P ops Q rest (a.put o.dst v') w') : wpList P ops Q (o :: rest) a w :=
  wpList_plain hgd fun _ hK => wp_append_where f size hf hone s x t ho base e i z bytes ht hi hz hsize hby hzs hsz v l hs hown g c y cs hx hB hcs h63 hbytes hbase fun v' w' h2 h3 h4 => hK _ _ (h v' w' h2 h3 h4)
end
/-- two rows of a call's own that share no block -/
def Apart (v u : Value) : Prop := ∀ k, v.ownBlock = some k → u.ownBlock ≠ some k
theorem apart_nil (u : Value) : Apart (.slice none 0 0) u := fun k h => by cases h
theorem Apart.flip {v u : Value} (h : Apart v u) : Apart u v := fun k h1 h2 => h k h2 h1
theorem Apart.ne {v u : Value} (h : Apart v u) : u.ownBlock = none ∨ u.ownBlock ≠ v.ownBlock := by
  cases hu : u.ownBlock with
  | none => exact .inl rfl
  | some k => exact .inr (fun e => h k e.symm hu)
theorem Apart.step {w : World} {base : Nat} {e : TypeId} {size n : Nat} {xs : List Value} {v v' u : Value} (h : Apart v u) (hu : w.ownsRow base e size u n xs) (hk : ∀ k, v'.ownBlock = some k → v.ownBlock = some k ∨ w.heap.size ≤ k) : Apart v' u := fun k h1 h2 => by
  rcases hk k h1 with h3 | h3
  · exact h k h3 h2
  · have := (hu.lt k h2).2
    omega
end Go.Proofs.YthfbpbbepogllaaGreat
