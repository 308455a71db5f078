/- Sums over lists. No program. -/
import Derived.Test.YthenamibehbdnaaBalMath
namespace Go.Proofs.Ythenamibehbdnaa
set_option linter.unusedVariables false
set_option linter.unusedSimpArgs false
open Go.RowKit

/-- the sum of f over a list -/
def sm {α : Type} (l : List α) (f : α → Int) : Int := (l.map f).sum
section
variable {α β : Type}
theorem sm_nil (f : α → Int) : sm [] f = 0 := rfl
theorem sm_cons (a : α) (l : List α) (f : α → Int) : sm (a :: l) f = f a + sm l f := by simp [sm]
theorem sm_app (l m : List α) (f : α → Int) : sm (l ++ m) f = sm l f + sm m f := by simp [sm]
theorem sm_congr {l : List α} {f g : α → Int} (h : ∀ a ∈ l, f a = g a) : sm l f = sm l g := by
  induction l with
  | nil => rfl
  | cons a l ih => rw [sm_cons, sm_cons, h a (by simp), ih (fun b hb => h b (by simp [hb]))]
theorem sm_add (l : List α) (f g : α → Int) : sm l (fun a => f a + g a) = sm l f + sm l g := by
  induction l with
  | nil => rfl
  | cons a l ih => rw [sm_cons, sm_cons, sm_cons, ih]; omega
theorem sm_zero {l : List α} {f : α → Int} (h : ∀ a ∈ l, f a = 0) : sm l f = 0 := by
  induction l with
  | nil => rfl
  | cons a l ih => rw [sm_cons, h a (by simp), ih (fun b hb => h b (by simp [hb]))]; omega
theorem sm_swap (l : List α) (m : List β) (f : α → β → Int) : sm l (fun a => sm m (f a)) = sm m (fun b => sm l (fun a => f a b)) := by
  induction l with
  | nil => rw [sm_nil, sm_zero]; intro b _; rfl
  | cons a l ih =>
    rw [sm_cons, ih, ← sm_add]
    exact sm_congr fun b _ => by rw [sm_cons]
theorem sm_map (l : List α) (g : α → β) (f : β → Int) : sm (l.map g) f = sm l (fun a => f (g a)) := by simp [sm, Function.comp_def]
theorem sm_filter (l : List α) (p : α → Bool) (f : α → Int) : sm (l.filter p) f = sm l (fun a => if p a then f a else 0) := by
  induction l with
  | nil => rfl
  | cons a l ih =>
    rw [sm_cons, List.filter_cons]
    cases h : p a
    · simp [ih]
    · simp [sm_cons, ih]
theorem sm_count (l : List α) (p : α → Bool) : ((l.filter p).length : Int) = sm l (fun a => if p a then 1 else 0) := by
  induction l with
  | nil => rfl
  | cons a l ih =>
    rw [sm_cons, List.filter_cons]
    cases h : p a
    · simp [ih]
    · simp [ih]; omega
theorem sm_mul_ite (l : List α) (p : α → Prop) [DecidablePred p] (c : Int) : sm l (fun a => if p a then c else 0) = c * sm l (fun a => if p a then 1 else 0) := by
  induction l with
  | nil => simp [sm_nil]
  | cons a l ih =>
    rw [sm_cons, sm_cons, ih, Int.mul_add]
    split <;> simp
theorem sm_take (l : List α) (k : Nat) (h : k < l.length) (f : α → Int) : sm (l.take (k + 1)) f = sm (l.take k) f + f l[k] := by
  rw [List.take_succ_eq_append_getElem h, sm_app, sm_cons, sm_nil]; omega
/-- just one place of a list has a key -/
theorem sm_one {l : List α} (key : α → Int) (hd : (l.map key).Nodup) {a : α} (ha : a ∈ l) (g : α → Int) : sm l (fun b => if key b = key a then g b else 0) = g a := by
  induction l with
  | nil => simp at ha
  | cons b l ih =>
    rw [List.map_cons, List.nodup_cons] at hd
    rw [sm_cons]
    rcases List.mem_cons.1 ha with rfl | h
    · rw [if_pos rfl, sm_zero]
      · omega
      · intro c hc
        rw [if_neg]
        intro e
        exact hd.1 (by rw [← e]; exact List.mem_map.2 ⟨c, hc, rfl⟩)
    · rw [if_neg, ih hd.2 h]
      · omega
      · intro e
        exact hd.1 (by rw [e]; exact List.mem_map.2 ⟨a, h, rfl⟩)
theorem sm_bd (l : List α) (f : α → Int) (M : Int) (h : ∀ a ∈ l, -M ≤ f a ∧ f a ≤ M) : -(M * l.length) ≤ sm l f ∧ sm l f ≤ M * l.length := by
  induction l with
  | nil => simp [sm_nil]
  | cons a l ih =>
    have h1 := ih (fun b hb => h b (by simp [hb]))
    have h2 := h a (by simp)
    rw [sm_cons]
    simp only [List.length_cons, Int.natCast_add, Int.natCast_one, Int.mul_add, Int.mul_one]
    omega
end

/-- what stands on an account, wrapping around -/
def ofW (m : List Bal) (c : Int) : Int := m.foldl (fun n x => if x.account = c then wrap64 (n + x.amount) else n) 0
def ofV (m : List Bal) (c : Int) : Int := sm m (fun x => if x.account = c then x.amount else 0)
theorem ofW_take (m : List Bal) (k : Nat) (h : k < m.length) (c : Int) : ofW (m.take (k + 1)) c = if m[k].account = c then wrap64 (ofW (m.take k) c + m[k].amount) else ofW (m.take k) c := by
  unfold ofW
  rw [List.take_succ_eq_append_getElem h, List.foldl_append]
  rfl
theorem ofV_bd (m : List Bal) (c : Int) (h : ∀ x ∈ m, amV x.amount = true) : -(1000000000000 * m.length) ≤ ofV m c ∧ ofV m c ≤ 1000000000000 * m.length := by
  refine sm_bd m _ _ fun x hx => ?_
  have := amV_is (h x hx)
  split <;> omega
theorem ofW_eq (m : List Bal) (c : Int) (h : ∀ x ∈ m, amV x.amount = true) (hl : m.length ≤ 1000000) : ofW m c = ofV m c := by
  have : ∀ k, k ≤ m.length → ofW (m.take k) c = ofV (m.take k) c := by
    intro k
    induction k with
    | zero => intro _; rfl
    | succ k ih =>
      intro hk
      have hk' : k < m.length := by omega
      rw [ofW_take m k hk', ih (by omega)]
      have e : ofV (m.take (k + 1)) c = ofV (m.take k) c + if m[k].account = c then m[k].amount else 0 := sm_take m k hk' _
      rw [e]
      have hb := ofV_bd (m.take k) c (fun x hx => h x (List.mem_of_mem_take hx))
      rw [List.length_take] at hb
      have hx := amV_is (h _ (List.getElem_mem hk'))
      by_cases hc : m[k].account = c
      · rw [if_pos hc, if_pos hc, IntWalk.wrap64_in _ ⟨by omega, by omega⟩]
      · rw [if_neg hc, if_neg hc]; omega
  have := this m.length (Nat.le_refl _)
  rwa [List.take_length] at this
end Go.Proofs.Ythenamibehbdnaa
