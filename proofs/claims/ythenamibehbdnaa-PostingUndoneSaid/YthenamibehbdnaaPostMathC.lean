/- What lists of sums add up to. No program. -/
import Derived.Test.YthenamibehbdnaaPostMathB
namespace Go.Proofs.Ythenamibehbdnaa
set_option linter.unusedVariables false
set_option linter.unusedSimpArgs false
open Go.RowKit

def sumV (m : List Bal) : Int := sm m Bal.amount
/-- amounts within M in number and size -/
def within (M : Int) (m : List Bal) : Prop := ∀ x ∈ m, -M ≤ x.amount ∧ x.amount ≤ M
theorem wrap_in {n : Int} (h0 : -9223372036854775808 ≤ n) (h1 : n ≤ 9223372036854775807) : wrap64 n = n := IntWalk.wrap64_in n ⟨h0, h1⟩
theorem sumW_eq {M : Int} (m : List Bal) (h : within M m) (h0 : 0 ≤ M) (hl : M * m.length ≤ 4000000000000000000) : sumW m = sumV m := by
  have : ∀ k, k ≤ m.length → sumW (m.take k) = sumV (m.take k) := by
    intro k
    induction k with
    | zero => intro _; rfl
    | succ k ih =>
      intro hk
      have hk' : k < m.length := by omega
      rw [sumW_take m k hk', ih (by omega)]
      have e : sumV (m.take (k + 1)) = sumV (m.take k) + m[k].amount := sm_take m k hk' _
      rw [e]
      have hb := sm_bd (m.take k) Bal.amount M (fun x hx => h x (List.mem_of_mem_take hx))
      have hx := h _ (List.getElem_mem hk')
      rw [List.length_take, Nat.min_eq_left (by omega)] at hb
      have h2 : M * (k : Int) ≤ M * (m.length : Int) := Int.mul_le_mul_of_nonneg_left (by omega) h0
      have h3 : M * 1 ≤ M * (m.length : Int) := Int.mul_le_mul_of_nonneg_left (by omega) h0
      show wrap64 (sumV (m.take k) + m[k].amount) = _
      unfold sumV
      rw [wrap_in (by omega) (by omega)]
  have := this m.length (Nat.le_refl _)
  rwa [List.take_length] at this
theorem ofW_eq' {M : Int} (m : List Bal) (c : Int) (h : within M m) (h0 : 0 ≤ M) (hl : M * m.length ≤ 4000000000000000000) : ofW m c = ofV m c := by
  have : ∀ k, k ≤ m.length → ofW (m.take k) c = ofV (m.take k) c := by
    intro k
    induction k with
    | zero => intro _; rfl
    | succ k ih =>
      intro hk
      have hk' : k < m.length := by omega
      rw [ofW_take m k hk', ih (by omega)]
      have e : ofV (m.take (k + 1)) c = ofV (m.take k) c + if m[k].account = c then m[k].amount else 0 := sm_take m k hk' _
      rw [e]
      have hb := sm_bd (m.take k) (fun x => if x.account = c then x.amount else 0) M (fun x hx => by
        have := h x (List.mem_of_mem_take hx)
        show -M ≤ (if x.account = c then x.amount else 0) ∧ (if x.account = c then x.amount else 0) ≤ M
        split <;> omega)
      have hx := h _ (List.getElem_mem hk')
      rw [List.length_take, Nat.min_eq_left (by omega)] at hb
      have h2 : M * (k : Int) ≤ M * (m.length : Int) := Int.mul_le_mul_of_nonneg_left (by omega) h0
      have h3 : M * 1 ≤ M * (m.length : Int) := Int.mul_le_mul_of_nonneg_left (by omega) h0
      by_cases hc : m[k].account = c
      · rw [if_pos hc, if_pos hc]
        unfold ofV
        rw [wrap_in (by omega) (by omega)]
      · rw [if_neg hc, if_neg hc]; omega
  have := this m.length (Nat.le_refl _)
  rwa [List.take_length] at this
/-- each once -/
def dd : List Int → List Int
  | [] => []
  | a :: l => if a ∈ dd l then dd l else a :: dd l
theorem dd_mem (l : List Int) (c : Int) : c ∈ dd l ↔ c ∈ l := by
  induction l with
  | nil => simp [dd]
  | cons a l ih =>
    unfold dd
    by_cases h : a ∈ dd l
    · rw [if_pos h, ih, List.mem_cons]
      constructor
      · exact .inr
      · rintro (rfl | h2)
        · exact ih.1 h
        · exact h2
    · rw [if_neg h, List.mem_cons, ih, List.mem_cons]
theorem dd_nodup (l : List Int) : (dd l).Nodup := by
  induction l with
  | nil => exact List.nodup_nil
  | cons a l ih =>
    unfold dd
    by_cases h : a ∈ dd l
    · rw [if_pos h]; exact ih
    · rw [if_neg h, List.nodup_cons]; exact ⟨h, ih⟩
theorem sm_perm {l m : List Int} (h : l.Perm m) (f : Int → Int) : sm l f = sm m f := by
  induction h with
  | nil => rfl
  | cons a _ ih => rw [sm_cons, sm_cons, ih]
  | swap a b l => rw [sm_cons, sm_cons, sm_cons, sm_cons]; omega
  | trans _ _ h1 h2 => rw [h1, h2]
theorem sm_same {l m : List Int} (hl : l.Nodup) (hm : m.Nodup) (h : ∀ c, c ∈ l ↔ c ∈ m) (f : Int → Int) : sm l f = sm m f := sm_perm ((List.perm_ext_iff_of_nodup hl hm).2 h) f
theorem sm_single {l : List Int} (hl : l.Nodup) {c : Int} (hc : c ∈ l) (g : Int) : sm l (fun a => if c = a then g else 0) = g := by
  have := sm_one (fun a : Int => a) (by simpa using hl) hc (fun _ => g)
  refine Eq.trans (sm_congr fun a _ => ?_) this
  by_cases h : a = c
  · rw [if_pos h, if_pos h.symm]
  · have h' : ¬ c = a := fun e => h e.symm
    rw [if_neg h, if_neg h']
/-- all amounts, by accounts -/
theorem sumV_by (m : List Bal) (D : List Int) (hD : D.Nodup) (h : ∀ x ∈ m, x.account ∈ D) : sumV m = sm D (ofV m) := by
  induction m with
  | nil => unfold sumV; rw [sm_nil, sm_zero]; intro c _; rfl
  | cons x m ih =>
    have e : sm D (ofV (x :: m)) = sm D (fun c => (if x.account = c then x.amount else 0) + ofV m c) := sm_congr fun c _ => sm_cons _ _ _
    rw [e, sm_add, sm_single hD (h x (by simp)), ← ih (fun y hy => h y (by simp [hy]))]
    exact sm_cons _ _ _
theorem sm_drop0 (l : List Int) (f : Int → Int) : sm (l.filter fun c => f c != 0) f = sm l f := by
  rw [sm_filter]
  refine sm_congr fun c _ => ?_
  by_cases h : f c = 0 <;> simp [h]
theorem isC_nodup {f : Int → Int} {L : List Bal} (h : IsC f L) : (L.map Bal.account).Nodup := h.1.imp fun {a b} hab => by omega
theorem isC_sum {f : Int → Int} {L : List Bal} (h : IsC f L) : sumV L = sm (L.map Bal.account) f := by
  unfold sumV
  rw [sm_map]
  exact sm_congr fun x hx => ((h.2 x).1 hx).1.symm
/-- the list of sums adds up to the same -/
theorem clean_sum {m : List Bal} {f : Int → Int} {L : List Bal} (h : IsC f L) (hf : ∀ c, f c = ofV m c) : sumV L = sumV m := by
  have e : f = ofV m := funext hf
  subst e
  rw [isC_sum h, sumV_by m (dd (m.map Bal.account)) (dd_nodup _) (fun x hx => (dd_mem _ _).2 (List.mem_map.2 ⟨x, hx, rfl⟩)), ← sm_drop0 (dd (m.map Bal.account))]
  refine sm_same (isC_nodup h) ((dd_nodup _).filter _) (fun c => ?_) _
  rw [isC_codes h, List.mem_filter, dd_mem]
  constructor
  · intro hc
    refine ⟨?_, by simpa using hc⟩
    by_cases hm : c ∈ m.map Bal.account
    · exact hm
    · exact absurd (sm_zero (fun x hx => if_neg (fun e => hm (List.mem_map.2 ⟨x, hx, e⟩)))) hc
  · intro hc
    simpa using hc.2
/-- a list of sums is its own list of sums -/
theorem clean_again {f : Int → Int} {L : List Bal} (h : IsC f L) (c : Int) : ofV L c = f c := by
  unfold ofV
  by_cases hc : f c = 0
  · rw [hc]
    refine sm_zero fun x hx => ?_
    by_cases e : x.account = c
    · have := (h.2 x).1 hx
      rw [e, hc] at this
      exact absurd this.1.symm this.2
    · rw [if_neg e]
  · have hx : (⟨c, f c⟩ : Bal) ∈ L := (h.2 _).2 ⟨rfl, hc⟩
    exact sm_one Bal.account (isC_nodup h) hx Bal.amount
theorem clean_amount {f : Int → Int} {L : List Bal} (h : IsC f L) (ha : ∀ c, amV (f c) = true) : within 1000000000000 L := by
  intro x hx
  have := amV_is (ha x.account)
  rw [((h.2 x).1 hx).1] at this
  exact this
theorem clean_len {m : List Bal} {L : List Bal} (h : IsC (ofW m) L) : L.length ≤ m.length := by
  have := nodup_len_ (L.map Bal.account) (m.map Bal.account) (isC_nodup h) (fun c hc => by
    have h1 := (isC_codes h c).1 hc
    by_cases hm : c ∈ m.map Bal.account
    · exact hm
    · refine absurd ?_ h1
      unfold ofW
      have : ∀ (l : List Bal) (n : Int), (∀ x ∈ l, x.account ≠ c) → l.foldl (fun n x => if x.account = c then wrap64 (n + x.amount) else n) n = n := by
        intro l
        induction l with
        | nil => intro n _; rfl
        | cons a l ih => intro n hl; rw [List.foldl_cons, if_neg (hl a (by simp)), ih n (fun x hx => hl x (by simp [hx]))]
      exact this m 0 (fun x hx e => hm (List.mem_map.2 ⟨x, hx, e⟩)))
  simpa using this
theorem clean_in {m : List Bal} {L : List Bal} (h : IsC (ofW m) L) {x : Bal} (hx : x ∈ L) : ∃ y ∈ m, y.account = x.account := by
  have h1 := (isC_codes h x.account).1 (List.mem_map.2 ⟨x, hx, rfl⟩)
  by_cases hm : x.account ∈ m.map Bal.account
  · obtain ⟨y, hy, e⟩ := List.mem_map.1 hm
    exact ⟨y, hy, e⟩
  · refine absurd ?_ h1
    unfold ofW
    have : ∀ (l : List Bal) (n : Int), (∀ y ∈ l, y.account ≠ x.account) → l.foldl (fun n y => if y.account = x.account then wrap64 (n + y.amount) else n) n = n := by
      intro l
      induction l with
      | nil => intro n _; rfl
      | cons a l ih => intro n hl; rw [List.foldl_cons, if_neg (hl a (by simp)), ih n (fun y hy => hl y (by simp [hy]))]
    exact this m 0 (fun y hy e => hm (List.mem_map.2 ⟨y, hy, e⟩))
/-- both ways of collecting end alike -/
theorem col_same {f e : Int → Int} {L M : List Bal} {E G : Int} (h1 : (E = 0 ∧ IsC f L ∧ ∀ c, amV (f c) = true) ∨ (E = 2 ∧ L = [] ∧ ∃ c, amV (f c) = false)) (h2 : (G = 0 ∧ IsC e M ∧ ∀ c, amV (e c) = true) ∨ (G = 2 ∧ M = [] ∧ ∃ c, amV (e c) = false)) (h : ∀ c, f c = e c) : E = G ∧ L = M := by
  rcases h1 with ⟨e1, c1, a1⟩ | ⟨e1, l1, c, a1⟩ <;> rcases h2 with ⟨e2, c2, a2⟩ | ⟨e2, l2, d, a2⟩
  · exact ⟨by rw [e1, e2], isC_unique c1 c2 h⟩
  · rw [← h, a1 d] at a2; cases a2
  · rw [h, a2 c] at a1; cases a1
  · exact ⟨by rw [e1, e2], by rw [l1, l2]⟩
/-- sums do not hang on the order -/
theorem ofV_perm {l m : List Bal} (h : l.Perm m) (c : Int) : ofV l c = ofV m c := by
  unfold ofV
  induction h with
  | nil => rfl
  | cons a _ ih => rw [sm_cons, sm_cons, ih]
  | swap a b l => rw [sm_cons, sm_cons, sm_cons, sm_cons]; omega
  | trans _ _ h1 h2 => rw [h1, h2]
/-- amounts of at most 2^50, at most 200 -/
def smallAt (m : List Bal) (j : Nat) : Bool := decide ((m.getD j Bal.zero).amount ≤ 1125899906842624) && decide (-1125899906842624 ≤ (m.getD j Bal.zero).amount)
def smallV (m : List Bal) : Bool := allAt m.length (smallAt m) && decide (m.length ≤ 200)
theorem small_is {m : List Bal} (h : smallV m = true) : within 1125899906842624 m ∧ m.length ≤ 200 := by
  unfold smallV at h
  simp only [Bool.and_eq_true, decide_eq_true_eq] at h
  refine ⟨fun x hx => ?_, h.2⟩
  obtain ⟨j, hj, rfl⟩ := List.mem_iff_getElem.1 hx
  have := allAt_at h.1 hj
  unfold smallAt at this
  rw [Bal.getD_at m j hj] at this
  simp only [Bool.and_eq_true, decide_eq_true_eq] at this
  exact ⟨this.2, this.1⟩
end Go.Proofs.Ythenamibehbdnaa
