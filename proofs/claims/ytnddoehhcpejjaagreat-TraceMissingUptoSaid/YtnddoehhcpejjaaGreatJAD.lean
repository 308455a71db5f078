/- Texts of this claim, put together. -/
import Derived.Test.YtnddoehhcpejjaaGreatJAC
import Derived.Test.YtnddoehhcpejjaaGreatJAB
import Derived.Sort.KeysCollected
import Derived.Test.YtnddoehhcpejjaaGreatApiZ
import Derived.Test.YtnddoehhcpejjaaGreatJAA
import Derived.Test.YtnddoehhcpejjaaGreatProg
import Derived.Test.YtnddoehhcpejjaaGreatChecked
/- Charts of accounts: lists of accounts checked one by one; sorted charts. No program. -/
namespace Go.Proofs.YtnddoehhcpejjaaGreat
set_option linter.unusedVariables false
set_option linter.unusedSimpArgs false
open Go.RowKit
namespace Ch
theorem rvalid_no (l : List Acc) (g : Bool) (k : Nat) (hk : k < l.length) (h : rokAt l g k = false) : rvalidV l g = false := by
  unfold rvalidV
  have : (List.range l.length).all (rokAt l g) = false := by
    rw [List.all_eq_false]
    exact ⟨k, by simpa using hk, by simp [h]⟩
  rw [this]; simp
theorem rvalid_end (l : List Acc) (g : Bool) (hl : l.length ≤ 200) (h : ∀ j, j < l.length → rokAt l g j = true) : rvalidV l g = true := by
  unfold rvalidV
  have : (List.range l.length).all (rokAt l g) = true := by
    rw [List.all_eq_true]
    intro j hj
    exact h j (by simpa using hj)
  rw [this]; simp [hl]
theorem rvalid_long (l : List Acc) (g : Bool) (hl : ¬ l.length ≤ 200) : rvalidV l g = false := by unfold rvalidV; simp [hl]
theorem rok_mk {l : List Acc} {g : Bool} {k : Nat} (hk : k < l.length) (hP : rproperV l l[k] g = true) (ho : k = 0 ∨ (l[k - 1]'(by omega)).code < l[k].code) (hL : (rcl l l[k].code).length ≤ l.length) : rokAt l g k = true := by
  unfold rokAt
  rw [getD_at l k hk, getD_at l (k - 1) (by omega), hP]
  rcases ho with h | h <;> simp [h] <;> (try subst h) <;> omega
theorem rok_no {l : List Acc} {g : Bool} {k : Nat} (hk : k < l.length) (h : rproperV l l[k] g = false ∨ (0 < k ∧ l[k].code ≤ (l[k - 1]'(by omega)).code) ∨ l.length < (rcl l l[k].code).length) : rvalidV l g = false := by
  refine rvalid_no l g k hk ?_
  unfold rokAt
  rw [getD_at l k hk, getD_at l (k - 1) (by omega)]
  rcases h with h | h | h
  · simp [h]
  · have h0 : (k == 0) = false := by simp; omega
    have h1 : decide ((l[k - 1]'(by omega)).code < l[k].code) = false := by simp; omega
    rw [h0, h1]; simp
  · have h1 : decide ((rcl l l[k].code).length ≤ l.length) = false := by simp; omega
    rw [h1]; simp
/-- the place in order: behind the first, or in front of a test -/
theorem ord_case (k : Nat) (x y : Int) : (decide (0 < k) = false ∧ k = 0) ∨ (decide (0 < k) = true ∧ decide (y ≤ x) = false ∧ x < y) ∨ (decide (0 < k) = true ∧ decide (y ≤ x) = true ∧ 0 < k ∧ y ≤ x) := by
  by_cases h0 : 0 < k
  · by_cases h1 : y ≤ x
    · exact .inr (.inr ⟨by simp [h0], by simp [h1], h0, h1⟩)
    · exact .inr (.inl ⟨by simp [h0], by simpa using h1, by omega⟩)
  · exact .inl ⟨by simpa using h0, by omega⟩
theorem wrap_pred (k : Nat) (h : 0 < k) (h2 : k ≤ 1000000) : IntKind.i64.wrap ((k : Int) - 1) = ((k - 1 : Nat) : Int) := by rw [IntWalk.i64_in _ (by omega)]; omega
end Ch
end Go.Proofs.YtnddoehhcpejjaaGreat
/- Charts of accounts: both ways up agree in a valid chart; both conditions of validity agree. No program. -/
namespace Go.Proofs.YtnddoehhcpejjaaGreat
set_option linter.unusedVariables false
set_option linter.unusedSimpArgs false
open Go.RowKit
namespace Ch
theorem ru_cyc (l : List Acc) (S : List Int) (h : ∀ x ∈ S, ∃ a, find l x = some a ∧ a.parent ∈ S) (n : Nat) (s : List Int) (c : Int) (hc : c ∈ S) : (ru l n s c).length = s.length + n := by
  induction n generalizing s c with
  | zero => rfl
  | succ n ih =>
    obtain ⟨a, ha, hp⟩ := h c hc
    rw [ru_on l n s c a ha, ih _ _ hp]
    simp
    omega
/-- the parent of the last account of a way -/
def topOf (l : List Acc) (s : List Int) : Int := (fnV l (s.getLast?.getD 0)).parent
theorem climb_tie (l : List Acc) (hcl : ∀ a ∈ l, a.parent = 0 ∨ ∃ p, find l a.parent = some p) (h0 : find l 0 = none) (n : Nat) (s : List Int) (c : Int) (hw : way l s) (hn : n + s.length = l.length + 1)
    (hs : ∀ x ∈ s, ∃ a, find l x = some a ∧ (a.parent ∈ s ∨ a.parent = c)) (hl : s ≠ [] → ∃ x a, s.getLast? = some x ∧ find l x = some a ∧ a.parent = c) :
    (topOf l (up l n s c) = 0 ∧ ru l n s c = up l n s c ∧ (up l n s c).length ≤ l.length) ∨ (topOf l (up l n s c) ≠ 0 ∧ (ru l n s c).length = l.length + 1) := by
  induction n generalizing s c with
  | zero => have := way_len hw; omega
  | succ n ih =>
    cases hf : find l c with
    | none =>
      left
      rw [up_none l n s c hf, ru_none l _ s c hf]
      refine ⟨?_, rfl, way_len hw⟩
      by_cases hs0 : s = []
      · subst hs0
        unfold topOf fnV
        simp [h0, zero]
      · obtain ⟨x, a, hx, ha, hp⟩ := hl hs0
        unfold topOf fnV
        rw [hx]
        simp only [Option.getD_some, ha]
        obtain ⟨hm, _⟩ := find_some l x a ha
        rcases hcl a hm with h | ⟨p, h⟩
        · exact h
        · rw [hp, hf] at h; cases h
    | some a =>
      by_cases hc : c ∈ s
      · right
        rw [up_seen l n s c hc]
        have hs0 : s ≠ [] := by rintro rfl; simp at hc
        obtain ⟨x, b, hx, hb, hp⟩ := hl hs0
        constructor
        · unfold topOf fnV
          rw [hx]
          simp only [Option.getD_some, hb, hp]
          rintro rfl
          rw [h0] at hf
          cases hf
        · rw [ru_cyc l s (fun y hy => by
            obtain ⟨z, hz, h⟩ := hs y hy
            rcases h with h | h
            · exact ⟨z, hz, h⟩
            · exact ⟨z, hz, by rw [h]; exact hc⟩) _ _ _ hc]
          omega
      · rw [up_on l n s c a hf hc, ru_on l n s c a hf]
        refine ih _ _ (way_on hw hf hc) (by simp; omega) (fun x hx => ?_) (fun _ => ⟨c, a, by simp, hf, rfl⟩)
        rcases List.mem_append.1 hx with hx | hx
        · obtain ⟨z, hz, h⟩ := hs x hx
          rcases h with h | h
          · exact ⟨z, hz, .inl (by simp [h])⟩
          · exact ⟨z, hz, .inl (by simp [h])⟩
        · simp only [List.mem_singleton] at hx
          subst hx
          exact ⟨a, hf, .inr rfl⟩
theorem find_in (l : List Acc) (a : Acc) (h : a ∈ l) : ∃ b, find l a.code = some b := by
  cases hf : find l a.code with
  | some b => exact ⟨b, rfl⟩
  | none =>
    unfold find at hf
    rw [List.find?_eq_none] at hf
    exact absurd (by simp) (hf a h)
/-- what both conditions ask of each account -/
def base (l : List Acc) (g : Bool) : Prop := ∀ j (h : j < l.length), rproperV l l[j] g = true ∧ (j = 0 ∨ (l[j - 1]'(by omega)).code < l[j].code)
theorem base_asc {l : List Acc} {g : Bool} (h : base l g) : ∀ i j (hj : j < l.length) (hij : i < j), (l[i]'(by omega)).code < l[j].code := by
  intro i j
  induction j with
  | zero => intro _ h; omega
  | succ j ih =>
    intro hj hij
    have h1 := (h (j + 1) hj).2
    simp at h1
    by_cases e : i = j
    · subst e; exact h1
    · have := ih (by omega) (by omega)
      omega
theorem base_same {l : List Acc} {g : Bool} (h : base l g) {a b : Acc} (ha : a ∈ l) (hb : b ∈ l) (hc : a.code = b.code) : a = b := by
  obtain ⟨i, hi, rfl⟩ := List.mem_iff_getElem.1 ha
  obtain ⟨j, hj, rfl⟩ := List.mem_iff_getElem.1 hb
  rcases Nat.lt_trichotomy i j with e | e | e
  · have := base_asc h i j hj e; omega
  · subst e; rfl
  · have := base_asc h j i hi e; omega
theorem base_find {l : List Acc} {g : Bool} (h : base l g) {a : Acc} (ha : a ∈ l) : find l a.code = some a := by
  obtain ⟨b, hb⟩ := find_in l a ha
  obtain ⟨h1, h2⟩ := find_some l _ b hb
  rw [hb, base_same h h1 ha h2]
theorem fields_pos {a : Acc} {g : Bool} (h : fieldsV a g = true) : 1 ≤ a.code := by
  unfold fieldsV at h
  simp at h
  omega
theorem base_zero {l : List Acc} {g : Bool} (h : base l g) : find l 0 = none := by
  refine find_none l 0 fun j hj => ?_
  have := (h j hj).1
  unfold rproperV at this
  simp only [Bool.and_eq_true] at this
  have := fields_pos this.1
  omega
theorem base_closed {l : List Acc} {g : Bool} (h : base l g) : ∀ a ∈ l, a.parent = 0 ∨ ∃ p, find l a.parent = some p := by
  intro a ha
  obtain ⟨j, hj, rfl⟩ := List.mem_iff_getElem.1 ha
  have := (h j hj).1
  unfold rproperV at this
  simp only [Bool.and_eq_true, Bool.or_eq_true, beq_iff_eq] at this
  rcases this.2 with e | e
  · exact .inl e
  · refine .inr ?_
    unfold rrestV at e
    cases hf : find l l[j].parent with
    | none => rw [hf] at e; cases e
    | some p => exact ⟨p, rfl⟩
theorem base_tie {l : List Acc} {g : Bool} (h : base l g) (c : Int) :
    (topOf l (pcl l c) = 0 ∧ rcl l c = pcl l c ∧ (pcl l c).length ≤ l.length) ∨ (topOf l (pcl l c) ≠ 0 ∧ (rcl l c).length = l.length + 1) :=
  climb_tie l (base_closed h) (base_zero h) _ [] c (way_nil l) (by simp) (by simp) (by simp)
theorem rest_of {l : List Acc} {a : Acc} : restV l a = (rrestV l a && top l a.code == 0) := by
  unfold restV rrestV
  cases find l a.parent <;> simp
/-- an account at the top -/
theorem base_root {l : List Acc} {g : Bool} (h : base l g) {a : Acc} (ha : a ∈ l) (hp : a.parent = 0) : pcl l a.code = [a.code] := by
  unfold pcl
  rw [up_on l l.length [] a.code a (base_find h ha) (by simp), hp]
  cases hl : l.length with
  | zero => rfl
  | succ n => rw [up_none l n _ 0 (base_zero h)]; rfl
theorem base_top {l : List Acc} {g : Bool} (h : base l g) {a : Acc} (ha : a ∈ l) (hp : a.parent = 0) : top l a.code = 0 := by
  unfold top fnV
  rw [base_root h ha hp]
  simp [base_find h ha, hp]
theorem tie_len {l : List Acc} {g : Bool} (h : base l g) (c : Int) : top l c = 0 ↔ (rcl l c).length ≤ l.length := by
  have := base_tie h c
  unfold topOf at this
  unfold top
  rcases this with ⟨h1, h2, h3⟩ | ⟨h1, h2⟩
  · rw [h2]; exact ⟨fun _ => h3, fun _ => h1⟩
  · rw [h2]; exact ⟨fun h => absurd h h1, fun h => by omega⟩
theorem valid_base {l : List Acc} {g : Bool} (h : validV l g = true) : base l g ∧ l.length ≤ 200 := by
  unfold validV at h
  simp only [Bool.and_eq_true, List.all_eq_true, List.mem_range, decide_eq_true_eq] at h
  refine ⟨fun j hj => ?_, h.2⟩
  have := h.1 j hj
  unfold okAt properV at this
  rw [getD_at l j hj, getD_at l (j - 1) (by omega)] at this
  simp only [Bool.and_eq_true, Bool.or_eq_true, beq_iff_eq, decide_eq_true_eq] at this
  refine ⟨?_, this.1⟩
  unfold rproperV
  rw [this.2.1]
  rcases this.2.2 with e | e
  · simp [e]
  · rw [rest_of] at e
    simp only [Bool.and_eq_true] at e
    simp [e.1]
theorem rvalid_base {l : List Acc} {g : Bool} (h : rvalidV l g = true) : base l g ∧ l.length ≤ 200 ∧ ∀ a ∈ l, (rcl l a.code).length ≤ l.length := by
  unfold rvalidV at h
  simp only [Bool.and_eq_true, List.all_eq_true, List.mem_range, decide_eq_true_eq] at h
  refine ⟨fun j hj => ?_, h.1, fun a ha => ?_⟩
  · have := h.2 j hj
    unfold rokAt at this
    rw [getD_at l j hj, getD_at l (j - 1) (by omega)] at this
    simp only [Bool.and_eq_true, Bool.or_eq_true, beq_iff_eq, decide_eq_true_eq] at this
    exact ⟨this.1.1, this.1.2⟩
  · obtain ⟨j, hj, rfl⟩ := List.mem_iff_getElem.1 ha
    have := h.2 j hj
    unfold rokAt at this
    rw [getD_at l j hj] at this
    simp only [Bool.and_eq_true, decide_eq_true_eq] at this
    exact this.2
theorem valid_eq (l : List Acc) (g : Bool) : validV l g = rvalidV l g := by
  rw [Bool.eq_iff_iff]
  constructor
  · intro h
    obtain ⟨hb, h200⟩ := valid_base h
    refine rvalid_end l g h200 fun j hj => rok_mk hj (hb j hj).1 (hb j hj).2 ?_
    rw [← tie_len hb]
    by_cases hp : l[j].parent = 0
    · exact base_top hb (List.getElem_mem hj) hp
    · unfold validV at h
      simp only [Bool.and_eq_true, List.all_eq_true, List.mem_range] at h
      have := h.1 j hj
      unfold okAt properV at this
      rw [getD_at l j hj] at this
      simp only [Bool.and_eq_true, Bool.or_eq_true, beq_iff_eq] at this
      rcases this.2.2 with e | e
      · exact absurd e hp
      · rw [rest_of] at e
        simp only [Bool.and_eq_true, beq_iff_eq] at e
        exact e.2
  · intro h
    obtain ⟨hb, h200, hL⟩ := rvalid_base h
    have : ∀ j, j < l.length → okAt l g j = true := fun j hj => by
      unfold okAt properV
      rw [getD_at l j hj, getD_at l (j - 1) (by omega)]
      obtain ⟨h1, h2⟩ := hb j hj
      have h3 := (tie_len hb l[j].code).2 (hL _ (List.getElem_mem hj))
      unfold rproperV at h1
      rw [rest_of, h3]
      simp only [Bool.and_eq_true, Bool.or_eq_true, beq_iff_eq, decide_eq_true_eq] at h1 ⊢
      exact ⟨h2, h1.1, h1.2.imp id (fun h => ⟨h, trivial⟩)⟩
    rw [valid_end l g this]
    simpa using h200
def eitherV (l : List Acc) : Bool := validV l true || validV l false
theorem either_base {l : List Acc} (h : eitherV l = true) : ∃ g, base l g ∧ validV l g = true := by
  unfold eitherV at h
  simp only [Bool.or_eq_true] at h
  rcases h with h | h
  · exact ⟨true, (valid_base h).1, h⟩
  · exact ⟨false, (valid_base h).1, h⟩
/-- in a valid chart both ways up are the same -/
theorem valid_path {l : List Acc} {g : Bool} (h : validV l g = true) (c : Int) : rcl l c = pcl l c ∧ topOf l (pcl l c) = 0 := by
  rw [valid_eq] at h
  obtain ⟨hb, _, hL⟩ := rvalid_base h
  rcases base_tie hb c with ⟨h1, h2, _⟩ | ⟨_, h2⟩
  · exact ⟨h2, h1⟩
  · cases hf : find l c with
    | none =>
      unfold rcl at h2
      rw [ru_none l _ _ _ hf] at h2
      simp at h2
    | some a =>
      obtain ⟨hm, rfl⟩ := find_some l c a hf
      have := hL a hm
      omega
theorem pcl_nodup (l : List Acc) (c : Int) : (pcl l c).Nodup := (up_way l _ _ c (way_nil l)).1
theorem pcl_none (l : List Acc) (c : Int) (h : find l c = none) : pcl l c = [] := up_none l _ _ c h
end Ch
end Go.Proofs.YtnddoehhcpejjaaGreat
/- Sorted lists of texts, each once. No program. -/
namespace Go.Proofs.YtnddoehhcpejjaaGreat
set_option linter.unusedVariables false
set_option linter.unusedSimpArgs false
open Go.RowKit

abbrev Txt := List UInt8
theorem txt_total (a b : Txt) : a ≤ b ∨ b ≤ a := List.le_total a b
theorem txt_refl (a : Txt) : a ≤ a := (txt_total a a).elim id id
theorem txt_trans {a b c : Txt} (h1 : a ≤ b) (h2 : b ≤ c) : a ≤ c := List.le_trans h1 h2
theorem txt_anti {a b : Txt} (h1 : a ≤ b) (h2 : b ≤ a) : a = b := List.le_antisymm h1 h2
/-- in order, each once -/
def Ord (l : List Txt) : Prop := l.Pairwise (fun a b => a ≤ b) ∧ l.Nodup
theorem ord_unique {l m : List Txt} (hl : Ord l) (hm : Ord m) (h : ∀ x, x ∈ l ↔ x ∈ m) : l = m :=
  List.Perm.eq_of_pairwise (le := fun a b => a ≤ b) (fun a b _ _ h1 h2 => txt_anti h1 h2) hl.1 hm.1 ((List.perm_ext_iff_of_nodup hl.2 hm.2).2 h)
theorem ord_sort {l : List Txt} (h : l.Nodup) : Ord (l.mergeSort leB) := by
  constructor
  · have := List.pairwise_mergeSort (le := leB) (fun a b c h1 h2 => by simp only [leB, decide_eq_true_eq] at *; exact List.le_trans h1 h2) (fun a b => by simp only [leB, Bool.or_eq_true, decide_eq_true_eq]; exact List.le_total a b) l
    exact this.imp fun {a b} h => by simpa [leB] using h
  · exact (List.mergeSort_perm l leB).nodup_iff.2 h
theorem mem_sort {l : List Txt} (x : Txt) : x ∈ l.mergeSort leB ↔ x ∈ l := (List.mergeSort_perm l leB).mem_iff
/-- a further text put into a list in order -/
def withGo (s : Txt) : List Txt → Bool → List Txt
  | [], done => if done then [] else [s]
  | a :: l, done => (if s ≤ a ∧ done = false then [s] else []) ++ ((if a = s then [] else [a]) ++ withGo s l (done || decide (s ≤ a)))
def withL (l : List Txt) (s : Txt) : List Txt := withGo s l false
theorem with_done (s : Txt) (l : List Txt) : withGo s l true = l.filter (fun a => decide (a ≠ s)) := by
  induction l with
  | nil => simp [withGo]
  | cons a l ih =>
    unfold withGo
    rw [Bool.true_or, ih]
    by_cases h : a = s <;> simp [h]
theorem with_mem (s : Txt) (l : List Txt) (x : Txt) : x ∈ withGo s l false ↔ x = s ∨ x ∈ l := by
  induction l with
  | nil => simp [withGo]
  | cons a l ih =>
    unfold withGo
    by_cases h : s ≤ a
    · rw [decide_eq_true h, Bool.false_or, with_done]
      by_cases e : a = s
      · subst e
        simp only [h, and_self, if_true, List.mem_append, List.mem_singleton, List.not_mem_nil, false_or, or_false, List.mem_filter, decide_eq_true_eq, List.mem_cons]
        constructor
        · rintro (h1 | h1)
          · exact .inl h1
          · exact .inr (.inr h1.1)
        · rintro (h1 | h1 | h1)
          · exact .inl h1
          · exact .inl h1
          · by_cases e : x = a
            · exact .inl e
            · exact .inr ⟨h1, e⟩
      · simp only [h, and_self, if_true, if_neg e, List.mem_append, List.mem_singleton, List.not_mem_nil, or_false, List.mem_filter, decide_eq_true_eq, List.mem_cons]
        constructor
        · rintro (h1 | h1 | h1)
          · exact .inl h1
          · exact .inr (.inl h1)
          · exact .inr (.inr h1.1)
        · rintro (h1 | h1 | h1)
          · exact .inl h1
          · exact .inr (.inl h1)
          · by_cases e2 : x = s
            · exact .inl e2
            · exact .inr (.inr ⟨h1, e2⟩)
    · have e : a ≠ s := fun e => h (by rw [e]; exact txt_refl _)
      rw [decide_eq_false h, Bool.false_or]
      simp only [h, false_and, if_false, if_neg e, List.mem_append, List.mem_singleton, List.not_mem_nil, false_or, or_false, ih, List.mem_cons]
      constructor
      · rintro (h1 | h1 | h1)
        · exact .inr (.inl h1)
        · exact .inl h1
        · exact .inr (.inr h1)
      · rintro (h1 | h1 | h1)
        · exact .inr (.inl h1)
        · exact .inl h1
        · exact .inr (.inr h1)
theorem with_ord {s : Txt} {l : List Txt} (h : Ord l) : Ord (withGo s l false) := by
  induction l with
  | nil => exact ⟨by simp [withGo], by simp [withGo]⟩
  | cons a l ih =>
    have h1 := List.pairwise_cons.1 h.1
    have h2 := List.nodup_cons.1 h.2
    have hl : Ord l := ⟨h1.2, h2.2⟩
    unfold withGo
    by_cases hs : s ≤ a
    · rw [decide_eq_true hs, Bool.false_or, with_done]
      have e : (if s ≤ a ∧ (false = false) then [s] else []) ++ ((if a = s then [] else [a]) ++ l.filter (fun a => decide (a ≠ s))) = s :: (a :: l).filter (fun a => decide (a ≠ s)) := by
        by_cases e : a = s <;> simp [hs, e]
      rw [e]
      constructor
      · refine List.pairwise_cons.2 ⟨fun x hx => ?_, h.1.sublist List.filter_sublist⟩
        rcases List.mem_cons.1 (List.mem_filter.1 hx).1 with rfl | hx
        · exact hs
        · exact txt_trans hs (h1.1 x hx)
      · refine List.nodup_cons.2 ⟨fun hx => ?_, h.2.sublist List.filter_sublist⟩
        have := (List.mem_filter.1 hx).2
        simp at this
    · have ea : a ≠ s := fun e => hs (by rw [e]; exact txt_refl _)
      rw [decide_eq_false hs, Bool.false_or]
      simp only [hs, false_and, if_false, if_neg ea, List.nil_append, List.singleton_append]
      have hih := ih hl
      constructor
      · refine List.pairwise_cons.2 ⟨fun x hx => ?_, hih.1⟩
        rcases (with_mem s l x).1 hx with rfl | hx
        · exact (txt_total x a).resolve_left hs
        · exact h1.1 x hx
      · refine List.nodup_cons.2 ⟨fun hx => ?_, hih.2⟩
        rcases (with_mem s l a).1 hx with e | hx
        · exact ea e
        · exact h2.1 hx
/-- all the texts, in order -/
def curL (c : Txt) (l : List Txt) : List Txt := l.foldl withL [c]
theorem curL_take (c : Txt) (l : List Txt) (k : Nat) (h : k < l.length) : curL c (l.take (k + 1)) = withL (curL c (l.take k)) l[k] := by
  unfold curL
  rw [List.take_succ_eq_append_getElem h, List.foldl_append]
  rfl
theorem curL_is (c : Txt) (l : List Txt) : Ord (curL c l) ∧ ∀ x, x ∈ curL c l ↔ x = c ∨ x ∈ l := by
  have : ∀ k, k ≤ l.length → Ord (curL c (l.take k)) ∧ ∀ x, x ∈ curL c (l.take k) ↔ x = c ∨ x ∈ l.take k := by
    intro k
    induction k with
    | zero => intro _; exact ⟨⟨by simp [curL], by simp [curL]⟩, fun x => by simp [curL]⟩
    | succ k ih =>
      intro hk
      obtain ⟨h1, h2⟩ := ih (by omega)
      rw [curL_take c l k (by omega)]
      refine ⟨with_ord h1, fun x => ?_⟩
      unfold withL
      rw [with_mem, h2 x, List.take_succ_eq_append_getElem (by omega), List.mem_append, List.mem_singleton]
      constructor
      · rintro (h | h | h)
        · exact .inr (.inr h)
        · exact .inl h
        · exact .inr (.inl h)
      · rintro (h | h | h)
        · exact .inr (.inl h)
        · exact .inr (.inr h)
        · exact .inl h
  have := this l.length (Nat.le_refl _)
  rwa [List.take_length] at this
theorem sort_cur {c : Txt} {l ss : List Txt} (hn : ss.Nodup) (h : ∀ x, x ∈ ss ↔ x = c ∨ x ∈ l) : ss.mergeSort leB = curL c l :=
  ord_unique (ord_sort hn) (curL_is c l).1 fun x => by rw [mem_sort, h x, (curL_is c l).2 x]
/-- the loop of the reference: what is still to come -/
theorem with_drop (s : Txt) (l : List Txt) (k : Nat) (h : k < l.length) (done : Bool) :
    withGo s (l.drop k) done = (if s ≤ l[k] ∧ done = false then [s] else []) ++ ((if l[k] = s then [] else [l[k]]) ++ withGo s (l.drop (k + 1)) (done || decide (s ≤ l[k]))) := by
  rw [List.drop_eq_getElem_cons h]
  rfl
theorem curL_len (c : Txt) (l : List Txt) : (curL c l).length ≤ l.length + 1 := by
  have h := curL_is c l
  have : (curL c l).length ≤ (c :: l).length := by
    have hs : ∀ (l m : List Txt), l.Nodup → (∀ x ∈ l, x ∈ m) → l.length ≤ m.length := by
      intro l
      induction l with
      | nil => intro m _ _; simp
      | cons a l ih =>
        intro m hn hm
        have h1 := List.nodup_cons.1 hn
        have ha : a ∈ m := hm a (by simp)
        have := ih (m.erase a) h1.2 (fun x hx => by
          have e : x ≠ a := fun e => h1.1 (e ▸ hx)
          exact (List.mem_erase_of_ne e).2 (hm x (by simp [hx])))
        rw [List.length_erase_of_mem ha] at this
        have := List.length_pos_of_mem ha
        simp only [List.length_cons]
        omega
    exact hs _ _ h.1.2 (fun x hx => by rw [h.2 x] at hx; simpa using hx)
  simpa using this
end Go.Proofs.YtnddoehhcpejjaaGreat
/- Groups: names, currencies, roles, validity. No walk. -/
namespace Go.Proofs.YtnddoehhcpejjaaGreat
set_option linter.unusedVariables false
set_option linter.unusedSimpArgs false
open Go.RowKit

theorem getD_lt {α : Type} (l : List α) (k : Nat) (d : α) (h : k < l.length) : l.getD k d = l[k] := by simp [List.getD, h]
namespace Gr
/-- a byte of a text -/
def byte (s : ByteArray) (k : Nat) : UInt8 := s.data.toList.getD k 0
theorem byte_at (s : ByteArray) (k : Nat) (h : k < s.size) : byte s k = s[k] := by
  unfold byte
  rw [getD_lt _ _ _ (by simpa using h)]
  rfl
def upB (c : UInt8) : Bool := decide (65 ≤ (c.toNat : Int)) && decide ((c.toNat : Int) ≤ 90)
def curV (s : ByteArray) : Bool := allAt s.size (fun k => upB (byte s k)) && decide (s.size = 3)
def letB (c : UInt8) : Bool := (decide (97 ≤ (c.toNat : Int)) && decide ((c.toNat : Int) ≤ 122)) || (decide (65 ≤ (c.toNat : Int)) && decide ((c.toNat : Int) ≤ 90))
def namAt (s : ByteArray) (k : Nat) : Bool := letB (byte s k) || (decide (k ≠ 0) && (decide ((byte s k).toNat = 45) || (decide (48 ≤ ((byte s k).toNat : Int)) && decide (((byte s k).toNat : Int) ≤ 57))))
def namV (s : ByteArray) : Bool := allAt s.size (namAt s) && (decide (1 ≤ s.size) && decide (s.size ≤ 16))
/-- a basis that belongs to its kind -/
def based (a : Acc) : Bool := if a.kind = 1 ∨ a.kind = 2 then decide (a.basis = 1 ∨ a.basis = 3) else if a.kind = 3 then decide (a.basis = 3) else decide (a.basis = 2)
end Gr
structure RoleR where
  name : ByteArray
  code : Int
  kind : Int
  basis : Int
  mapped : Bool
instance inhRoleR : Inhabited RoleR := ⟨⟨ByteArray.empty, 0, 0, 0, false⟩⟩
def RoleR.cells (x : RoleR) : List Value := [.string x.name, .int .i64 x.code, .int .i64 x.kind, .int .i64 x.basis, .bool x.mapped]
theorem RoleR.len (x : RoleR) : x.cells.length = 5 := rfl
theorem RoleR.at_ {w : World} {B : Nat} {A : Option Addr} {l : List RoleR} (h : Rd w B 5 A l.length (cellsOf RoleR.cells l)) {k : Nat} (hk : k < l.length) :
    ∃ b o, A = some ⟨b, o, none⟩ ∧ b < B ∧ w.cell? ⟨b, o + k * 5, none⟩ = some (.string l[k].name) ∧ w.cell? ⟨b, o + k * 5 + 1, none⟩ = some (.int .i64 l[k].code) ∧ w.cell? ⟨b, o + k * 5 + 2, none⟩ = some (.int .i64 l[k].kind) ∧
      w.cell? ⟨b, o + k * 5 + 3, none⟩ = some (.int .i64 l[k].basis) ∧ w.cell? ⟨b, o + k * 5 + 4, none⟩ = some (.bool l[k].mapped) := by
  obtain ⟨b, o, e, hb, hc⟩ := rd_at (f := RoleR.cells) (sz := 5) (fun _ => rfl) h hk
  exact ⟨b, o, e, hb, hc 0 _ rfl, hc 1 _ rfl, hc 2 _ rfl, hc 3 _ rfl, hc 4 _ rfl⟩
namespace Gr
def txt (l : List UInt8) : ByteArray := ⟨l.toArray⟩
/-- the roles, in the order of the table -/
def roles (r : RolesR) : List RoleR :=
  [⟨txt [105, 110, 118, 101, 115, 116, 109, 101, 110, 116], r.investment, 1, 3, true⟩, ⟨txt [103, 111, 111, 100, 119, 105, 108, 108], r.goodwill, 1, 3, false⟩, ⟨txt [97, 115, 115, 111, 99, 105, 97, 116, 101, 115], r.associates, 1, 3, false⟩, ⟨txt [105, 110, 118, 101, 110, 116, 111, 114, 121], r.inventory, 1, 1, true⟩,
   ⟨txt [114, 101, 115, 101, 114, 118, 101], r.reserve, 3, 3, false⟩, ⟨txt [109, 105, 110, 111, 114, 105, 116, 121], r.minority, 3, 3, false⟩, ⟨txt [114, 101, 116, 97, 105, 110, 101, 100], r.retained, 3, 3, true⟩, ⟨txt [97, 99, 113, 117, 105, 114, 101, 100], r.acquired, 3, 3, false⟩, ⟨txt [111, 119, 110, 101, 114, 115], r.owners, 3, 3, false⟩,
   ⟨txt [100, 105, 115, 112, 111, 115, 97, 108], r.disposal, 4, 2, false⟩, ⟨txt [97, 115, 115, 111, 99, 105, 97, 116, 101, 80, 114, 111, 102, 105, 116], r.associateProfit, 4, 2, false⟩, ⟨txt [100, 105, 118, 105, 100, 101, 110, 100, 115], r.dividends, 4, 2, true⟩,
   ⟨txt [109, 105, 110, 111, 114, 105, 116, 121, 80, 114, 111, 102, 105, 116], r.minorityProfit, 5, 2, false⟩, ⟨txt [100, 105, 102, 102, 101, 114, 101, 110, 99, 101], r.difference, 5, 2, false⟩, ⟨txt [109, 97, 114, 103, 105, 110], r.margin, 5, 2, false⟩]
theorem roles_len (r : RolesR) : (roles r).length = 15 := rfl
/-- the first role with a code -/
def roleAt (R : List RoleR) (c : Int) : Option RoleR := R.find? fun x => x.code == c
def roleN (R : List RoleR) (c : Int) : ByteArray := match roleAt R c with | some x => x.name | none => ByteArray.empty
def roleB (R : List RoleR) (c : Int) : Bool := (roleAt R c).isSome
theorem role_hit (R : List RoleR) (c : Int) (k : Nat) (hk : k < R.length) (h : ∀ j (hj : j < k), (R[j]'(by omega)).code ≠ c) (hc : R[k].code = c) : roleAt R c = some R[k] := by
  unfold roleAt
  rw [List.find?_eq_some_iff_getElem]
  exact ⟨by simpa using hc, k, hk, rfl, fun j hj => by simpa using h j hj⟩
theorem role_miss (R : List RoleR) (c : Int) (h : ∀ j (hj : j < R.length), R[j].code ≠ c) : roleAt R c = none := by
  unfold roleAt
  rw [List.find?_eq_none]
  intro x hx
  obtain ⟨j, hj, rfl⟩ := List.mem_iff_getElem.1 hx
  simpa using h j hj
/-- a role's account is there, with its kind and basis, and has no other role -/
def codeBefore (R : List RoleR) (k : Nat) : Bool := (R.take k).any fun x => x.code == (R.getD k default).code
def roleOk (ch : List Acc) (R : List RoleR) (k : Nat) : Bool :=
  Ch.fnB ch (R.getD k default).code && (!codeBefore R k && (decide ((Ch.fnV ch (R.getD k default).code).kind = (R.getD k default).kind) && decide ((Ch.fnV ch (R.getD k default).code).basis = (R.getD k default).basis)))
def rolesOk (ch : List Acc) (R : List RoleR) : Bool := allAt R.length (roleOk ch R)
def basedAll (ch : List Acc) : Bool := allAt ch.length fun k => based (ch.getD k Ch.zero)
def accsV (ch : List Acc) (R : List RoleR) : Bool := Ch.validV ch true && (basedAll ch && rolesOk ch R)
/-- a link leads from an account to one of the same kind -/
def dayV (n : Int) : Bool := decide (-25567 ≤ n) && decide (n ≤ 84005)
def linkV (e c : List Acc) (l : LinkR) : Bool := Ch.fnB e l.from_ && (Ch.fnB c l.to && (decide ((Ch.fnV e l.from_).kind = (Ch.fnV c l.to).kind) && dayV l.since))
def linkBefore (L : List LinkR) (k : Nat) : Bool := (L.take k).any fun x => x.from_ == (L.getD k default).from_ && x.since == (L.getD k default).since
def linkOk (e c : List Acc) (L : List LinkR) (k : Nat) : Bool := linkV e c (L.getD k default) && !linkBefore L k
def mapV (e c : List Acc) (L : List LinkR) : Bool := Ch.validV c true && (Ch.validV e false && (decide (L.length ≤ 400) && allAt L.length (linkOk e c L)))
/-- no link leads to an account that is closed to links -/
def shut (R : List RoleR) (c : Int) : Bool := R.any fun x => x.code == c && !x.mapped
def openL (R : List RoleR) (L : List LinkR) : Bool := allAt L.length fun k => !shut R (L.getD k default).to
def entV (ch : List Acc) (R : List RoleR) (x : EntR) : Bool := namV x.name && (curV x.currency && (mapV x.chart.l ch x.links.l && openL R x.links.l))
def nameBefore (E : List EntR) (k : Nat) : Bool := (E.take k).any fun x => decide (x.name = (E.getD k default).name)
def entsV (ch : List Acc) (R : List RoleR) (E : List EntR) : Bool := allAt E.length fun k => !nameBefore E k && entV ch R (E.getD k default)
/-- the group -/
def headV (g : GrpR) (cal : Bool) : Bool := curV g.currency && (cal && (accsV g.chart.l (roles g.roles) && (decide (1 ≤ g.entities.l.length) && (decide (g.entities.l.length ≤ 12) && !(g.entities.l.getD 0 default).joint))))
def grpV (g : GrpR) (cal : Bool) : Bool := headV g cal && entsV g.chart.l (roles g.roles) g.entities.l
/-- what is closed to links, the last word counting -/
def closedF (R : List RoleR) (c : Int) : Bool := R.foldl (fun b x => if x.code = c then !x.mapped else b) false
theorem closed_take (R : List RoleR) (k : Nat) (h : k < R.length) (c : Int) : closedF (R.take (k + 1)) c = if R[k].code = c then !R[k].mapped else closedF (R.take k) c := by
  unfold closedF
  rw [List.take_succ_eq_append_getElem h, List.foldl_append]
  rfl
theorem closed_is (R : List RoleR) (h : ∀ k, k < R.length → codeBefore R k = false) (c : Int) : closedF R c = shut R c := by
  have : ∀ k, k ≤ R.length → closedF (R.take k) c = shut (R.take k) c := by
    intro k
    induction k with
    | zero => intro _; rfl
    | succ k ih =>
      intro hk
      have hk' : k < R.length := by omega
      have e : shut (R.take (k + 1)) c = (shut (R.take k) c || (R[k].code == c && !R[k].mapped)) := by
        unfold shut
        rw [List.take_succ_eq_append_getElem hk', List.any_append]
        simp
      rw [closed_take R k hk', e, ih (by omega)]
      by_cases hc : R[k].code = c
      · have h0 : shut (R.take k) c = false := by
          have h1 := h k hk'
          unfold codeBefore at h1
          unfold shut
          rw [List.any_eq_false] at h1 ⊢
          intro x hx
          have := h1 x hx
          rw [getD_lt R k default hk', hc] at this
          simp at this ⊢
          exact fun e => absurd e this
        rw [if_pos hc, h0]
        simp [hc]
      · rw [if_neg hc]
        simp [hc]
  have := this R.length (Nat.le_refl _)
  rwa [List.take_length] at this
theorem rolesOk_apart {ch : List Acc} {R : List RoleR} (h : rolesOk ch R = true) : ∀ k, k < R.length → codeBefore R k = false := by
  intro k hk
  have := allAt_at h hk
  unfold roleOk at this
  simp only [Bool.and_eq_true, Bool.not_eq_true'] at this
  exact this.2.1
end Gr
end Go.Proofs.YtnddoehhcpejjaaGreat
/- What every walk of this program needs of int, bool and string. -/
namespace Go.Proofs.YtnddoehhcpejjaaGreat
set_option linter.unusedVariables false
set_option linter.unusedSimpArgs false
open Go.RowKit
open Go.Maps (Keyed)

theorem int_info : (Tryz.prog.info? 3).map (fun i => (i.zero, i.size, i.bytes)) = some (some (.int .i64 0), 1, 8) := by kernel_rfl
theorem zero_int (w : World) : (zeroValue 3).run Tryz.prog w = .ok (.int .i64 0) w := by kernel_rfl
theorem zero_bool (w : World) : (zeroValue 4).run Tryz.prog w = .ok (.bool false) w := by kernel_rfl
theorem keyed_int : Keyed Tryz.prog 3 := Maps.int_keyed Tryz.underlying3
end Go.Proofs.YtnddoehhcpejjaaGreat
/- Several calls that come up together, in every order. Over any program. -/
namespace Go.Proofs.YtnddoehhcpejjaaGreat
set_option linter.unusedVariables false
set_option linter.unusedSimpArgs false
open Go.RowKit

section
variable {P : Program} {ops : Array Oper} {Q : Exit → Act → World → Prop} {W w : World} {fuel : Nat} {a : Act} {listed : Array Bool}
theorem rel_calls {is : List Nat} (hr : Region.ready .any ops listed = is) (hne : is ≠ [])
    (h : ∀ j ∈ is, ∃ o, ops[j]? = some o ∧ Region.wanted o (yielded ops a.tmps) = true ∧
      ∀ K : Act → World → Prop, (∀ a' w', Near W w' → (Near W w' → wpAnyH P .any ops Q (fun w' => ∃ d : Later W, w' = d.now) fuel (listed.setIfInBounds j true) a' w') → K a' w') → o.wp P a w K Q) :
    wpAnyH P .any ops Q (fun w' => ∃ d : Later W, w' = d.now) (fuel + 1) listed a w := by
  refine wpAnyH_all hr hne fun j hj => ?_
  obtain ⟨o, h1, hw, h2⟩ := h j hj
  unfold wpOp
  rw [h1]
  show if Region.wanted o (yielded ops a.tmps) = true then _ else _
  rw [if_pos hw]
  exact .inl (h2 _ fun a' w' hn hh => ⟨hn, hh hn⟩)
end
end Go.Proofs.YtnddoehhcpejjaaGreat
/- The walk of Compare. -/
namespace Go.Proofs.YtnddoehhcpejjaaGreat
set_option linter.unusedVariables false
set_option linter.unusedSimpArgs false
open Go.RowKit

def BoolPost (b : Bool) (w : World) (e : Ending) (w' : World) : Prop := e = .returned (.bool b) ∧ Below w.heap.size w w'
def cmpV (a b : Int) : Int := if a < b then -1 else if b < a then 1 else 0
theorem isNaN_any (a : Int) (w : World) : Calls Tryz.prog 54 #[.int .i64 a] w (fun e w' => e = .returned (.bool false) ∧ w = w') := by
  have h : (a != a) = false := by simp
  go_enter Tryz.func54, Tryz.ntmps54
  go_wp2_with fail
  go_ret
  exact ⟨rfl, rfl⟩
theorem compare_any (a b : Int) (w : World) : Calls Tryz.prog 35 #[.int .i64 a, .int .i64 b] w (fun e w' => e = .returned (.int .i64 (cmpV a b)) ∧ w = w') := by
  by_cases h1 : a < b
  · have HE : Hid (cmpV a b = -1) := Lib.hid (by unfold cmpV; rw [if_pos h1])
    go_enter Tryz.func35, Tryz.ntmps35
    go_wp2_with (go_at_call 54; refine (isNaN_any _ _).mono ?_; rintro e w2 ⟨rfl, rfl⟩)
    go_ret
    exact ⟨ret_int HE.out.symm, rfl⟩
  by_cases h2 : b < a
  · have HE : Hid (cmpV a b = 1) := Lib.hid (by unfold cmpV; rw [if_neg h1, if_pos h2])
    go_enter Tryz.func35, Tryz.ntmps35
    go_wp2_with (go_at_call 54; refine (isNaN_any _ _).mono ?_; rintro e w2 ⟨rfl, rfl⟩)
    go_ret
    exact ⟨ret_int HE.out.symm, rfl⟩
  · have HE : Hid (cmpV a b = 0) := Lib.hid (by unfold cmpV; rw [if_neg h1, if_neg h2])
    go_enter Tryz.func35, Tryz.ntmps35
    go_wp2_with (go_at_call 54; refine (isNaN_any _ _).mono ?_; rintro e w2 ⟨rfl, rfl⟩)
    go_ret
    exact ⟨ret_int HE.out.symm, rfl⟩
end Go.Proofs.YtnddoehhcpejjaaGreat
