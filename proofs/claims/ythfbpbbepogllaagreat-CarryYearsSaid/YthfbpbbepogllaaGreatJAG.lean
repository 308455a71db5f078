/- Texts of this claim, put together. -/
import Derived.Test.YthfbpbbepogllaaGreatJAF
import Derived.Sort.KeysCollected
/- Charts of accounts: lists of accounts checked one by one; sorted charts. No program. -/
namespace Go.Proofs.YthfbpbbepogllaaGreat
set_option linter.unusedVariables false
set_option linter.unusedSimpArgs false
open Go.RowKit
namespace Ch
theorem rvalid_no (l : List Acc) (g : Bool) (k : Nat) (hk : k < l.length) (h : rokAt l g k = false) : rvalidV l g = false := by
  unfold rvalidV
  have : (List.range l.length).all (rokAt l g) = false := by
    rw [List.all_eq_false]
    exact ⟨k, by simpa using hk, by simp [h]⟩
  rw [this]; simp
theorem rvalid_end (l : List Acc) (g : Bool) (hl : l.length ≤ 200) (h : ∀ j, j < l.length → rokAt l g j = true) : rvalidV l g = true := by
  unfold rvalidV
  have : (List.range l.length).all (rokAt l g) = true := by
    rw [List.all_eq_true]
    intro j hj
    exact h j (by simpa using hj)
  rw [this]; simp [hl]
theorem rvalid_long (l : List Acc) (g : Bool) (hl : ¬ l.length ≤ 200) : rvalidV l g = false := by unfold rvalidV; simp [hl]
theorem rok_mk {l : List Acc} {g : Bool} {k : Nat} (hk : k < l.length) (hP : rproperV l l[k] g = true) (ho : k = 0 ∨ (l[k - 1]'(by omega)).code < l[k].code) (hL : (rcl l l[k].code).length ≤ l.length) : rokAt l g k = true := by
  unfold rokAt
  rw [getD_at l k hk, getD_at l (k - 1) (by omega), hP]
  rcases ho with h | h <;> simp [h] <;> (try subst h) <;> omega
theorem rok_no {l : List Acc} {g : Bool} {k : Nat} (hk : k < l.length) (h : rproperV l l[k] g = false ∨ (0 < k ∧ l[k].code ≤ (l[k - 1]'(by omega)).code) ∨ l.length < (rcl l l[k].code).length) : rvalidV l g = false := by
  refine rvalid_no l g k hk ?_
  unfold rokAt
  rw [getD_at l k hk, getD_at l (k - 1) (by omega)]
  rcases h with h | h | h
  · simp [h]
  · have h0 : (k == 0) = false := by simp; omega
    have h1 : decide ((l[k - 1]'(by omega)).code < l[k].code) = false := by simp; omega
    rw [h0, h1]; simp
  · have h1 : decide ((rcl l l[k].code).length ≤ l.length) = false := by simp; omega
    rw [h1]; simp
/-- the place in order: behind the first, or in front of a test -/
theorem ord_case (k : Nat) (x y : Int) : (decide (0 < k) = false ∧ k = 0) ∨ (decide (0 < k) = true ∧ decide (y ≤ x) = false ∧ x < y) ∨ (decide (0 < k) = true ∧ decide (y ≤ x) = true ∧ 0 < k ∧ y ≤ x) := by
  by_cases h0 : 0 < k
  · by_cases h1 : y ≤ x
    · exact .inr (.inr ⟨by simp [h0], by simp [h1], h0, h1⟩)
    · exact .inr (.inl ⟨by simp [h0], by simpa using h1, by omega⟩)
  · exact .inl ⟨by simpa using h0, by omega⟩
theorem wrap_pred (k : Nat) (h : 0 < k) (h2 : k ≤ 1000000) : IntKind.i64.wrap ((k : Int) - 1) = ((k - 1 : Nat) : Int) := by rw [IntWalk.i64_in _ (by omega)]; omega
end Ch
end Go.Proofs.YthfbpbbepogllaaGreat
/- Charts of accounts: both ways up agree in a valid chart; both conditions of validity agree. No program. -/
namespace Go.Proofs.YthfbpbbepogllaaGreat
set_option linter.unusedVariables false
set_option linter.unusedSimpArgs false
open Go.RowKit
namespace Ch
theorem ru_cyc (l : List Acc) (S : List Int) (h : ∀ x ∈ S, ∃ a, find l x = some a ∧ a.parent ∈ S) (n : Nat) (s : List Int) (c : Int) (hc : c ∈ S) : (ru l n s c).length = s.length + n := by
  induction n generalizing s c with
  | zero => rfl
  | succ n ih =>
    obtain ⟨a, ha, hp⟩ := h c hc
    rw [ru_on l n s c a ha, ih _ _ hp]
    simp
    omega
/-- the parent of the last account of a way -/
def topOf (l : List Acc) (s : List Int) : Int := (fnV l (s.getLast?.getD 0)).parent
theorem climb_tie (l : List Acc) (hcl : ∀ a ∈ l, a.parent = 0 ∨ ∃ p, find l a.parent = some p) (h0 : find l 0 = none) (n : Nat) (s : List Int) (c : Int) (hw : way l s) (hn : n + s.length = l.length + 1)
    (hs : ∀ x ∈ s, ∃ a, find l x = some a ∧ (a.parent ∈ s ∨ a.parent = c)) (hl : s ≠ [] → ∃ x a, s.getLast? = some x ∧ find l x = some a ∧ a.parent = c) :
    (topOf l (up l n s c) = 0 ∧ ru l n s c = up l n s c ∧ (up l n s c).length ≤ l.length) ∨ (topOf l (up l n s c) ≠ 0 ∧ (ru l n s c).length = l.length + 1) := by
  induction n generalizing s c with
  | zero => have := way_len hw; omega
  | succ n ih =>
    cases hf : find l c with
    | none =>
      left
      rw [up_none l n s c hf, ru_none l _ s c hf]
      refine ⟨?_, rfl, way_len hw⟩
      by_cases hs0 : s = []
      · subst hs0
        unfold topOf fnV
        simp [h0, zero]
      · obtain ⟨x, a, hx, ha, hp⟩ := hl hs0
        unfold topOf fnV
        rw [hx]
        simp only [Option.getD_some, ha]
        obtain ⟨hm, _⟩ := find_some l x a ha
        rcases hcl a hm with h | ⟨p, h⟩
        · exact h
        · rw [hp, hf] at h; cases h
    | some a =>
      by_cases hc : c ∈ s
      · right
        rw [up_seen l n s c hc]
        have hs0 : s ≠ [] := by rintro rfl; simp at hc
        obtain ⟨x, b, hx, hb, hp⟩ := hl hs0
        constructor
        · unfold topOf fnV
          rw [hx]
          simp only [Option.getD_some, hb, hp]
          rintro rfl
          rw [h0] at hf
          cases hf
        · rw [ru_cyc l s (fun y hy => by
            obtain ⟨z, hz, h⟩ := hs y hy
            rcases h with h | h
            · exact ⟨z, hz, h⟩
            · exact ⟨z, hz, by rw [h]; exact hc⟩) _ _ _ hc]
          omega
      · rw [up_on l n s c a hf hc, ru_on l n s c a hf]
        refine ih _ _ (way_on hw hf hc) (by simp; omega) (fun x hx => ?_) (fun _ => ⟨c, a, by simp, hf, rfl⟩)
        rcases List.mem_append.1 hx with hx | hx
        · obtain ⟨z, hz, h⟩ := hs x hx
          rcases h with h | h
          · exact ⟨z, hz, .inl (by simp [h])⟩
          · exact ⟨z, hz, .inl (by simp [h])⟩
        · simp only [List.mem_singleton] at hx
          subst hx
          exact ⟨a, hf, .inr rfl⟩
theorem find_in (l : List Acc) (a : Acc) (h : a ∈ l) : ∃ b, find l a.code = some b := by
  cases hf : find l a.code with
  | some b => exact ⟨b, rfl⟩
  | none =>
    unfold find at hf
    rw [List.find?_eq_none] at hf
    exact absurd (by simp) (hf a h)
/-- what both conditions ask of each account -/
def base (l : List Acc) (g : Bool) : Prop := ∀ j (h : j < l.length), rproperV l l[j] g = true ∧ (j = 0 ∨ (l[j - 1]'(by omega)).code < l[j].code)
theorem base_asc {l : List Acc} {g : Bool} (h : base l g) : ∀ i j (hj : j < l.length) (hij : i < j), (l[i]'(by omega)).code < l[j].code := by
  intro i j
  induction j with
  | zero => intro _ h; omega
  | succ j ih =>
    intro hj hij
    have h1 := (h (j + 1) hj).2
    simp at h1
    by_cases e : i = j
    · subst e; exact h1
    · have := ih (by omega) (by omega)
      omega
theorem base_same {l : List Acc} {g : Bool} (h : base l g) {a b : Acc} (ha : a ∈ l) (hb : b ∈ l) (hc : a.code = b.code) : a = b := by
  obtain ⟨i, hi, rfl⟩ := List.mem_iff_getElem.1 ha
  obtain ⟨j, hj, rfl⟩ := List.mem_iff_getElem.1 hb
  rcases Nat.lt_trichotomy i j with e | e | e
  · have := base_asc h i j hj e; omega
  · subst e; rfl
  · have := base_asc h j i hi e; omega
theorem base_find {l : List Acc} {g : Bool} (h : base l g) {a : Acc} (ha : a ∈ l) : find l a.code = some a := by
  obtain ⟨b, hb⟩ := find_in l a ha
  obtain ⟨h1, h2⟩ := find_some l _ b hb
  rw [hb, base_same h h1 ha h2]
theorem fields_pos {a : Acc} {g : Bool} (h : fieldsV a g = true) : 1 ≤ a.code := by
  unfold fieldsV at h
  simp at h
  omega
theorem base_zero {l : List Acc} {g : Bool} (h : base l g) : find l 0 = none := by
  refine find_none l 0 fun j hj => ?_
  have := (h j hj).1
  unfold rproperV at this
  simp only [Bool.and_eq_true] at this
  have := fields_pos this.1
  omega
theorem base_closed {l : List Acc} {g : Bool} (h : base l g) : ∀ a ∈ l, a.parent = 0 ∨ ∃ p, find l a.parent = some p := by
  intro a ha
  obtain ⟨j, hj, rfl⟩ := List.mem_iff_getElem.1 ha
  have := (h j hj).1
  unfold rproperV at this
  simp only [Bool.and_eq_true, Bool.or_eq_true, beq_iff_eq] at this
  rcases this.2 with e | e
  · exact .inl e
  · refine .inr ?_
    unfold rrestV at e
    cases hf : find l l[j].parent with
    | none => rw [hf] at e; cases e
    | some p => exact ⟨p, rfl⟩
theorem base_tie {l : List Acc} {g : Bool} (h : base l g) (c : Int) :
    (topOf l (pcl l c) = 0 ∧ rcl l c = pcl l c ∧ (pcl l c).length ≤ l.length) ∨ (topOf l (pcl l c) ≠ 0 ∧ (rcl l c).length = l.length + 1) :=
  climb_tie l (base_closed h) (base_zero h) _ [] c (way_nil l) (by simp) (by simp) (by simp)
theorem rest_of {l : List Acc} {a : Acc} : restV l a = (rrestV l a && top l a.code == 0) := by
  unfold restV rrestV
  cases find l a.parent <;> simp
/-- an account at the top -/
theorem base_root {l : List Acc} {g : Bool} (h : base l g) {a : Acc} (ha : a ∈ l) (hp : a.parent = 0) : pcl l a.code = [a.code] := by
  unfold pcl
  rw [up_on l l.length [] a.code a (base_find h ha) (by simp), hp]
  cases hl : l.length with
  | zero => rfl
  | succ n => rw [up_none l n _ 0 (base_zero h)]; rfl
theorem base_top {l : List Acc} {g : Bool} (h : base l g) {a : Acc} (ha : a ∈ l) (hp : a.parent = 0) : top l a.code = 0 := by
  unfold top fnV
  rw [base_root h ha hp]
  simp [base_find h ha, hp]
theorem tie_len {l : List Acc} {g : Bool} (h : base l g) (c : Int) : top l c = 0 ↔ (rcl l c).length ≤ l.length := by
  have := base_tie h c
  unfold topOf at this
  unfold top
  rcases this with ⟨h1, h2, h3⟩ | ⟨h1, h2⟩
  · rw [h2]; exact ⟨fun _ => h3, fun _ => h1⟩
  · rw [h2]; exact ⟨fun h => absurd h h1, fun h => by omega⟩
theorem valid_base {l : List Acc} {g : Bool} (h : validV l g = true) : base l g ∧ l.length ≤ 200 := by
  unfold validV at h
  simp only [Bool.and_eq_true, List.all_eq_true, List.mem_range, decide_eq_true_eq] at h
  refine ⟨fun j hj => ?_, h.2⟩
  have := h.1 j hj
  unfold okAt properV at this
  rw [getD_at l j hj, getD_at l (j - 1) (by omega)] at this
  simp only [Bool.and_eq_true, Bool.or_eq_true, beq_iff_eq, decide_eq_true_eq] at this
  refine ⟨?_, this.1⟩
  unfold rproperV
  rw [this.2.1]
  rcases this.2.2 with e | e
  · simp [e]
  · rw [rest_of] at e
    simp only [Bool.and_eq_true] at e
    simp [e.1]
theorem rvalid_base {l : List Acc} {g : Bool} (h : rvalidV l g = true) : base l g ∧ l.length ≤ 200 ∧ ∀ a ∈ l, (rcl l a.code).length ≤ l.length := by
  unfold rvalidV at h
  simp only [Bool.and_eq_true, List.all_eq_true, List.mem_range, decide_eq_true_eq] at h
  refine ⟨fun j hj => ?_, h.1, fun a ha => ?_⟩
  · have := h.2 j hj
    unfold rokAt at this
    rw [getD_at l j hj, getD_at l (j - 1) (by omega)] at this
    simp only [Bool.and_eq_true, Bool.or_eq_true, beq_iff_eq, decide_eq_true_eq] at this
    exact ⟨this.1.1, this.1.2⟩
  · obtain ⟨j, hj, rfl⟩ := List.mem_iff_getElem.1 ha
    have := h.2 j hj
    unfold rokAt at this
    rw [getD_at l j hj] at this
    simp only [Bool.and_eq_true, decide_eq_true_eq] at this
    exact this.2
theorem valid_eq (l : List Acc) (g : Bool) : validV l g = rvalidV l g := by
  rw [Bool.eq_iff_iff]
  constructor
  · intro h
    obtain ⟨hb, h200⟩ := valid_base h
    refine rvalid_end l g h200 fun j hj => rok_mk hj (hb j hj).1 (hb j hj).2 ?_
    rw [← tie_len hb]
    by_cases hp : l[j].parent = 0
    · exact base_top hb (List.getElem_mem hj) hp
    · unfold validV at h
      simp only [Bool.and_eq_true, List.all_eq_true, List.mem_range] at h
      have := h.1 j hj
      unfold okAt properV at this
      rw [getD_at l j hj] at this
      simp only [Bool.and_eq_true, Bool.or_eq_true, beq_iff_eq] at this
      rcases this.2.2 with e | e
      · exact absurd e hp
      · rw [rest_of] at e
        simp only [Bool.and_eq_true, beq_iff_eq] at e
        exact e.2
  · intro h
    obtain ⟨hb, h200, hL⟩ := rvalid_base h
    have : ∀ j, j < l.length → okAt l g j = true := fun j hj => by
      unfold okAt properV
      rw [getD_at l j hj, getD_at l (j - 1) (by omega)]
      obtain ⟨h1, h2⟩ := hb j hj
      have h3 := (tie_len hb l[j].code).2 (hL _ (List.getElem_mem hj))
      unfold rproperV at h1
      rw [rest_of, h3]
      simp only [Bool.and_eq_true, Bool.or_eq_true, beq_iff_eq, decide_eq_true_eq] at h1 ⊢
      exact ⟨h2, h1.1, h1.2.imp id (fun h => ⟨h, trivial⟩)⟩
    rw [valid_end l g this]
    simpa using h200
def eitherV (l : List Acc) : Bool := validV l true || validV l false
theorem either_base {l : List Acc} (h : eitherV l = true) : ∃ g, base l g ∧ validV l g = true := by
  unfold eitherV at h
  simp only [Bool.or_eq_true] at h
  rcases h with h | h
  · exact ⟨true, (valid_base h).1, h⟩
  · exact ⟨false, (valid_base h).1, h⟩
/-- in a valid chart both ways up are the same -/
theorem valid_path {l : List Acc} {g : Bool} (h : validV l g = true) (c : Int) : rcl l c = pcl l c ∧ topOf l (pcl l c) = 0 := by
  rw [valid_eq] at h
  obtain ⟨hb, _, hL⟩ := rvalid_base h
  rcases base_tie hb c with ⟨h1, h2, _⟩ | ⟨_, h2⟩
  · exact ⟨h2, h1⟩
  · cases hf : find l c with
    | none =>
      unfold rcl at h2
      rw [ru_none l _ _ _ hf] at h2
      simp at h2
    | some a =>
      obtain ⟨hm, rfl⟩ := find_some l c a hf
      have := hL a hm
      omega
theorem pcl_nodup (l : List Acc) (c : Int) : (pcl l c).Nodup := (up_way l _ _ c (way_nil l)).1
theorem pcl_none (l : List Acc) (c : Int) (h : find l c = none) : pcl l c = [] := up_none l _ _ c h
end Ch
end Go.Proofs.YthfbpbbepogllaaGreat
/- Sorted lists of texts, each once. No program. -/
namespace Go.Proofs.YthfbpbbepogllaaGreat
set_option linter.unusedVariables false
set_option linter.unusedSimpArgs false
open Go.RowKit

abbrev Txt := List UInt8
theorem txt_total (a b : Txt) : a ≤ b ∨ b ≤ a := List.le_total a b
theorem txt_refl (a : Txt) : a ≤ a := (txt_total a a).elim id id
theorem txt_trans {a b c : Txt} (h1 : a ≤ b) (h2 : b ≤ c) : a ≤ c := List.le_trans h1 h2
theorem txt_anti {a b : Txt} (h1 : a ≤ b) (h2 : b ≤ a) : a = b := List.le_antisymm h1 h2
/-- in order, each once -/
def Ord (l : List Txt) : Prop := l.Pairwise (fun a b => a ≤ b) ∧ l.Nodup
theorem ord_unique {l m : List Txt} (hl : Ord l) (hm : Ord m) (h : ∀ x, x ∈ l ↔ x ∈ m) : l = m :=
  List.Perm.eq_of_pairwise (le := fun a b => a ≤ b) (fun a b _ _ h1 h2 => txt_anti h1 h2) hl.1 hm.1 ((List.perm_ext_iff_of_nodup hl.2 hm.2).2 h)
theorem ord_sort {l : List Txt} (h : l.Nodup) : Ord (l.mergeSort leB) := by
  constructor
  · have := List.pairwise_mergeSort (le := leB) (fun a b c h1 h2 => by simp only [leB, decide_eq_true_eq] at *; exact List.le_trans h1 h2) (fun a b => by simp only [leB, Bool.or_eq_true, decide_eq_true_eq]; exact List.le_total a b) l
    exact this.imp fun {a b} h => by simpa [leB] using h
  · exact (List.mergeSort_perm l leB).nodup_iff.2 h
theorem mem_sort {l : List Txt} (x : Txt) : x ∈ l.mergeSort leB ↔ x ∈ l := (List.mergeSort_perm l leB).mem_iff
/-- a further text put into a list in order -/
def withGo (s : Txt) : List Txt → Bool → List Txt
  | [], done => if done then [] else [s]
  | a :: l, done => (if s ≤ a ∧ done = false then [s] else []) ++ ((if a = s then [] else [a]) ++ withGo s l (done || decide (s ≤ a)))
def withL (l : List Txt) (s : Txt) : List Txt := withGo s l false
theorem with_done (s : Txt) (l : List Txt) : withGo s l true = l.filter (fun a => decide (a ≠ s)) := by
  induction l with
  | nil => simp [withGo]
  | cons a l ih =>
    unfold withGo
    rw [Bool.true_or, ih]
    by_cases h : a = s <;> simp [h]
theorem with_mem (s : Txt) (l : List Txt) (x : Txt) : x ∈ withGo s l false ↔ x = s ∨ x ∈ l := by
  induction l with
  | nil => simp [withGo]
  | cons a l ih =>
    unfold withGo
    by_cases h : s ≤ a
    · rw [decide_eq_true h, Bool.false_or, with_done]
      by_cases e : a = s
      · subst e
        simp only [h, and_self, if_true, List.mem_append, List.mem_singleton, List.not_mem_nil, false_or, or_false, List.mem_filter, decide_eq_true_eq, List.mem_cons]
        constructor
        · rintro (h1 | h1)
          · exact .inl h1
          · exact .inr (.inr h1.1)
        · rintro (h1 | h1 | h1)
          · exact .inl h1
          · exact .inl h1
          · by_cases e : x = a
            · exact .inl e
            · exact .inr ⟨h1, e⟩
      · simp only [h, and_self, if_true, if_neg e, List.mem_append, List.mem_singleton, List.not_mem_nil, or_false, List.mem_filter, decide_eq_true_eq, List.mem_cons]
        constructor
        · rintro (h1 | h1 | h1)
          · exact .inl h1
          · exact .inr (.inl h1)
          · exact .inr (.inr h1.1)
        · rintro (h1 | h1 | h1)
          · exact .inl h1
          · exact .inr (.inl h1)
          · by_cases e2 : x = s
            · exact .inl e2
            · exact .inr (.inr ⟨h1, e2⟩)
    · have e : a ≠ s := fun e => h (by rw [e]; exact txt_refl _)
      rw [decide_eq_false h, Bool.false_or]
      simp only [h, false_and, if_false, if_neg e, List.mem_append, List.mem_singleton, List.not_mem_nil, false_or, or_false, ih, List.mem_cons]
      constructor
      · rintro (h1 | h1 | h1)
        · exact .inr (.inl h1)
        · exact .inl h1
        · exact .inr (.inr h1)
      · rintro (h1 | h1 | h1)
        · exact .inr (.inl h1)
        · exact .inl h1
        · exact .inr (.inr h1)
theorem with_ord {s : Txt} {l : List Txt} (h : Ord l) : Ord (withGo s l false) := by
  induction l with
  | nil => exact ⟨by simp [withGo], by simp [withGo]⟩
  | cons a l ih =>
    have h1 := List.pairwise_cons.1 h.1
    have h2 := List.nodup_cons.1 h.2
    have hl : Ord l := ⟨h1.2, h2.2⟩
    unfold withGo
    by_cases hs : s ≤ a
    · rw [decide_eq_true hs, Bool.false_or, with_done]
      have e : (if s ≤ a ∧ (false = false) then [s] else []) ++ ((if a = s then [] else [a]) ++ l.filter (fun a => decide (a ≠ s))) = s :: (a :: l).filter (fun a => decide (a ≠ s)) := by
        by_cases e : a = s <;> simp [hs, e]
      rw [e]
      constructor
      · refine List.pairwise_cons.2 ⟨fun x hx => ?_, h.1.sublist List.filter_sublist⟩
        rcases List.mem_cons.1 (List.mem_filter.1 hx).1 with rfl | hx
        · exact hs
        · exact txt_trans hs (h1.1 x hx)
      · refine List.nodup_cons.2 ⟨fun hx => ?_, h.2.sublist List.filter_sublist⟩
        have := (List.mem_filter.1 hx).2
        simp at this
    · have ea : a ≠ s := fun e => hs (by rw [e]; exact txt_refl _)
      rw [decide_eq_false hs, Bool.false_or]
      simp only [hs, false_and, if_false, if_neg ea, List.nil_append, List.singleton_append]
      have hih := ih hl
      constructor
      · refine List.pairwise_cons.2 ⟨fun x hx => ?_, hih.1⟩
        rcases (with_mem s l x).1 hx with rfl | hx
        · exact (txt_total x a).resolve_left hs
        · exact h1.1 x hx
      · refine List.nodup_cons.2 ⟨fun hx => ?_, hih.2⟩
        rcases (with_mem s l a).1 hx with e | hx
        · exact ea e
        · exact h2.1 hx
/-- all the texts, in order -/
def curL (c : Txt) (l : List Txt) : List Txt := l.foldl withL [c]
theorem curL_take (c : Txt) (l : List Txt) (k : Nat) (h : k < l.length) : curL c (l.take (k + 1)) = withL (curL c (l.take k)) l[k] := by
  unfold curL
  rw [List.take_succ_eq_append_getElem h, List.foldl_append]
  rfl
theorem curL_is (c : Txt) (l : List Txt) : Ord (curL c l) ∧ ∀ x, x ∈ curL c l ↔ x = c ∨ x ∈ l := by
  have : ∀ k, k ≤ l.length → Ord (curL c (l.take k)) ∧ ∀ x, x ∈ curL c (l.take k) ↔ x = c ∨ x ∈ l.take k := by
    intro k
    induction k with
    | zero => intro _; exact ⟨⟨by simp [curL], by simp [curL]⟩, fun x => by simp [curL]⟩
    | succ k ih =>
      intro hk
      obtain ⟨h1, h2⟩ := ih (by omega)
      rw [curL_take c l k (by omega)]
      refine ⟨with_ord h1, fun x => ?_⟩
      unfold withL
      rw [with_mem, h2 x, List.take_succ_eq_append_getElem (by omega), List.mem_append, List.mem_singleton]
      constructor
      · rintro (h | h | h)
        · exact .inr (.inr h)
        · exact .inl h
        · exact .inr (.inl h)
      · rintro (h | h | h)
        · exact .inr (.inl h)
        · exact .inr (.inr h)
        · exact .inl h
  have := this l.length (Nat.le_refl _)
  rwa [List.take_length] at this
theorem sort_cur {c : Txt} {l ss : List Txt} (hn : ss.Nodup) (h : ∀ x, x ∈ ss ↔ x = c ∨ x ∈ l) : ss.mergeSort leB = curL c l :=
  ord_unique (ord_sort hn) (curL_is c l).1 fun x => by rw [mem_sort, h x, (curL_is c l).2 x]
/-- the loop of the reference: what is still to come -/
theorem with_drop (s : Txt) (l : List Txt) (k : Nat) (h : k < l.length) (done : Bool) :
    withGo s (l.drop k) done = (if s ≤ l[k] ∧ done = false then [s] else []) ++ ((if l[k] = s then [] else [l[k]]) ++ withGo s (l.drop (k + 1)) (done || decide (s ≤ l[k]))) := by
  rw [List.drop_eq_getElem_cons h]
  rfl
theorem curL_len (c : Txt) (l : List Txt) : (curL c l).length ≤ l.length + 1 := by
  have h := curL_is c l
  have : (curL c l).length ≤ (c :: l).length := by
    have hs : ∀ (l m : List Txt), l.Nodup → (∀ x ∈ l, x ∈ m) → l.length ≤ m.length := by
      intro l
      induction l with
      | nil => intro m _ _; simp
      | cons a l ih =>
        intro m hn hm
        have h1 := List.nodup_cons.1 hn
        have ha : a ∈ m := hm a (by simp)
        have := ih (m.erase a) h1.2 (fun x hx => by
          have e : x ≠ a := fun e => h1.1 (e ▸ hx)
          exact (List.mem_erase_of_ne e).2 (hm x (by simp [hx])))
        rw [List.length_erase_of_mem ha] at this
        have := List.length_pos_of_mem ha
        simp only [List.length_cons]
        omega
    exact hs _ _ h.1.2 (fun x hx => by rw [h.2 x] at hx; simpa using hx)
  simpa using this
end Go.Proofs.YthfbpbbepogllaaGreat
