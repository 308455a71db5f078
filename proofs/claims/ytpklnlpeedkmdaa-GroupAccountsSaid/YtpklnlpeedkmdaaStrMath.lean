/- Sorted lists of texts, each once. No program. -/
import Derived.Test.YtpklnlpeedkmdaaLibK
import Derived.Sort.KeysCollected
namespace Go.Proofs.Ytpklnlpeedkmdaa
set_option linter.unusedVariables false
set_option linter.unusedSimpArgs false
open Go.RowKit

abbrev Txt := List UInt8
theorem txt_total (a b : Txt) : a ≤ b ∨ b ≤ a := List.le_total a b
theorem txt_refl (a : Txt) : a ≤ a := (txt_total a a).elim id id
theorem txt_trans {a b c : Txt} (h1 : a ≤ b) (h2 : b ≤ c) : a ≤ c := List.le_trans h1 h2
theorem txt_anti {a b : Txt} (h1 : a ≤ b) (h2 : b ≤ a) : a = b := List.le_antisymm h1 h2
/-- in order, each once -/
def Ord (l : List Txt) : Prop := l.Pairwise (fun a b => a ≤ b) ∧ l.Nodup
theorem ord_unique {l m : List Txt} (hl : Ord l) (hm : Ord m) (h : ∀ x, x ∈ l ↔ x ∈ m) : l = m :=
  List.Perm.eq_of_pairwise (le := fun a b => a ≤ b) (fun a b _ _ h1 h2 => txt_anti h1 h2) hl.1 hm.1 ((List.perm_ext_iff_of_nodup hl.2 hm.2).2 h)
theorem ord_sort {l : List Txt} (h : l.Nodup) : Ord (l.mergeSort leB) := by
  constructor
  · have := List.pairwise_mergeSort (le := leB) (fun a b c h1 h2 => by simp only [leB, decide_eq_true_eq] at *; exact List.le_trans h1 h2) (fun a b => by simp only [leB, Bool.or_eq_true, decide_eq_true_eq]; exact List.le_total a b) l
    exact this.imp fun {a b} h => by simpa [leB] using h
  · exact (List.mergeSort_perm l leB).nodup_iff.2 h
theorem mem_sort {l : List Txt} (x : Txt) : x ∈ l.mergeSort leB ↔ x ∈ l := (List.mergeSort_perm l leB).mem_iff
/-- a further text put into a list in order -/
def withGo (s : Txt) : List Txt → Bool → List Txt
  | [], done => if done then [] else [s]
  | a :: l, done => (if s ≤ a ∧ done = false then [s] else []) ++ ((if a = s then [] else [a]) ++ withGo s l (done || decide (s ≤ a)))
def withL (l : List Txt) (s : Txt) : List Txt := withGo s l false
theorem with_done (s : Txt) (l : List Txt) : withGo s l true = l.filter (fun a => decide (a ≠ s)) := by
  induction l with
  | nil => simp [withGo]
  | cons a l ih =>
    unfold withGo
    rw [Bool.true_or, ih]
    by_cases h : a = s <;> simp [h]
theorem with_mem (s : Txt) (l : List Txt) (x : Txt) : x ∈ withGo s l false ↔ x = s ∨ x ∈ l := by
  induction l with
  | nil => simp [withGo]
  | cons a l ih =>
    unfold withGo
    by_cases h : s ≤ a
    · rw [decide_eq_true h, Bool.false_or, with_done]
      by_cases e : a = s
      · subst e
        simp only [h, and_self, if_true, List.mem_append, List.mem_singleton, List.not_mem_nil, false_or, or_false, List.mem_filter, decide_eq_true_eq, List.mem_cons]
        constructor
        · rintro (h1 | h1)
          · exact .inl h1
          · exact .inr (.inr h1.1)
        · rintro (h1 | h1 | h1)
          · exact .inl h1
          · exact .inl h1
          · by_cases e : x = a
            · exact .inl e
            · exact .inr ⟨h1, e⟩
      · simp only [h, and_self, if_true, if_neg e, List.mem_append, List.mem_singleton, List.not_mem_nil, or_false, List.mem_filter, decide_eq_true_eq, List.mem_cons]
        constructor
        · rintro (h1 | h1 | h1)
          · exact .inl h1
          · exact .inr (.inl h1)
          · exact .inr (.inr h1.1)
        · rintro (h1 | h1 | h1)
          · exact .inl h1
          · exact .inr (.inl h1)
          · by_cases e2 : x = s
            · exact .inl e2
            · exact .inr (.inr ⟨h1, e2⟩)
    · have e : a ≠ s := fun e => h (by rw [e]; exact txt_refl _)
      rw [decide_eq_false h, Bool.false_or]
      simp only [h, false_and, if_false, if_neg e, List.mem_append, List.mem_singleton, List.not_mem_nil, false_or, or_false, ih, List.mem_cons]
      constructor
      · rintro (h1 | h1 | h1)
        · exact .inr (.inl h1)
        · exact .inl h1
        · exact .inr (.inr h1)
      · rintro (h1 | h1 | h1)
        · exact .inr (.inl h1)
        · exact .inl h1
        · exact .inr (.inr h1)
theorem with_ord {s : Txt} {l : List Txt} (h : Ord l) : Ord (withGo s l false) := by
  induction l with
  | nil => exact ⟨by simp [withGo], by simp [withGo]⟩
  | cons a l ih =>
    have h1 := List.pairwise_cons.1 h.1
    have h2 := List.nodup_cons.1 h.2
    have hl : Ord l := ⟨h1.2, h2.2⟩
    unfold withGo
    by_cases hs : s ≤ a
    · rw [decide_eq_true hs, Bool.false_or, with_done]
      have e : (if s ≤ a ∧ (false = false) then [s] else []) ++ ((if a = s then [] else [a]) ++ l.filter (fun a => decide (a ≠ s))) = s :: (a :: l).filter (fun a => decide (a ≠ s)) := by
        by_cases e : a = s <;> simp [hs, e]
      rw [e]
      constructor
      · refine List.pairwise_cons.2 ⟨fun x hx => ?_, h.1.sublist List.filter_sublist⟩
        rcases List.mem_cons.1 (List.mem_filter.1 hx).1 with rfl | hx
        · exact hs
        · exact txt_trans hs (h1.1 x hx)
      · refine List.nodup_cons.2 ⟨fun hx => ?_, h.2.sublist List.filter_sublist⟩
        have := (List.mem_filter.1 hx).2
        simp at this
    · have ea : a ≠ s := fun e => hs (by rw [e]; exact txt_refl _)
      rw [decide_eq_false hs, Bool.false_or]
      simp only [hs, false_and, if_false, if_neg ea, List.nil_append, List.singleton_append]
      have hih := ih hl
      constructor
      · refine List.pairwise_cons.2 ⟨fun x hx => ?_, hih.1⟩
        rcases (with_mem s l x).1 hx with rfl | hx
        · exact (txt_total x a).resolve_left hs
        · exact h1.1 x hx
      · refine List.nodup_cons.2 ⟨fun hx => ?_, hih.2⟩
        rcases (with_mem s l a).1 hx with e | hx
        · exact ea e
        · exact h2.1 hx
/-- all the texts, in order -/
def curL (c : Txt) (l : List Txt) : List Txt := l.foldl withL [c]
theorem curL_take (c : Txt) (l : List Txt) (k : Nat) (h : k < l.length) : curL c (l.take (k + 1)) = withL (curL c (l.take k)) l[k] := by
  unfold curL
  rw [List.take_succ_eq_append_getElem h, List.foldl_append]
  rfl
theorem curL_is (c : Txt) (l : List Txt) : Ord (curL c l) ∧ ∀ x, x ∈ curL c l ↔ x = c ∨ x ∈ l := by
  have : ∀ k, k ≤ l.length → Ord (curL c (l.take k)) ∧ ∀ x, x ∈ curL c (l.take k) ↔ x = c ∨ x ∈ l.take k := by
    intro k
    induction k with
    | zero => intro _; exact ⟨⟨by simp [curL], by simp [curL]⟩, fun x => by simp [curL]⟩
    | succ k ih =>
      intro hk
      obtain ⟨h1, h2⟩ := ih (by omega)
      rw [curL_take c l k (by omega)]
      refine ⟨with_ord h1, fun x => ?_⟩
      unfold withL
      rw [with_mem, h2 x, List.take_succ_eq_append_getElem (by omega), List.mem_append, List.mem_singleton]
      constructor
      · rintro (h | h | h)
        · exact .inr (.inr h)
        · exact .inl h
        · exact .inr (.inl h)
      · rintro (h | h | h)
        · exact .inr (.inl h)
        · exact .inr (.inr h)
        · exact .inl h
  have := this l.length (Nat.le_refl _)
  rwa [List.take_length] at this
theorem sort_cur {c : Txt} {l ss : List Txt} (hn : ss.Nodup) (h : ∀ x, x ∈ ss ↔ x = c ∨ x ∈ l) : ss.mergeSort leB = curL c l :=
  ord_unique (ord_sort hn) (curL_is c l).1 fun x => by rw [mem_sort, h x, (curL_is c l).2 x]
/-- the loop of the reference: what is still to come -/
theorem with_drop (s : Txt) (l : List Txt) (k : Nat) (h : k < l.length) (done : Bool) :
    withGo s (l.drop k) done = (if s ≤ l[k] ∧ done = false then [s] else []) ++ ((if l[k] = s then [] else [l[k]]) ++ withGo s (l.drop (k + 1)) (done || decide (s ≤ l[k]))) := by
  rw [List.drop_eq_getElem_cons h]
  rfl
theorem curL_len (c : Txt) (l : List Txt) : (curL c l).length ≤ l.length + 1 := by
  have h := curL_is c l
  have : (curL c l).length ≤ (c :: l).length := by
    have hs : ∀ (l m : List Txt), l.Nodup → (∀ x ∈ l, x ∈ m) → l.length ≤ m.length := by
      intro l
      induction l with
      | nil => intro m _ _; simp
      | cons a l ih =>
        intro m hn hm
        have h1 := List.nodup_cons.1 hn
        have ha : a ∈ m := hm a (by simp)
        have := ih (m.erase a) h1.2 (fun x hx => by
          have e : x ≠ a := fun e => h1.1 (e ▸ hx)
          exact (List.mem_erase_of_ne e).2 (hm x (by simp [hx])))
        rw [List.length_erase_of_mem ha] at this
        have := List.length_pos_of_mem ha
        simp only [List.length_cons]
        omega
    exact hs _ _ h.1.2 (fun x hx => by rw [h.2 x] at hx; simpa using hx)
  simpa using this
end Go.Proofs.Ytpklnlpeedkmdaa
