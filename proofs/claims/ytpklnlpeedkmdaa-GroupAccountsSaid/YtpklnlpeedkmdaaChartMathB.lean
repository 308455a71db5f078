/- Charts of accounts: lists of accounts checked one by one; sorted charts. No program. -/
import Derived.Test.YtpklnlpeedkmdaaChartMath
namespace Go.Proofs.Ytpklnlpeedkmdaa
set_option linter.unusedVariables false
set_option linter.unusedSimpArgs false
open Go.RowKit
namespace Ch
theorem rvalid_no (l : List Acc) (g : Bool) (k : Nat) (hk : k < l.length) (h : rokAt l g k = false) : rvalidV l g = false := by
  unfold rvalidV
  have : (List.range l.length).all (rokAt l g) = false := by
    rw [List.all_eq_false]
    exact ⟨k, by simpa using hk, by simp [h]⟩
  rw [this]; simp
theorem rvalid_end (l : List Acc) (g : Bool) (hl : l.length ≤ 200) (h : ∀ j, j < l.length → rokAt l g j = true) : rvalidV l g = true := by
  unfold rvalidV
  have : (List.range l.length).all (rokAt l g) = true := by
    rw [List.all_eq_true]
    intro j hj
    exact h j (by simpa using hj)
  rw [this]; simp [hl]
theorem rvalid_long (l : List Acc) (g : Bool) (hl : ¬ l.length ≤ 200) : rvalidV l g = false := by unfold rvalidV; simp [hl]
theorem rok_mk {l : List Acc} {g : Bool} {k : Nat} (hk : k < l.length) (hP : rproperV l l[k] g = true) (ho : k = 0 ∨ (l[k - 1]'(by omega)).code < l[k].code) (hL : (rcl l l[k].code).length ≤ l.length) : rokAt l g k = true := by
  unfold rokAt
  rw [getD_at l k hk, getD_at l (k - 1) (by omega), hP]
  rcases ho with h | h <;> simp [h] <;> (try subst h) <;> omega
theorem rok_no {l : List Acc} {g : Bool} {k : Nat} (hk : k < l.length) (h : rproperV l l[k] g = false ∨ (0 < k ∧ l[k].code ≤ (l[k - 1]'(by omega)).code) ∨ l.length < (rcl l l[k].code).length) : rvalidV l g = false := by
  refine rvalid_no l g k hk ?_
  unfold rokAt
  rw [getD_at l k hk, getD_at l (k - 1) (by omega)]
  rcases h with h | h | h
  · simp [h]
  · have h0 : (k == 0) = false := by simp; omega
    have h1 : decide ((l[k - 1]'(by omega)).code < l[k].code) = false := by simp; omega
    rw [h0, h1]; simp
  · have h1 : decide ((rcl l l[k].code).length ≤ l.length) = false := by simp; omega
    rw [h1]; simp
/-- the place in order: behind the first, or in front of a test -/
theorem ord_case (k : Nat) (x y : Int) : (decide (0 < k) = false ∧ k = 0) ∨ (decide (0 < k) = true ∧ decide (y ≤ x) = false ∧ x < y) ∨ (decide (0 < k) = true ∧ decide (y ≤ x) = true ∧ 0 < k ∧ y ≤ x) := by
  by_cases h0 : 0 < k
  · by_cases h1 : y ≤ x
    · exact .inr (.inr ⟨by simp [h0], by simp [h1], h0, h1⟩)
    · exact .inr (.inl ⟨by simp [h0], by simpa using h1, by omega⟩)
  · exact .inl ⟨by simpa using h0, by omega⟩
theorem wrap_pred (k : Nat) (h : 0 < k) (h2 : k ≤ 1000000) : IntKind.i64.wrap ((k : Int) - 1) = ((k - 1 : Nat) : Int) := by rw [IntWalk.i64_in _ (by omega)]; omega
end Ch
end Go.Proofs.Ytpklnlpeedkmdaa
