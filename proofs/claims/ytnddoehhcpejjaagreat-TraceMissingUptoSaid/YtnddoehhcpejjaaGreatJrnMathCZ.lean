/- Texts of this claim, put together. -/
import Derived.Test.YtnddoehhcpejjaaGreatApiZ
/- References to the lines of entries, up to a date; those that are missing. No walk. -/
namespace Go.Proofs.YtnddoehhcpejjaaGreat
set_option linter.unusedVariables false
set_option linter.unusedSimpArgs false
open Go.RowKit

namespace Jn
/-- the references to the first lines of an entry -/
def refsOf (x : EntryR) (j : Nat) : List RefR := (List.range j).map fun (k : Nat) => ⟨x.id, (k : Int)⟩
theorem refsOf_zero (x : EntryR) : refsOf x 0 = [] := rfl
theorem refsOf_more (x : EntryR) (j : Nat) : refsOf x (j + 1) = refsOf x j ++ [⟨x.id, (j : Int)⟩] := by
  unfold refsOf
  rw [List.range_succ, List.map_append]
  rfl
theorem refsOf_len (x : EntryR) (j : Nat) : (refsOf x j).length = j := by simp [refsOf]
/-- the references to all lines of the entries up to a date -/
def upTo (t : Int) (es : List EntryR) : List RefR := es.flatMap fun x => if x.date ≤ t then refsOf x x.lines.l.length else []
theorem upTo_nil (t : Int) : upTo t [] = [] := rfl
theorem upTo_take (t : Int) (es : List EntryR) (k : Nat) (h : k < es.length) : upTo t (es.take (k + 1)) = upTo t (es.take k) ++ if es[k].date ≤ t then refsOf es[k] es[k].lines.l.length else [] := by
  unfold upTo
  rw [List.take_succ_eq_append_getElem h, List.flatMap_append]
  simp
theorem upTo_len (t : Int) (n : Nat) (es : List EntryR) (h : ∀ x ∈ es, x.lines.l.length ≤ n) : (upTo t es).length ≤ n * es.length := by
  induction es with
  | nil => simp [upTo]
  | cons x es ih =>
    have h1 := ih (fun y hy => h y (List.mem_cons_of_mem _ hy))
    have h2 := h x (List.mem_cons_self ..)
    have e : upTo t (x :: es) = (if x.date ≤ t then refsOf x x.lines.l.length else []) ++ upTo t es := rfl
    rw [e, List.length_append, List.length_cons, Nat.mul_add]
    split
    · rw [refsOf_len]; omega
    · simp; omega
theorem upTo_take_len (t : Int) (n : Nat) (es : List EntryR) (h : ∀ x ∈ es, x.lines.l.length ≤ n) (k : Nat) : (upTo t (es.take k)).length ≤ n * es.length := by
  have h1 := upTo_len t n (es.take k) (fun x hx => h x (List.mem_of_mem_take hx))
  have h2 : (es.take k).length ≤ es.length := by rw [List.length_take]; omega
  exact Nat.le_trans h1 (Nat.mul_le_mul_left n h2)
/-- those that do not occur -/
def mis (has : RefR → Bool) (l : List RefR) : List RefR := l.filter fun r => !has r
theorem mis_nil (has : RefR → Bool) : mis has [] = [] := rfl
theorem mis_app (has : RefR → Bool) (a b : List RefR) : mis has (a ++ b) = mis has a ++ mis has b := by
  unfold mis
  rw [List.filter_append]
theorem mis_yes (has : RefR → Bool) (a : List RefR) (r : RefR) (h : has r = false) : mis has (a ++ [r]) = mis has a ++ [r] := by
  rw [mis_app]
  simp [mis, h]
theorem mis_no (has : RefR → Bool) (a : List RefR) (r : RefR) (h : has r = true) : mis has (a ++ [r]) = mis has a := by
  rw [mis_app]
  simp [mis, h]
theorem mis_len (has : RefR → Bool) (l : List RefR) : (mis has l).length ≤ l.length := List.length_filter_le _ _
theorem mis_take (has : RefR → Bool) (l : List RefR) (k : Nat) (h : k < l.length) : mis has (l.take (k + 1)) = if has l[k] then mis has (l.take k) else mis has (l.take k) ++ [l[k]] := by
  rw [List.take_succ_eq_append_getElem h]
  cases h2 : has l[k]
  · rw [mis_yes _ _ _ h2]; simp
  · rw [mis_no _ _ _ h2]; simp
/-- how many of the first occur -/
def cnt (has : RefR → Bool) (l : List RefR) : Int := ((l.filter has).length : Int)
theorem cnt_take (has : RefR → Bool) (l : List RefR) (k : Nat) (h : k < l.length) : cnt has (l.take (k + 1)) = if has l[k] then cnt has (l.take k) + 1 else cnt has (l.take k) := by
  unfold cnt
  rw [List.take_succ_eq_append_getElem h, List.filter_append]
  cases h2 : has l[k]
  · simp [h2]
  · simp [h2]
theorem cnt_bd (has : RefR → Bool) (l : List RefR) (k : Nat) : 0 ≤ cnt has (l.take k) ∧ cnt has (l.take k) ≤ l.length := by
  unfold cnt
  have h1 := List.length_filter_le has (l.take k)
  have h2 : (l.take k).length ≤ l.length := by rw [List.length_take]; omega
  omega
theorem cnt_mis (has : RefR → Bool) (l : List RefR) : cnt has l + ((mis has l).length : Int) = l.length := by
  induction l with
  | nil => rfl
  | cons x l ih =>
    unfold cnt mis at ih ⊢
    cases h : has x
    · simp [h]; omega
    · simp [h]; omega
end Jn
end Go.Proofs.YtnddoehhcpejjaaGreat
