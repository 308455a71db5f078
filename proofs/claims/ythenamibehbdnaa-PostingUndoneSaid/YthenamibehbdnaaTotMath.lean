/- All items and parts as pairs. No program. -/
import Derived.Test.YthenamibehbdnaaPostMathC
import Derived.Test.YthenamibehbdnaaApi
namespace Go.Proofs.Ythenamibehbdnaa
set_option linter.unusedVariables false
set_option linter.unusedSimpArgs false
open Go.RowKit

theorem ofW_snoc (l : List Bal) (x : Bal) : (fun d => if d = x.account then wrap64 (ofW l x.account + x.amount) else ofW l d) = ofW (l ++ [x]) := by
  have h := ofW_put (l ++ [x]) l.length (by simp)
  have e1 : (l ++ [x])[l.length]'(by simp) = x := by simp
  have e2 : (l ++ [x]).take l.length = l := by simp
  have e3 : (l ++ [x]).take (l.length + 1) = l ++ [x] := List.take_of_length_le (by simp)
  rwa [e1, e2, e3] at h
def itBal (i : ItemR) : Bal := ⟨i.account, i.amount⟩
def itBals (I : List ItemR) : List Bal := I.map itBal
def poBals (P : List PostR) : List Bal := P.flatMap fun p => p.parts.l
def allB (I : List ItemR) (P : List PostR) : List Bal := itBals I ++ poBals P
theorem itBals_len (I : List ItemR) : (itBals I).length = I.length := by unfold itBals; rw [List.length_map]
theorem itBals_take (I : List ItemR) (k : Nat) (h : k < I.length) : itBals (I.take (k + 1)) = itBals (I.take k) ++ [itBal I[k]] := by
  unfold itBals
  rw [List.take_succ_eq_append_getElem h, List.map_append]; rfl
theorem poBals_take (P : List PostR) (k : Nat) (h : k < P.length) : poBals (P.take (k + 1)) = poBals (P.take k) ++ P[k].parts.l := by
  unfold poBals
  rw [List.take_succ_eq_append_getElem h, List.flatMap_append]; simp
theorem take_snoc' {α : Type} (l : List α) (k : Nat) (h : k < l.length) : l.take (k + 1) = l.take k ++ [l[k]] := List.take_succ_eq_append_getElem h
theorem poBals_le (P : List PostR) (k : Nat) : (poBals (P.take k)).length ≤ (poBals P).length := by
  unfold poBals
  conv => rhs; rw [← List.take_append_drop k P, List.flatMap_append, List.length_append]
  omega
theorem poBals_len (P : List PostR) (k : Nat) (h : k < P.length) : (poBals (P.take k)).length + P[k].parts.l.length ≤ (poBals P).length := by
  have := poBals_le P (k + 1)
  rw [poBals_take P k h, List.length_append] at this
  exact this
theorem po_mem {P : List PostR} {k : Nat} (h : k < P.length) {x : Bal} (hx : x ∈ P[k].parts.l) : x ∈ poBals P := by
  unfold poBals
  exact List.mem_flatMap.2 ⟨P[k], List.getElem_mem h, hx⟩
end Go.Proofs.Ythenamibehbdnaa
