/- The order of postings. No program. -/
import Derived.Test.YthenamibehbdnaaPostWalksD
namespace Go.Proofs.Ythenamibehbdnaa
set_option linter.unusedVariables false
set_option linter.unusedSimpArgs false
open Go.RowKit

def comb (x y : Int) : Int := if x = 0 then y else x
theorem firstNZ_cons (x : Int) (l : List Int) : firstNZ (x :: l) = comb x (firstNZ l) := rfl
/-- what a chain of two says of the third -/
def Tri (x y z : Int) : Prop := x ≤ 0 → y ≤ 0 → z ≤ 0 ∧ (z = 0 ↔ x = 0 ∧ y = 0)
theorem tri_cmp (a b c : Int) : Tri (cmpV a b) (cmpV b c) (cmpV a c) := by
  unfold Tri cmpV
  split <;> split <;> split <;> (try split) <;> (try split) <;> (try split) <;> omega
theorem tri_comb {x1 y1 z1 x2 y2 z2 : Int} (h1 : Tri x1 y1 z1) (h2 : Tri x2 y2 z2) : Tri (comb x1 x2) (comb y1 y2) (comb z1 z2) := by
  intro hx hy
  unfold comb at *
  have a1 : x1 ≤ 0 := by split at hx <;> omega
  have a2 : y1 ≤ 0 := by split at hy <;> omega
  obtain ⟨b1, b2⟩ := h1 a1 a2
  by_cases hz : z1 = 0
  · obtain ⟨c1, c2⟩ := b2.1 hz
    rw [if_pos c1] at hx
    rw [if_pos c2] at hy
    rw [if_pos hz, if_pos c1, if_pos c2]
    exact h2 hx hy
  · rw [if_neg hz]
    refine ⟨b1, fun e => absurd e hz, ?_⟩
    rintro ⟨d1, d2⟩
    refine absurd (b2.2 ⟨?_, ?_⟩) hz
    · by_cases e : x1 = 0
      · exact e
      · rw [if_neg e] at d1; exact d1
    · by_cases e : y1 = 0
      · exact e
      · rw [if_neg e] at d2; exact d2
theorem tri_H (a b c : Hd) : Tri (cmpH a b) (cmpH b c) (cmpH a c) := by
  unfold cmpH cmps
  simp only [firstNZ_cons]
  exact tri_comb (tri_cmp _ _ _) (tri_comb (tri_cmp _ _ _) (tri_comb (tri_cmp _ _ _) (tri_comb (tri_cmp _ _ _) (fun _ _ => by simp [firstNZ]))))
theorem cmpV_neg (a b : Int) : cmpV a b = -cmpV b a := by
  unfold cmpV
  split <;> split <;> (try split) <;> omega
theorem comb_neg {x y u v : Int} (h1 : x = -u) (h2 : y = -v) : comb x y = -comb u v := by
  unfold comb
  split <;> split <;> omega
theorem cmpH_neg (a b : Hd) : cmpH a b = -cmpH b a := by
  unfold cmpH cmps
  simp only [firstNZ_cons]
  exact comb_neg (cmpV_neg _ _) (comb_neg (cmpV_neg _ _) (comb_neg (cmpV_neg _ _) (comb_neg (cmpV_neg _ _) rfl)))
theorem cmpV_self (a : Int) : cmpV a a = 0 := by unfold cmpV; simp
theorem cmpH_self (a : Hd) : cmpH a a = 0 := by
  have := cmpH_neg a a
  omega
theorem comb_bd {x y : Int} (h1 : -1 ≤ x ∧ x ≤ 1) (h2 : -1 ≤ y ∧ y ≤ 1) : -1 ≤ comb x y ∧ comb x y ≤ 1 := by
  unfold comb; split <;> assumption
theorem cmpV_bd (a b : Int) : -1 ≤ cmpV a b ∧ cmpV a b ≤ 1 := by
  unfold cmpV; split <;> (try split) <;> omega
theorem cmpH_bd (a b : Hd) : -1 ≤ cmpH a b ∧ cmpH a b ≤ 1 := by
  unfold cmpH cmps
  simp only [firstNZ_cons]
  exact comb_bd (cmpV_bd _ _) (comb_bd (cmpV_bd _ _) (comb_bd (cmpV_bd _ _) (comb_bd (cmpV_bd _ _) (by simp [firstNZ]))))
end Go.Proofs.Ythenamibehbdnaa
