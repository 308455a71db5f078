/- Sums of some of a list. No program. -/
import Derived.Test.YthenamibehbdnaaPostMathC
namespace Go.Proofs.Ythenamibehbdnaa
set_option linter.unusedVariables false
set_option linter.unusedSimpArgs false
open Go.RowKit

def condW (p : Bal → Bool) (m : List Bal) : Int := m.foldl (fun n x => if p x = true then wrap64 (n + x.amount) else n) 0
def condV (p : Bal → Bool) (m : List Bal) : Int := sm m fun x => if p x = true then x.amount else 0
theorem condW_take (p : Bal → Bool) (m : List Bal) (k : Nat) (h : k < m.length) : condW p (m.take (k + 1)) = if p m[k] = true then wrap64 (condW p (m.take k) + m[k].amount) else condW p (m.take k) := by
  unfold condW
  rw [List.take_succ_eq_append_getElem h, List.foldl_append]
  rfl
theorem condW_eq {M : Int} (p : Bal → Bool) (m : List Bal) (h : within M m) (h0 : 0 ≤ M) (hl : M * m.length ≤ 4000000000000000000) : condW p m = condV p m := by
  have : ∀ k, k ≤ m.length → condW p (m.take k) = condV p (m.take k) := by
    intro k
    induction k with
    | zero => intro _; rfl
    | succ k ih =>
      intro hk
      have hk' : k < m.length := by omega
      rw [condW_take p m k hk', ih (by omega)]
      have e : condV p (m.take (k + 1)) = condV p (m.take k) + if p m[k] = true then m[k].amount else 0 := sm_take m k hk' _
      rw [e]
      have hb := sm_bd (m.take k) (fun x => if p x = true then x.amount else 0) M (fun x hx => by
        have := h x (List.mem_of_mem_take hx)
        show -M ≤ (if p x = true then x.amount else 0) ∧ (if p x = true then x.amount else 0) ≤ M
        split <;> omega)
      have hx := h _ (List.getElem_mem hk')
      rw [List.length_take, Nat.min_eq_left (by omega)] at hb
      have h2 : M * (k : Int) ≤ M * (m.length : Int) := Int.mul_le_mul_of_nonneg_left (by omega) h0
      have h3 : M * 1 ≤ M * (m.length : Int) := Int.mul_le_mul_of_nonneg_left (by omega) h0
      by_cases hc : p m[k] = true
      · rw [if_pos hc, if_pos hc]
        unfold condV
        rw [wrap_in (by omega) (by omega)]
      · rw [if_neg hc, if_neg hc]; omega
  have := this m.length (Nat.le_refl _)
  rwa [List.take_length] at this
/-- the accounts of a range -/
def inR (f t : Int) (x : Bal) : Bool := decide (f ≤ x.account) && decide (x.account ≤ t)
def figW (f t : Int) (m : List Bal) : Int := condW (inR f t) m
theorem figW_take (f t : Int) (m : List Bal) (k : Nat) (h : k < m.length) : figW f t (m.take (k + 1)) = if inR f t m[k] = true then wrap64 (figW f t (m.take k) + m[k].amount) else figW f t (m.take k) := condW_take _ m k h
theorem figV_split (m : List Bal) {a b c : Int} (h1 : a ≤ b) (h2 : b ≤ c) : condV (inR a c) m = condV (inR a b) m + condV (inR (b + 1) c) m := by
  unfold condV
  rw [← sm_add]
  refine sm_congr fun x _ => ?_
  unfold inR
  by_cases c1 : a ≤ x.account <;> by_cases c2 : x.account ≤ b <;> by_cases c3 : x.account ≤ c <;> by_cases c4 : b + 1 ≤ x.account <;> simp [c1, c2, c3, c4] <;> omega
theorem figV_all (m : List Bal) (h : ∀ x ∈ m, (Lit.int .i64 x.account).wf = true) : condV (inR (-9223372036854775808) 9223372036854775807) m = sumV m := by
  unfold condV sumV
  refine sm_congr fun x hx => ?_
  have := bounds_i64 (h x hx)
  unfold inR
  simp [this.1, this.2]
end Go.Proofs.Ythenamibehbdnaa
