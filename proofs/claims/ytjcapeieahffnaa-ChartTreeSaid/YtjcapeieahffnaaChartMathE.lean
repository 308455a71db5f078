/- Charts of accounts: balances and their sums. No program. -/
import Derived.Test.YtjcapeieahffnaaChartMathD
import Derived.Test.YtjcapeieahffnaaBalMath
namespace Go.Proofs.Ytjcapeieahffnaa
set_option linter.unusedVariables false
set_option linter.unusedSimpArgs false
open Go.RowKit
namespace Ch
def balsV (l : List Acc) (b : List Bal) : Bool := allAt b.length (fun j => fnB l (b.getD j Bal.zero).account && ascAt b j)
theorem bals_eq (l : List Acc) (b : List Bal) : balsV l b = (allAt b.length (fun j => fnB l (b.getD j Bal.zero).account) && ascV b) := allAt_and
theorem bals_asc {l : List Acc} {b : List Bal} (h : balsV l b = true) : ascV b = true := by
  rw [bals_eq] at h
  simp only [Bool.and_eq_true] at h
  exact h.2
theorem bals_found {l : List Acc} {b : List Bal} (h : balsV l b = true) {x : Bal} (hx : x ∈ b) : fnB l x.account = true := by
  obtain ⟨j, hj, rfl⟩ := List.mem_iff_getElem.1 hx
  have := allAt_at h hj
  simp only [Bool.and_eq_true] at this
  rw [Bal.getD_at b j hj] at this
  exact this.1
/-- the sum of the balances whose accounts belong to an account -/
def sumAt (l : List Acc) (m : List Bal) (c : Int) : Int := (m.map fun b => if c ∈ pcl l b.account then b.amount else 0).sum
theorem sumAt_take (l : List Acc) (m : List Bal) (k : Nat) (h : k < m.length) (c : Int) : sumAt l (m.take (k + 1)) c = sumAt l (m.take k) c + if c ∈ pcl l m[k].account then m[k].amount else 0 := by
  unfold sumAt
  rw [List.take_succ_eq_append_getElem h, List.map_append, List.sum_append]
  simp
theorem sumAt_bd (l : List Acc) (m : List Bal) (c : Int) (h : ∀ x ∈ m, amV x.amount = true) : -(1000000000000 * m.length) ≤ sumAt l m c ∧ sumAt l m c ≤ 1000000000000 * m.length := by
  induction m with
  | nil => simp [sumAt]
  | cons x m ih =>
    have h1 := ih (fun y hy => h y (by simp [hy]))
    have h2 := amV_is (h x (by simp))
    have : sumAt l (x :: m) c = (if c ∈ pcl l x.account then x.amount else 0) + sumAt l m c := by simp [sumAt]
    rw [this]
    simp only [List.length_cons]
    split <;> omega
/-- .. a part of one more balance -/
def sumPart (l : List Acc) (m : List Bal) (x : Bal) (p : List Int) (c : Int) : Int := sumAt l m c + if c ∈ p then x.amount else 0
theorem sumPart_nil (l : List Acc) (m : List Bal) (x : Bal) : sumPart l m x [] = sumAt l m := by
  funext c
  simp [sumPart]
theorem sumPart_all (l : List Acc) (m : List Bal) (k : Nat) (h : k < m.length) : sumPart l (m.take k) m[k] (pcl l m[k].account) = sumAt l (m.take (k + 1)) := by
  funext c
  rw [sumAt_take l m k h]
  rfl
theorem sumPart_at (l : List Acc) (m : List Bal) (x : Bal) (p : List Int) (j : Nat) (hj : j < p.length) (hd : p.Nodup) : sumPart l m x (p.take j) p[j] = sumAt l m p[j] := by
  unfold sumPart
  rw [if_neg]
  · omega
  · intro h
    obtain ⟨i, hi, e⟩ := List.mem_iff_getElem.1 h
    simp only [List.length_take] at hi
    rw [List.getElem_take] at e
    exact List.pairwise_iff_getElem.1 hd i j (by omega) hj (by omega) e
theorem mem_take_succ (p : List Int) (j : Nat) (hj : j < p.length) (d : Int) : d ∈ p.take (j + 1) ↔ d ∈ p.take j ∨ d = p[j] := by
  rw [List.take_succ_eq_append_getElem hj, List.mem_append, List.mem_singleton]
theorem sumPart_step (l : List Acc) (m : List Bal) (x : Bal) (p : List Int) (j : Nat) (hj : j < p.length) (hd : p.Nodup) :
    (fun d => if d = p[j] then sumPart l m x (p.take j) p[j] + x.amount else sumPart l m x (p.take j) d) = sumPart l m x (p.take (j + 1)) := by
  funext d
  rw [sumPart_at l m x p j hj hd]
  unfold sumPart
  by_cases h : d = p[j]
  · rw [if_pos h, if_pos ((mem_take_succ p j hj d).2 (.inr h)), h]
  · rw [if_neg h]
    by_cases h2 : d ∈ p.take j
    · rw [if_pos h2, if_pos ((mem_take_succ p j hj d).2 (.inl h2))]
    · rw [if_neg h2, if_neg (fun h3 => by rcases (mem_take_succ p j hj d).1 h3 with h4 | h4 <;> contradiction)]
theorem sumPart_bd (l : List Acc) (m : List Bal) (x : Bal) (p : List Int) (c : Int) (h : ∀ x ∈ m, amV x.amount = true) (hx : amV x.amount = true) : -(1000000000000 * (m.length + 1)) ≤ sumPart l m x p c ∧ sumPart l m x p c ≤ 1000000000000 * (m.length + 1) := by
  have h1 := sumAt_bd l m c h
  have h2 := amV_is hx
  unfold sumPart
  split <;> omega
/-- the rolled balances of some accounts -/
def rollL (l : List Acc) (b : List Bal) (m : List Acc) : List Bal := (m.filter fun a => sumAt l b a.code != 0).map fun a => ⟨a.code, sumAt l b a.code⟩
def rollOk (l : List Acc) (b : List Bal) : Bool := allAt l.length (fun j => amV (sumAt l b (l.getD j zero).code))
def rollE (l : List Acc) (b : List Bal) : Int := if eitherV l && balsV l b then (if rollOk l b then 0 else 2) else 1
def rollV (l : List Acc) (b : List Bal) : List Bal := if eitherV l && balsV l b then (if rollOk l b then rollL l b l else []) else []
theorem rollL_take (l : List Acc) (b : List Bal) (m : List Acc) (k : Nat) (h : k < m.length) : rollL l b (m.take (k + 1)) = if sumAt l b m[k].code = 0 then rollL l b (m.take k) else rollL l b (m.take k) ++ [⟨m[k].code, sumAt l b m[k].code⟩] := by
  unfold rollL
  rw [List.take_succ_eq_append_getElem h, List.filter_append]
  by_cases hp : sumAt l b m[k].code = 0
  · simp [hp]
  · simp [hp]
theorem rollL_len (l : List Acc) (b : List Bal) (m : List Acc) : (rollL l b m).length ≤ m.length := by
  unfold rollL
  rw [List.length_map]
  exact List.length_filter_le _ _
theorem roll_arg {l : List Acc} {b : List Bal} (h : eitherV l = false ∨ balsV l b = false) : rollE l b = 1 ∧ rollV l b = [] := by
  unfold rollE rollV
  rcases h with h | h <;> simp [h]
theorem roll_range {l : List Acc} {b : List Bal} (h1 : eitherV l = true) (h2 : balsV l b = true) {k : Nat} (hk : k < l.length) (h : amV (sumAt l b l[k].code) = false) : rollE l b = 2 ∧ rollV l b = [] := by
  have : rollOk l b = false := allAt_no hk (by rw [getD_at l k hk]; exact h)
  unfold rollE rollV
  simp [h1, h2, this]
theorem roll_fine {l : List Acc} {b : List Bal} (h1 : eitherV l = true) (h2 : balsV l b = true) (h : ∀ j (hj : j < l.length), amV (sumAt l b l[j].code) = true) : rollE l b = 0 ∧ rollV l b = rollL l b l := by
  have : rollOk l b = true := allAt_yes fun j hj => by rw [getD_at l j hj]; exact h j hj
  unfold rollE rollV
  simp [h1, h2, this]
theorem rollV_len (l : List Acc) (b : List Bal) : (rollV l b).length ≤ l.length := by
  unfold rollV
  split
  · split
    · exact rollL_len l b l
    · simp
  · simp
end Ch
end Go.Proofs.Ytjcapeieahffnaa
