/- Pairs of an account and an amount: their cells; lists in order. No program. -/
import Derived.Test.YtpklnlpeedkmdaaLibG
namespace Go.Proofs.Ytpklnlpeedkmdaa
set_option linter.unusedVariables false
set_option linter.unusedSimpArgs false
open Go.RowKit

structure Bal where
  account : Int
  amount : Int
namespace Bal
def zero : Bal := ⟨0, 0⟩
def cells (b : Bal) : List Value := [.int .i64 b.account, .int .i64 b.amount]
theorem one (b : Bal) : ∀ u ∈ cells b, u.oneCell' = true := by
  intro u hu
  simp [cells] at hu
  rcases hu with rfl | rfl <;> rfl
theorem mk_ (r : List Int) (h : r.length = 2) : ∃ a : Bal, cells a = r.map (Value.int .i64) := by
  match r, h with
  | [a, b], _ => exact ⟨⟨a, b⟩, rfl⟩
/-- where the pairs of a list lie -/
theorem at_ {w : World} {B : Nat} {A : Option Addr} {l : List Bal} (h : Rd w B 2 A l.length (cellsOf cells l)) {k : Nat} (hk : k < l.length) :
    ∃ b o, A = some ⟨b, o, none⟩ ∧ b < B ∧ w.cell? ⟨b, o + k * 2, none⟩ = some (.int .i64 l[k].account) ∧ w.cell? ⟨b, o + k * 2 + 1, none⟩ = some (.int .i64 l[k].amount) := by
  obtain ⟨b, o, e, hb, hc⟩ := rd_at (f := cells) (sz := 2) (fun _ => rfl) h hk
  exact ⟨b, o, e, hb, hc 0 _ rfl, hc 1 _ rfl⟩
theorem getD_at (l : List Bal) (k : Nat) (hk : k < l.length) : l.getD k zero = l[k] := by simp [List.getD, hk]
end Bal
instance balInh : Inhabited Bal := ⟨Bal.zero⟩
def amV (n : Int) : Bool := decide (-1000000000000 ≤ n) && decide (n ≤ 1000000000000)
theorem amV_is {n : Int} (h : amV n = true) : -1000000000000 ≤ n ∧ n ≤ 1000000000000 := by unfold amV at h; simpa using h
/-- a condition on every place -/
def allAt (n : Nat) (p : Nat → Bool) : Bool := (List.range n).all p
theorem allAt_no {n k : Nat} {p : Nat → Bool} (hk : k < n) (h : p k = false) : allAt n p = false := by
  unfold allAt
  rw [List.all_eq_false]
  exact ⟨k, by simpa using hk, by simp [h]⟩
theorem allAt_yes {n : Nat} {p : Nat → Bool} (h : ∀ j, j < n → p j = true) : allAt n p = true := by
  unfold allAt
  rw [List.all_eq_true]
  intro j hj
  exact h j (by simpa using hj)
theorem allAt_at {n k : Nat} {p : Nat → Bool} (h : allAt n p = true) (hk : k < n) : p k = true := by
  unfold allAt at h
  rw [List.all_eq_true] at h
  exact h k (by simpa using hk)
theorem allAt_and {n : Nat} {p q : Nat → Bool} : allAt n (fun j => p j && q j) = (allAt n p && allAt n q) := by
  rw [Bool.eq_iff_iff]
  simp only [Bool.and_eq_true]
  constructor
  · intro h
    exact ⟨allAt_yes fun j hj => by have := allAt_at h hj; simp at this; exact this.1, allAt_yes fun j hj => by have := allAt_at h hj; simp at this; exact this.2⟩
  · intro ⟨h1, h2⟩
    exact allAt_yes fun j hj => by simp [allAt_at h1 hj, allAt_at h2 hj]
/-- in order, and amounts that are let -/
def ascAt (b : List Bal) (j : Nat) : Bool := (j == 0 || decide ((b.getD (j - 1) Bal.zero).account < (b.getD j Bal.zero).account)) && amV (b.getD j Bal.zero).amount
def ascV (b : List Bal) : Bool := allAt b.length (ascAt b)
theorem asc_mk {b : List Bal} {k : Nat} (hk : k < b.length) (ho : k = 0 ∨ (b[k - 1]'(by omega)).account < b[k].account) (hm : amV b[k].amount = true) : ascAt b k = true := by
  unfold ascAt
  rw [Bal.getD_at b k hk, Bal.getD_at b (k - 1) (by omega), hm]
  rcases ho with h | h
  · simp [h]
  · simp [h]
theorem asc_no {b : List Bal} {k : Nat} (hk : k < b.length) (h : (0 < k ∧ b[k].account ≤ (b[k - 1]'(by omega)).account) ∨ amV b[k].amount = false) : ascAt b k = false := by
  unfold ascAt
  rw [Bal.getD_at b k hk, Bal.getD_at b (k - 1) (by omega)]
  rcases h with h | h
  · have h0 : (k == 0) = false := by simp; omega
    have h1 : decide ((b[k - 1]'(by omega)).account < b[k].account) = false := by simp; omega
    rw [h0, h1]; simp
  · rw [h]; simp
theorem asc_amount {b : List Bal} (h : ascV b = true) {x : Bal} (hx : x ∈ b) : amV x.amount = true := by
  obtain ⟨j, hj, rfl⟩ := List.mem_iff_getElem.1 hx
  have := allAt_at h hj
  unfold ascAt at this
  rw [Bal.getD_at b j hj] at this
  simp only [Bool.and_eq_true] at this
  exact this.2
end Go.Proofs.Ytpklnlpeedkmdaa
