/- Texts of this claim, put together. -/
import Derived.Test.YthfbpbbepogllaaJAW
/- Inventory notes, and what their profits come to. No walk. -/
namespace Go.Proofs.Ythfbpbbepogllaa
set_option linter.unusedVariables false
set_option linter.unusedSimpArgs false
open Go.RowKit

structure StkR where
  period : Int
  seller : Int
  buyer : Int
  amount : Int
  margin : Int
instance inhStkR : Inhabited StkR := ⟨⟨0, 0, 0, 0, 0⟩⟩
def StkR.cells (x : StkR) : List Value := [.int .i64 x.period, .int .i64 x.seller, .int .i64 x.buyer, .int .i64 x.amount, .int .i64 x.margin]
def StkR.arr (x : StkR) : Array Value := #[.int .i64 x.period, .int .i64 x.seller, .int .i64 x.buyer, .int .i64 x.amount, .int .i64 x.margin]
theorem StkR.len (x : StkR) : x.cells.length = 5 := rfl
def StkR.Ok (_ : World) (x : StkR) : Prop := Wf x.period ∧ Wf x.seller ∧ Wf x.buyer ∧ Wf x.amount ∧ Wf x.margin
theorem StkR.at_ {w : World} {B : Nat} {A : Option Addr} {l : List StkR} (h : Rd w B 5 A l.length (cellsOf StkR.cells l)) {k : Nat} (hk : k < l.length) :
    ∃ b o, A = some ⟨b, o, none⟩ ∧ b < B ∧ w.cell? ⟨b, o + k * 5, none⟩ = some (.int .i64 l[k].period) ∧ w.cell? ⟨b, o + k * 5 + 1, none⟩ = some (.int .i64 l[k].seller) ∧ w.cell? ⟨b, o + k * 5 + 2, none⟩ = some (.int .i64 l[k].buyer) ∧ w.cell? ⟨b, o + k * 5 + 3, none⟩ = some (.int .i64 l[k].amount) ∧ w.cell? ⟨b, o + k * 5 + 4, none⟩ = some (.int .i64 l[k].margin) := by
  obtain ⟨b, o, e, hb, hc⟩ := rd_at (f := StkR.cells) (sz := 5) (fun _ => rfl) h hk
  exact ⟨b, o, e, hb, hc 0 _ rfl, hc 1 _ rfl, hc 2 _ rfl, hc 3 _ rfl, hc 4 _ rfl⟩
theorem StkR.one (x : StkR) : ∀ u ∈ x.cells, u.oneCell' = true := by
  intro u hu
  simp only [StkR.cells, List.mem_cons, List.not_mem_nil, or_false] at hu
  rcases hu with rfl | rfl | rfl | rfl | rfl
  all_goals rfl
/-- the index of an entity -/
def Iv.ent (n : Nat) (i : Int) : Bool := decide (0 ≤ i) && decide (i < n)
/-- a note of a valid group -/
def Iv.ok (p : Int) (n : Nat) (x : StkR) : Bool := decide (0 ≤ x.period) && (decide (x.period < p) && (Iv.ent n x.seller && (Iv.ent n x.buyer && (x.seller != x.buyer && (decide (0 ≤ x.amount) && (decide (x.amount ≤ 1000000000000) && (decide (0 ≤ x.margin) && decide (x.margin ≤ 10000))))))))
def Iv.val (V : Bool) (p : Int) (n : Nat) (l : List StkR) : Bool := V && (decide (l.length ≤ 200) && l.all (Iv.ok p n))
/-- the note counts for a seller, a buyer and a period -/
def Iv.hit (s b q : Int) (x : StkR) : Bool := x.period == q && (x.seller == s && x.buyer == b)
def Iv.one (x : StkR) : Int := rndV (x.amount * x.margin)
def Iv.sum (s b q : Int) (l : List StkR) : Int := ((l.filter (Iv.hit s b q)).map Iv.one).sum
theorem iv_ent {n : Nat} {i : Int} : Iv.ent n i = true ↔ 0 ≤ i ∧ i < n := by simp [Iv.ent]
theorem iv_ok {p : Int} {n : Nat} {x : StkR} : Iv.ok p n x = true ↔ 0 ≤ x.period ∧ x.period < p ∧ Iv.ent n x.seller = true ∧ Iv.ent n x.buyer = true ∧ x.seller ≠ x.buyer ∧ 0 ≤ x.amount ∧ x.amount ≤ 1000000000000 ∧ 0 ≤ x.margin ∧ x.margin ≤ 10000 := by
  simp only [Iv.ok, Bool.and_eq_true, decide_eq_true_eq, bne_iff_ne]
theorem iv_mul {p : Int} {n : Nat} {x : StkR} (h : Iv.ok p n x = true) : 0 ≤ x.amount * x.margin ∧ x.amount * x.margin ≤ 10000000000000000 := by
  obtain ⟨_, _, _, _, _, a, b, c, d⟩ := iv_ok.1 h
  refine ⟨Int.mul_nonneg a c, ?_⟩
  calc x.amount * x.margin ≤ 1000000000000 * 10000 := Int.mul_le_mul b d c (by omega)
    _ = 10000000000000000 := rfl
theorem rnd_in {a : Int} (h0 : 0 ≤ a) (h1 : a ≤ 10000000000000000) : 0 ≤ rndV a ∧ rndV a ≤ 1000000000000 := by
  unfold rndV
  split <;> omega
theorem iv_one {p : Int} {n : Nat} {x : StkR} (h : Iv.ok p n x = true) : 0 ≤ Iv.one x ∧ Iv.one x ≤ 1000000000000 := by
  obtain ⟨a, b⟩ := iv_mul h
  exact rnd_in a b
theorem iv_sum_in {p : Int} {n : Nat} (s b q : Int) : ∀ (l : List StkR), l.all (Iv.ok p n) = true → 0 ≤ Iv.sum s b q l ∧ Iv.sum s b q l ≤ 1000000000000 * l.length
  | [], _ => by simp [Iv.sum]
  | x :: r, h => by
    simp only [List.all_cons, Bool.and_eq_true] at h
    obtain ⟨i1, i2⟩ := iv_sum_in s b q r h.2
    obtain ⟨o1, o2⟩ := iv_one h.1
    unfold Iv.sum at *
    rw [List.filter_cons]
    split
    · simp only [List.map_cons, List.sum_cons, List.length_cons]; omega
    · simp only [List.length_cons]; omega
theorem iv_sum_take (s b q : Int) (l : List StkR) (k : Nat) (hk : k < l.length) : Iv.sum s b q (l.take (k + 1)) = Iv.sum s b q (l.take k) + if Iv.hit s b q l[k] = true then Iv.one l[k] else 0 := by
  unfold Iv.sum
  rw [List.take_add_one, List.getElem?_eq_getElem hk, Option.toList_some, List.filter_append, List.map_append, List.sum_append]
  congr 1
  by_cases h : Iv.hit s b q l[k] = true
  · rw [if_pos h]; simp [List.filter, h]
  · rw [if_neg h]; simp [List.filter, h]
end Go.Proofs.Ythfbpbbepogllaa
/- The walks of Received, of 'full' and of 'check', and of their references. -/
namespace Go.Proofs.Ythfbpbbepogllaa
set_option linter.unusedVariables false
set_option linter.unusedSimpArgs false
open Go.RowKit

section
variable (gcs : Array Value) (cur : ByteArray) (y m p : Int) (cl : List Acc) (cA : Option Addr) (cc : Nat) (ro : RolesR) (el : List EntR) (eA : Option Addr) (ec : Nat) (w : World)
end
end Go.Proofs.Ythfbpbbepogllaa
