/- Texts of this claim, put together. -/
import Derived.Test.YtnkmjdaeafeaaaaGreatJAX
import Derived.Test.YtnkmjdaeafeaaaaGreatDivWalksCZ
/- The walk of DividendPosting. -/
namespace Go.Proofs.YtnkmjdaeafeaaaaGreat
set_option linter.unusedVariables false
set_option linter.unusedSimpArgs false
open Go.RowKit

theorem isP_same {kd i k : Int} {L : List Bal} {x z : PostR} (h1 : Dv.IsP kd i k L x) (h2 : Dv.IsP kd i k L z) : SameP x z := by
  obtain ⟨a1, a2, a3⟩ := h1
  obtain ⟨b1, b2, b3⟩ := h2
  rcases a3 with ⟨e, c1, c2, c3⟩ | ⟨e, c1, c2, c3⟩
  · rcases b3 with ⟨_, d1, d2, d3⟩ | ⟨e2, _⟩
    · exact ⟨c1.trans d1.symm, c2.trans d2.symm, c3.trans d3.symm, a2.trans b2.symm, a1.trans b1.symm⟩
    · exact absurd e e2
  · rcases b3 with ⟨e2, _⟩ | ⟨_, d1, d2, d3⟩
    · exact absurd e2 e
    · exact ⟨c1.trans d1.symm, c2.trans d2.symm, c3.trans d3.symm, a2.trans b2.symm, a1.trans b1.symm⟩
theorem clnL_len (m : List Bal) : (clnL m).length ≤ m.length := by
  rcases cln_alt m with ⟨_, h, _⟩ | ⟨_, h, _⟩
  · exact clean_len h
  · rw [h]; exact Nat.zero_le _
theorem pL_len {V : Bool} {p P : Int} {n : Nat} {d r : Int} {l : List ConR} {i k : Int} : (Dv.pL V p P n d r l i k).length ≤ 2 := by
  unfold Dv.pL
  split
  · exact clnL_len _
  · exact Nat.zero_le _
theorem bkOf_one {gcs : Array Value} (h : gcs.all (·.oneCell') = true) : (bkOf gcs).all (·.oneCell') = true := by
  rw [← Array.all_toList, List.all_eq_true] at h ⊢
  intro u hu
  unfold bkOf at hu
  simp only [List.mem_append] at hu
  rcases hu with hu | hu
  · exact h u hu
  · simp only [List.mem_cons, List.not_mem_nil, or_false] at hu
    rcases hu with rfl | rfl | rfl | rfl | rfl | rfl
    all_goals rfl
theorem pin_one {w : World} {g : Nat} {x : PostR} {T : TypeId} (h : Blk w g T x.arr) (hr : Rd w w.heap.size 2 x.parts.A x.parts.l.length (cellsOf Bal.cells x.parts.l)) (hl : x.parts.l.length ≤ 2) : PIn w [x] (some ⟨g, 0, none⟩) := by
  refine ⟨Rd.of_blk h (by simp [cellsOf, PostR.arr, PostR.cells]) rfl, fun y hy => ?_, fun y hy => ?_, by show 1 ≤ 1000000; omega⟩
  · rw [List.mem_singleton] at hy
    subst hy
    exact hr
  · rw [List.mem_singleton] at hy
    subst hy
    omega
theorem one_same {x z : PostR} (h : SameP x z) : ∀ k (h1 : k < [x].length) (h2 : k < [z].length), SameP [x][k] [z][k] := by
  intro k h1 h2
  have : k = 0 := by simp at h1; omega
  subst this
  exact h
theorem books_size : (Tryz.prog.info? 47).map (·.size) = some 27 := by kernel_rfl
theorem both_in {w w2 w3 : World} {base : Nat} {T : TypeId} {v : Value} {l : List ConR} {A : Option Addr} (hO : OIn w l A) (hb : Below w.heap.size w w2) (hv : w2.ownsRow base T 13 v l.length (cellsOf ConR.cells l)) (hl : l.length ≤ 1000) (hf : ∀ x ∈ l, x.items.l.length ≤ 1000) :
    ∃ A2 c2, v = .slice A2 l.length c2 ∧ CIn w2 l A2 := by
  obtain ⟨A2, c2, rfl, hr⟩ := Rd.of_own hv
  exact ⟨A2, c2, rfl, hr, fun x hx => Rd.now (hO.it x hx).1 hb, hf, hl⟩
theorem DFew.its {cur : ByteArray} {cl : List Acc} {el : List EntR} {l : List ConR} (h : DFew cur cl el l) : ∀ x ∈ l, x.items.l.length ≤ 1000 := fun x hx => by
  have := h.it x hx
  unfold conOk at this
  simp only [Bool.and_eq_true, decide_eq_true_eq] at this
  omega
section
variable (cur : ByteArray) (y m p : Int) (cl : List Acc) (cA : Option Addr) (cc : Nat) (ro : RolesR) (el : List EntR) (eA : Option Addr) (ec : Nat) (w : World)
end
end Go.Proofs.YtnkmjdaeafeaaaaGreat
/- The postings of all pairs: which, in which order, and the first error. No walk. -/
namespace Go.Proofs.YtnkmjdaeafeaaaaGreat
set_option linter.unusedVariables false
set_option linter.unusedSimpArgs false
open Go.RowKit

namespace Ps
def row (n : Nat) (i : Nat) : List (Int × Int) := (List.range n).map fun k => ((i : Int), ((k : Nat) : Int))
/-- the pairs before (i, k) -/
def pre (n i k : Nat) : List (Int × Int) := (List.range i).flatMap (row n) ++ (List.range k).map fun j => ((i : Int), ((j : Nat) : Int))
def pairs (n : Nat) : List (Int × Int) := pre n n 0
theorem pre_zero (n : Nat) : pre n 0 0 = [] := rfl
theorem pre_step (n i k : Nat) : pre n i (k + 1) = pre n i k ++ [((i : Int), (k : Int))] := by
  unfold pre
  rw [List.range_succ, List.map_append, List.append_assoc]
  rfl
theorem pre_row (n i : Nat) : pre n i n = pre n (i + 1) 0 := by
  unfold pre
  rw [List.range_succ, List.flatMap_append]
  simp [row]
theorem range_pre {a b : Nat} (h : a ≤ b) : List.range a <+: List.range b := by
  have : (List.range b).take a = List.range a := by rw [List.take_range]; congr 1; omega
  rw [← this]
  exact List.take_prefix _ _
theorem pre_pre {n i k : Nat} (hi : i < n) (hk : k < n) : ∃ r, pairs n = pre n i k ++ ((i : Int), (k : Int)) :: r := by
  have h1 : pre n i (k + 1) <+: pre n (i + 1) 0 := by
    rw [← pre_row]
    unfold pre
    obtain ⟨t, ht⟩ := range_pre (show k + 1 ≤ n by omega)
    exact ⟨t.map fun j => ((i : Int), ((j : Nat) : Int)), by rw [List.append_assoc, ← List.map_append, ht]⟩
  have h2 : pre n (i + 1) 0 <+: pairs n := by
    unfold pairs pre
    obtain ⟨t, ht⟩ := range_pre (show i + 1 ≤ n by omega)
    exact ⟨t.flatMap (row n), by simp [← List.flatMap_append, ht]⟩
  obtain ⟨r, hr⟩ := h1.trans h2
  exact ⟨r, by rw [← hr, pre_step, List.append_assoc]; rfl⟩
noncomputable def E (n : Nat) (f : Int → Int → Int) : Int := match (pairs n).find? (fun x => f x.1 x.2 != 0) with | some x => f x.1 x.2 | none => 0
theorem E_hit {n i k : Nat} {f : Int → Int → Int} (hi : i < n) (hk : k < n) (hno : ∀ x ∈ pre n i k, f x.1 x.2 = 0) (h : f i k ≠ 0) : E n f = f i k := by
  obtain ⟨r, hr⟩ := pre_pre hi hk
  unfold E
  have h0 : (pre n i k).find? (fun x => f x.1 x.2 != 0) = none := by
    rw [List.find?_eq_none]
    intro x hx
    rw [hno x hx]; decide
  rw [hr, List.find?_append, h0, List.find?_cons_of_pos (by simpa using h)]
  rfl
theorem E_none {n : Nat} {f : Int → Int → Int} (hno : ∀ x ∈ pairs n, f x.1 x.2 = 0) : E n f = 0 := by
  unfold E
  have h0 : (pairs n).find? (fun x => f x.1 x.2 != 0) = none := by
    rw [List.find?_eq_none]
    intro x hx
    rw [hno x hx]; decide
  rw [h0]
def some_ (g : Int → Int → List Bal) (x : Int × Int) : Bool := !(g x.1 x.2).isEmpty
/-- postings for pairs -/
def Is (kd : Int) (g : Int → Int → List Bal) (D : List (Int × Int)) (L : List PostR) : Prop :=
  L.length = D.length ∧ ∀ j (h1 : j < L.length) (h2 : j < D.length), Dv.IsP kd D[j].1 D[j].2 (g D[j].1 D[j].2) L[j]
theorem is_nil (kd : Int) (g : Int → Int → List Bal) : Is kd g [] [] := ⟨rfl, fun j h => by simp at h⟩
theorem is_snoc {kd : Int} {g : Int → Int → List Bal} {D : List (Int × Int)} {L : List PostR} {i k : Int} {x : PostR} (h : Is kd g D L) (hx : Dv.IsP kd i k (g i k) x) : Is kd g (D ++ [(i, k)]) (L ++ [x]) := by
  refine ⟨by rw [List.length_append, List.length_append, h.1]; rfl, fun j h1 h2 => ?_⟩
  by_cases e : j < L.length
  · have e2 : j < D.length := by rw [← h.1]; exact e
    rw [List.getElem_append_left e]
    have := h.2 j e e2
    simp only [List.getElem_append_left e2]
    exact this
  · rw [List.length_append, List.length_singleton] at h1
    have ej : j = L.length := by omega
    subst ej
    have e3 : L.length = D.length := h.1
    simp [e3, hx]
theorem filter_yes {g : Int → Int → List Bal} {D : List (Int × Int)} {i k : Int} (h : g i k ≠ []) : (D ++ [(i, k)]).filter (some_ g) = D.filter (some_ g) ++ [(i, k)] := by
  rw [List.filter_append]
  simp [some_, h]
theorem filter_no {g : Int → Int → List Bal} {D : List (Int × Int)} {i k : Int} (h : g i k = []) : (D ++ [(i, k)]).filter (some_ g) = D.filter (some_ g) := by
  rw [List.filter_append]
  simp [some_, h]
end Ps
theorem Ps.same {kd : Int} {g : Int → Int → List Bal} {D : List (Int × Int)} {L M : List PostR} (h1 : Ps.Is kd g D L) (h2 : Ps.Is kd g D M) (same : ∀ {kd i k : Int} {L : List Bal} {x z : PostR}, Dv.IsP kd i k L x → Dv.IsP kd i k L z → x.kind = z.kind ∧ x.entity = z.entity ∧ x.other = z.other ∧ x.rule = z.rule ∧ x.parts.l = z.parts.l) :
    L.length = M.length ∧ ∀ j (a : j < L.length) (b : j < M.length), L[j].kind = M[j].kind ∧ L[j].entity = M[j].entity ∧ L[j].other = M[j].other ∧ L[j].rule = M[j].rule ∧ L[j].parts.l = M[j].parts.l :=
  ⟨h1.1.trans h2.1.symm, fun j a b => same (h1.2 j a (by rw [← h1.1]; exact a)) (h2.2 j b (by rw [← h2.1]; exact b))⟩
end Go.Proofs.YtnkmjdaeafeaaaaGreat
