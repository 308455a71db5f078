/- Small laws on the model's operations that the proofs of this claim use; over any program. -/
import Derived.WalkKit
import Derived.WalkSpells
import Derived.WalkLawsBesides
import Derived.Lib.Hide
namespace Go.Proofs.Ytaglhkjfbdafjaa
open Go.RowKit

theorem ret_bool {a b : Bool} (h : a = b) : Ending.returned (.bool a) = .returned (.bool b) := by rw [h]
theorem ret_int {k : IntKind} {a b : Int} (h : a = b) : Ending.returned (.int k a) = .returned (.int k b) := by rw [h]

theorem ret_pair {k q : IntKind} {a b c d : Int} (h : a = b ∧ c = d) : Ending.returned (.tuple #[.int k a, .int q c]) = .returned (.tuple #[.int k b, .int q d]) := by rw [h.1, h.2]

/-- An element of an array value, elements of one integer cell. -/
theorem run_index_agg1 {P : Program} {t e : TypeId} {n : Nat} {k q : IntKind} {j : TypeInfo} (ht : P.underlying t = some (.array n e)) (he : P.underlying e = some (.int k)) (hi : P.info? e = some j) (hs : j.size = 1)
    (cs : Array Value) (i : Int) (v : Value) (h0 : 0 ≤ i) (hn : i < n) (hv : cs[i.toNat]? = some v) (w : World) : (Instr.index t (.agg cs) (.int q i)).run P w = .ok v w := by
  simp [Instr.index, part, isAgg, run_underlying ht, run_underlying he, sizeOf, typeInfo, hi, hs, h0, hn, hv, asIntOf]

theorem results_tmp4 {fn : Func} {t u v x : Tmp} (h : fn.results = #[.tmp t, .tmp u, .tmp v, .tmp x]) (tmps : Array Value) (P : Program) (w : World) :
    (results fn tmps).run P w = .ok (.tuple #[tmps.getD t undef, tmps.getD u undef, tmps.getD v undef, tmps.getD x undef]) w := by simp [results, h]

/-- What holds below the first world's heap is handed on through a call. -/
theorem bel {w w1 w2 : World} (h : Below w.heap.size w w1) (k : Below w1.heap.size w1 w2) : Below w.heap.size w w2 := h.trans (k.mono h.size)
end Go.Proofs.Ytaglhkjfbdafjaa
