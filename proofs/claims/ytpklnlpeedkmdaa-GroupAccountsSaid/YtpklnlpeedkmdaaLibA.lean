/- Small laws on the model's operations that the proofs of this claim use; over any program. -/
import Derived.WalkKit
import Derived.WalkSpells
import Derived.WalkLawsBesides
import Derived.Lib.Hide
namespace Go.Proofs.Ytpklnlpeedkmdaa
set_option linter.unusedVariables false
set_option linter.unusedSimpArgs false
open Go.RowKit

theorem ret_bool {a b : Bool} (h : a = b) : Ending.returned (.bool a) = .returned (.bool b) := by rw [h]
theorem ret_int {k : IntKind} {a b : Int} (h : a = b) : Ending.returned (.int k a) = .returned (.int k b) := by rw [h]

theorem ret_pair {k q : IntKind} {a b c d : Int} (h : a = b ∧ c = d) : Ending.returned (.tuple #[.int k a, .int q c]) = .returned (.tuple #[.int k b, .int q d]) := by rw [h.1, h.2]

/-- An element of an array value, elements of one integer cell. -/
theorem run_index_agg1 {P : Program} {t e : TypeId} {n : Nat} {k q : IntKind} {j : TypeInfo} (ht : P.underlying t = some (.array n e)) (he : P.underlying e = some (.int k)) (hi : P.info? e = some j) (hs : j.size = 1)
    (cs : Array Value) (i : Int) (v : Value) (h0 : 0 ≤ i) (hn : i < n) (hv : cs[i.toNat]? = some v) (w : World) : (Instr.index t (.agg cs) (.int q i)).run P w = .ok v w := by
  simp [Instr.index, part, isAgg, run_underlying ht, run_underlying he, sizeOf, typeInfo, hi, hs, h0, hn, hv, asIntOf]

theorem results_tmp4 {fn : Func} {t u v x : Tmp} (h : fn.results = #[.tmp t, .tmp u, .tmp v, .tmp x]) (tmps : Array Value) (P : Program) (w : World) :
    (results fn tmps).run P w = .ok (.tuple #[tmps.getD t undef, tmps.getD u undef, tmps.getD v undef, tmps.getD x undef]) w := by simp [results, h]

/-- The cells of a block that was just made. -/
theorem add_zero_ (b j : Nat) : ((⟨b, 0, none⟩ : Addr).add j) = ⟨b, j, none⟩ := by unfold Addr.add; split <;> simp_all
theorem cells_new (w : World) (cs : Array Value) (t : TypeId) (l : List Value) (hl : cs.toList = l) :
    ∀ (j : Nat) (u : Value), l[j]? = some u → (w.alloc (.cells cs t)).cell? ((⟨w.heap.size, 0, none⟩ : Addr).add j) = some u := by
  intro j u hu
  subst hl
  rw [add_zero_, cell_of_row (w.alloc (.cells cs t)) w.heap.size j cs t (0, 0) (heap_alloc_new w _)]
  simpa using hu

/-- The shape of a row of the call's own that is not empty. -/
theorem own_form {w : World} {base : Nat} {e : TypeId} {size : Nat} {v : Value} {n : Nat} {xs : List Value} (h : w.ownsRow base e size v n xs) (hn : 0 < n) :
    ∃ g cap, v = .slice (some ⟨g, 0, none⟩) n cap ∧ base ≤ g ∧ g < w.heap.size ∧ n ≤ cap := by
  rcases h.2 with ⟨_, h0⟩ | ⟨g, cap, cur, hv, hb, hg, hnc, _⟩
  · omega
  · exact ⟨g, cap, hv, hb, (Array.getElem?_eq_some_iff.1 hg).1, hnc⟩
/-- An append to a row of the call's own leaves all below it as it was. -/
theorem bel_own {w w1 w2 : World} {base : Nat} {e : TypeId} {size : Nat} {v : Value} {n : Nat} {xs : List Value} (h : Below base w w1) (hB : base ≤ w1.heap.size) (hown : w1.ownsRow base e size v n xs) (hg : w1.grownBy w2 v.ownBlock) : Below base w w2 :=
  h.grown hg hB (fun k hk => (hown.lt k hk).1)

theorem bcell {W w1 : World} (hb : Below W.heap.size W w1) : (∀ b o, b < W.heap.size → w1.cell? ⟨b, o, none⟩ = W.cell? ⟨b, o, none⟩) ∧ (∀ b o, b < W.heap.size → w1.frozen? ⟨b, o, none⟩ = W.frozen? ⟨b, o, none⟩) :=
  ⟨fun b o h => hb.cell (p := ⟨b, o, none⟩) h, fun b o h => hb.frozen (p := ⟨b, o, none⟩) h⟩
theorem below_drewN_ {B : Nat} {a w : World} (h : Below B a w) (n : Nat) : Below B a (w.drewN n) := ⟨h.os, h.tape, h.output, h.size, h.block⟩
theorem one_u8 (n : Int) : ∀ u ∈ [Value.int .u8 n], u.oneCell' = true := by
  intro u hu
  simp at hu
  subst hu
  rfl

/-- What holds below the first world's heap is handed on through a call. -/
theorem bel {w w1 w2 : World} (h : Below w.heap.size w w1) (k : Below w1.heap.size w1 w2) : Below w.heap.size w w2 := h.trans (k.mono h.size)
theorem bel' {w w1 w2 : World} (k : Below w1.heap.size w1 w2) (h : Below w.heap.size w w1) : Below w.heap.size w w2 := bel h k
end Go.Proofs.Ytpklnlpeedkmdaa
