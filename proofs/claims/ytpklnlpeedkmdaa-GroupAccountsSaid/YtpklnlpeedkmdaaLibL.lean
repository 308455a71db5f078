/- Great structs: a block is loaded whole, its cells unseen. Over any program. -/
import Derived.Test.YtpklnlpeedkmdaaLibJ
import Derived.BigFrame
import Derived.Laws.Rows
import Derived.Laws.Tables
namespace Go.Proofs.Ytpklnlpeedkmdaa
set_option linter.unusedVariables false
set_option linter.unusedSimpArgs false
open Go.RowKit

section
variable {P : Program} {ops : Array Oper} {w W : World} {o : Oper} {rest : List Oper} {a : Act} {g : Nat} {t T : TypeId} {cs : Array Value} {fs : Array Field}
theorem run_load_blk (x : Operand) (ho : o.op = .load T x) (hx : a.eval x = .pointer (some ⟨g, 0, none⟩)) (h : Blk w g t cs) (hu : P.underlying T = some (.struct fs))
    (hi : (P.info? T).map (·.size) = some cs.size) : (execOp a.eval o).run P w = .ok (.value (.agg cs)) w := by
  unfold execOp
  simp only [ho, hx, Instr.loadAt, Instr.sureAddr, Sem.run_bind, Sem.run_pure, Result.andThen_ok, run_loadVar_row w g t T cs (0, 0) _ h hu rfl hi]
theorem wpList_load_blk {Q : Exit → Act → World → Prop} (T : TypeId) (x : Operand) (ho : o.op = .load T x) (g : Nat) (hx : a.eval x = .pointer (some ⟨g, 0, none⟩)) (hw : Region.wanted o (yielded ops a.tmps) = true)
    (h : Blk w g t cs) (hu : P.underlying T = some (.struct fs)) (hi : (P.info? T).map (·.size) = some cs.size)
    (hK : wpList P ops Q rest (a.put o.dst (.agg cs)) w) : wpList P ops Q (o :: rest) a w :=
  BigFrame.wpList_want hw fun _ hh => wp_load_row T x ho g hx t cs (0, 0) _ h hu rfl hi (hh _ _ hK)
theorem quiet_load_blk {Q : Act → Prop} (T : TypeId) (x : Operand) (ho : o.op = .load T x) (g : Nat) (hx : a.eval x = .pointer (some ⟨g, 0, none⟩)) (hw : Region.wanted o (yielded ops a.tmps) = true)
    (h : Blk W g t cs) (hu : P.underlying T = some (.struct fs)) (hi : (P.info? T).map (·.size) = some cs.size)
    (hK : wpQuiet P ops (fun w' => ∃ d : Later W, w' = d.now) Q rest (a.put o.dst (.agg cs))) : wpQuiet P ops (fun w' => ∃ d : Later W, w' = d.now) Q (o :: rest) a := by
  refine BigFrame.wpQuiet_want hw fun K hh => ⟨.agg cs, fun w' hw' => ?_, hh _ hK⟩
  obtain ⟨dd, rfl⟩ := hw'
  unfold Oper.quietAt
  rw [run_load_blk x ho hx (h.step dd.below) hu hi]
  exact ⟨rfl, rfl⟩
theorem rel_load_blk {Q : Exit → Act → World → Prop} {i fuel : Nat} {listed : Array Bool} (hl : ops.toList.drop i = o :: rest) (T : TypeId) (x : Operand) (ho : o.op = .load T x) (g : Nat) (hx : a.eval x = .pointer (some ⟨g, 0, none⟩))
    (hs : Region.noSelect ops = true) (hf : Region.free .any ops listed i = true) (hr : (Region.ready .any ops listed).contains i = true)
    (hw : Region.wanted o (yielded ops a.tmps) = true) (hQ : ∀ c a v w, Q (.panic c) (Act.put a o.dst v) w → Q (.panic c) a w) (hS : Near W w)
    (h : Blk W g t cs) (hu : P.underlying T = some (.struct fs)) (hi : (P.info? T).map (·.size) = some cs.size)
    (hK : wpAnyH P .any ops Q (fun w' => ∃ d : Later W, w' = d.now) fuel (listed.setIfInBounds i true) (a.put o.dst (.agg cs)) w) :
    wpAnyH P .any ops Q (fun w' => ∃ d : Later W, w' = d.now) (fuel + 1) listed a w := by
  refine wpAnyH_take (v := .agg cs) (drop_at hl) hs hf hr (fun c a w h => hQ c a _ w h) (.inl ⟨hw, fun w' hw' => ?_⟩) hS hK
  obtain ⟨dd, rfl⟩ := hw'
  exact run_load_blk x ho hx (h.step dd.below) hu hi
theorem wpList_isSlice {Q : Exit → Act → World → Prop} (t : TypeId) (len : Nat) (parts : Array (Nat × Operand)) (ho : o.op = .buildSlice t len parts) (h : wpList P ops Q (o :: rest) a w) : wpList P ops Q (o :: rest) a w := h
theorem wpList_built {Q : Exit → Act → World → Prop} (hg : o.guard = none) (dst : Tmp) (hdst : o.dst = some dst) (T : TypeId) (parts : Array (Nat × Operand)) (ho : o.op = .build T parts) (cs : Array Value)
    (h : P.built T (parts.map fun (i, x) => (i, a.eval x)).toList = some cs) (hK : wpList P ops Q rest (a.put (some dst) (.agg cs)) w) : wpList P ops Q (o :: rest) a w := by
  refine wpList_plain hg fun K' hK' => ?_
  have h1 : (execOp a.eval o).run P w = .ok (.value (.agg cs)) w := by
    unfold execOp
    simp only [ho, Sem.run_bind, Sem.run_pure, Result.andThen_ok, run_build w T _ cs h]
  unfold Oper.wp
  rw [h1, Oper.upon_value, hdst]
  exact hK' _ _ hK
end
end Go.Proofs.Ytpklnlpeedkmdaa
