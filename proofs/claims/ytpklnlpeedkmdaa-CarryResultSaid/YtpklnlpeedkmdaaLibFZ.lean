/- Texts of this claim, put together. -/
import Derived.Test.YtpklnlpeedkmdaaJAB
import Derived.OrdersHeld
/- A region that draws its order: operations that read are taken first, one after the other; a call comes up alone. Over any program. -/
namespace Go.Proofs.Ytpklnlpeedkmdaa
set_option linter.unusedVariables false
set_option linter.unusedSimpArgs false
open Go.RowKit

/-- operations that yield one value and change nothing, if they do not fail -/
def plainB : Op → Bool
  | .move _ | .assign _ | .pick _ _ _ | .load _ _ | .fieldAddr _ _ _ | .field _ _ _ | .indexAddr _ _ _ | .index _ _ _ | .lookup _ _ _ _ | .binOp _ _ _ _ _ | .unOp _ _ _ | .convert _ _ _ | .extract _ _ | .build _ _ => true
  | .call c => match c.callee with
    | .builtin .len => true
    | _ => false
  | _ => false
theorem then_ok {α β : Type} {r : Result α} {f : α → World → Result β} {b : β} {w' : World} (h : r.andThen f = .ok b w') : ∃ a w1, r = .ok a w1 ∧ f a w1 = .ok b w' := by
  cases r with
  | ok a w1 => exact ⟨a, w1, rfl, h⟩
  | halt x w1 => cases h
theorem plain_bind {P : Program} {s : Sem Value} {w w' : World} {n : Next} (h : (do let x ← s; pure (Next.value x) : Sem Next).run P w = .ok n w') : ∃ v, n = .value v := by
  rw [Sem.run_bind] at h
  obtain ⟨a, w1, _, h2⟩ := then_ok h
  simp at h2
  exact ⟨a, h2.1.symm⟩
theorem plain_value {P : Program} {ρ : Operand → Value} {o : Oper} {w w' : World} {n : Next} (h : plainB o.op = true) (hr : (execOp ρ o).run P w = .ok n w') : ∃ v, n = .value v := by
  unfold execOp at hr
  cases ho : o.op <;> rw [ho] at h <;> first | (cases h; done) | skip
  all_goals simp only [ho] at hr
  all_goals first
    | exact plain_bind hr
    | (rw [Sem.run_bind] at hr; obtain ⟨x, w1, _, h2⟩ := then_ok hr; simp at h2; exact ⟨_, h2.1.symm⟩)
    | (simp at hr; exact ⟨_, hr.1.symm⟩)
    | skip
  rename_i c
  simp only [plainB] at h
  split at h
  · rename_i hc
    unfold resolve at hr
    simp only [hc] at hr
    rw [Sem.run_bind] at hr
    obtain ⟨a, w1, h1, h2⟩ := then_ok hr
    simp at h1
    obtain ⟨rfl, rfl⟩ := h1
    simp only [invoke, builtin] at h2
    exact plain_bind h2
  · cases h

/-- a world that came later -/
def Near (W w : World) : Prop := ∃ d : Later W, w = d.now
theorem Near.of {W w : World} (h : Below W.heap.size W w) : Near W w := ⟨⟨w, h⟩, rfl⟩
theorem Near.below {W w : World} (h : Near W w) : Below W.heap.size W w := by obtain ⟨d, rfl⟩ := h; exact d.below
theorem Near.drew (W : World) : Near W W.drew := Near.of (Below.refl _ _).drew
theorem Near.on {W w w' : World} (h : Near W w) (hb : Below w.heap.size w w') : Near W w' := Near.of (bel h.below hb)

section
variable {P : Program} {ops : Array Oper} {Q : Exit → Act → World → Prop} {W w : World} {i fuel : Nat} {o : Oper} {a : Act} {listed : Array Bool}
theorem rel_begin {id n : Nat} {l : List Oper} (W : World) (hm : P.follows .mixedOrders = true) (hn : l.length = n)
    (h : wpAnyH P .any l.toArray Q (fun w' => ∃ d : Later W, w' = d.now) n (Array.replicate n false) a w.drew) : (Code.region id l.toArray true).wp P Q a w := by
  subst hn
  exact wp_region_held hm (by simpa using h)
theorem drop_at {rest : List Oper} (h : ops.toList.drop i = o :: rest) : ops[i]? = some o := by
  rw [← Array.getElem?_toList, ← Nat.add_zero i, ← List.getElem?_drop, h]
  rfl
theorem rel_want {rest : List Oper} (hl : ops.toList.drop i = o :: rest) (hp : plainB o.op = true) (hs : Region.noSelect ops = true) (hf : Region.free .any ops listed i = true) (hr : (Region.ready .any ops listed).contains i = true)
    (hw : Region.wanted o (yielded ops a.tmps) = true) (hQ : ∀ c a v w, Q (.panic c) (Act.put a o.dst v) w → Q (.panic c) a w) (hS : Near W w)
    (h : ∀ K : Act → Prop, (∀ a', wpAnyH P .any ops Q (fun w' => ∃ d : Later W, w' = d.now) fuel (listed.setIfInBounds i true) a' w → K a') → o.quiet P a (fun w' => ∃ d : Later W, w' = d.now) K) :
    wpAnyH P .any ops Q (fun w' => ∃ d : Later W, w' = d.now) (fuel + 1) listed a w := by
  obtain ⟨v, h1, h2⟩ := h (fun a' => wpAnyH P .any ops Q (fun w' => ∃ d : Later W, w' = d.now) fuel (listed.setIfInBounds i true) a' w) (fun _ h => h)
  refine wpAnyH_take (v := v) (drop_at hl) hs hf hr (fun c a w h => hQ c a _ w h) (.inl ⟨hw, fun w' hw' => ?_⟩) hS h2
  have h3 := h1 w' hw'
  unfold Oper.quietAt at h3
  generalize hx : (execOp a.eval o).run P w' = r at h3
  cases r with
  | ok n w2 =>
    obtain ⟨u, rfl⟩ := plain_value hp hx
    simp only [Oper.quietUpon] at h3
    rw [h3.1, h3.2]
  | halt x w2 => simp only [Oper.quietUpon] at h3
theorem rel_skip {rest : List Oper} (hl : ops.toList.drop i = o :: rest) (hs : Region.noSelect ops = true) (hf : Region.free .any ops listed i = true) (hr : (Region.ready .any ops listed).contains i = true)
    (hw : Region.wanted o (yielded ops a.tmps) = false) (hQ : ∀ c a v w, Q (.panic c) (Act.put a o.dst v) w → Q (.panic c) a w) (hS : Near W w)
    (h : wpAnyH P .any ops Q (fun w' => ∃ d : Later W, w' = d.now) fuel (listed.setIfInBounds i true) (a.put o.dst undef) w) :
    wpAnyH P .any ops Q (fun w' => ∃ d : Later W, w' = d.now) (fuel + 1) listed a w :=
  wpAnyH_take (v := undef) (drop_at hl) hs hf hr (fun c a w h => hQ c a _ w h) (.inr ⟨hw, rfl⟩) hS h
theorem rel_call {rest : List Oper} (hr : Region.ready .any ops listed = [i]) (hl : ops.toList.drop i = o :: rest) (hw : Region.wanted o (yielded ops a.tmps) = true)
    (h : ∀ K : Act → World → Prop, (∀ a' w', Near W w' → (Near W w' → wpAnyH P .any ops Q (fun w' => ∃ d : Later W, w' = d.now) fuel (listed.setIfInBounds i true) a' w') → K a' w') → o.wp P a w K Q) :
    wpAnyH P .any ops Q (fun w' => ∃ d : Later W, w' = d.now) (fuel + 1) listed a w := by
  refine wpAnyH_all hr (by simp) fun j hj => ?_
  simp only [List.mem_singleton] at hj
  subst hj
  unfold wpOp
  rw [drop_at hl]
  show if Region.wanted o (yielded ops a.tmps) = true then _ else _
  rw [if_pos hw]
  exact .inl (h _ fun a' w' hn hh => ⟨hn, hh hn⟩)
end
end Go.Proofs.Ytpklnlpeedkmdaa
