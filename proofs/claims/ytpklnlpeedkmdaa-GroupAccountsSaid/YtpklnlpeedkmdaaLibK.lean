/- What an argument is, by its type: structs in structs, slices in slices. Over any program. -/
import Derived.Test.YtpklnlpeedkmdaaLibI
namespace Go.Proofs.Ytpklnlpeedkmdaa
set_option linter.unusedVariables false
set_option linter.unusedSimpArgs false
open Go.RowKit Go.ChangeShapes Go.WideShapes Go.Deep

/-- a slice: its elements, where it lies, its capacity -/
structure Sl (α : Type) where
  l : List α
  A : Option Addr
  cap : Nat
def Sl.val {α : Type} (s : Sl α) : Value := .slice s.A s.l.length s.cap
def Sl.Lies {α : Type} (s : Sl α) (w : World) (f : α → List Value) (sz : Nat) : Prop := Rd w w.heap.size sz s.A s.l.length (cellsOf f s.l) ∧ s.l.length ≤ s.cap ∧ s.cap ≤ maxLen
/-- the cells of type t are those of an a -/
def Opens {H : Type} (enc : TypeId × Value → H) (P : Program) (w : World) (base : Nat) (spare : Nat → Bool) (held : Bool) (t : TypeId) {α : Type} (f : α → List Value) (Q : α → Prop) : Prop :=
  ∀ (n : Nat) (cs : List Value) (x : DataW H × List MemPlace), DataW.trod enc P w base spare held n t cs = some x → ∃ a : α, f a = cs ∧ Q a
def span (P : Program) (l : List Field) : Nat := (l.map fun fd => P.cellsOf fd.type).sum
/-- the fields from offset o on -/
def OpensF {H : Type} (enc : TypeId × Value → H) (P : Program) (w : World) (base : Nat) (spare : Nat → Bool) (held : Bool) (l : List Field) (o : Nat) {α : Type} (f : α → List Value) (Q : α → Prop) : Prop :=
  ∀ (n : Nat) (cs : List Value), (∀ fd ∈ l, ∃ x, DataW.trod enc P w base spare held n fd.type ((cs.drop fd.offset).take (P.cellsOf fd.type)) = some x) → ∃ a : α, f a = (cs.drop o).take (span P l) ∧ Q a
section
variable {H : Type} {enc : TypeId × Value → H} {P : Program} {w : World} {base : Nat} {spare : Nat → Bool} {held : Bool} {t e : TypeId} {α β : Type} {f : α → List Value} {Q : α → Prop} {f2 : β → List Value} {Q2 : β → Prop}
theorem opens_int {k : IntKind} (ht : P.underlying t = some (.int k)) : Opens enc P w base spare held t (fun z : Int => [.int k z]) (fun z => (Lit.int k z).wf = true) := by
  intro n cs x h
  obtain ⟨c, h1, _, h3⟩ := DataW.trod_int ht h
  exact ⟨c, h1.symm, h3⟩
theorem opens_string (ht : P.underlying t = some .string) : Opens enc P w base spare held t (fun z : ByteArray => [.string z]) (fun z => z.size ≤ maxLen) := by
  intro n cs x h
  obtain ⟨c, h1, _, h3⟩ := DataW.trod_string ht h
  exact ⟨c, h1.symm, h3⟩
theorem opens_bool (ht : P.underlying t = some .bool) : Opens enc P w base spare held t (fun z : Bool => [.bool z]) (fun _ => True) := by
  intro n cs x h
  cases n with
  | zero => simp [DataW.trod] at h
  | succ n =>
    unfold DataW.trod at h
    rw [ht] at h
    split at h <;> simp_all
theorem Opens.map (h : Opens enc P w base spare held t f Q) (g : α → β) (hf : ∀ a, f2 (g a) = f a) (hQ : ∀ a, Q a → Q2 (g a)) : Opens enc P w base spare held t f2 Q2 := by
  intro n cs x hx
  obtain ⟨a, h1, h2⟩ := h n cs x hx
  exact ⟨g a, (hf a).trans h1, hQ a h2⟩
theorem opensF_nil (o : Nat) : OpensF enc P w base spare held [] o (fun _ : Unit => []) (fun _ => True) := by
  intro n cs _
  exact ⟨(), by simp [span], trivial⟩
theorem opensF_cons {fd : Field} {l : List Field} {o k : Nat} (h1 : Opens enc P w base spare held fd.type f Q) (ho : fd.offset = o) (hk : P.cellsOf fd.type = k) (h2 : OpensF enc P w base spare held l (o + k) f2 Q2) :
    OpensF enc P w base spare held (fd :: l) o (fun p : α × β => f p.1 ++ f2 p.2) (fun p => Q p.1 ∧ Q2 p.2) := by
  intro n cs h
  obtain ⟨x, hx⟩ := h fd (by simp)
  obtain ⟨a, ha, hQ⟩ := h1 n _ x hx
  obtain ⟨b, hb, hR⟩ := h2 n cs (fun g hg => h g (by simp [hg]))
  refine ⟨(a, b), ?_, hQ, hR⟩
  show f a ++ f2 b = _
  rw [ha, hb, ho, hk]
  have e : span P (fd :: l) = k + span P l := by simp [span, hk]
  rw [e, List.take_add, List.drop_drop]
theorem opens_struct {fs : Array Field} (ht : P.underlying t = some (.struct fs)) (hC : P.cellsOf t = span P fs.toList) (h : OpensF enc P w base spare held fs.toList 0 f Q) : Opens enc P w base spare held t f Q := by
  intro n cs x hx
  obtain ⟨xs, m, _, _, hl, hxs, hf⟩ := DataW.trod_struct ht hx
  obtain ⟨a, ha, hQ⟩ := h m cs (fun fd hfd => by
    obtain ⟨i, hi, e⟩ := List.mem_iff_getElem.1 hfd
    have h1 := hf i fd (by rw [← e]; simp)
    have hi' : i < xs.length := by rw [hxs]; simpa using hi
    exact ⟨xs[i], by rw [h1]; exact List.getElem?_eq_getElem hi'⟩)
  refine ⟨a, ?_, hQ⟩
  rw [ha, List.drop_zero, ← hC, ← hl, List.take_length]
theorem opens_slice {sz : Nat} (ht : P.underlying t = some (.slice e)) (hC : P.cellsOf e = sz) (hsz : 0 < sz) [Inhabited α] (hlen : ∀ a, (f a).length = sz) (h : Opens enc P w base spare held e f Q) :
    Opens enc P w base spare held t (fun s : Sl α => [s.val]) (fun s => s.Lies w f sz ∧ ∀ a ∈ s.l, Q a) := by
  intro n cs x hx
  rcases open_slice ht hx with ⟨hcs, -⟩ | ⟨a, len, cap, m, n, D, Pl, hcs, hb, hl, hm, hmm, -, hi⟩
  · exact ⟨⟨[], none, 0⟩, hcs.symm, ⟨Rd.none_, by simp, by simp [maxLen]⟩, fun a ha => by simp at ha⟩
  · have hml : len ≤ m := by rw [hmm]; split <;> omega
    have hrow : ∀ i, i < len → ∃ y : α, (∀ j u, (f y)[j]? = some u → w.cell? (a.add (i * sz + j)) = some u) ∧ Q y := by
      intro i hil
      obtain ⟨cs', hc, hd⟩ := hi i (by omega)
      obtain ⟨y, hy, hQ⟩ := h n cs' _ hd
      rw [hC] at hc
      obtain ⟨_, hcl, hat⟩ := World.cells?_some hc
      refine ⟨y, fun j u hu => ?_, hQ⟩
      rw [hy] at hu
      have hj : j < sz := by
        have := (List.getElem?_eq_some_iff.1 hu).1
        omega
      have := hat j hj
      rw [Go.Deep.add_add] at this
      rw [this]; exact hu
    obtain ⟨V, hV⟩ := choose_lt (α := α) (p := fun i x => (∀ j u, (f x)[j]? = some u → w.cell? (a.add (i * sz + j)) = some u) ∧ Q x) hrow
    refine ⟨⟨(List.range len).map V, some a, cap⟩, by simp [Sl.val, hcs], ⟨?_, by simpa using hl, hm⟩, fun x hx => ?_⟩
    · exact rd_mk (w := w) (a := a) (l := (List.range len).map V) hlen hsz (fun k hk j u hu => by
        simp only [List.getElem_map, List.getElem_range] at hu
        exact (hV k (by simpa using hk)).1 j u hu)
    · simp only [List.mem_map, List.mem_range] at hx
      obtain ⟨i, hi, rfl⟩ := hx
      exact (hV i hi).2
/-- an argument that is a struct -/
theorem opens_agg {r : Reach} {b0 : Nat} {fs : Array Field} {v : Value} {d : DataW H} {p : List MemPlace} (ht : P.underlying t = some (.struct fs)) (h : Opens enc P w base spare held t f Q)
    (hv : Value.okWide P w r b0 t v) (hd : DataW.Trod enc P w base spare held t v d p) : ∃ a : α, v = .agg (f a).toArray ∧ Q a := by
  obtain ⟨cs, rfl, _⟩ := okWide_struct ht hv
  obtain ⟨fuel, hf⟩ := hd
  obtain ⟨a, h1, h2⟩ := h fuel _ _ hf
  refine ⟨a, ?_, h2⟩
  rw [h1]
  simp [Value.cells]
/-- an argument that is a slice -/
theorem opens_sl {r : Reach} {b0 : Nat} {v : Value} {d : DataW H} {p : List MemPlace} {R : Sl α → Prop} (ht : P.underlying t = some (.slice e)) (h : Opens enc P w base spare held t (fun s : Sl α => [s.val]) R)
    (hv : Value.okWide P w r b0 t v) (hd : DataW.Trod enc P w base spare held t v d p) : ∃ s : Sl α, v = s.val ∧ R s := by
  obtain ⟨A, n, c, rfl⟩ := okWide_slice ht hv
  obtain ⟨fuel, hf⟩ := hd
  obtain ⟨a, h1, h2⟩ := h fuel _ _ hf
  refine ⟨a, ?_, h2⟩
  simp [Value.cells] at h1
  exact h1.symm
end
end Go.Proofs.Ytpklnlpeedkmdaa
