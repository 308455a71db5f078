/- Texts of this claim, put together. -/
import Derived.Test.YtnkmjdaeafeaaaaLibBZ
import Derived.Test.YtnkmjdaeafeaaaaJAB
import Derived.Test.YtnkmjdaeafeaaaaApiZ
import Derived.Test.YtnkmjdaeafeaaaaRows
import Derived.JoinedCond
import Derived.Test.YtnkmjdaeafeaaaaJAE
import Derived.Test.YtnkmjdaeafeaaaaJAR
/- The row's last step for a statement that bounds what is read; what that bound says of lists in structs. -/
namespace Go.Proofs.Ytnkmjdaeafeaaaa
set_option linter.unusedVariables false
set_option linter.unusedSimpArgs false
open Go.RowKit Go.WideShapes Go.ChangeShapes Go.Deep

section
variable {H : Type} {enc : TypeId × Value → H}
theorem law_contract {C : Checked} {f : FuncId} {fn : Func} {s : ChangeSpec} {apart fresh handsOn again : Bool} {ts : List TypeId} {tb : TypeId}
    (hl : laidOutB C.prog = true) (hp : fn.params.toList = ts) (hts : (ts.all fun t => C.prog.readableRec t && decide (t < C.prog.types.size)) = true)
    (hr : fn.resultTypes = #[tb]) (hb : C.prog.underlying tb = some .bool) (hvars : s.vars = [])
    (hspec : ∀ ds : List (DataW H), ds.length = ts.length → s.fn H ds = { results := [.lit (.bool true)], args := ds })
    (walk : ∀ (W : World) (base : Nat) (args : Array Value) (ds : List (DataW H)) (p : List MemPlace), Rows.uptoSmall H ds = true →
      (∀ (j : Nat) t v, ts[j]? = some t → args[j]? = some v → Value.okWide C.prog W .any base t v) →
      DataW.TrodAll enc C.prog W 0 (fun _ => true) true ts args.toList ds p →
      Calls C.prog f args W fun e W' => e = .returned (.bool true) ∧ Below W.heap.size W W')
    (W : World) (base : Nat) (args : Array Value) (ds gs : List (DataW H)) (before : List MemPlace)
    (hval : ∀ (j : Nat) t v, fn.params[j]? = some t → args[j]? = some v → Value.okWide C.prog W .any base t v)
    (hW : DataW.Whole enc C.prog fn.params.toList s.vars apart W args.toList ds gs before) (hk : Rows.uptoSmall H (ds ++ gs) = true) :
    Calls C.prog f args W fun e W' => ∃ v, e = .returned v ∧ s.post enc C.prog fn apart fresh handsOn again W args v W' := by
  have hW' := hW
  obtain ⟨p, q, hA, hV, rfl, hfz, hnd⟩ := hW
  rw [hp] at hA
  rw [hvars] at hV
  obtain ⟨rfl, rfl⟩ : gs = [] ∧ q = [] := by
    cases gs with
    | nil => exact ⟨rfl, by simpa [DataW.TrodVars] using hV⟩
    | cons g gs => simp [DataW.TrodVars] at hV
  have hlen : ∀ (ts : List TypeId) (vs : List Value) (ds : List (DataW H)) (ps : List MemPlace), DataW.TrodAll enc C.prog W 0 (fun _ => true) true ts vs ds ps → ds.length = ts.length := by
    intro ts
    induction ts with
    | nil => intro vs ds ps h; cases vs <;> cases ds <;> simp_all [DataW.TrodAll]
    | cons t ts ih =>
      intro vs ds ps h
      cases vs with
      | nil => simp [DataW.TrodAll] at h
      | cons v vs =>
        cases ds with
        | nil => simp [DataW.TrodAll] at h
        | cons d ds => obtain ⟨_, _, _, h2, _⟩ := h; simp [ih _ _ _ h2]
  have hs := hspec ds (hlen _ _ _ _ hA)
  rw [List.append_nil] at hk
  refine (walk W base args ds p hk (fun j t v ht hv => hval j t v (by rw [← ht, ← hp]; simp) hv) hA).mono fun e W' ⟨he, hbel⟩ => ?_
  refine ⟨_, he, ?_⟩
  have hlt : ∀ x ∈ p, x.block < W.heap.size := fun x hx => hW'.lt x (by simpa using hx)
  refine post_of_below (pa := p) (pv := []) hW' ?_ ?_ ?_ rfl hbel ?_
  · intro b sp hd
    rw [hr]
    simp only [List.append_nil]
    rw [hs]
    exact trodAll_cons_mk (shut_bool hb _) trodAll_mk0
  · intro sp hsp
    simp only [List.append_nil]
    rw [hs, hp]
    exact trodAll_stays hl ts _ _ _ hts hA (fun x hx => hbel.same (hlt x hx)) (fun x hx => hsp x (by simpa using hx))
  · intro sp _
    rw [hvars]
    simp only [List.append_nil]
    rw [hs]
    exact rfl
  · exact ok_one hr rfl (okWide_bool_mk hb _)
end

theorem bulk_one {H : Type} (d : DataW H) : 1 ≤ Rows.uptoBulk d := by
  cases d with
  | lit l => cases l <;> simp [Rows.uptoBulk]
  | nil => simp [Rows.uptoBulk]
  | ptr d => simp [Rows.uptoBulk]
  | slice elems spare => simp [Rows.uptoBulk]
  | agg parts => simp [Rows.uptoBulk]
  | iface t d => simp [Rows.uptoBulk]
  | map entries => simp [Rows.uptoBulk]
  | held h => simp [Rows.uptoBulk]
theorem bulk_le {H : Type} {d : DataW H} {l : List (DataW H)} (h : d ∈ l) : Rows.uptoBulk d ≤ Rows.uptoBulkAll l := by
  induction l with
  | nil => cases h
  | cons x r ih =>
    simp only [Rows.uptoBulkAll]
    cases List.mem_cons.1 h with
    | inl e => subst e; omega
    | inr e => have := ih e; omega
theorem bulk_all {H : Type} {l : List (DataW H)} (h : Rows.uptoSmall H l = true) : Rows.uptoBulkAll l ≤ 1048576 := of_decide_eq_true h
/-- the cells of type t are those of an a, whose weight the reading's bulk bounds -/
def OpensM {H : Type} (enc : TypeId × Value → H) (P : Program) (w : World) (base : Nat) (spare : Nat → Bool) (held : Bool) (t : TypeId) {α : Type} (f : α → List Value) (Q : α → Prop) (μ : α → Nat) : Prop :=
  ∀ (n : Nat) (cs : List Value) (x : DataW H × List MemPlace), DataW.trod enc P w base spare held n t cs = some x → ∃ a : α, f a = cs ∧ Q a ∧ μ a ≤ Rows.uptoBulk x.1
def OpensFM {H : Type} (enc : TypeId × Value → H) (P : Program) (w : World) (base : Nat) (spare : Nat → Bool) (held : Bool) (l : List Field) (o : Nat) {α : Type} (f : α → List Value) (Q : α → Prop) (μ : α → Nat) : Prop :=
  ∀ (n : Nat) (cs : List Value) (xs : List (DataW H × List MemPlace)), xs.length = l.length → (∀ (i : Nat) (fd : Field), l[i]? = some fd → DataW.trod enc P w base spare held n fd.type ((cs.drop fd.offset).take (P.cellsOf fd.type)) = xs[i]?) →
    ∃ a : α, f a = (cs.drop o).take (span P l) ∧ Q a ∧ μ a ≤ Rows.uptoBulkAll (xs.map (·.1))
section
variable {H : Type} {enc : TypeId × Value → H} {P : Program} {w : World} {base : Nat} {spare : Nat → Bool} {held : Bool} {t e : TypeId} {α β : Type} {f : α → List Value} {Q : α → Prop} {f2 : β → List Value} {Q2 : β → Prop} {μ : α → Nat} {μ2 : β → Nat}
theorem opensM_of (h : Opens enc P w base spare held t f Q) : OpensM enc P w base spare held t f Q (fun _ => 1) := by
  intro n cs x hx
  obtain ⟨a, h1, h2⟩ := h n cs x hx
  exact ⟨a, h1, h2, bulk_one _⟩
theorem OpensM.map (h : OpensM enc P w base spare held t f Q μ) (g : α → β) (hf : ∀ a, f2 (g a) = f a) (hQ : ∀ a, Q a → Q2 (g a)) (hμ : ∀ a, μ2 (g a) ≤ μ a) : OpensM enc P w base spare held t f2 Q2 μ2 := by
  intro n cs x hx
  obtain ⟨a, h1, h2, h3⟩ := h n cs x hx
  exact ⟨g a, (hf a).trans h1, hQ a h2, Nat.le_trans (hμ a) h3⟩
theorem opensFM_nil (o : Nat) : OpensFM enc P w base spare held [] o (fun _ : Unit => []) (fun _ => True) (fun _ => 0) := by
  intro n cs xs _ _
  exact ⟨(), by simp [span], trivial, Nat.zero_le _⟩
theorem opensFM_cons {fd : Field} {l : List Field} {o k : Nat} (h1 : OpensM enc P w base spare held fd.type f Q μ) (ho : fd.offset = o) (hk : P.cellsOf fd.type = k) (h2 : OpensFM enc P w base spare held l (o + k) f2 Q2 μ2) :
    OpensFM enc P w base spare held (fd :: l) o (fun p : α × β => f p.1 ++ f2 p.2) (fun p => Q p.1 ∧ Q2 p.2) (fun p => μ p.1 + μ2 p.2) := by
  intro n cs xs hl h
  cases xs with
  | nil => simp at hl
  | cons x xs =>
    obtain ⟨a, ha, hQ, hm⟩ := h1 n _ x (h 0 fd rfl)
    obtain ⟨b, hb, hR, hm2⟩ := h2 n cs xs (by simpa using hl) (fun i g hg => h (i + 1) g (by simpa using hg))
    refine ⟨(a, b), ?_, ⟨hQ, hR⟩, ?_⟩
    · show f a ++ f2 b = _
      rw [ha, hb, ho, hk]
      have e : span P (fd :: l) = k + span P l := by simp [span, hk]
      rw [e, List.take_add, List.drop_drop]
    · simp only [List.map_cons, Rows.uptoBulkAll]
      omega
theorem opensM_struct {fs : Array Field} (ht : P.underlying t = some (.struct fs)) (hC : P.cellsOf t = span P fs.toList) (h : OpensFM enc P w base spare held fs.toList 0 f Q μ) : OpensM enc P w base spare held t f Q (fun a => μ a + 1) := by
  intro n cs x hx
  obtain ⟨xs, m, _, rfl, hl, hxs, hf⟩ := DataW.trod_struct ht hx
  obtain ⟨a, ha, hQ, hm⟩ := h m cs xs (by simpa using hxs) (fun i fd hfd => hf i fd (by simpa using hfd))
  refine ⟨a, ?_, hQ, ?_⟩
  · rw [ha, List.drop_zero, ← hC, ← hl, List.take_length]
  · simp only [Rows.uptoBulk]
    omega
theorem bulk_range (D : Nat → DataW H) (V : Nat → α) (len : Nat) (h : ∀ i, i < len → μ (V i) ≤ Rows.uptoBulk (D i)) : (((List.range len).map V).map μ).sum ≤ Rows.uptoBulkAll ((List.range len).map D) := by
  have key : ∀ l : List Nat, (∀ i ∈ l, i < len) → ((l.map V).map μ).sum ≤ Rows.uptoBulkAll (l.map D) := by
    intro l
    induction l with
    | nil => intro _; simp [Rows.uptoBulkAll]
    | cons a l ih =>
      intro hl
      have h1 := h a (hl a (by simp))
      have h2 := ih (fun i hi => hl i (by simp [hi]))
      simp only [List.map_cons, List.sum_cons, Rows.uptoBulkAll]
      omega
  exact key _ (fun i hi => by simpa using hi)
theorem opensM_slice {sz : Nat} (ht : P.underlying t = some (.slice e)) (hC : P.cellsOf e = sz) (hsz : 0 < sz) [Inhabited α] (hlen : ∀ a, (f a).length = sz) (h : OpensM enc P w base spare held e f Q μ) :
    OpensM enc P w base spare held t (fun s : Sl α => [s.val]) (fun s => s.Lies w f sz ∧ ∀ a ∈ s.l, Q a) (fun s => (s.l.map μ).sum) := by
  intro n cs x hx
  rcases open_slice ht hx with ⟨hcs, -⟩ | ⟨a, len, cap, m, n, D, Pl, hcs, hb, hl, hm, hmm, hxx, hi⟩
  · exact ⟨⟨[], none, 0⟩, hcs.symm, ⟨⟨Rd.none_, by simp, by simp [maxLen]⟩, fun a ha => by simp at ha⟩, by simp⟩
  · have hml : len ≤ m := by rw [hmm]; split <;> omega
    have hrow : ∀ i, i < len → ∃ y : α, (∀ j u, (f y)[j]? = some u → w.cell? (a.add (i * sz + j)) = some u) ∧ Q y ∧ μ y ≤ Rows.uptoBulk (D i) := by
      intro i hil
      obtain ⟨cs', hc, hd⟩ := hi i (by omega)
      obtain ⟨y, hy, hQ, hμ⟩ := h n cs' _ hd
      rw [hC] at hc
      obtain ⟨_, hcl, hat⟩ := World.cells?_some hc
      refine ⟨y, fun j u hu => ?_, hQ, hμ⟩
      rw [hy] at hu
      have hj : j < sz := by
        have := (List.getElem?_eq_some_iff.1 hu).1
        omega
      have := hat j hj
      rw [Go.Deep.add_add] at this
      rw [this]; exact hu
    obtain ⟨V, hV⟩ := choose_lt (α := α) (p := fun i x => (∀ j u, (f x)[j]? = some u → w.cell? (a.add (i * sz + j)) = some u) ∧ Q x ∧ μ x ≤ Rows.uptoBulk (D i)) hrow
    refine ⟨⟨(List.range len).map V, some a, cap⟩, by simp [Sl.val, hcs], ⟨⟨?_, by simpa using hl, hm⟩, fun x hx => ?_⟩, ?_⟩
    · exact rd_mk (w := w) (a := a) (l := (List.range len).map V) hlen hsz (fun k hk j u hu => by
        simp only [List.getElem_map, List.getElem_range] at hu
        exact (hV k (by simpa using hk)).1 j u hu)
    · simp only [List.mem_map, List.mem_range] at hx
      obtain ⟨i, hi, rfl⟩ := hx
      exact (hV i hi).2.1
    · rw [hxx]
      have := bulk_range (H := H) D V len (fun i hi => (hV i hi).2.2)
      simp only [Rows.uptoBulk]
      omega
/-- an argument that is a struct -/
theorem opensM_agg {r : Reach} {b0 : Nat} {fs : Array Field} {v : Value} {d : DataW H} {p : List MemPlace} (ht : P.underlying t = some (.struct fs)) (h : OpensM enc P w base spare held t f Q μ)
    (hv : Value.okWide P w r b0 t v) (hd : DataW.Trod enc P w base spare held t v d p) : ∃ a : α, v = .agg (f a).toArray ∧ Q a ∧ μ a ≤ Rows.uptoBulk d := by
  obtain ⟨cs, rfl, _⟩ := okWide_struct ht hv
  obtain ⟨fuel, hf⟩ := hd
  obtain ⟨a, h1, h2, h3⟩ := h fuel _ _ hf
  refine ⟨a, ?_, h2, h3⟩
  rw [h1]
  simp [Value.cells]
end
section
variable {H : Type} {enc : TypeId × Value → H} {w : World} {base : Nat} {spare : Nat → Bool} {held : Bool}
theorem opensM_Bal : OpensM enc Try.prog w base spare held 129 Bal.cells (Bal.Ok w) (fun _ => 3) :=
  (opensM_struct Try.underlying129 (by kernel_rfl) (opensFM_cons (k := 1) (opensM_of (opens_int Try.underlying3)) rfl (by kernel_rfl) (opensFM_cons (k := 1) (opensM_of (opens_int Try.underlying3)) rfl (by kernel_rfl) (opensFM_nil _)))).map (fun p => ⟨p.1, p.2.1⟩) (fun _ => rfl) (fun _ h => ⟨h.1, h.2.1⟩) (fun _ => Nat.le_refl _)
theorem opensM_Balance : OpensM enc Try.prog w base spare held 50 Bal.cells (Bal.Ok w) (fun _ => 3) :=
  (opensM_struct Try.underlying50 (by kernel_rfl) (opensFM_cons (k := 1) (opensM_of (opens_int Try.underlying3)) rfl (by kernel_rfl) (opensFM_cons (k := 1) (opensM_of (opens_int Try.underlying3)) rfl (by kernel_rfl) (opensFM_nil _)))).map (fun p => ⟨p.1, p.2.1⟩) (fun _ => rfl) (fun _ h => ⟨h.1, h.2.1⟩) (fun _ => Nat.le_refl _)
theorem opensM_ItemR : OpensM enc Try.prog w base spare held 87 ItemR.cells (ItemR.Ok w) (fun _ => 3) :=
  (opensM_struct Try.underlying87 (by kernel_rfl) (opensFM_cons (k := 2) (opensM_of opens_RefR) rfl (by kernel_rfl) (opensFM_cons (k := 1) (opensM_of (opens_int Try.underlying3)) rfl (by kernel_rfl) (opensFM_cons (k := 1) (opensM_of (opens_int Try.underlying3)) rfl (by kernel_rfl) (opensFM_cons (k := 1) (opensM_of (opens_int Try.underlying3)) rfl (by kernel_rfl) (opensFM_cons (k := 1) (opensM_of (opens_int Try.underlying3)) rfl (by kernel_rfl) (opensFM_cons (k := 1) (opensM_of (opens_int Try.underlying3)) rfl (by kernel_rfl) (opensFM_nil _)))))))).map (fun p => ⟨p.1, p.2.1, p.2.2.1, p.2.2.2.1, p.2.2.2.2.1, p.2.2.2.2.2.1⟩) (fun _ => rfl) (fun _ h => ⟨h.1, h.2.1, h.2.2.1, h.2.2.2.1, h.2.2.2.2.1, h.2.2.2.2.2.1⟩) (fun _ => by omega)
theorem opensM_PostR : OpensM enc Try.prog w base spare held 55 PostR.cells (PostR.Ok w) (fun p => (p.parts.l.map fun _ => 3).sum + 3) :=
  (opensM_struct Try.underlying55 (by kernel_rfl) (opensFM_cons (k := 1) (opensM_of (opens_int Try.underlying3)) rfl (by kernel_rfl) (opensFM_cons (k := 1) (opensM_of (opens_int Try.underlying3)) rfl (by kernel_rfl) (opensFM_cons (k := 1) (opensM_of (opens_int Try.underlying3)) rfl (by kernel_rfl) (opensFM_cons (k := 1) (opensM_of (opens_int Try.underlying3)) rfl (by kernel_rfl) (opensFM_cons (k := 1) (opensM_slice Try.underlying53 (by kernel_rfl) (by decide) Bal.len opensM_Bal) rfl (by kernel_rfl) (opensFM_nil _))))))).map (fun p => ⟨p.1, p.2.1, p.2.2.1, p.2.2.2.1, p.2.2.2.2.1⟩) (fun _ => rfl) (fun _ h => ⟨h.1, h.2.1, h.2.2.1, h.2.2.2.1, h.2.2.2.2.1⟩) (fun _ => by simp only; omega)
end
end Go.Proofs.Ytnkmjdaeafeaaaa
/- What the bound on the reading of a group gives. -/
namespace Go.Proofs.Ytnkmjdaeafeaaaa
set_option linter.unusedVariables false
set_option linter.unusedSimpArgs false
open Go.RowKit Go.WideShapes Go.ChangeShapes Go.Deep

def entWt (e : EntR) : Nat := (e.chart.l.map fun _ => 5).sum + (e.links.l.map fun _ => 4).sum
section
variable {H : Type} {enc : TypeId × Value → H} {w : World} {base : Nat} {spare : Nat → Bool} {held : Bool}
theorem opensM_Acc : OpensM enc Try.prog w base spare held 124 Acc.cells (Acc.Ok w) (fun _ => 5) :=
  (opensM_struct Try.underlying124 (by kernel_rfl) (opensFM_cons (k := 1) (opensM_of (opens_int Try.underlying3)) rfl (by kernel_rfl) (opensFM_cons (k := 1) (opensM_of (opens_int Try.underlying3)) rfl (by kernel_rfl) (opensFM_cons (k := 1) (opensM_of (opens_int Try.underlying3)) rfl (by kernel_rfl) (opensFM_cons (k := 1) (opensM_of (opens_int Try.underlying3)) rfl (by kernel_rfl) (opensFM_nil _)))))).map (fun p => (⟨p.1, p.2.1, p.2.2.1, p.2.2.2.1⟩ : Acc)) (fun _ => rfl) (fun _ h => ⟨h.1, h.2.1, h.2.2.1, h.2.2.2.1⟩) (fun _ => Nat.le_refl _)
theorem opensM_LinkR : OpensM enc Try.prog w base spare held 168 LinkR.cells (LinkR.Ok w) (fun _ => 4) :=
  (opensM_struct Try.underlying168 (by kernel_rfl) (opensFM_cons (k := 1) (opensM_of (opens_int Try.underlying3)) rfl (by kernel_rfl) (opensFM_cons (k := 1) (opensM_of (opens_int Try.underlying3)) rfl (by kernel_rfl) (opensFM_cons (k := 1) (opensM_of (opens_int Try.underlying3)) rfl (by kernel_rfl) (opensFM_nil _))))).map (fun p => (⟨p.1, p.2.1, p.2.2.1⟩ : LinkR)) (fun _ => rfl) (fun _ h => ⟨h.1, h.2.1, h.2.2.1⟩) (fun _ => Nat.le_refl _)
theorem opensM_EntR : OpensM enc Try.prog w base spare held 36 EntR.cells (EntR.Ok w) entWt :=
  (opensM_struct Try.underlying36 (by kernel_rfl) (opensFM_cons (k := 1) (opensM_of (opens_string Try.underlying9)) rfl (by kernel_rfl) (opensFM_cons (k := 1) (opensM_of (opens_string Try.underlying9)) rfl (by kernel_rfl) (opensFM_cons (k := 1) (opensM_slice Try.underlying24 (by kernel_rfl) (by decide) Acc.len opensM_Acc) rfl (by kernel_rfl) (opensFM_cons (k := 1) (opensM_slice Try.underlying34 (by kernel_rfl) (by decide) LinkR.len opensM_LinkR) rfl (by kernel_rfl) (opensFM_cons (k := 1) (opensM_of (opens_bool Try.underlying4)) rfl (by kernel_rfl) (opensFM_nil _))))))).map (fun p => (⟨p.1, p.2.1, p.2.2.1, p.2.2.2.1, p.2.2.2.2.1⟩ : EntR)) (fun _ => rfl) (fun _ h => ⟨h.1, h.2.1, h.2.2.1, h.2.2.2.1, h.2.2.2.2.1⟩) (fun _ => by simp only [entWt]; omega)
theorem opensM_GrpR : OpensM enc Try.prog w base spare held 29 GrpR.cells (GrpR.Ok w) (fun g => (g.entities.l.map entWt).sum) :=
  (opensM_struct Try.underlying29 (by kernel_rfl) (opensFM_cons (k := 1) (opensM_of (opens_string Try.underlying9)) rfl (by kernel_rfl) (opensFM_cons (k := 3) (opensM_of opens_CalR) rfl (by kernel_rfl) (opensFM_cons (k := 1) (opensM_slice Try.underlying24 (by kernel_rfl) (by decide) Acc.len opensM_Acc) rfl (by kernel_rfl) (opensFM_cons (k := 15) (opensM_of opens_RolesR) rfl (by kernel_rfl) (opensFM_cons (k := 1) (opensM_slice Try.underlying27 (by kernel_rfl) (by decide) EntR.len opensM_EntR) rfl (by kernel_rfl) (opensFM_nil _))))))).map (fun p => (⟨p.1, p.2.1, p.2.2.1, p.2.2.2.1, p.2.2.2.2.1⟩ : GrpR)) (fun _ => rfl) (fun _ h => ⟨h.1, h.2.1, h.2.2.1, h.2.2.2.1, h.2.2.2.2.1⟩) (fun _ => by simp only; omega)
end
theorem sum_const {α : Type} (l : List α) (c : Nat) : (l.map fun _ => c).sum = c * l.length := by
  induction l with
  | nil => rfl
  | cons a l ih => simp only [List.map_cons, List.sum_cons, ih, List.length_cons, Nat.mul_succ]; omega
theorem sum_mem {α : Type} {l : List α} {a : α} (h : a ∈ l) (f : α → Nat) : f a ≤ (l.map f).sum := by
  induction l with
  | nil => cases h
  | cons b l ih =>
    simp only [List.map_cons, List.sum_cons]
    rcases List.mem_cons.1 h with rfl | h
    · omega
    · have := ih h; omega
theorem ents_few {el : List EntR} {n : Nat} (h : (el.map entWt).sum ≤ n) (hn : n ≤ 1048576) : ∀ j (h : j < el.length), el[j].chart.l.length ≤ 300000 ∧ el[j].links.l.length ≤ 300000 := by
  intro j hj
  have h1 := Nat.le_trans (sum_mem (List.getElem_mem hj) entWt) h
  unfold entWt at h1
  rw [sum_const, sum_const] at h1
  omega
end Go.Proofs.Ytnkmjdaeafeaaaa
/- The walk of PostingValid. -/
namespace Go.Proofs.Ytnkmjdaeafeaaaa
set_option linter.unusedVariables false
set_option linter.unusedSimpArgs false
open Go.RowKit

theorem PostR.of {w : World} {kd en ot ru : Int} {L : List Bal} {A : Option Addr} {c : Nat} (h : PostR.Ok w ⟨kd, en, ot, ru, ⟨L, A, c⟩⟩) : Rd w w.heap.size 2 A L.length (cellsOf Bal.cells L) ∧ L.length ≤ maxLen :=
  ⟨h.2.2.2.2.1.1, Nat.le_trans h.2.2.2.2.1.2.1 h.2.2.2.2.1.2.2⟩
section
variable (cur : ByteArray) (y m p : Int) (cl : List Acc) (cA : Option Addr) (cc : Nat) (ro : RolesR) (el : List EntR) (eA : Option Addr) (ec : Nat) (w : World)
set_option maxRecDepth 100000 in
set_option maxHeartbeats 8000000 in
theorem law_PostingValid (kd en ot ru : Int) (L : List Bal) (A : Option Addr) (c : Nat) (h : GIn w cl cA el eA) (hc : cur.size ≤ maxLen) (hcl : cl.length ≤ maxLen) (hel : el.length ≤ maxLen) (hE : ∀ j (h : j < el.length), el[j].chart.l.length ≤ 300000 ∧ el[j].links.l.length ≤ 300000)
    (hr : Rd w w.heap.size 2 A L.length (cellsOf Bal.cells L)) (hL : L.length ≤ maxLen) :
    Calls Try.prog 5 #[.agg #[.string cur, .int .i64 y, .int .i64 m, .int .i64 p, .slice cA cl.length cc, .int .i64 ro.investment, .int .i64 ro.goodwill, .int .i64 ro.associates, .int .i64 ro.inventory, .int .i64 ro.reserve, .int .i64 ro.minority, .int .i64 ro.retained, .int .i64 ro.acquired, .int .i64 ro.owners, .int .i64 ro.disposal, .int .i64 ro.associateProfit, .int .i64 ro.dividends, .int .i64 ro.minorityProfit, .int .i64 ro.difference, .int .i64 ro.margin, .slice eA el.length ec], .agg #[.int .i64 kd, .int .i64 en, .int .i64 ot, .int .i64 ru, .slice A L.length c]] w fun e w' => e = .returned (.bool true) ∧ Below w.heap.size w w' := by
  have H := Lib.hid h
  have HR := Lib.hid hr
  have HEN := Lib.hid hE
  clear h hr hE
  obtain ⟨gcs, hgc⟩ : ∃ x : Array Value, x = #[.string cur, .int .i64 y, .int .i64 m, .int .i64 p, .slice cA cl.length cc, .int .i64 ro.investment, .int .i64 ro.goodwill, .int .i64 ro.associates, .int .i64 ro.inventory, .int .i64 ro.reserve, .int .i64 ro.minority, .int .i64 ro.retained, .int .i64 ro.acquired, .int .i64 ro.owners, .int .i64 ro.disposal, .int .i64 ro.associateProfit, .int .i64 ro.dividends, .int .i64 ro.minorityProfit, .int .i64 ro.difference, .int .i64 ro.margin, .slice eA el.length ec] := ⟨_, rfl⟩
  have hgi : (Try.prog.info? 29).map (·.size) = some gcs.size := by rw [hgc]; exact grp_size
  have HG := Lib.hid hgc
  rw [← hgc]
  clear hgc
  have hb : Below w.heap.size w ((w.alloc (.cells gcs 29)).alloc (.cells #[.int .i64 kd, .int .i64 en, .int .i64 ot, .int .i64 ru, .slice A L.length c] 55)) := ((Below.refl _ _).alloc (Nat.le_refl _) _).alloc (by simp) _
  have HB := Lib.hid ((Blk.new w 29 gcs).alloc (.cells #[.int .i64 kd, .int .i64 en, .int .i64 ot, .int .i64 ru, .slice A L.length c] 55))
  have HP := Lib.hid (blk_new2 w (.cells gcs 29) 55 #[.int .i64 kd, .int .i64 en, .int .i64 ot, .int .i64 ru, .slice A L.length c])
  go_enter Try.func5, Try.ntmps5
  go_wp2_with fail
  generalize (w.alloc (.cells gcs 29)).alloc (.cells #[.int .i64 kd, .int .i64 en, .int .i64 ot, .int .i64 ru, .slice A L.length c] 55) = W at *
  refine (post_awake _).mono ?_
  rintro e w2 ⟨rfl, hb9⟩
  replace hb := bel hb hb9
  replace HB := Lib.hid (HB.out.step hb9)
  replace HP := Lib.hid (HP.out.step hb9)
  clear hb9
  have k4 : w2.cell? ⟨w.heap.size + 1, 4, none⟩ = some (.slice A L.length c) := HP.out.cell 4
  have g4 : w2.cell? ⟨w.heap.size, 4, none⟩ = some (.slice cA cl.length cc) := (HB.out.cell 4).trans (by rw [HG.out]; rfl)
  have g20 : w2.cell? ⟨w.heap.size, 20, none⟩ = some (.slice eA el.length ec) := (HB.out.cell 20).trans (by rw [HG.out]; rfl)
  have hsm := small_any L A c w2 (Rd.now HR.out hb) hL
  cases hs : smallV L
  · rw [hs] at hsm
    have HSM := Lib.hid hsm
    clear hsm hs
    go_wp2_with (go_at_call 21; refine HSM.out.mono ?_; rintro e w3 ⟨rfl, rfl⟩)
    go_ret
    exact ⟨rfl, hb⟩
  · have HL := Lib.hid (small_is hs).2
    rw [hs] at hsm
    have HSM := Lib.hid hsm
    clear hsm hs
    by_cases h1 : cl.length ≤ 300
    · by_cases h2 : el.length ≤ 20
      · have OK : Hid (FewOk cur cl el) := Lib.hid ⟨h1, h2, hc, HEN.out⟩
        have K1 := Lib.hid (fun W h hr => pvalid_any gcs cur y m p cl cA cc ro el eA ec W kd en ot ru L A c HG h OK.out hr HL.out)
        have K2 := Lib.hid (fun W h hr => rpvalid_any gcs cur y m p cl cA cc ro el eA ec W kd en ot ru L A c HG h OK.out hr HL.out)
        generalize pv (Gr.gv cur cl ro el (Cal.ok y m p)) cl kd en ot ru L = V at *
        have hvv : (V == V) = true := by simp
        have q0 : ∀ d : Later w2, d.now.cell? ⟨w.heap.size + 1, 0, none⟩ = some (.int .i64 kd) := fun d => d.cell HP.out.lt (HP.out.cell 0)
        have q1 : ∀ d : Later w2, d.now.cell? ⟨w.heap.size + 1, 1, none⟩ = some (.int .i64 en) := fun d => d.cell HP.out.lt (HP.out.cell 1)
        have q2 : ∀ d : Later w2, d.now.cell? ⟨w.heap.size + 1, 2, none⟩ = some (.int .i64 ot) := fun d => d.cell HP.out.lt (HP.out.cell 2)
        have q3 : ∀ d : Later w2, d.now.cell? ⟨w.heap.size + 1, 3, none⟩ = some (.int .i64 ru) := fun d => d.cell HP.out.lt (HP.out.cell 3)
        have q4 : ∀ d : Later w2, d.now.cell? ⟨w.heap.size + 1, 4, none⟩ = some (.slice A L.length c) := fun d => d.cell HP.out.lt (HP.out.cell 4)
        go_wp2_with (go_at_call 21; refine HSM.out.mono ?_; rintro e w3 ⟨rfl, rfl⟩)
        refine wp_region_later (by kernel_rfl) (by kernel_rfl) ?_
        (repeat (go_big_quiet_step ((fail)))); refine quiet_load_blk 29 (.tmp 2) rfl (w.heap.size) rfl (by kernel_rfl) (HB).out Try.underlying29 hgi ?_; (try simp only [Act.put, List.setIfInBounds_toArray, List.set_cons_zero, List.set_cons_succ])
        (repeat (go_big_quiet_step ((fail)))); go_big_quiet_step ((go_at_call 22; exact Later.call _ (K1.out _ (H.out.step (bel hb (Later.below _))) (Rd.now HR.out (bel hb (Later.below _))))))
        (repeat (go_big_quiet_step ((fail)))); refine quiet_load_blk 29 (.tmp 2) rfl (w.heap.size) rfl (by kernel_rfl) (HB).out Try.underlying29 hgi ?_; (try simp only [Act.put, List.setIfInBounds_toArray, List.set_cons_zero, List.set_cons_succ])
        (repeat (go_big_quiet_step ((fail)))); go_big_quiet_step ((go_at_call 23; exact Later.call _ (K2.out _ (H.out.step (bel hb (Later.below _))) (Rd.now HR.out (bel hb (Later.below _))))))
        (repeat (go_big_quiet_step ((fail)))); refine wpQuiet_nil ?_; rintro _ ⟨dq, rfl⟩
        have hbe := bel hb dq.below
        go_wp2_with fail
        go_ret
        exact ⟨rfl, hbe⟩
      · have h2' : 20 < el.length := by omega
        go_wp2_with (go_at_call 21; refine HSM.out.mono ?_; rintro e w3 ⟨rfl, rfl⟩)
        go_ret
        exact ⟨rfl, hb⟩
    · have h1' : 300 < cl.length := by omega
      go_wp2_with (go_at_call 21; refine HSM.out.mono ?_; rintro e w3 ⟨rfl, rfl⟩)
      go_ret
      exact ⟨rfl, hb⟩
end
end Go.Proofs.Ytnkmjdaeafeaaaa
