/- Texts of this claim, put together. -/
import Derived.Test.YtnddoehhcpejjaaGreatJAA
import Derived.ProofKit
import Derived.OpenShut
import Derived.ChangeSame
import Derived.Test.YtnddoehhcpejjaaGreatJAB
import Derived.Test.YtnddoehhcpejjaaGreatApiZ
import Derived.Test.YtnddoehhcpejjaaGreatRows
import Derived.JoinedCond
import Derived.Test.YtnddoehhcpejjaaGreatJBG
/- The row's last step where the walk ends in a world of which 'Below' is known. Over any program. -/
namespace Go.Proofs.YtnddoehhcpejjaaGreat
set_option linter.unusedVariables false
set_option linter.unusedSimpArgs false
open Go.RowKit Go.WideShapes Go.ChangeShapes

section
variable {H : Type} {enc : TypeId × Value → H} {P : Program}
theorem post_of_below {f : Func} {s : ChangeSpec} {apart fresh handsOn again : Bool} {W W' : World} {args : Array Value} {v : Value} {ds gs : List (DataW H)} {before pa pv : List MemPlace}
    (hW : DataW.Whole enc P f.params.toList s.vars apart W args.toList ds gs before)
    (hres : ∀ (b : Nat) (sp : Nat → Bool) (hd : Bool), DataW.TrodAll enc P W' b sp hd f.resultTypes.toList (v.resultList f.resultTypes.size) (s.fn H (ds ++ gs)).results [])
    (hargs : ∀ sp : Nat → Bool, (∀ p ∈ before, sp p.block = true) → DataW.TrodAll enc P W' 0 sp true f.params.toList args.toList (s.fn H (ds ++ gs)).args pa)
    (hvars : ∀ sp : Nat → Bool, (∀ p ∈ before, sp p.block = true) → DataW.TrodVars enc P W' sp s.vars (s.fn H (ds ++ gs)).vars pv)
    (hps : before = pa ++ pv) (hb : Below W.heap.size W W')
    (hok : ∀ (j : Nat) (t : TypeId) (r : Value), f.resultTypes[j]? = some t → (v.resultList f.resultTypes.size)[j]? = some r → Value.okWide P W' .any 0 t r) :
    s.post enc P f apart fresh handsOn again W args v W' := by
  have hlt : ∀ p ∈ before, p.block < W.heap.size := fun p hp => hW.lt p hp
  have hold : ∀ p ∈ before, (fun b => decide (b < W.heap.size)) p.block = true := fun p hp => by simpa using hlt p hp
  refine ⟨ds, gs, before, [], pa, pv, hW, hres _ _ _, hargs _ hold, hvars _ hold, World.keptBut_mono (fun p hp => ⟨hp, ?_⟩) (hb.frame (· ∈ before)), fun _ => ?_⟩
  · rw [hps, List.mem_append] at hp
    exact Or.inr hp
  · obtain ⟨_, _, _, _, _, hz, hn⟩ := hW
    refine ⟨hok, _, _, ([] ++ pa) ++ pv, ⟨[] ++ pa, pv, trodAll_append (hargs _ (fun _ _ => rfl)) (hres _ _ _), hvars _ (fun _ _ => rfl), rfl, ?_, ?_⟩, ?_⟩
    · intro b off hp
      have hin : MemPlace.cell b off ∈ before := by rw [hps]; simpa using hp
      rw [hb.frozen (hlt _ hin)]
      exact hz b off hin
    · intro ha
      have := hn ha
      rw [hps] at this
      simpa using this
    · intro p hp _
      rw [hps]
      simpa using hp

/-- Arguments read as they did where nothing below the old heap has turned. -/
theorem trodAll_stays {W W' : World} {sp : Nat → Bool} (hl : laidOutB P = true) :
    ∀ (ts : List TypeId) (vs : List Value) (ds : List (DataW H)) (ps : List MemPlace), (ts.all fun t => P.readableRec t && decide (t < P.types.size)) = true →
      DataW.TrodAll enc P W 0 (fun _ => true) true ts vs ds ps → (∀ x ∈ ps, W.sameAt W' x) → (∀ x ∈ ps, sp x.block = true) → DataW.TrodAll enc P W' 0 sp true ts vs ds ps := by
  intro ts
  induction ts with
  | nil =>
    intro vs ds ps _ h _ _
    cases vs <;> cases ds <;> simp_all [DataW.TrodAll]
  | cons t ts ih =>
    intro vs ds ps hr h hs hp
    cases vs with
    | nil => simp [DataW.TrodAll] at h
    | cons v vs =>
      cases ds with
      | nil => simp [DataW.TrodAll] at h
      | cons d ds =>
        obtain ⟨p, q, h1, h2, rfl⟩ := h
        simp only [List.all_cons, Bool.and_eq_true, decide_eq_true_eq] at hr
        refine ⟨p, q, WideElems.Trod_stays hl hr.1.1 hr.1.2 h1 (fun x hx => hs x (by simp [hx])) (fun x hx => hp x (by simp [hx])), ?_, rfl⟩
        exact ih vs ds q (by rw [List.all_eq_true]; intro t ht; have := List.all_eq_true.1 hr.2 t ht; simpa using this) h2 (fun x hx => hs x (by simp [hx])) (fun x hx => hp x (by simp [hx]))

/-- A law that answers true, whatever it is called with, and changes nothing that was there: the row's step. -/
theorem law_lifted {a : Assume} {C : Checked} {os : Os} {f : FuncId} {fn : Func} {s : ChangeSpec} {apart fresh handsOn again : Bool} {ts : List TypeId} {tb : TypeId}
    (own : ownKnob C.prog.godebug = none) (started : os.Started) (noInit : C.prog.inits.idxOf? f = none) (hfn : C.prog.funcs[f]? = some fn)
    (witness : ∃ (w : World) (tape : Tape) (i : Input), w.os = os ∧ (w.forCall tape i).Shaped C.prog ∧ i.vars = [] ∧ Input.okWide C.prog (w.forCall tape i) .any w.heap.size f i ∧
      s.pre6 enc C.prog fn [] apart (w.forCall tape i).memory i.args ∧ a.holds C.prog (lone (Frame.enter C.prog f i.args .normal) [] (w.forCall tape i)))
    (hl : laidOutB C.prog = true) (hp : fn.params.toList = ts) (hts : (ts.all fun t => C.prog.readableRec t && decide (t < C.prog.types.size)) = true)
    (hr : fn.resultTypes = #[tb]) (hb : C.prog.underlying tb = some .bool) (hvars : s.vars = [])
    (hspec : ∀ ds : List (DataW H), ds.length = ts.length → s.fn H ds = { results := [.lit (.bool true)], args := ds })
    (walk : ∀ (W : World) (base : Nat) (args : Array Value) (ds : List (DataW H)) (p : List MemPlace),
      (∀ (j : Nat) t v, ts[j]? = some t → args[j]? = some v → Value.okWide C.prog W .any base t v) →
      DataW.TrodAll enc C.prog W 0 (fun _ => true) true ts args.toList ds p →
      Calls C.prog f args W fun e W' => e = .returned (.bool true) ∧ Below W.heap.size W W') :
    ReturnsInHanded a C os f .any (s.pre6 enc C.prog fn [] apart) (s.post enc C.prog fn apart fresh handsOn again) := by
  refine returnsInHanded_of_change own started noInit hfn witness ?_
  intro W base args ds gs before hval hW _ _
  have hW' := hW
  obtain ⟨p, q, hA, hV, rfl, hfz, hnd⟩ := hW
  rw [hp] at hA
  rw [hvars] at hV
  obtain ⟨rfl, rfl⟩ : gs = [] ∧ q = [] := by
    cases gs with
    | nil => exact ⟨rfl, by simpa [DataW.TrodVars] using hV⟩
    | cons g gs => simp [DataW.TrodVars] at hV
  have hlen : ∀ (ts : List TypeId) (vs : List Value) (ds : List (DataW H)) (ps : List MemPlace), DataW.TrodAll enc C.prog W 0 (fun _ => true) true ts vs ds ps → ds.length = ts.length := by
    intro ts
    induction ts with
    | nil => intro vs ds ps h; cases vs <;> cases ds <;> simp_all [DataW.TrodAll]
    | cons t ts ih =>
      intro vs ds ps h
      cases vs with
      | nil => simp [DataW.TrodAll] at h
      | cons v vs =>
        cases ds with
        | nil => simp [DataW.TrodAll] at h
        | cons d ds => obtain ⟨_, _, _, h2, _⟩ := h; simp [ih _ _ _ h2]
  have hs := hspec ds (hlen _ _ _ _ hA)
  refine (walk W base args ds p (fun j t v ht hv => hval j t v (by rw [← ht, ← hp]; simp) hv) hA).mono fun e W' ⟨he, hbel⟩ => ?_
  refine ⟨_, he, ?_⟩
  have hlt : ∀ x ∈ p, x.block < W.heap.size := fun x hx => hW'.lt x (by simpa using hx)
  refine post_of_below (pa := p) (pv := []) hW' ?_ ?_ ?_ rfl hbel ?_
  · intro b sp hd
    rw [hr]
    simp only [List.append_nil]
    rw [hs]
    exact trodAll_cons_mk (shut_bool hb _) trodAll_mk0
  · intro sp hsp
    simp only [List.append_nil]
    rw [hs, hp]
    exact trodAll_stays hl ts _ _ _ hts hA (fun x hx => hbel.same (hlt x hx)) (fun x hx => hsp x (by simpa using hx))
  · intro sp _
    rw [hvars]
    simp only [List.append_nil]
    rw [hs]
    exact rfl
  · exact ok_one hr rfl (okWide_bool_mk hb _)
end
end Go.Proofs.YtnddoehhcpejjaaGreat
/- The row's last step for a statement that bounds what is read; what that bound says of lists in structs. -/
namespace Go.Proofs.YtnddoehhcpejjaaGreat
set_option linter.unusedVariables false
set_option linter.unusedSimpArgs false
open Go.RowKit Go.WideShapes Go.ChangeShapes Go.Deep

section
variable {H : Type} {enc : TypeId × Value → H}
theorem law_contract {C : Checked} {f : FuncId} {fn : Func} {s : ChangeSpec} {apart fresh handsOn again : Bool} {ts : List TypeId} {tb : TypeId}
    (hl : laidOutB C.prog = true) (hp : fn.params.toList = ts) (hts : (ts.all fun t => C.prog.readableRec t && decide (t < C.prog.types.size)) = true)
    (hr : fn.resultTypes = #[tb]) (hb : C.prog.underlying tb = some .bool) (hvars : s.vars = [])
    (hspec : ∀ ds : List (DataW H), ds.length = ts.length → s.fn H ds = { results := [.lit (.bool true)], args := ds })
    (walk : ∀ (W : World) (base : Nat) (args : Array Value) (ds : List (DataW H)) (p : List MemPlace), Rows.uptoSmall H ds = true →
      (∀ (j : Nat) t v, ts[j]? = some t → args[j]? = some v → Value.okWide C.prog W .any base t v) →
      DataW.TrodAll enc C.prog W 0 (fun _ => true) true ts args.toList ds p →
      Calls C.prog f args W fun e W' => e = .returned (.bool true) ∧ Below W.heap.size W W')
    (W : World) (base : Nat) (args : Array Value) (ds gs : List (DataW H)) (before : List MemPlace)
    (hval : ∀ (j : Nat) t v, fn.params[j]? = some t → args[j]? = some v → Value.okWide C.prog W .any base t v)
    (hW : DataW.Whole enc C.prog fn.params.toList s.vars apart W args.toList ds gs before) (hk : Rows.uptoSmall H (ds ++ gs) = true) :
    Calls C.prog f args W fun e W' => ∃ v, e = .returned v ∧ s.post enc C.prog fn apart fresh handsOn again W args v W' := by
  have hW' := hW
  obtain ⟨p, q, hA, hV, rfl, hfz, hnd⟩ := hW
  rw [hp] at hA
  rw [hvars] at hV
  obtain ⟨rfl, rfl⟩ : gs = [] ∧ q = [] := by
    cases gs with
    | nil => exact ⟨rfl, by simpa [DataW.TrodVars] using hV⟩
    | cons g gs => simp [DataW.TrodVars] at hV
  have hlen : ∀ (ts : List TypeId) (vs : List Value) (ds : List (DataW H)) (ps : List MemPlace), DataW.TrodAll enc C.prog W 0 (fun _ => true) true ts vs ds ps → ds.length = ts.length := by
    intro ts
    induction ts with
    | nil => intro vs ds ps h; cases vs <;> cases ds <;> simp_all [DataW.TrodAll]
    | cons t ts ih =>
      intro vs ds ps h
      cases vs with
      | nil => simp [DataW.TrodAll] at h
      | cons v vs =>
        cases ds with
        | nil => simp [DataW.TrodAll] at h
        | cons d ds => obtain ⟨_, _, _, h2, _⟩ := h; simp [ih _ _ _ h2]
  have hs := hspec ds (hlen _ _ _ _ hA)
  rw [List.append_nil] at hk
  refine (walk W base args ds p hk (fun j t v ht hv => hval j t v (by rw [← ht, ← hp]; simp) hv) hA).mono fun e W' ⟨he, hbel⟩ => ?_
  refine ⟨_, he, ?_⟩
  have hlt : ∀ x ∈ p, x.block < W.heap.size := fun x hx => hW'.lt x (by simpa using hx)
  refine post_of_below (pa := p) (pv := []) hW' ?_ ?_ ?_ rfl hbel ?_
  · intro b sp hd
    rw [hr]
    simp only [List.append_nil]
    rw [hs]
    exact trodAll_cons_mk (shut_bool hb _) trodAll_mk0
  · intro sp hsp
    simp only [List.append_nil]
    rw [hs, hp]
    exact trodAll_stays hl ts _ _ _ hts hA (fun x hx => hbel.same (hlt x hx)) (fun x hx => hsp x (by simpa using hx))
  · intro sp _
    rw [hvars]
    simp only [List.append_nil]
    rw [hs]
    exact rfl
  · exact ok_one hr rfl (okWide_bool_mk hb _)
end

theorem bulk_one {H : Type} (d : DataW H) : 1 ≤ Rows.uptoBulk d := by
  cases d with
  | lit l => cases l <;> simp [Rows.uptoBulk]
  | nil => simp [Rows.uptoBulk]
  | ptr d => simp [Rows.uptoBulk]
  | slice elems spare => simp [Rows.uptoBulk]
  | agg parts => simp [Rows.uptoBulk]
  | iface t d => simp [Rows.uptoBulk]
  | map entries => simp [Rows.uptoBulk]
  | held h => simp [Rows.uptoBulk]
theorem bulk_le {H : Type} {d : DataW H} {l : List (DataW H)} (h : d ∈ l) : Rows.uptoBulk d ≤ Rows.uptoBulkAll l := by
  induction l with
  | nil => cases h
  | cons x r ih =>
    simp only [Rows.uptoBulkAll]
    cases List.mem_cons.1 h with
    | inl e => subst e; omega
    | inr e => have := ih e; omega
theorem bulk_all {H : Type} {l : List (DataW H)} (h : Rows.uptoSmall H l = true) : Rows.uptoBulkAll l ≤ 1048576 := of_decide_eq_true h
/-- the cells of type t are those of an a, whose weight the reading's bulk bounds -/
def OpensM {H : Type} (enc : TypeId × Value → H) (P : Program) (w : World) (base : Nat) (spare : Nat → Bool) (held : Bool) (t : TypeId) {α : Type} (f : α → List Value) (Q : α → Prop) (μ : α → Nat) : Prop :=
  ∀ (n : Nat) (cs : List Value) (x : DataW H × List MemPlace), DataW.trod enc P w base spare held n t cs = some x → ∃ a : α, f a = cs ∧ Q a ∧ μ a ≤ Rows.uptoBulk x.1
def OpensFM {H : Type} (enc : TypeId × Value → H) (P : Program) (w : World) (base : Nat) (spare : Nat → Bool) (held : Bool) (l : List Field) (o : Nat) {α : Type} (f : α → List Value) (Q : α → Prop) (μ : α → Nat) : Prop :=
  ∀ (n : Nat) (cs : List Value) (xs : List (DataW H × List MemPlace)), xs.length = l.length → (∀ (i : Nat) (fd : Field), l[i]? = some fd → DataW.trod enc P w base spare held n fd.type ((cs.drop fd.offset).take (P.cellsOf fd.type)) = xs[i]?) →
    ∃ a : α, f a = (cs.drop o).take (span P l) ∧ Q a ∧ μ a ≤ Rows.uptoBulkAll (xs.map (·.1))
section
variable {H : Type} {enc : TypeId × Value → H} {P : Program} {w : World} {base : Nat} {spare : Nat → Bool} {held : Bool} {t e : TypeId} {α β : Type} {f : α → List Value} {Q : α → Prop} {f2 : β → List Value} {Q2 : β → Prop} {μ : α → Nat} {μ2 : β → Nat}
theorem opensM_of (h : Opens enc P w base spare held t f Q) : OpensM enc P w base spare held t f Q (fun _ => 1) := by
  intro n cs x hx
  obtain ⟨a, h1, h2⟩ := h n cs x hx
  exact ⟨a, h1, h2, bulk_one _⟩
theorem OpensM.map (h : OpensM enc P w base spare held t f Q μ) (g : α → β) (hf : ∀ a, f2 (g a) = f a) (hQ : ∀ a, Q a → Q2 (g a)) (hμ : ∀ a, μ2 (g a) ≤ μ a) : OpensM enc P w base spare held t f2 Q2 μ2 := by
  intro n cs x hx
  obtain ⟨a, h1, h2, h3⟩ := h n cs x hx
  exact ⟨g a, (hf a).trans h1, hQ a h2, Nat.le_trans (hμ a) h3⟩
theorem opensFM_nil (o : Nat) : OpensFM enc P w base spare held [] o (fun _ : Unit => []) (fun _ => True) (fun _ => 0) := by
  intro n cs xs _ _
  exact ⟨(), by simp [span], trivial, Nat.zero_le _⟩
theorem opensFM_cons {fd : Field} {l : List Field} {o k : Nat} (h1 : OpensM enc P w base spare held fd.type f Q μ) (ho : fd.offset = o) (hk : P.cellsOf fd.type = k) (h2 : OpensFM enc P w base spare held l (o + k) f2 Q2 μ2) :
    OpensFM enc P w base spare held (fd :: l) o (fun p : α × β => f p.1 ++ f2 p.2) (fun p => Q p.1 ∧ Q2 p.2) (fun p => μ p.1 + μ2 p.2) := by
  intro n cs xs hl h
  cases xs with
  | nil => simp at hl
  | cons x xs =>
    obtain ⟨a, ha, hQ, hm⟩ := h1 n _ x (h 0 fd rfl)
    obtain ⟨b, hb, hR, hm2⟩ := h2 n cs xs (by simpa using hl) (fun i g hg => h (i + 1) g (by simpa using hg))
    refine ⟨(a, b), ?_, ⟨hQ, hR⟩, ?_⟩
    · show f a ++ f2 b = _
      rw [ha, hb, ho, hk]
      have e : span P (fd :: l) = k + span P l := by simp [span, hk]
      rw [e, List.take_add, List.drop_drop]
    · simp only [List.map_cons, Rows.uptoBulkAll]
      omega
theorem opensM_struct {fs : Array Field} (ht : P.underlying t = some (.struct fs)) (hC : P.cellsOf t = span P fs.toList) (h : OpensFM enc P w base spare held fs.toList 0 f Q μ) : OpensM enc P w base spare held t f Q (fun a => μ a + 1) := by
  intro n cs x hx
  obtain ⟨xs, m, _, rfl, hl, hxs, hf⟩ := DataW.trod_struct ht hx
  obtain ⟨a, ha, hQ, hm⟩ := h m cs xs (by simpa using hxs) (fun i fd hfd => hf i fd (by simpa using hfd))
  refine ⟨a, ?_, hQ, ?_⟩
  · rw [ha, List.drop_zero, ← hC, ← hl, List.take_length]
  · simp only [Rows.uptoBulk]
    omega
theorem bulk_range (D : Nat → DataW H) (V : Nat → α) (len : Nat) (h : ∀ i, i < len → μ (V i) ≤ Rows.uptoBulk (D i)) : (((List.range len).map V).map μ).sum ≤ Rows.uptoBulkAll ((List.range len).map D) := by
  have key : ∀ l : List Nat, (∀ i ∈ l, i < len) → ((l.map V).map μ).sum ≤ Rows.uptoBulkAll (l.map D) := by
    intro l
    induction l with
    | nil => intro _; simp [Rows.uptoBulkAll]
    | cons a l ih =>
      intro hl
      have h1 := h a (hl a (by simp))
      have h2 := ih (fun i hi => hl i (by simp [hi]))
      simp only [List.map_cons, List.sum_cons, Rows.uptoBulkAll]
      omega
  exact key _ (fun i hi => by simpa using hi)
theorem opensM_slice {sz : Nat} (ht : P.underlying t = some (.slice e)) (hC : P.cellsOf e = sz) (hsz : 0 < sz) [Inhabited α] (hlen : ∀ a, (f a).length = sz) (h : OpensM enc P w base spare held e f Q μ) :
    OpensM enc P w base spare held t (fun s : Sl α => [s.val]) (fun s => s.Lies w f sz ∧ ∀ a ∈ s.l, Q a) (fun s => (s.l.map μ).sum) := by
  intro n cs x hx
  rcases open_slice ht hx with ⟨hcs, -⟩ | ⟨a, len, cap, m, n, D, Pl, hcs, hb, hl, hm, hmm, hxx, hi⟩
  · exact ⟨⟨[], none, 0⟩, hcs.symm, ⟨⟨Rd.none_, by simp, by simp [maxLen]⟩, fun a ha => by simp at ha⟩, by simp⟩
  · have hml : len ≤ m := by rw [hmm]; split <;> omega
    have hrow : ∀ i, i < len → ∃ y : α, (∀ j u, (f y)[j]? = some u → w.cell? (a.add (i * sz + j)) = some u) ∧ Q y ∧ μ y ≤ Rows.uptoBulk (D i) := by
      intro i hil
      obtain ⟨cs', hc, hd⟩ := hi i (by omega)
      obtain ⟨y, hy, hQ, hμ⟩ := h n cs' _ hd
      rw [hC] at hc
      obtain ⟨_, hcl, hat⟩ := World.cells?_some hc
      refine ⟨y, fun j u hu => ?_, hQ, hμ⟩
      rw [hy] at hu
      have hj : j < sz := by
        have := (List.getElem?_eq_some_iff.1 hu).1
        omega
      have := hat j hj
      rw [Go.Deep.add_add] at this
      rw [this]; exact hu
    obtain ⟨V, hV⟩ := choose_lt (α := α) (p := fun i x => (∀ j u, (f x)[j]? = some u → w.cell? (a.add (i * sz + j)) = some u) ∧ Q x ∧ μ x ≤ Rows.uptoBulk (D i)) hrow
    refine ⟨⟨(List.range len).map V, some a, cap⟩, by simp [Sl.val, hcs], ⟨⟨?_, by simpa using hl, hm⟩, fun x hx => ?_⟩, ?_⟩
    · exact rd_mk (w := w) (a := a) (l := (List.range len).map V) hlen hsz (fun k hk j u hu => by
        simp only [List.getElem_map, List.getElem_range] at hu
        exact (hV k (by simpa using hk)).1 j u hu)
    · simp only [List.mem_map, List.mem_range] at hx
      obtain ⟨i, hi, rfl⟩ := hx
      exact (hV i hi).2.1
    · rw [hxx]
      have := bulk_range (H := H) D V len (fun i hi => (hV i hi).2.2)
      simp only [Rows.uptoBulk]
      omega
/-- an argument that is a struct -/
theorem opensM_agg {r : Reach} {b0 : Nat} {fs : Array Field} {v : Value} {d : DataW H} {p : List MemPlace} (ht : P.underlying t = some (.struct fs)) (h : OpensM enc P w base spare held t f Q μ)
    (hv : Value.okWide P w r b0 t v) (hd : DataW.Trod enc P w base spare held t v d p) : ∃ a : α, v = .agg (f a).toArray ∧ Q a ∧ μ a ≤ Rows.uptoBulk d := by
  obtain ⟨cs, rfl, _⟩ := okWide_struct ht hv
  obtain ⟨fuel, hf⟩ := hd
  obtain ⟨a, h1, h2, h3⟩ := h fuel _ _ hf
  refine ⟨a, ?_, h2, h3⟩
  rw [h1]
  simp [Value.cells]
end
section
variable {H : Type} {enc : TypeId × Value → H} {w : World} {base : Nat} {spare : Nat → Bool} {held : Bool}
theorem opensM_Bal : OpensM enc Tryz.prog w base spare held 57 Bal.cells (Bal.Ok w) (fun _ => 3) :=
  (opensM_struct Tryz.underlying57 (by kernel_rfl) (opensFM_cons (k := 1) (opensM_of (opens_int Tryz.underlying3)) rfl (by kernel_rfl) (opensFM_cons (k := 1) (opensM_of (opens_int Tryz.underlying3)) rfl (by kernel_rfl) (opensFM_nil _)))).map (fun p => ⟨p.1, p.2.1⟩) (fun _ => rfl) (fun _ h => ⟨h.1, h.2.1⟩) (fun _ => Nat.le_refl _)
theorem opensM_Balance : OpensM enc Tryz.prog w base spare held 61 Bal.cells (Bal.Ok w) (fun _ => 3) :=
  (opensM_struct Tryz.underlying61 (by kernel_rfl) (opensFM_cons (k := 1) (opensM_of (opens_int Tryz.underlying3)) rfl (by kernel_rfl) (opensFM_cons (k := 1) (opensM_of (opens_int Tryz.underlying3)) rfl (by kernel_rfl) (opensFM_nil _)))).map (fun p => ⟨p.1, p.2.1⟩) (fun _ => rfl) (fun _ h => ⟨h.1, h.2.1⟩) (fun _ => Nat.le_refl _)
theorem opensM_ItemR : OpensM enc Tryz.prog w base spare held 55 ItemR.cells (ItemR.Ok w) (fun _ => 3) :=
  (opensM_struct Tryz.underlying55 (by kernel_rfl) (opensFM_cons (k := 2) (opensM_of opens_RefR) rfl (by kernel_rfl) (opensFM_cons (k := 1) (opensM_of (opens_int Tryz.underlying3)) rfl (by kernel_rfl) (opensFM_cons (k := 1) (opensM_of (opens_int Tryz.underlying3)) rfl (by kernel_rfl) (opensFM_cons (k := 1) (opensM_of (opens_int Tryz.underlying3)) rfl (by kernel_rfl) (opensFM_cons (k := 1) (opensM_of (opens_int Tryz.underlying3)) rfl (by kernel_rfl) (opensFM_cons (k := 1) (opensM_of (opens_int Tryz.underlying3)) rfl (by kernel_rfl) (opensFM_nil _)))))))).map (fun p => ⟨p.1, p.2.1, p.2.2.1, p.2.2.2.1, p.2.2.2.2.1, p.2.2.2.2.2.1⟩) (fun _ => rfl) (fun _ h => ⟨h.1, h.2.1, h.2.2.1, h.2.2.2.1, h.2.2.2.2.1, h.2.2.2.2.2.1⟩) (fun _ => by omega)
theorem opensM_PostR : OpensM enc Tryz.prog w base spare held 60 PostR.cells (PostR.Ok w) (fun p => (p.parts.l.map fun _ => 3).sum + 3) :=
  (opensM_struct Tryz.underlying60 (by kernel_rfl) (opensFM_cons (k := 1) (opensM_of (opens_int Tryz.underlying3)) rfl (by kernel_rfl) (opensFM_cons (k := 1) (opensM_of (opens_int Tryz.underlying3)) rfl (by kernel_rfl) (opensFM_cons (k := 1) (opensM_of (opens_int Tryz.underlying3)) rfl (by kernel_rfl) (opensFM_cons (k := 1) (opensM_of (opens_int Tryz.underlying3)) rfl (by kernel_rfl) (opensFM_cons (k := 1) (opensM_slice Tryz.underlying58 (by kernel_rfl) (by decide) Bal.len opensM_Bal) rfl (by kernel_rfl) (opensFM_nil _))))))).map (fun p => ⟨p.1, p.2.1, p.2.2.1, p.2.2.2.1, p.2.2.2.2.1⟩) (fun _ => rfl) (fun _ h => ⟨h.1, h.2.1, h.2.2.1, h.2.2.2.1, h.2.2.2.2.1⟩) (fun _ => by simp only; omega)
theorem opensM_ResR : OpensM enc Tryz.prog w base spare held 41 ResR.cells (ResR.Ok w) (fun r => (r.items.l.map fun _ => 3).sum + (r.postings.l.map fun p => (p.parts.l.map fun _ => 3).sum + 3).sum + (r.totals.l.map fun _ => 3).sum) :=
  (opensM_struct Tryz.underlying41 (by kernel_rfl) (opensFM_cons (k := 1) (opensM_of (opens_int Tryz.underlying3)) rfl (by kernel_rfl) (opensFM_cons (k := 1) (opensM_slice Tryz.underlying37 (by kernel_rfl) (by decide) ItemR.len opensM_ItemR) rfl (by kernel_rfl) (opensFM_cons (k := 1) (opensM_slice Tryz.underlying38 (by kernel_rfl) (by decide) PostR.len opensM_PostR) rfl (by kernel_rfl) (opensFM_cons (k := 1) (opensM_slice Tryz.underlying39 (by kernel_rfl) (by decide) Bal.len opensM_Balance) rfl (by kernel_rfl) (opensFM_nil _)))))).map (fun p => ⟨p.1, p.2.1, p.2.2.1, p.2.2.2.1⟩) (fun _ => rfl) (fun _ h => ⟨h.1, h.2.1, h.2.2.1, h.2.2.2.1⟩) (fun _ => by simp only; omega)
end
end Go.Proofs.YtnddoehhcpejjaaGreat
/- What the bound on the reading of a result gives. -/
namespace Go.Proofs.YtnddoehhcpejjaaGreat
set_option linter.unusedVariables false
set_option linter.unusedSimpArgs false
open Go.RowKit

theorem sum_three {α : Type} (l : List α) : (l.map fun _ => 3).sum = 3 * l.length := by
  induction l with
  | nil => rfl
  | cons a l ih => simp only [List.map_cons, List.sum_cons, ih, List.length_cons]; omega
theorem sum_posts (P : List PostR) : (P.map fun p => (p.parts.l.map fun _ => 3).sum + 3).sum = 3 * (poBals P).length + 3 * P.length := by
  induction P with
  | nil => rfl
  | cons p P ih =>
    have e : poBals (p :: P) = p.parts.l ++ poBals P := by simp [poBals]
    rw [e, List.map_cons, List.sum_cons, ih, sum_three, List.length_append, List.length_cons]
    omega
theorem tin_of {w : World} {r : ResR} (h : r.Ok w) {n : Nat} (hm : (r.items.l.map fun _ => 3).sum + (r.postings.l.map fun p => (p.parts.l.map fun _ => 3).sum + 3).sum + (r.totals.l.map fun _ => 3).sum ≤ n) (hn : n ≤ 1048576) :
    TIn w r.items.l r.items.A r.items.cap r.postings.l r.postings.A r.postings.cap r.totals.l r.totals.A r.totals.cap := by
  rw [sum_three, sum_three, sum_posts] at hm
  obtain ⟨_, ⟨h1, h2⟩, ⟨h3, h4⟩, ⟨h5, h6⟩⟩ := h
  exact ⟨⟨h1.1, h3.1, h5.1, h4, fun x hx => ⟨(h2 x hx).1.1, (h2 x hx).1.2, (h2 x hx).2.2.1⟩⟩, by unfold allB; rw [List.length_append, itBals_len]; omega, by omega, by omega, by omega, h1.2.1, h3.2.1, h5.2.1⟩
end Go.Proofs.YtnddoehhcpejjaaGreat
