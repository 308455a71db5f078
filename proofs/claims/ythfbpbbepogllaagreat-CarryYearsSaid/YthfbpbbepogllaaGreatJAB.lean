/- Texts of this claim, put together. -/
import Derived.Test.YthfbpbbepogllaaGreatJAA
import Derived.OrdersHeld
import Derived.Deep.Slices
import Derived.Deep.Fields
import Derived.ChangeSame
import Derived.OpenShut
/- A region that draws its order: operations that read are taken first, one after the other; a call comes up alone. Over any program. -/
namespace Go.Proofs.YthfbpbbepogllaaGreat
set_option linter.unusedVariables false
set_option linter.unusedSimpArgs false
open Go.RowKit

/-- operations that yield one value and change nothing, if they do not fail -/
def plainB : Op → Bool
  | .move _ | .assign _ | .pick _ _ _ | .load _ _ | .fieldAddr _ _ _ | .field _ _ _ | .indexAddr _ _ _ | .index _ _ _ | .lookup _ _ _ _ | .binOp _ _ _ _ _ | .unOp _ _ _ | .convert _ _ _ | .extract _ _ | .build _ _ => true
  | .call c => match c.callee with
    | .builtin .len => true
    | _ => false
  | _ => false
theorem then_ok {α β : Type} {r : Result α} {f : α → World → Result β} {b : β} {w' : World} (h : r.andThen f = .ok b w') : ∃ a w1, r = .ok a w1 ∧ f a w1 = .ok b w' := by
  cases r with
  | ok a w1 => exact ⟨a, w1, rfl, h⟩
  | halt x w1 => cases h
theorem plain_bind {P : Program} {s : Sem Value} {w w' : World} {n : Next} (h : (do let x ← s; pure (Next.value x) : Sem Next).run P w = .ok n w') : ∃ v, n = .value v := by
  rw [Sem.run_bind] at h
  obtain ⟨a, w1, _, h2⟩ := then_ok h
  simp at h2
  exact ⟨a, h2.1.symm⟩
theorem plain_value {P : Program} {ρ : Operand → Value} {o : Oper} {w w' : World} {n : Next} (h : plainB o.op = true) (hr : (execOp ρ o).run P w = .ok n w') : ∃ v, n = .value v := by
  unfold execOp at hr
  cases ho : o.op <;> rw [ho] at h <;> first | (cases h; done) | skip
  all_goals simp only [ho] at hr
  all_goals first
    | exact plain_bind hr
    | (rw [Sem.run_bind] at hr; obtain ⟨x, w1, _, h2⟩ := then_ok hr; simp at h2; exact ⟨_, h2.1.symm⟩)
    | (simp at hr; exact ⟨_, hr.1.symm⟩)
    | skip
  rename_i c
  simp only [plainB] at h
  split at h
  · rename_i hc
    unfold resolve at hr
    simp only [hc] at hr
    rw [Sem.run_bind] at hr
    obtain ⟨a, w1, h1, h2⟩ := then_ok hr
    simp at h1
    obtain ⟨rfl, rfl⟩ := h1
    simp only [invoke, builtin] at h2
    exact plain_bind h2
  · cases h

/-- a world that came later -/
def Near (W w : World) : Prop := ∃ d : Later W, w = d.now
theorem Near.of {W w : World} (h : Below W.heap.size W w) : Near W w := ⟨⟨w, h⟩, rfl⟩
theorem Near.below {W w : World} (h : Near W w) : Below W.heap.size W w := by obtain ⟨d, rfl⟩ := h; exact d.below
theorem Near.drew (W : World) : Near W W.drew := Near.of (Below.refl _ _).drew
theorem Near.on {W w w' : World} (h : Near W w) (hb : Below w.heap.size w w') : Near W w' := Near.of (bel h.below hb)

section
variable {P : Program} {ops : Array Oper} {Q : Exit → Act → World → Prop} {W w : World} {i fuel : Nat} {o : Oper} {a : Act} {listed : Array Bool}
theorem rel_begin {id n : Nat} {l : List Oper} (W : World) (hm : P.follows .mixedOrders = true) (hn : l.length = n)
    (h : wpAnyH P .any l.toArray Q (fun w' => ∃ d : Later W, w' = d.now) n (Array.replicate n false) a w.drew) : (Code.region id l.toArray true).wp P Q a w := by
  subst hn
  exact wp_region_held hm (by simpa using h)
theorem drop_at {rest : List Oper} (h : ops.toList.drop i = o :: rest) : ops[i]? = some o := by
  rw [← Array.getElem?_toList, ← Nat.add_zero i, ← List.getElem?_drop, h]
  rfl
theorem rel_want {rest : List Oper} (hl : ops.toList.drop i = o :: rest) (hp : plainB o.op = true) (hs : Region.noSelect ops = true) (hf : Region.free .any ops listed i = true) (hr : (Region.ready .any ops listed).contains i = true)
    (hw : Region.wanted o (yielded ops a.tmps) = true) (hQ : ∀ c a v w, Q (.panic c) (Act.put a o.dst v) w → Q (.panic c) a w) (hS : Near W w)
    (h : ∀ K : Act → Prop, (∀ a', wpAnyH P .any ops Q (fun w' => ∃ d : Later W, w' = d.now) fuel (listed.setIfInBounds i true) a' w → K a') → o.quiet P a (fun w' => ∃ d : Later W, w' = d.now) K) :
    wpAnyH P .any ops Q (fun w' => ∃ d : Later W, w' = d.now) (fuel + 1) listed a w := by
  obtain ⟨v, h1, h2⟩ := h (fun a' => wpAnyH P .any ops Q (fun w' => ∃ d : Later W, w' = d.now) fuel (listed.setIfInBounds i true) a' w) (fun _ h => h)
  refine wpAnyH_take (v := v) (drop_at hl) hs hf hr (fun c a w h => hQ c a _ w h) (.inl ⟨hw, fun w' hw' => ?_⟩) hS h2
  have h3 := h1 w' hw'
  unfold Oper.quietAt at h3
  generalize hx : (execOp a.eval o).run P w' = r at h3
  cases r with
  | ok n w2 =>
    obtain ⟨u, rfl⟩ := plain_value hp hx
    simp only [Oper.quietUpon] at h3
    rw [h3.1, h3.2]
  | halt x w2 => simp only [Oper.quietUpon] at h3
theorem rel_skip {rest : List Oper} (hl : ops.toList.drop i = o :: rest) (hs : Region.noSelect ops = true) (hf : Region.free .any ops listed i = true) (hr : (Region.ready .any ops listed).contains i = true)
    (hw : Region.wanted o (yielded ops a.tmps) = false) (hQ : ∀ c a v w, Q (.panic c) (Act.put a o.dst v) w → Q (.panic c) a w) (hS : Near W w)
    (h : wpAnyH P .any ops Q (fun w' => ∃ d : Later W, w' = d.now) fuel (listed.setIfInBounds i true) (a.put o.dst undef) w) :
    wpAnyH P .any ops Q (fun w' => ∃ d : Later W, w' = d.now) (fuel + 1) listed a w :=
  wpAnyH_take (v := undef) (drop_at hl) hs hf hr (fun c a w h => hQ c a _ w h) (.inr ⟨hw, rfl⟩) hS h
theorem rel_call {rest : List Oper} (hr : Region.ready .any ops listed = [i]) (hl : ops.toList.drop i = o :: rest) (hw : Region.wanted o (yielded ops a.tmps) = true)
    (h : ∀ K : Act → World → Prop, (∀ a' w', Near W w' → (Near W w' → wpAnyH P .any ops Q (fun w' => ∃ d : Later W, w' = d.now) fuel (listed.setIfInBounds i true) a' w') → K a' w') → o.wp P a w K Q) :
    wpAnyH P .any ops Q (fun w' => ∃ d : Later W, w' = d.now) (fuel + 1) listed a w := by
  refine wpAnyH_all hr (by simp) fun j hj => ?_
  simp only [List.mem_singleton] at hj
  subst hj
  unfold wpOp
  rw [drop_at hl]
  show if Region.wanted o (yielded ops a.tmps) = true then _ else _
  rw [if_pos hw]
  exact .inl (h _ fun a' w' hn hh => ⟨hn, hh hn⟩)
end
end Go.Proofs.YthfbpbbepogllaaGreat
/- Lists of structs in memory: their cells, and how an argument is opened. Over any program. -/
namespace Go.Proofs.YthfbpbbepogllaaGreat
set_option linter.unusedVariables false
set_option linter.unusedSimpArgs false
open Go.RowKit Go.ChangeShapes Go.WideShapes Go.Deep

def cellsOf {α : Type} (f : α → List Value) : List α → List Value
  | [] => []
  | a :: l => f a ++ cellsOf f l
section
variable {α : Type} {f : α → List Value} {sz : Nat} (hf : ∀ a, (f a).length = sz)
include hf
theorem cellsOf_len (l : List α) : (cellsOf f l).length = l.length * sz := by
  induction l with
  | nil => simp [cellsOf]
  | cons a l ih => simp [cellsOf, ih, hf, Nat.succ_mul]; omega
theorem cellsOf_at (l : List α) (k j : Nat) (hk : k < l.length) (hj : j < sz) : (cellsOf f l)[k * sz + j]? = (f l[k])[j]? := by
  induction l generalizing k with
  | nil => simp at hk
  | cons a l ih =>
    cases k with
    | zero =>
      simp only [cellsOf, Nat.zero_mul, Nat.zero_add, List.getElem_cons_zero]
      rw [List.getElem?_append_left (by rw [hf]; omega)]
    | succ k =>
      simp only [cellsOf, List.getElem_cons_succ]
      have e : (k + 1) * sz + j = sz + (k * sz + j) := by rw [Nat.succ_mul]; omega
      rw [e, List.getElem?_append_right (by rw [hf]; omega), ← ih k (by simpa using hk), hf]
      congr 1
      omega
theorem rd_at {w : World} {B : Nat} {A : Option Addr} {l : List α} (h : Rd w B sz A l.length (cellsOf f l)) {k : Nat} (hk : k < l.length) :
    ∃ b o, A = some ⟨b, o, none⟩ ∧ b < B ∧ ∀ j u, (f l[k])[j]? = some u → w.cell? ⟨b, o + k * sz + j, none⟩ = some u := by
  obtain ⟨b, o, e, hb, hc⟩ := h.2 (by omega)
  refine ⟨b, o, e, hb, fun j u hu => ?_⟩
  have hj : j < sz := by
    have := (List.getElem?_eq_some_iff.1 hu).1
    rwa [hf] at this
  have := hc (k * sz + j) u (by rw [cellsOf_at hf l k j hk hj]; exact hu)
  rwa [← Nat.add_assoc] at this
theorem rd_mk {w : World} {a : Addr} {l : List α} (hsz : 0 < sz) (h : ∀ k (hk : k < l.length) j u, (f l[k])[j]? = some u → w.cell? (a.add (k * sz + j)) = some u) : Rd w w.heap.size sz (some a) l.length (cellsOf f l) := by
  refine ⟨cellsOf_len hf l, fun hn => ?_⟩
  have h0 : ∃ u, (f l[0])[0]? = some u := ⟨_, List.getElem?_eq_getElem (by rw [hf]; exact hsz)⟩
  obtain ⟨u0, hu0⟩ := h0
  have c0 := h 0 hn 0 u0 hu0
  obtain ⟨b, o, spot⟩ := a
  have hspot : spot = none := by simpa [Addr.add] using World.cell?_spot c0
  subst hspot
  refine ⟨b, o, rfl, ?_, fun j u hu => ?_⟩
  · have := World.block_lt_of_cell? w _ c0
    simpa [Addr.add] using this
  · have hjl : j < (cellsOf f l).length := (List.getElem?_eq_some_iff.1 hu).1
    rw [cellsOf_len hf] at hjl
    have hk : j / sz < l.length := Nat.div_lt_of_lt_mul (by rw [Nat.mul_comm]; exact hjl)
    have hm : j % sz < sz := Nat.mod_lt _ hsz
    have e : j / sz * sz + j % sz = j := by rw [Nat.mul_comm]; exact Nat.div_add_mod j sz
    have hc := h (j / sz) hk (j % sz) u (by rw [← cellsOf_at hf l _ _ hk hm, e]; exact hu)
    rw [e] at hc
    have ea : (⟨b, o, none⟩ : Addr).add j = ⟨b, o + j, none⟩ := by unfold Addr.add; split <;> simp_all
    rwa [ea] at hc
end
theorem cellsOf_app {α : Type} (f : α → List Value) (l m : List α) : cellsOf f (l ++ m) = cellsOf f l ++ cellsOf f m := by
  induction l with
  | nil => rfl
  | cons a l ih => simp [cellsOf, ih]
/-- a block of the call's own reads, too -/
theorem Rd.of_blk {w : World} {g sz n : Nat} {t : TypeId} {cs : Array Value} {xs : List Value} (h : Blk w g t cs) (hx : cs.toList = xs) (hl : xs.length = n * sz) : Rd w w.heap.size sz (some ⟨g, 0, none⟩) n xs :=
  ⟨hl, fun _ => ⟨g, 0, rfl, h.lt, fun j u hu => by rw [Nat.zero_add, h.cell j, ← Array.getElem?_toList, hx]; exact hu⟩⟩

/-- an append of one struct to a list of the call's own -/
theorem wpList_append_rec {P : Program} {w : World} {ops : Array Oper} {rest : List Oper} {o : Oper} {a : Act} {Q : Exit → Act → World → Prop} {α : Type} (f : α → List Value) (size : Nat) (hf : ∀ a, (f a).length = size) (hone : ∀ a, ∀ u ∈ f a, u.oneCell' = true)
    (hgd : o.guard = none) (s x : Operand) (t : TypeId) (ho : o.op = .call { callee := .builtin .append, args := #[s, x], argTypes := #[t, t] })
    (base : Nat) (e : TypeId) (i : TypeInfo) (z : Value) (bytes : Nat) (ht : P.underlying t = some (.slice e)) (hi : P.info? e = some i) (hz : i.zero = some z) (hsize : i.size = size) (hby : i.bytes = bytes) (hzs : z.cells.size = size) (hsz : 0 < size)
    (v : Value) (l : List α) (hs : a.eval s = v) (hown : w.ownsRow base e size v l.length (cellsOf f l)) (g c : Nat) (y : α) (cs : Array Value) (hx : a.eval x = .slice (some ⟨g, 0, none⟩) 1 c) (hB : Blk w g e cs) (hcs : cs.toList = f y)
    (h63 : l.length + 1 ≤ maxLen) (hbytes : (l.length + 1) * bytes ≤ 140737488355328) (hbase : base ≤ w.heap.size)
    (h : ∀ v' w', w'.ownsRow base e size v' (l ++ [y]).length (cellsOf f (l ++ [y])) → w.grownBy w' v.ownBlock → wpList P ops Q rest (a.put o.dst v') w') : wpList P ops Q (o :: rest) a w :=
  wpList_append_own w hgd s x t ho base e i z size bytes ht hi hz hsize hby hzs hsz v l.length _ hs hown ⟨g, 0, none⟩ 1 c (f y) hx (by rw [hf]; omega)
    (fun j u hu => by rw [add_zero_, hB.cell j, ← Array.getElem?_toList, hcs]; exact hu) (hone y) h63 hbytes hbase
    fun v' w' h1 h2 _ => h v' w' (by rw [List.length_append, cellsOf_app, show cellsOf f [y] = f y from by simp [cellsOf]]; exact h1) h2
theorem as_bel {P : Program} {f : FuncId} {args : Array Value} {w : World} {v : Value} (h : Calls P f args w fun e w' => e = .returned v ∧ w = w') : Calls P f args w fun e w' => e = .returned v ∧ Below w.heap.size w w' :=
  h.mono fun _ _ ⟨h1, h2⟩ => ⟨h1, by rw [← h2]; exact Below.refl _ _⟩
section
variable {H : Type} {enc : TypeId × Value → H} {P : Program} {w : World} {base : Nat} {spare : Nat → Bool} {held : Bool}
theorem open_slice_fields {t e : TypeId} {fs : Array Field} {fuel : Nat} {cs : List Value} {x : DataW H × List MemPlace} (ht : P.underlying t = some (.slice e)) (he : P.underlying e = some (.struct fs))
    (hone : oneCellFields P fs = true) (hC : P.cellsOf e = fs.size) (h : DataW.trod enc P w base spare held fuel t cs = some x) :
    (cs = [.slice none 0 0] ∧ x = (.nil, [])) ∨
    ∃ (a : Addr) (len cap m : Nat) (D : Nat → DataW H) (Pl : Nat → List MemPlace), cs = [.slice (some a) len cap] ∧ base ≤ a.block ∧ len ≤ cap ∧ cap ≤ maxLen ∧ m = (if spare a.block then cap else len) ∧
      x = (.slice ((List.range len).map D) ((List.range (m - len)).map fun j => D (len + j)), MemPlace.row a (m * fs.size) ++ (List.range m).flatMap Pl) ∧
      ∀ i, i < m → ∃ (ys : List (DataW H × List MemPlace)) (n : Nat), D i = .agg (ys.map (·.1)) ∧ Pl i = ys.flatMap (·.2) ∧ ys.length = fs.size ∧
        ∀ (j : Nat) (f : Field), fs[j]? = some f → ∃ (v : Value) (y : DataW H × List MemPlace), w.cell? (a.add (i * fs.size + j)) = some v ∧ ys[j]? = some y ∧ DataW.trod enc P w base spare held n f.type [v] = some y := by
  rcases open_slice ht h with h0 | ⟨a, len, cap, m, n, D, Pl, hcs, hb, hl, hm, hmm, hx, hi⟩
  · exact .inl h0
  · refine .inr ⟨a, len, cap, m, D, Pl, hcs, hb, hl, hm, hmm, by rw [hC] at hx; exact hx, fun i him => ?_⟩
    obtain ⟨cs', hc, ht'⟩ := hi i him
    rw [hC] at hc
    obtain ⟨ys, n', hn', hy, hlen, hyl, hf⟩ := DataW.trod_struct he ht'
    obtain ⟨_, hcl, hat⟩ := World.cells?_some hc
    simp only [Prod.mk.injEq] at hy
    refine ⟨ys, n', hy.1, hy.2, hyl, fun j f hj => ?_⟩
    obtain ⟨ho, hk⟩ := hone_of hone j f hj
    have hjl : j < fs.size := (Array.getElem?_eq_some_iff.1 hj).1
    have hcell := hat j hjl
    have hv : cs'[j]? = some (cs'[j]'(by omega)) := List.getElem?_eq_getElem (by omega)
    have h1 := hf j f hj
    rw [ho, hk] at h1
    have hone' : (cs'.drop j).take 1 = [cs'[j]'(by omega)] := by
      rw [List.drop_eq_getElem_cons (by omega)]
      rfl
    rw [hone'] at h1
    have hys : ys[j]? = some (ys[j]'(by omega)) := List.getElem?_eq_getElem (by omega)
    refine ⟨_, _, ?_, hys, h1.trans hys⟩
    rw [← Go.Deep.add_add, hcell, hv]

/-- An argument that is a slice of structs whose fields are all numbers. -/
theorem open_recs {α : Type} [Inhabited α] (f : α → List Value) {t e ti : TypeId} {fs : Array Field} {v : Value} {d : DataW H} {p : List MemPlace} {r : Reach} {b0 n : Nat} (ht : P.underlying t = some (.slice e)) (he : P.underlying e = some (.struct fs))
    (hone : oneCellFields P fs = true) (hC : P.cellsOf e = fs.size) (hti : P.underlying ti = some (.int .i64)) (hfs : fs.size = n) (hn : 0 < n) (hall : (fs.toList.all fun fd => decide (fd.type = ti)) = true)
    (hlen : ∀ a, (f a).length = n) (mk : ∀ r : List Int, r.length = n → ∃ a : α, f a = r.map (Value.int .i64))
    (hv : Value.okWide P w r b0 t v) (h : DataW.Trod enc P w base spare held t v d p) :
    ∃ (l : List α) (A : Option Addr) (cap : Nat), v = .slice A l.length cap ∧ l.length ≤ maxLen ∧ Rd w w.heap.size n A l.length (cellsOf f l) ∧ ∀ a ∈ l, ∀ c, Value.int .i64 c ∈ f a → (Lit.int .i64 c).wf = true := by
  obtain ⟨A, len, cap, rfl⟩ := okWide_slice ht hv
  obtain ⟨fuel, hx⟩ := h
  rcases open_slice_fields ht he hone hC hx with ⟨hcs, -⟩ | ⟨a, len', cap', m, D, Pl, hcs, -, hl, hm, hmm, -, hi⟩
  · simp [Value.cells] at hcs
    obtain ⟨rfl, rfl, rfl⟩ := hcs
    exact ⟨[], none, 0, rfl, by simp [maxLen], Rd.none_, fun a ha => by simp at ha⟩
  · simp [Value.cells] at hcs
    obtain ⟨rfl, rfl, rfl⟩ := hcs
    have hml : len ≤ m := by rw [hmm]; split <;> omega
    have hrow : ∀ i, i < len → ∃ x : α, (∀ j u, (f x)[j]? = some u → w.cell? (a.add (i * n + j)) = some u) ∧ ∀ c, Value.int .i64 c ∈ f x → (Lit.int .i64 c).wf = true := by
      intro i hil
      obtain ⟨ys, q, -, -, -, hfld⟩ := hi i (by omega)
      have hcell : ∀ j, j < n → ∃ c : Int, w.cell? (a.add (i * n + j)) = some (.int .i64 c) ∧ (Lit.int .i64 c).wf = true := by
        intro j hj
        have hfj : fs[j]? = some (fs[j]'(by omega)) := Array.getElem?_eq_getElem (by omega)
        obtain ⟨v, y, h1, h2, h3⟩ := hfld j _ hfj
        have hty : (fs[j]'(by omega)).type = ti := by
          have := List.all_eq_true.1 hall (fs[j]'(by omega)) (by simp)
          simpa using this
        rw [hty] at h3
        obtain ⟨c, e1, e2, e3⟩ := DataW.trod_int hti h3
        simp at e1
        subst e1
        rw [hfs] at h1
        exact ⟨c, h1, by first | exact e3 | exact e2⟩
      obtain ⟨g, hg⟩ := choose_lt (α := Int) (p := fun j c => w.cell? (a.add (i * n + j)) = some (.int .i64 c) ∧ (Lit.int .i64 c).wf = true) hcell
      obtain ⟨x, hx⟩ := mk ((List.range n).map g) (by simp)
      refine ⟨x, fun j u hu => ?_, fun c hc => ?_⟩
      · rw [hx] at hu
        have hjn : j < n := by
          have := (List.getElem?_eq_some_iff.1 hu).1
          simpa using this
        simp [List.getElem?_range hjn] at hu
        subst hu
        exact (hg j hjn).1
      · rw [hx] at hc
        simp only [List.map_map, List.mem_map, List.mem_range] at hc
        obtain ⟨j, hj, e⟩ := hc
        simp at e
        subst e
        exact (hg j hj).2
    obtain ⟨V, hV⟩ := choose_lt (α := α) (p := fun i x => (∀ j u, (f x)[j]? = some u → w.cell? (a.add (i * n + j)) = some u) ∧ ∀ c, Value.int .i64 c ∈ f x → (Lit.int .i64 c).wf = true) hrow
    refine ⟨(List.range len).map V, some a, cap, by simp, by simp; omega, ?_, fun x hx => ?_⟩
    · have := rd_mk (w := w) (a := a) (l := (List.range len).map V) hlen hn (fun k hk j u hu => by
        simp only [List.getElem_map, List.getElem_range] at hu
        exact (hV k (by simpa using hk)).1 j u hu)
      exact this
    · simp only [List.mem_map, List.mem_range] at hx
      obtain ⟨i, hi, rfl⟩ := hx
      exact (hV i hi).2
end
end Go.Proofs.YthfbpbbepogllaaGreat
/- Pairs of an account and an amount: their cells; lists in order. No program. -/
namespace Go.Proofs.YthfbpbbepogllaaGreat
set_option linter.unusedVariables false
set_option linter.unusedSimpArgs false
open Go.RowKit

structure Bal where
  account : Int
  amount : Int
namespace Bal
def zero : Bal := ⟨0, 0⟩
def cells (b : Bal) : List Value := [.int .i64 b.account, .int .i64 b.amount]
theorem one (b : Bal) : ∀ u ∈ cells b, u.oneCell' = true := by
  intro u hu
  simp [cells] at hu
  rcases hu with rfl | rfl <;> rfl
theorem mk_ (r : List Int) (h : r.length = 2) : ∃ a : Bal, cells a = r.map (Value.int .i64) := by
  match r, h with
  | [a, b], _ => exact ⟨⟨a, b⟩, rfl⟩
/-- where the pairs of a list lie -/
theorem at_ {w : World} {B : Nat} {A : Option Addr} {l : List Bal} (h : Rd w B 2 A l.length (cellsOf cells l)) {k : Nat} (hk : k < l.length) :
    ∃ b o, A = some ⟨b, o, none⟩ ∧ b < B ∧ w.cell? ⟨b, o + k * 2, none⟩ = some (.int .i64 l[k].account) ∧ w.cell? ⟨b, o + k * 2 + 1, none⟩ = some (.int .i64 l[k].amount) := by
  obtain ⟨b, o, e, hb, hc⟩ := rd_at (f := cells) (sz := 2) (fun _ => rfl) h hk
  exact ⟨b, o, e, hb, hc 0 _ rfl, hc 1 _ rfl⟩
theorem getD_at (l : List Bal) (k : Nat) (hk : k < l.length) : l.getD k zero = l[k] := by simp [List.getD, hk]
end Bal
instance balInh : Inhabited Bal := ⟨Bal.zero⟩
def amV (n : Int) : Bool := decide (-1000000000000 ≤ n) && decide (n ≤ 1000000000000)
theorem amV_is {n : Int} (h : amV n = true) : -1000000000000 ≤ n ∧ n ≤ 1000000000000 := by unfold amV at h; simpa using h
/-- a condition on every place -/
def allAt (n : Nat) (p : Nat → Bool) : Bool := (List.range n).all p
theorem allAt_no {n k : Nat} {p : Nat → Bool} (hk : k < n) (h : p k = false) : allAt n p = false := by
  unfold allAt
  rw [List.all_eq_false]
  exact ⟨k, by simpa using hk, by simp [h]⟩
theorem allAt_yes {n : Nat} {p : Nat → Bool} (h : ∀ j, j < n → p j = true) : allAt n p = true := by
  unfold allAt
  rw [List.all_eq_true]
  intro j hj
  exact h j (by simpa using hj)
theorem allAt_at {n k : Nat} {p : Nat → Bool} (h : allAt n p = true) (hk : k < n) : p k = true := by
  unfold allAt at h
  rw [List.all_eq_true] at h
  exact h k (by simpa using hk)
theorem allAt_and {n : Nat} {p q : Nat → Bool} : allAt n (fun j => p j && q j) = (allAt n p && allAt n q) := by
  rw [Bool.eq_iff_iff]
  simp only [Bool.and_eq_true]
  constructor
  · intro h
    exact ⟨allAt_yes fun j hj => by have := allAt_at h hj; simp at this; exact this.1, allAt_yes fun j hj => by have := allAt_at h hj; simp at this; exact this.2⟩
  · intro ⟨h1, h2⟩
    exact allAt_yes fun j hj => by simp [allAt_at h1 hj, allAt_at h2 hj]
/-- in order, and amounts that are let -/
def ascAt (b : List Bal) (j : Nat) : Bool := (j == 0 || decide ((b.getD (j - 1) Bal.zero).account < (b.getD j Bal.zero).account)) && amV (b.getD j Bal.zero).amount
def ascV (b : List Bal) : Bool := allAt b.length (ascAt b)
theorem asc_mk {b : List Bal} {k : Nat} (hk : k < b.length) (ho : k = 0 ∨ (b[k - 1]'(by omega)).account < b[k].account) (hm : amV b[k].amount = true) : ascAt b k = true := by
  unfold ascAt
  rw [Bal.getD_at b k hk, Bal.getD_at b (k - 1) (by omega), hm]
  rcases ho with h | h
  · simp [h]
  · simp [h]
theorem asc_no {b : List Bal} {k : Nat} (hk : k < b.length) (h : (0 < k ∧ b[k].account ≤ (b[k - 1]'(by omega)).account) ∨ amV b[k].amount = false) : ascAt b k = false := by
  unfold ascAt
  rw [Bal.getD_at b k hk, Bal.getD_at b (k - 1) (by omega)]
  rcases h with h | h
  · have h0 : (k == 0) = false := by simp; omega
    have h1 : decide ((b[k - 1]'(by omega)).account < b[k].account) = false := by simp; omega
    rw [h0, h1]; simp
  · rw [h]; simp
theorem asc_amount {b : List Bal} (h : ascV b = true) {x : Bal} (hx : x ∈ b) : amV x.amount = true := by
  obtain ⟨j, hj, rfl⟩ := List.mem_iff_getElem.1 hx
  have := allAt_at h hj
  unfold ascAt at this
  rw [Bal.getD_at b j hj] at this
  simp only [Bool.and_eq_true] at this
  exact this.2
end Go.Proofs.YthfbpbbepogllaaGreat
/- Sums over lists. No program. -/
namespace Go.Proofs.YthfbpbbepogllaaGreat
set_option linter.unusedVariables false
set_option linter.unusedSimpArgs false
open Go.RowKit

/-- the sum of f over a list -/
def sm {α : Type} (l : List α) (f : α → Int) : Int := (l.map f).sum
section
variable {α β : Type}
theorem sm_nil (f : α → Int) : sm [] f = 0 := rfl
theorem sm_cons (a : α) (l : List α) (f : α → Int) : sm (a :: l) f = f a + sm l f := by simp [sm]
theorem sm_app (l m : List α) (f : α → Int) : sm (l ++ m) f = sm l f + sm m f := by simp [sm]
theorem sm_congr {l : List α} {f g : α → Int} (h : ∀ a ∈ l, f a = g a) : sm l f = sm l g := by
  induction l with
  | nil => rfl
  | cons a l ih => rw [sm_cons, sm_cons, h a (by simp), ih (fun b hb => h b (by simp [hb]))]
theorem sm_add (l : List α) (f g : α → Int) : sm l (fun a => f a + g a) = sm l f + sm l g := by
  induction l with
  | nil => rfl
  | cons a l ih => rw [sm_cons, sm_cons, sm_cons, ih]; omega
theorem sm_zero {l : List α} {f : α → Int} (h : ∀ a ∈ l, f a = 0) : sm l f = 0 := by
  induction l with
  | nil => rfl
  | cons a l ih => rw [sm_cons, h a (by simp), ih (fun b hb => h b (by simp [hb]))]; omega
theorem sm_swap (l : List α) (m : List β) (f : α → β → Int) : sm l (fun a => sm m (f a)) = sm m (fun b => sm l (fun a => f a b)) := by
  induction l with
  | nil => rw [sm_nil, sm_zero]; intro b _; rfl
  | cons a l ih =>
    rw [sm_cons, ih, ← sm_add]
    exact sm_congr fun b _ => by rw [sm_cons]
theorem sm_map (l : List α) (g : α → β) (f : β → Int) : sm (l.map g) f = sm l (fun a => f (g a)) := by simp [sm, Function.comp_def]
theorem sm_filter (l : List α) (p : α → Bool) (f : α → Int) : sm (l.filter p) f = sm l (fun a => if p a then f a else 0) := by
  induction l with
  | nil => rfl
  | cons a l ih =>
    rw [sm_cons, List.filter_cons]
    cases h : p a
    · simp [ih]
    · simp [sm_cons, ih]
theorem sm_count (l : List α) (p : α → Bool) : ((l.filter p).length : Int) = sm l (fun a => if p a then 1 else 0) := by
  induction l with
  | nil => rfl
  | cons a l ih =>
    rw [sm_cons, List.filter_cons]
    cases h : p a
    · simp [ih]
    · simp [ih]; omega
theorem sm_mul_ite (l : List α) (p : α → Prop) [DecidablePred p] (c : Int) : sm l (fun a => if p a then c else 0) = c * sm l (fun a => if p a then 1 else 0) := by
  induction l with
  | nil => simp [sm_nil]
  | cons a l ih =>
    rw [sm_cons, sm_cons, ih, Int.mul_add]
    split <;> simp
theorem sm_take (l : List α) (k : Nat) (h : k < l.length) (f : α → Int) : sm (l.take (k + 1)) f = sm (l.take k) f + f l[k] := by
  rw [List.take_succ_eq_append_getElem h, sm_app, sm_cons, sm_nil]; omega
/-- just one place of a list has a key -/
theorem sm_one {l : List α} (key : α → Int) (hd : (l.map key).Nodup) {a : α} (ha : a ∈ l) (g : α → Int) : sm l (fun b => if key b = key a then g b else 0) = g a := by
  induction l with
  | nil => simp at ha
  | cons b l ih =>
    rw [List.map_cons, List.nodup_cons] at hd
    rw [sm_cons]
    rcases List.mem_cons.1 ha with rfl | h
    · rw [if_pos rfl, sm_zero]
      · omega
      · intro c hc
        rw [if_neg]
        intro e
        exact hd.1 (by rw [← e]; exact List.mem_map.2 ⟨c, hc, rfl⟩)
    · rw [if_neg, ih hd.2 h]
      · omega
      · intro e
        exact hd.1 (by rw [e]; exact List.mem_map.2 ⟨a, h, rfl⟩)
theorem sm_bd (l : List α) (f : α → Int) (M : Int) (h : ∀ a ∈ l, -M ≤ f a ∧ f a ≤ M) : -(M * l.length) ≤ sm l f ∧ sm l f ≤ M * l.length := by
  induction l with
  | nil => simp [sm_nil]
  | cons a l ih =>
    have h1 := ih (fun b hb => h b (by simp [hb]))
    have h2 := h a (by simp)
    rw [sm_cons]
    simp only [List.length_cons, Int.natCast_add, Int.natCast_one, Int.mul_add, Int.mul_one]
    omega
end

/-- what stands on an account, wrapping around -/
def ofW (m : List Bal) (c : Int) : Int := m.foldl (fun n x => if x.account = c then wrap64 (n + x.amount) else n) 0
def ofV (m : List Bal) (c : Int) : Int := sm m (fun x => if x.account = c then x.amount else 0)
theorem ofW_take (m : List Bal) (k : Nat) (h : k < m.length) (c : Int) : ofW (m.take (k + 1)) c = if m[k].account = c then wrap64 (ofW (m.take k) c + m[k].amount) else ofW (m.take k) c := by
  unfold ofW
  rw [List.take_succ_eq_append_getElem h, List.foldl_append]
  rfl
theorem ofV_bd (m : List Bal) (c : Int) (h : ∀ x ∈ m, amV x.amount = true) : -(1000000000000 * m.length) ≤ ofV m c ∧ ofV m c ≤ 1000000000000 * m.length := by
  refine sm_bd m _ _ fun x hx => ?_
  have := amV_is (h x hx)
  split <;> omega
theorem ofW_eq (m : List Bal) (c : Int) (h : ∀ x ∈ m, amV x.amount = true) (hl : m.length ≤ 1000000) : ofW m c = ofV m c := by
  have : ∀ k, k ≤ m.length → ofW (m.take k) c = ofV (m.take k) c := by
    intro k
    induction k with
    | zero => intro _; rfl
    | succ k ih =>
      intro hk
      have hk' : k < m.length := by omega
      rw [ofW_take m k hk', ih (by omega)]
      have e : ofV (m.take (k + 1)) c = ofV (m.take k) c + if m[k].account = c then m[k].amount else 0 := sm_take m k hk' _
      rw [e]
      have hb := ofV_bd (m.take k) c (fun x hx => h x (List.mem_of_mem_take hx))
      rw [List.length_take] at hb
      have hx := amV_is (h _ (List.getElem_mem hk'))
      by_cases hc : m[k].account = c
      · rw [if_pos hc, if_pos hc, IntWalk.wrap64_in _ ⟨by omega, by omega⟩]
      · rw [if_neg hc, if_neg hc]; omega
  have := this m.length (Nat.le_refl _)
  rwa [List.take_length] at this
end Go.Proofs.YthfbpbbepogllaaGreat
