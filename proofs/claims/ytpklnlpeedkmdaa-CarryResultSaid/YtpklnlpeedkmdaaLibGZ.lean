/- Texts of this claim, put together. -/
import Derived.Test.YtpklnlpeedkmdaaLibFZ
import Derived.Deep.Slices
import Derived.Deep.Fields
import Derived.ChangeSame
import Derived.OpenShut
/- Lists of structs in memory: their cells, and how an argument is opened. Over any program. -/
namespace Go.Proofs.Ytpklnlpeedkmdaa
set_option linter.unusedVariables false
set_option linter.unusedSimpArgs false
open Go.RowKit Go.ChangeShapes Go.WideShapes Go.Deep

def cellsOf {α : Type} (f : α → List Value) : List α → List Value
  | [] => []
  | a :: l => f a ++ cellsOf f l
section
variable {α : Type} {f : α → List Value} {sz : Nat} (hf : ∀ a, (f a).length = sz)
include hf
theorem cellsOf_len (l : List α) : (cellsOf f l).length = l.length * sz := by
  induction l with
  | nil => simp [cellsOf]
  | cons a l ih => simp [cellsOf, ih, hf, Nat.succ_mul]; omega
theorem cellsOf_at (l : List α) (k j : Nat) (hk : k < l.length) (hj : j < sz) : (cellsOf f l)[k * sz + j]? = (f l[k])[j]? := by
  induction l generalizing k with
  | nil => simp at hk
  | cons a l ih =>
    cases k with
    | zero =>
      simp only [cellsOf, Nat.zero_mul, Nat.zero_add, List.getElem_cons_zero]
      rw [List.getElem?_append_left (by rw [hf]; omega)]
    | succ k =>
      simp only [cellsOf, List.getElem_cons_succ]
      have e : (k + 1) * sz + j = sz + (k * sz + j) := by rw [Nat.succ_mul]; omega
      rw [e, List.getElem?_append_right (by rw [hf]; omega), ← ih k (by simpa using hk), hf]
      congr 1
      omega
theorem rd_at {w : World} {B : Nat} {A : Option Addr} {l : List α} (h : Rd w B sz A l.length (cellsOf f l)) {k : Nat} (hk : k < l.length) :
    ∃ b o, A = some ⟨b, o, none⟩ ∧ b < B ∧ ∀ j u, (f l[k])[j]? = some u → w.cell? ⟨b, o + k * sz + j, none⟩ = some u := by
  obtain ⟨b, o, e, hb, hc⟩ := h.2 (by omega)
  refine ⟨b, o, e, hb, fun j u hu => ?_⟩
  have hj : j < sz := by
    have := (List.getElem?_eq_some_iff.1 hu).1
    rwa [hf] at this
  have := hc (k * sz + j) u (by rw [cellsOf_at hf l k j hk hj]; exact hu)
  rwa [← Nat.add_assoc] at this
theorem rd_mk {w : World} {a : Addr} {l : List α} (hsz : 0 < sz) (h : ∀ k (hk : k < l.length) j u, (f l[k])[j]? = some u → w.cell? (a.add (k * sz + j)) = some u) : Rd w w.heap.size sz (some a) l.length (cellsOf f l) := by
  refine ⟨cellsOf_len hf l, fun hn => ?_⟩
  have h0 : ∃ u, (f l[0])[0]? = some u := ⟨_, List.getElem?_eq_getElem (by rw [hf]; exact hsz)⟩
  obtain ⟨u0, hu0⟩ := h0
  have c0 := h 0 hn 0 u0 hu0
  obtain ⟨b, o, spot⟩ := a
  have hspot : spot = none := by simpa [Addr.add] using World.cell?_spot c0
  subst hspot
  refine ⟨b, o, rfl, ?_, fun j u hu => ?_⟩
  · have := World.block_lt_of_cell? w _ c0
    simpa [Addr.add] using this
  · have hjl : j < (cellsOf f l).length := (List.getElem?_eq_some_iff.1 hu).1
    rw [cellsOf_len hf] at hjl
    have hk : j / sz < l.length := Nat.div_lt_of_lt_mul (by rw [Nat.mul_comm]; exact hjl)
    have hm : j % sz < sz := Nat.mod_lt _ hsz
    have e : j / sz * sz + j % sz = j := by rw [Nat.mul_comm]; exact Nat.div_add_mod j sz
    have hc := h (j / sz) hk (j % sz) u (by rw [← cellsOf_at hf l _ _ hk hm, e]; exact hu)
    rw [e] at hc
    have ea : (⟨b, o, none⟩ : Addr).add j = ⟨b, o + j, none⟩ := by unfold Addr.add; split <;> simp_all
    rwa [ea] at hc
end
theorem cellsOf_app {α : Type} (f : α → List Value) (l m : List α) : cellsOf f (l ++ m) = cellsOf f l ++ cellsOf f m := by
  induction l with
  | nil => rfl
  | cons a l ih => simp [cellsOf, ih]
/-- a block of the call's own reads, too -/
theorem Rd.of_blk {w : World} {g sz n : Nat} {t : TypeId} {cs : Array Value} {xs : List Value} (h : Blk w g t cs) (hx : cs.toList = xs) (hl : xs.length = n * sz) : Rd w w.heap.size sz (some ⟨g, 0, none⟩) n xs :=
  ⟨hl, fun _ => ⟨g, 0, rfl, h.lt, fun j u hu => by rw [Nat.zero_add, h.cell j, ← Array.getElem?_toList, hx]; exact hu⟩⟩

/-- an append of one struct to a list of the call's own -/
theorem wpList_append_rec {P : Program} {w : World} {ops : Array Oper} {rest : List Oper} {o : Oper} {a : Act} {Q : Exit → Act → World → Prop} {α : Type} (f : α → List Value) (size : Nat) (hf : ∀ a, (f a).length = size) (hone : ∀ a, ∀ u ∈ f a, u.oneCell' = true)
    (hgd : o.guard = none) (s x : Operand) (t : TypeId) (ho : o.op = .call { callee := .builtin .append, args := #[s, x], argTypes := #[t, t] })
    (base : Nat) (e : TypeId) (i : TypeInfo) (z : Value) (bytes : Nat) (ht : P.underlying t = some (.slice e)) (hi : P.info? e = some i) (hz : i.zero = some z) (hsize : i.size = size) (hby : i.bytes = bytes) (hzs : z.cells.size = size) (hsz : 0 < size)
    (v : Value) (l : List α) (hs : a.eval s = v) (hown : w.ownsRow base e size v l.length (cellsOf f l)) (g c : Nat) (y : α) (cs : Array Value) (hx : a.eval x = .slice (some ⟨g, 0, none⟩) 1 c) (hB : Blk w g e cs) (hcs : cs.toList = f y)
    (h63 : l.length + 1 ≤ maxLen) (hbytes : (l.length + 1) * bytes ≤ 140737488355328) (hbase : base ≤ w.heap.size)
    (h : ∀ v' w', w'.ownsRow base e size v' (l ++ [y]).length (cellsOf f (l ++ [y])) → w.grownBy w' v.ownBlock → wpList P ops Q rest (a.put o.dst v') w') : wpList P ops Q (o :: rest) a w :=
  wpList_append_own w hgd s x t ho base e i z size bytes ht hi hz hsize hby hzs hsz v l.length _ hs hown ⟨g, 0, none⟩ 1 c (f y) hx (by rw [hf]; omega)
    (fun j u hu => by rw [add_zero_, hB.cell j, ← Array.getElem?_toList, hcs]; exact hu) (hone y) h63 hbytes hbase
    fun v' w' h1 h2 _ => h v' w' (by rw [List.length_append, cellsOf_app, show cellsOf f [y] = f y from by simp [cellsOf]]; exact h1) h2
theorem as_bel {P : Program} {f : FuncId} {args : Array Value} {w : World} {v : Value} (h : Calls P f args w fun e w' => e = .returned v ∧ w = w') : Calls P f args w fun e w' => e = .returned v ∧ Below w.heap.size w w' :=
  h.mono fun _ _ ⟨h1, h2⟩ => ⟨h1, by rw [← h2]; exact Below.refl _ _⟩
section
variable {H : Type} {enc : TypeId × Value → H} {P : Program} {w : World} {base : Nat} {spare : Nat → Bool} {held : Bool}
theorem open_slice_fields {t e : TypeId} {fs : Array Field} {fuel : Nat} {cs : List Value} {x : DataW H × List MemPlace} (ht : P.underlying t = some (.slice e)) (he : P.underlying e = some (.struct fs))
    (hone : oneCellFields P fs = true) (hC : P.cellsOf e = fs.size) (h : DataW.trod enc P w base spare held fuel t cs = some x) :
    (cs = [.slice none 0 0] ∧ x = (.nil, [])) ∨
    ∃ (a : Addr) (len cap m : Nat) (D : Nat → DataW H) (Pl : Nat → List MemPlace), cs = [.slice (some a) len cap] ∧ base ≤ a.block ∧ len ≤ cap ∧ cap ≤ maxLen ∧ m = (if spare a.block then cap else len) ∧
      x = (.slice ((List.range len).map D) ((List.range (m - len)).map fun j => D (len + j)), MemPlace.row a (m * fs.size) ++ (List.range m).flatMap Pl) ∧
      ∀ i, i < m → ∃ (ys : List (DataW H × List MemPlace)) (n : Nat), D i = .agg (ys.map (·.1)) ∧ Pl i = ys.flatMap (·.2) ∧ ys.length = fs.size ∧
        ∀ (j : Nat) (f : Field), fs[j]? = some f → ∃ (v : Value) (y : DataW H × List MemPlace), w.cell? (a.add (i * fs.size + j)) = some v ∧ ys[j]? = some y ∧ DataW.trod enc P w base spare held n f.type [v] = some y := by
  rcases open_slice ht h with h0 | ⟨a, len, cap, m, n, D, Pl, hcs, hb, hl, hm, hmm, hx, hi⟩
  · exact .inl h0
  · refine .inr ⟨a, len, cap, m, D, Pl, hcs, hb, hl, hm, hmm, by rw [hC] at hx; exact hx, fun i him => ?_⟩
    obtain ⟨cs', hc, ht'⟩ := hi i him
    rw [hC] at hc
    obtain ⟨ys, n', hn', hy, hlen, hyl, hf⟩ := DataW.trod_struct he ht'
    obtain ⟨_, hcl, hat⟩ := World.cells?_some hc
    simp only [Prod.mk.injEq] at hy
    refine ⟨ys, n', hy.1, hy.2, hyl, fun j f hj => ?_⟩
    obtain ⟨ho, hk⟩ := hone_of hone j f hj
    have hjl : j < fs.size := (Array.getElem?_eq_some_iff.1 hj).1
    have hcell := hat j hjl
    have hv : cs'[j]? = some (cs'[j]'(by omega)) := List.getElem?_eq_getElem (by omega)
    have h1 := hf j f hj
    rw [ho, hk] at h1
    have hone' : (cs'.drop j).take 1 = [cs'[j]'(by omega)] := by
      rw [List.drop_eq_getElem_cons (by omega)]
      rfl
    rw [hone'] at h1
    have hys : ys[j]? = some (ys[j]'(by omega)) := List.getElem?_eq_getElem (by omega)
    refine ⟨_, _, ?_, hys, h1.trans hys⟩
    rw [← Go.Deep.add_add, hcell, hv]

/-- An argument that is a slice of structs whose fields are all numbers. -/
theorem open_recs {α : Type} [Inhabited α] (f : α → List Value) {t e ti : TypeId} {fs : Array Field} {v : Value} {d : DataW H} {p : List MemPlace} {r : Reach} {b0 n : Nat} (ht : P.underlying t = some (.slice e)) (he : P.underlying e = some (.struct fs))
    (hone : oneCellFields P fs = true) (hC : P.cellsOf e = fs.size) (hti : P.underlying ti = some (.int .i64)) (hfs : fs.size = n) (hn : 0 < n) (hall : (fs.toList.all fun fd => decide (fd.type = ti)) = true)
    (hlen : ∀ a, (f a).length = n) (mk : ∀ r : List Int, r.length = n → ∃ a : α, f a = r.map (Value.int .i64))
    (hv : Value.okWide P w r b0 t v) (h : DataW.Trod enc P w base spare held t v d p) :
    ∃ (l : List α) (A : Option Addr) (cap : Nat), v = .slice A l.length cap ∧ l.length ≤ maxLen ∧ Rd w w.heap.size n A l.length (cellsOf f l) ∧ ∀ a ∈ l, ∀ c, Value.int .i64 c ∈ f a → (Lit.int .i64 c).wf = true := by
  obtain ⟨A, len, cap, rfl⟩ := okWide_slice ht hv
  obtain ⟨fuel, hx⟩ := h
  rcases open_slice_fields ht he hone hC hx with ⟨hcs, -⟩ | ⟨a, len', cap', m, D, Pl, hcs, -, hl, hm, hmm, -, hi⟩
  · simp [Value.cells] at hcs
    obtain ⟨rfl, rfl, rfl⟩ := hcs
    exact ⟨[], none, 0, rfl, by simp [maxLen], Rd.none_, fun a ha => by simp at ha⟩
  · simp [Value.cells] at hcs
    obtain ⟨rfl, rfl, rfl⟩ := hcs
    have hml : len ≤ m := by rw [hmm]; split <;> omega
    have hrow : ∀ i, i < len → ∃ x : α, (∀ j u, (f x)[j]? = some u → w.cell? (a.add (i * n + j)) = some u) ∧ ∀ c, Value.int .i64 c ∈ f x → (Lit.int .i64 c).wf = true := by
      intro i hil
      obtain ⟨ys, q, -, -, -, hfld⟩ := hi i (by omega)
      have hcell : ∀ j, j < n → ∃ c : Int, w.cell? (a.add (i * n + j)) = some (.int .i64 c) ∧ (Lit.int .i64 c).wf = true := by
        intro j hj
        have hfj : fs[j]? = some (fs[j]'(by omega)) := Array.getElem?_eq_getElem (by omega)
        obtain ⟨v, y, h1, h2, h3⟩ := hfld j _ hfj
        have hty : (fs[j]'(by omega)).type = ti := by
          have := List.all_eq_true.1 hall (fs[j]'(by omega)) (by simp)
          simpa using this
        rw [hty] at h3
        obtain ⟨c, e1, e2, e3⟩ := DataW.trod_int hti h3
        simp at e1
        subst e1
        rw [hfs] at h1
        exact ⟨c, h1, by first | exact e3 | exact e2⟩
      obtain ⟨g, hg⟩ := choose_lt (α := Int) (p := fun j c => w.cell? (a.add (i * n + j)) = some (.int .i64 c) ∧ (Lit.int .i64 c).wf = true) hcell
      obtain ⟨x, hx⟩ := mk ((List.range n).map g) (by simp)
      refine ⟨x, fun j u hu => ?_, fun c hc => ?_⟩
      · rw [hx] at hu
        have hjn : j < n := by
          have := (List.getElem?_eq_some_iff.1 hu).1
          simpa using this
        simp [List.getElem?_range hjn] at hu
        subst hu
        exact (hg j hjn).1
      · rw [hx] at hc
        simp only [List.map_map, List.mem_map, List.mem_range] at hc
        obtain ⟨j, hj, e⟩ := hc
        simp at e
        subst e
        exact (hg j hj).2
    obtain ⟨V, hV⟩ := choose_lt (α := α) (p := fun i x => (∀ j u, (f x)[j]? = some u → w.cell? (a.add (i * n + j)) = some u) ∧ ∀ c, Value.int .i64 c ∈ f x → (Lit.int .i64 c).wf = true) hrow
    refine ⟨(List.range len).map V, some a, cap, by simp, by simp; omega, ?_, fun x hx => ?_⟩
    · have := rd_mk (w := w) (a := a) (l := (List.range len).map V) hlen hn (fun k hk j u hu => by
        simp only [List.getElem_map, List.getElem_range] at hu
        exact (hV k (by simpa using hk)).1 j u hu)
      exact this
    · simp only [List.mem_map, List.mem_range] at hx
      obtain ⟨i, hi, rfl⟩ := hx
      exact (hV i hi).2
end
end Go.Proofs.Ytpklnlpeedkmdaa
