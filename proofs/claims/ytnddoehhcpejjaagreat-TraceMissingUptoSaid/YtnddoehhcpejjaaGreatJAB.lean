/- Texts of this claim, put together. -/
import Derived.Test.YtnddoehhcpejjaaGreatJAA
import Derived.Deep.Slices
import Derived.Deep.Fields
import Derived.ChangeSame
import Derived.OpenShut
import Derived.Laws.IdiomArrays
import Derived.Lib.SmallJoins
/- Lists of structs in memory: their cells, and how an argument is opened. Over any program. -/
namespace Go.Proofs.YtnddoehhcpejjaaGreat
set_option linter.unusedVariables false
set_option linter.unusedSimpArgs false
open Go.RowKit Go.ChangeShapes Go.WideShapes Go.Deep

def cellsOf {α : Type} (f : α → List Value) : List α → List Value
  | [] => []
  | a :: l => f a ++ cellsOf f l
section
variable {α : Type} {f : α → List Value} {sz : Nat} (hf : ∀ a, (f a).length = sz)
include hf
theorem cellsOf_len (l : List α) : (cellsOf f l).length = l.length * sz := by
  induction l with
  | nil => simp [cellsOf]
  | cons a l ih => simp [cellsOf, ih, hf, Nat.succ_mul]; omega
theorem cellsOf_at (l : List α) (k j : Nat) (hk : k < l.length) (hj : j < sz) : (cellsOf f l)[k * sz + j]? = (f l[k])[j]? := by
  induction l generalizing k with
  | nil => simp at hk
  | cons a l ih =>
    cases k with
    | zero =>
      simp only [cellsOf, Nat.zero_mul, Nat.zero_add, List.getElem_cons_zero]
      rw [List.getElem?_append_left (by rw [hf]; omega)]
    | succ k =>
      simp only [cellsOf, List.getElem_cons_succ]
      have e : (k + 1) * sz + j = sz + (k * sz + j) := by rw [Nat.succ_mul]; omega
      rw [e, List.getElem?_append_right (by rw [hf]; omega), ← ih k (by simpa using hk), hf]
      congr 1
      omega
theorem rd_at {w : World} {B : Nat} {A : Option Addr} {l : List α} (h : Rd w B sz A l.length (cellsOf f l)) {k : Nat} (hk : k < l.length) :
    ∃ b o, A = some ⟨b, o, none⟩ ∧ b < B ∧ ∀ j u, (f l[k])[j]? = some u → w.cell? ⟨b, o + k * sz + j, none⟩ = some u := by
  obtain ⟨b, o, e, hb, hc⟩ := h.2 (by omega)
  refine ⟨b, o, e, hb, fun j u hu => ?_⟩
  have hj : j < sz := by
    have := (List.getElem?_eq_some_iff.1 hu).1
    rwa [hf] at this
  have := hc (k * sz + j) u (by rw [cellsOf_at hf l k j hk hj]; exact hu)
  rwa [← Nat.add_assoc] at this
theorem rd_mk {w : World} {a : Addr} {l : List α} (hsz : 0 < sz) (h : ∀ k (hk : k < l.length) j u, (f l[k])[j]? = some u → w.cell? (a.add (k * sz + j)) = some u) : Rd w w.heap.size sz (some a) l.length (cellsOf f l) := by
  refine ⟨cellsOf_len hf l, fun hn => ?_⟩
  have h0 : ∃ u, (f l[0])[0]? = some u := ⟨_, List.getElem?_eq_getElem (by rw [hf]; exact hsz)⟩
  obtain ⟨u0, hu0⟩ := h0
  have c0 := h 0 hn 0 u0 hu0
  obtain ⟨b, o, spot⟩ := a
  have hspot : spot = none := by simpa [Addr.add] using World.cell?_spot c0
  subst hspot
  refine ⟨b, o, rfl, ?_, fun j u hu => ?_⟩
  · have := World.block_lt_of_cell? w _ c0
    simpa [Addr.add] using this
  · have hjl : j < (cellsOf f l).length := (List.getElem?_eq_some_iff.1 hu).1
    rw [cellsOf_len hf] at hjl
    have hk : j / sz < l.length := Nat.div_lt_of_lt_mul (by rw [Nat.mul_comm]; exact hjl)
    have hm : j % sz < sz := Nat.mod_lt _ hsz
    have e : j / sz * sz + j % sz = j := by rw [Nat.mul_comm]; exact Nat.div_add_mod j sz
    have hc := h (j / sz) hk (j % sz) u (by rw [← cellsOf_at hf l _ _ hk hm, e]; exact hu)
    rw [e] at hc
    have ea : (⟨b, o, none⟩ : Addr).add j = ⟨b, o + j, none⟩ := by unfold Addr.add; split <;> simp_all
    rwa [ea] at hc
end
theorem cellsOf_app {α : Type} (f : α → List Value) (l m : List α) : cellsOf f (l ++ m) = cellsOf f l ++ cellsOf f m := by
  induction l with
  | nil => rfl
  | cons a l ih => simp [cellsOf, ih]
/-- a block of the call's own reads, too -/
theorem Rd.of_blk {w : World} {g sz n : Nat} {t : TypeId} {cs : Array Value} {xs : List Value} (h : Blk w g t cs) (hx : cs.toList = xs) (hl : xs.length = n * sz) : Rd w w.heap.size sz (some ⟨g, 0, none⟩) n xs :=
  ⟨hl, fun _ => ⟨g, 0, rfl, h.lt, fun j u hu => by rw [Nat.zero_add, h.cell j, ← Array.getElem?_toList, hx]; exact hu⟩⟩

/-- an append of one struct to a list of the call's own -/
theorem wpList_append_rec {P : Program} {w : World} {ops : Array Oper} {rest : List Oper} {o : Oper} {a : Act} {Q : Exit → Act → World → Prop} {α : Type} (f : α → List Value) (size : Nat) (hf : ∀ a, (f a).length = size) (hone : ∀ a, ∀ u ∈ f a, u.oneCell' = true)
    (hgd : o.guard = none) (s x : Operand) (t : TypeId) (ho : o.op = .call { callee := .builtin .append, args := #[s, x], argTypes := #[t, t] })
    (base : Nat) (e : TypeId) (i : TypeInfo) (z : Value) (bytes : Nat) (ht : P.underlying t = some (.slice e)) (hi : P.info? e = some i) (hz : i.zero = some z) (hsize : i.size = size) (hby : i.bytes = bytes) (hzs : z.cells.size = size) (hsz : 0 < size)
    (v : Value) (l : List α) (hs : a.eval s = v) (hown : w.ownsRow base e size v l.length (cellsOf f l)) (g c : Nat) (y : α) (cs : Array Value) (hx : a.eval x = .slice (some ⟨g, 0, none⟩) 1 c) (hB : Blk w g e cs) (hcs : cs.toList = f y)
    (h63 : l.length + 1 ≤ maxLen) (hbytes : (l.length + 1) * bytes ≤ 140737488355328) (hbase : base ≤ w.heap.size)
    (h : ∀ v' w', w'.ownsRow base e size v' (l ++ [y]).length (cellsOf f (l ++ [y])) → w.grownBy w' v.ownBlock → wpList P ops Q rest (a.put o.dst v') w') : wpList P ops Q (o :: rest) a w :=
  wpList_append_own w hgd s x t ho base e i z size bytes ht hi hz hsize hby hzs hsz v l.length _ hs hown ⟨g, 0, none⟩ 1 c (f y) hx (by rw [hf]; omega)
    (fun j u hu => by rw [add_zero_, hB.cell j, ← Array.getElem?_toList, hcs]; exact hu) (hone y) h63 hbytes hbase
    fun v' w' h1 h2 _ => h v' w' (by rw [List.length_append, cellsOf_app, show cellsOf f [y] = f y from by simp [cellsOf]]; exact h1) h2
theorem as_bel {P : Program} {f : FuncId} {args : Array Value} {w : World} {v : Value} (h : Calls P f args w fun e w' => e = .returned v ∧ w = w') : Calls P f args w fun e w' => e = .returned v ∧ Below w.heap.size w w' :=
  h.mono fun _ _ ⟨h1, h2⟩ => ⟨h1, by rw [← h2]; exact Below.refl _ _⟩
section
variable {H : Type} {enc : TypeId × Value → H} {P : Program} {w : World} {base : Nat} {spare : Nat → Bool} {held : Bool}
theorem open_slice_fields {t e : TypeId} {fs : Array Field} {fuel : Nat} {cs : List Value} {x : DataW H × List MemPlace} (ht : P.underlying t = some (.slice e)) (he : P.underlying e = some (.struct fs))
    (hone : oneCellFields P fs = true) (hC : P.cellsOf e = fs.size) (h : DataW.trod enc P w base spare held fuel t cs = some x) :
    (cs = [.slice none 0 0] ∧ x = (.nil, [])) ∨
    ∃ (a : Addr) (len cap m : Nat) (D : Nat → DataW H) (Pl : Nat → List MemPlace), cs = [.slice (some a) len cap] ∧ base ≤ a.block ∧ len ≤ cap ∧ cap ≤ maxLen ∧ m = (if spare a.block then cap else len) ∧
      x = (.slice ((List.range len).map D) ((List.range (m - len)).map fun j => D (len + j)), MemPlace.row a (m * fs.size) ++ (List.range m).flatMap Pl) ∧
      ∀ i, i < m → ∃ (ys : List (DataW H × List MemPlace)) (n : Nat), D i = .agg (ys.map (·.1)) ∧ Pl i = ys.flatMap (·.2) ∧ ys.length = fs.size ∧
        ∀ (j : Nat) (f : Field), fs[j]? = some f → ∃ (v : Value) (y : DataW H × List MemPlace), w.cell? (a.add (i * fs.size + j)) = some v ∧ ys[j]? = some y ∧ DataW.trod enc P w base spare held n f.type [v] = some y := by
  rcases open_slice ht h with h0 | ⟨a, len, cap, m, n, D, Pl, hcs, hb, hl, hm, hmm, hx, hi⟩
  · exact .inl h0
  · refine .inr ⟨a, len, cap, m, D, Pl, hcs, hb, hl, hm, hmm, by rw [hC] at hx; exact hx, fun i him => ?_⟩
    obtain ⟨cs', hc, ht'⟩ := hi i him
    rw [hC] at hc
    obtain ⟨ys, n', hn', hy, hlen, hyl, hf⟩ := DataW.trod_struct he ht'
    obtain ⟨_, hcl, hat⟩ := World.cells?_some hc
    simp only [Prod.mk.injEq] at hy
    refine ⟨ys, n', hy.1, hy.2, hyl, fun j f hj => ?_⟩
    obtain ⟨ho, hk⟩ := hone_of hone j f hj
    have hjl : j < fs.size := (Array.getElem?_eq_some_iff.1 hj).1
    have hcell := hat j hjl
    have hv : cs'[j]? = some (cs'[j]'(by omega)) := List.getElem?_eq_getElem (by omega)
    have h1 := hf j f hj
    rw [ho, hk] at h1
    have hone' : (cs'.drop j).take 1 = [cs'[j]'(by omega)] := by
      rw [List.drop_eq_getElem_cons (by omega)]
      rfl
    rw [hone'] at h1
    have hys : ys[j]? = some (ys[j]'(by omega)) := List.getElem?_eq_getElem (by omega)
    refine ⟨_, _, ?_, hys, h1.trans hys⟩
    rw [← Go.Deep.add_add, hcell, hv]

/-- An argument that is a slice of structs whose fields are all numbers. -/
theorem open_recs {α : Type} [Inhabited α] (f : α → List Value) {t e ti : TypeId} {fs : Array Field} {v : Value} {d : DataW H} {p : List MemPlace} {r : Reach} {b0 n : Nat} (ht : P.underlying t = some (.slice e)) (he : P.underlying e = some (.struct fs))
    (hone : oneCellFields P fs = true) (hC : P.cellsOf e = fs.size) (hti : P.underlying ti = some (.int .i64)) (hfs : fs.size = n) (hn : 0 < n) (hall : (fs.toList.all fun fd => decide (fd.type = ti)) = true)
    (hlen : ∀ a, (f a).length = n) (mk : ∀ r : List Int, r.length = n → ∃ a : α, f a = r.map (Value.int .i64))
    (hv : Value.okWide P w r b0 t v) (h : DataW.Trod enc P w base spare held t v d p) :
    ∃ (l : List α) (A : Option Addr) (cap : Nat), v = .slice A l.length cap ∧ l.length ≤ maxLen ∧ Rd w w.heap.size n A l.length (cellsOf f l) ∧ ∀ a ∈ l, ∀ c, Value.int .i64 c ∈ f a → (Lit.int .i64 c).wf = true := by
  obtain ⟨A, len, cap, rfl⟩ := okWide_slice ht hv
  obtain ⟨fuel, hx⟩ := h
  rcases open_slice_fields ht he hone hC hx with ⟨hcs, -⟩ | ⟨a, len', cap', m, D, Pl, hcs, -, hl, hm, hmm, -, hi⟩
  · simp [Value.cells] at hcs
    obtain ⟨rfl, rfl, rfl⟩ := hcs
    exact ⟨[], none, 0, rfl, by simp [maxLen], Rd.none_, fun a ha => by simp at ha⟩
  · simp [Value.cells] at hcs
    obtain ⟨rfl, rfl, rfl⟩ := hcs
    have hml : len ≤ m := by rw [hmm]; split <;> omega
    have hrow : ∀ i, i < len → ∃ x : α, (∀ j u, (f x)[j]? = some u → w.cell? (a.add (i * n + j)) = some u) ∧ ∀ c, Value.int .i64 c ∈ f x → (Lit.int .i64 c).wf = true := by
      intro i hil
      obtain ⟨ys, q, -, -, -, hfld⟩ := hi i (by omega)
      have hcell : ∀ j, j < n → ∃ c : Int, w.cell? (a.add (i * n + j)) = some (.int .i64 c) ∧ (Lit.int .i64 c).wf = true := by
        intro j hj
        have hfj : fs[j]? = some (fs[j]'(by omega)) := Array.getElem?_eq_getElem (by omega)
        obtain ⟨v, y, h1, h2, h3⟩ := hfld j _ hfj
        have hty : (fs[j]'(by omega)).type = ti := by
          have := List.all_eq_true.1 hall (fs[j]'(by omega)) (by simp)
          simpa using this
        rw [hty] at h3
        obtain ⟨c, e1, e2, e3⟩ := DataW.trod_int hti h3
        simp at e1
        subst e1
        rw [hfs] at h1
        exact ⟨c, h1, by first | exact e3 | exact e2⟩
      obtain ⟨g, hg⟩ := choose_lt (α := Int) (p := fun j c => w.cell? (a.add (i * n + j)) = some (.int .i64 c) ∧ (Lit.int .i64 c).wf = true) hcell
      obtain ⟨x, hx⟩ := mk ((List.range n).map g) (by simp)
      refine ⟨x, fun j u hu => ?_, fun c hc => ?_⟩
      · rw [hx] at hu
        have hjn : j < n := by
          have := (List.getElem?_eq_some_iff.1 hu).1
          simpa using this
        simp [List.getElem?_range hjn] at hu
        subst hu
        exact (hg j hjn).1
      · rw [hx] at hc
        simp only [List.map_map, List.mem_map, List.mem_range] at hc
        obtain ⟨j, hj, e⟩ := hc
        simp at e
        subst e
        exact (hg j hj).2
    obtain ⟨V, hV⟩ := choose_lt (α := α) (p := fun i x => (∀ j u, (f x)[j]? = some u → w.cell? (a.add (i * n + j)) = some u) ∧ ∀ c, Value.int .i64 c ∈ f x → (Lit.int .i64 c).wf = true) hrow
    refine ⟨(List.range len).map V, some a, cap, by simp, by simp; omega, ?_, fun x hx => ?_⟩
    · have := rd_mk (w := w) (a := a) (l := (List.range len).map V) hlen hn (fun k hk j u hu => by
        simp only [List.getElem_map, List.getElem_range] at hu
        exact (hV k (by simpa using hk)).1 j u hu)
      exact this
    · simp only [List.mem_map, List.mem_range] at hx
      obtain ⟨i, hi, rfl⟩ := hx
      exact (hV i hi).2
end
end Go.Proofs.YtnddoehhcpejjaaGreat
/- An append of a list that came in, nil or not, to a list of the call's own. Over any program. -/
namespace Go.Proofs.YtnddoehhcpejjaaGreat
set_option linter.unusedVariables false
set_option linter.unusedSimpArgs false
open Go.RowKit

section
variable {P : Program} (w : World)
theorem run_append_of_nil (base : Nat) (t ty e : TypeId) (i : TypeInfo) (size : Nat) (ht : P.underlying t = some (.slice e)) (hi : P.info? e = some i)
    (v : Value) (n : Nat) (xs : List Value) (hown : w.ownsRow base e size v n xs) (c : Nat) : (Builtin.append_ #[t, t] ty #[v, .slice none 0 c]).run P w = .ok v w := by
  rcases hown.2 with ⟨rfl, rfl⟩ | ⟨g, cap, cur, rfl, _, _, hnc, _⟩
  · simp [Builtin.append_, run_underlying ht, sizeOf, typeInfo, hi, Builtin.lenOf, Builtin.firstCells]
  · simp [Builtin.append_, run_underlying ht, sizeOf, typeInfo, hi, Builtin.lenOf, Builtin.firstCells, hnc, storeCells]
theorem run_append_any (base : Nat) (t ty e : TypeId) (i : TypeInfo) (z : Value) (size bytes : Nat) (ht : P.underlying t = some (.slice e)) (hi : P.info? e = some i) (hz : i.zero = some z)
    (hsize : i.size = size) (hby : i.bytes = bytes) (hzs : z.cells.size = size) (hsz : 0 < size)
    (v : Value) (n : Nat) (xs : List Value) (hown : w.ownsRow base e size v n xs)
    (B : Nat) (A : Option Addr) (m c : Nat) (news : List Value) (hr : Rd w B size A m news) (h1 : ∀ u ∈ news, u.oneCell' = true)
    (h63 : n + m ≤ maxLen) (hbytes : (n + m) * bytes ≤ 140737488355328) (hbase : base ≤ w.heap.size) :
    ∃ v' w', (Builtin.append_ #[t, t] ty #[v, .slice A m c]).run P w = .ok v' w' ∧ w'.ownsRow base e size v' (n + m) (xs ++ news) ∧ w.grownBy w' v.ownBlock := by
  rcases A with _ | ad
  · have hm : m = 0 := by
      rcases Nat.eq_zero_or_pos m with h0 | h0
      · exact h0
      · obtain ⟨b, o, h, _⟩ := hr.2 h0
        cases h
    subst hm
    have hn : news = [] := List.eq_nil_of_length_eq_zero (by simpa using hr.1)
    subst hn
    exact ⟨v, w, run_append_of_nil w base t ty e i size ht hi v n xs hown c, by simpa using hown, World.grownBy.refl w _⟩
  · have hcells : ∀ j u, news[j]? = some u → w.cell? (ad.add j) = some u := by
      intro j u hu
      rcases Nat.eq_zero_or_pos m with h0 | h0
      · subst h0
        have hn : news = [] := List.eq_nil_of_length_eq_zero (by simpa using hr.1)
        subst hn
        simp at hu
      · obtain ⟨b, o, h, _, hc⟩ := hr.2 h0
        injection h with h
        subst h
        have ea : (⟨b, o, none⟩ : Addr).add j = ⟨b, o + j, none⟩ := by unfold Addr.add; split <;> simp_all
        rw [ea]
        exact hc j u hu
    obtain ⟨v', w', hrun, h2, h3, _, _⟩ := run_append_own_at (P := P) w base t ty e i z size bytes ht hi hz hsize hby hzs hsz v n xs hown ad m c news hr.1 hcells h1 h63 hbytes hbase
    exact ⟨v', w', hrun, h2, h3⟩
theorem wp_append_any {o : Oper} {a : Act} {K : Act → World → Prop} {Q : Exit → Act → World → Prop} (s x : Operand) (t : TypeId)
    (ho : o.op = .call { callee := .builtin .append, args := #[s, x], argTypes := #[t, t] })
    (base : Nat) (e : TypeId) (i : TypeInfo) (z : Value) (size bytes : Nat) (ht : P.underlying t = some (.slice e)) (hi : P.info? e = some i) (hz : i.zero = some z)
    (hsize : i.size = size) (hby : i.bytes = bytes) (hzs : z.cells.size = size) (hsz : 0 < size)
    (v : Value) (n : Nat) (xs : List Value) (hs : a.eval s = v) (hown : w.ownsRow base e size v n xs)
    (B : Nat) (A : Option Addr) (m c : Nat) (news : List Value) (hx : a.eval x = .slice A m c) (hr : Rd w B size A m news) (h1 : ∀ u ∈ news, u.oneCell' = true)
    (h63 : n + m ≤ maxLen) (hbytes : (n + m) * bytes ≤ 140737488355328) (hbase : base ≤ w.heap.size)
    (h : ∀ v' w', w'.ownsRow base e size v' (n + m) (xs ++ news) → w.grownBy w' v.ownBlock → K (a.put o.dst v') w') : o.wp P a w K Q := by
  obtain ⟨v', w', hrun, h2, h3⟩ := run_append_any (P := P) w base t o.type e i z size bytes ht hi hz hsize hby hzs hsz v n xs hown B A m c news hr h1 h63 hbytes hbase
  unfold Oper.wp execOp
  simp only [ho, resolve, invoke, builtin, Sem.run_bind, Sem.run_pure, Result.andThen_ok, List.map_toArray, List.map_cons, List.map_nil, hs, hx, hrun]
  exact h v' w' h2 h3
theorem wpList_append_any {ops : Array Oper} {rest : List Oper} {o : Oper} {a : Act} {Q : Exit → Act → World → Prop} (hgd : o.guard = none) (s x : Operand) (t : TypeId)
    (ho : o.op = .call { callee := .builtin .append, args := #[s, x], argTypes := #[t, t] })
    (base : Nat) (e : TypeId) (i : TypeInfo) (z : Value) (size bytes : Nat) (ht : P.underlying t = some (.slice e)) (hi : P.info? e = some i) (hz : i.zero = some z)
    (hsize : i.size = size) (hby : i.bytes = bytes) (hzs : z.cells.size = size) (hsz : 0 < size)
    (v : Value) (n : Nat) (xs : List Value) (hs : a.eval s = v) (hown : w.ownsRow base e size v n xs)
    (B : Nat) (A : Option Addr) (m c : Nat) (news : List Value) (hx : a.eval x = .slice A m c) (hr : Rd w B size A m news) (h1 : ∀ u ∈ news, u.oneCell' = true)
    (h63 : n + m ≤ maxLen) (hbytes : (n + m) * bytes ≤ 140737488355328) (hbase : base ≤ w.heap.size)
    (h : ∀ v' w', w'.ownsRow base e size v' (n + m) (xs ++ news) → w.grownBy w' v.ownBlock → wpList P ops Q rest (a.put o.dst v') w') : wpList P ops Q (o :: rest) a w :=
  wpList_plain hgd fun _ hK => wp_append_any w s x t ho base e i z size bytes ht hi hz hsize hby hzs hsz v n xs hs hown B A m c news hx hr h1 h63 hbytes hbase fun v' w' h2 h3 => hK _ _ (h v' w' h2 h3)
/-- an empty block that was just made is a row of the call's own -/
theorem own_empty (t : TypeId) (base size c : Nat) (hb : base ≤ w.heap.size) (cs : Array Value) (hc : cs.size = c * size) (hm : c ≤ maxLen) : (w.alloc (.cells cs t)).ownsRow base t size (.slice (some ⟨w.heap.size, 0, none⟩) 0 c) 0 [] :=
  ⟨by simp, .inr ⟨w.heap.size, c, cs, rfl, hb, heap_alloc_new w _, by omega, hm, hc, by simp⟩⟩
theorem cells_one {α : Type} {f : α → List Value} (h : ∀ a, ∀ u ∈ f a, u.oneCell' = true) (l : List α) : ∀ u ∈ cellsOf f l, u.oneCell' = true := by
  induction l with
  | nil => intro u hu; simp [cellsOf] at hu
  | cons a l ih =>
    intro u hu
    simp only [cellsOf, List.mem_append] at hu
    rcases hu with hu | hu
    · exact h a u hu
    · exact ih u hu
/-- an append of one struct, at the operation -/
theorem wp_append_rec {o : Oper} {a : Act} {K : Act → World → Prop} {Q : Exit → Act → World → Prop} {α : Type} (f : α → List Value) (size : Nat) (hf : ∀ a, (f a).length = size) (hone : ∀ a, ∀ u ∈ f a, u.oneCell' = true)
    (s x : Operand) (t : TypeId) (ho : o.op = .call { callee := .builtin .append, args := #[s, x], argTypes := #[t, t] })
    (base : Nat) (e : TypeId) (i : TypeInfo) (z : Value) (bytes : Nat) (ht : P.underlying t = some (.slice e)) (hi : P.info? e = some i) (hz : i.zero = some z) (hsize : i.size = size) (hby : i.bytes = bytes) (hzs : z.cells.size = size) (hsz : 0 < size)
    (v : Value) (l : List α) (hs : a.eval s = v) (hown : w.ownsRow base e size v l.length (cellsOf f l)) (g c : Nat) (y : α) (cs : Array Value) (hx : a.eval x = .slice (some ⟨g, 0, none⟩) 1 c) (hB : Blk w g e cs) (hcs : cs.toList = f y)
    (h63 : l.length + 1 ≤ maxLen) (hbytes : (l.length + 1) * bytes ≤ 140737488355328) (hbase : base ≤ w.heap.size)
    (h : ∀ v' w', w'.ownsRow base e size v' (l ++ [y]).length (cellsOf f (l ++ [y])) → w.grownBy w' v.ownBlock → K (a.put o.dst v') w') : o.wp P a w K Q :=
  wp_append_own w s x t ho base e i z size bytes ht hi hz hsize hby hzs hsz v l.length _ hs hown ⟨g, 0, none⟩ 1 c (f y) hx (by rw [hf]; omega)
    (fun j u hu => by rw [add_zero_, hB.cell j, ← Array.getElem?_toList, hcs]; exact hu) (hone y) h63 hbytes hbase
    fun v' w' h1 h2 _ => h v' w' (by rw [List.length_append, cellsOf_app, show cellsOf f [y] = f y from by simp [cellsOf]]; exact h1) h2
end
end Go.Proofs.YtnddoehhcpejjaaGreat
/- The capacity of a slice that came in. Over any program. -/
namespace Go.Proofs.YtnddoehhcpejjaaGreat
set_option linter.unusedVariables false
set_option linter.unusedSimpArgs false
open Go.RowKit Go.ChangeShapes Go.WideShapes Go.Deep

section
variable {P : Program} {w : World} {base : Nat} {spare : Nat → Bool} {held : Bool} {H : Type} {enc : TypeId × Value → H}
theorem open_cap {t e : TypeId} {fs : Array Field} {A : Option Addr} {n cap : Nat} {d : DataW H} {p : List MemPlace} (ht : P.underlying t = some (.slice e)) (he : P.underlying e = some (.struct fs))
    (hone : oneCellFields P fs = true) (hC : P.cellsOf e = fs.size) (h : DataW.Trod enc P w base spare held t (.slice A n cap) d p) : n ≤ cap ∧ cap ≤ maxLen := by
  obtain ⟨fuel, hx⟩ := h
  rcases open_slice_fields ht he hone hC hx with ⟨hcs, -⟩ | ⟨a, len', cap', m, D, Pl, hcs, -, hl, hm, hmm, -, hi⟩
  · simp [Value.cells] at hcs
    obtain ⟨rfl, rfl, rfl⟩ := hcs
    simp [maxLen]
  · simp [Value.cells] at hcs
    obtain ⟨rfl, rfl, rfl⟩ := hcs
    exact ⟨hl, hm⟩
theorem open_arr3 {r : Reach} {b0 : Nat} {t e : TypeId} {v : Value} {d : DataW H} {p : List MemPlace} (ht : P.underlying t = some (.array 3 e)) (hce : P.cellsOf e = 1) (hC : P.cellsOf t = 3)
    (hv : Value.okWide P w r b0 t v) (h : DataW.Trod enc P w base spare held t v d p) :
    ∃ (c0 c1 c2 : Value) (y0 y1 y2 : DataW H × List MemPlace) (n : Nat), v = .agg #[c0, c1, c2] ∧
      DataW.trod enc P w base spare held n e [c0] = some y0 ∧ DataW.trod enc P w base spare held n e [c1] = some y1 ∧ DataW.trod enc P w base spare held n e [c2] = some y2 := by
  simp only [Value.okWide, ht] at hv
  obtain ⟨cs, rfl, h2, _⟩ := hv
  obtain ⟨c0, c1, c2, rfl⟩ : ∃ a b c, cs = #[a, b, c] := by
    obtain ⟨l⟩ := cs
    match l, h2.trans hC with
    | [a, b, c], _ => exact ⟨a, b, c, rfl⟩
  obtain ⟨fuel, hf⟩ := h
  obtain ⟨y0, y1, y2, n, -, h0, h1, h2⟩ := trod_array3 ht hce (by simpa [Value.cells] using hf)
  exact ⟨c0, c1, c2, y0, y1, y2, n, rfl, h0, h1, h2⟩
theorem bounds_u16 {n : Int} (h : (Lit.int .u16 n).wf = true) : 0 ≤ n ∧ n ≤ 65535 := by
  simp [Lit.wf, IntKind.min, IntKind.max, IntKind.signed, IntKind.bits] at h
  omega
end
end Go.Proofs.YtnddoehhcpejjaaGreat
/- What an argument is, by its type: structs in structs, slices in slices. Over any program. -/
namespace Go.Proofs.YtnddoehhcpejjaaGreat
set_option linter.unusedVariables false
set_option linter.unusedSimpArgs false
open Go.RowKit Go.ChangeShapes Go.WideShapes Go.Deep

/-- a slice: its elements, where it lies, its capacity -/
structure Sl (α : Type) where
  l : List α
  A : Option Addr
  cap : Nat
def Sl.val {α : Type} (s : Sl α) : Value := .slice s.A s.l.length s.cap
def Sl.Lies {α : Type} (s : Sl α) (w : World) (f : α → List Value) (sz : Nat) : Prop := Rd w w.heap.size sz s.A s.l.length (cellsOf f s.l) ∧ s.l.length ≤ s.cap ∧ s.cap ≤ maxLen
/-- the cells of type t are those of an a -/
def Opens {H : Type} (enc : TypeId × Value → H) (P : Program) (w : World) (base : Nat) (spare : Nat → Bool) (held : Bool) (t : TypeId) {α : Type} (f : α → List Value) (Q : α → Prop) : Prop :=
  ∀ (n : Nat) (cs : List Value) (x : DataW H × List MemPlace), DataW.trod enc P w base spare held n t cs = some x → ∃ a : α, f a = cs ∧ Q a
def span (P : Program) (l : List Field) : Nat := (l.map fun fd => P.cellsOf fd.type).sum
/-- the fields from offset o on -/
def OpensF {H : Type} (enc : TypeId × Value → H) (P : Program) (w : World) (base : Nat) (spare : Nat → Bool) (held : Bool) (l : List Field) (o : Nat) {α : Type} (f : α → List Value) (Q : α → Prop) : Prop :=
  ∀ (n : Nat) (cs : List Value), (∀ fd ∈ l, ∃ x, DataW.trod enc P w base spare held n fd.type ((cs.drop fd.offset).take (P.cellsOf fd.type)) = some x) → ∃ a : α, f a = (cs.drop o).take (span P l) ∧ Q a
section
variable {H : Type} {enc : TypeId × Value → H} {P : Program} {w : World} {base : Nat} {spare : Nat → Bool} {held : Bool} {t e : TypeId} {α β : Type} {f : α → List Value} {Q : α → Prop} {f2 : β → List Value} {Q2 : β → Prop}
theorem opens_int {k : IntKind} (ht : P.underlying t = some (.int k)) : Opens enc P w base spare held t (fun z : Int => [.int k z]) (fun z => (Lit.int k z).wf = true) := by
  intro n cs x h
  obtain ⟨c, h1, _, h3⟩ := DataW.trod_int ht h
  exact ⟨c, h1.symm, h3⟩
theorem opens_string (ht : P.underlying t = some .string) : Opens enc P w base spare held t (fun z : ByteArray => [.string z]) (fun z => z.size ≤ maxLen) := by
  intro n cs x h
  obtain ⟨c, h1, _, h3⟩ := DataW.trod_string ht h
  exact ⟨c, h1.symm, h3⟩
theorem opens_bool (ht : P.underlying t = some .bool) : Opens enc P w base spare held t (fun z : Bool => [.bool z]) (fun _ => True) := by
  intro n cs x h
  cases n with
  | zero => simp [DataW.trod] at h
  | succ n =>
    unfold DataW.trod at h
    rw [ht] at h
    split at h <;> simp_all
theorem Opens.map (h : Opens enc P w base spare held t f Q) (g : α → β) (hf : ∀ a, f2 (g a) = f a) (hQ : ∀ a, Q a → Q2 (g a)) : Opens enc P w base spare held t f2 Q2 := by
  intro n cs x hx
  obtain ⟨a, h1, h2⟩ := h n cs x hx
  exact ⟨g a, (hf a).trans h1, hQ a h2⟩
theorem opensF_nil (o : Nat) : OpensF enc P w base spare held [] o (fun _ : Unit => []) (fun _ => True) := by
  intro n cs _
  exact ⟨(), by simp [span], trivial⟩
theorem opensF_cons {fd : Field} {l : List Field} {o k : Nat} (h1 : Opens enc P w base spare held fd.type f Q) (ho : fd.offset = o) (hk : P.cellsOf fd.type = k) (h2 : OpensF enc P w base spare held l (o + k) f2 Q2) :
    OpensF enc P w base spare held (fd :: l) o (fun p : α × β => f p.1 ++ f2 p.2) (fun p => Q p.1 ∧ Q2 p.2) := by
  intro n cs h
  obtain ⟨x, hx⟩ := h fd (by simp)
  obtain ⟨a, ha, hQ⟩ := h1 n _ x hx
  obtain ⟨b, hb, hR⟩ := h2 n cs (fun g hg => h g (by simp [hg]))
  refine ⟨(a, b), ?_, hQ, hR⟩
  show f a ++ f2 b = _
  rw [ha, hb, ho, hk]
  have e : span P (fd :: l) = k + span P l := by simp [span, hk]
  rw [e, List.take_add, List.drop_drop]
theorem opens_struct {fs : Array Field} (ht : P.underlying t = some (.struct fs)) (hC : P.cellsOf t = span P fs.toList) (h : OpensF enc P w base spare held fs.toList 0 f Q) : Opens enc P w base spare held t f Q := by
  intro n cs x hx
  obtain ⟨xs, m, _, _, hl, hxs, hf⟩ := DataW.trod_struct ht hx
  obtain ⟨a, ha, hQ⟩ := h m cs (fun fd hfd => by
    obtain ⟨i, hi, e⟩ := List.mem_iff_getElem.1 hfd
    have h1 := hf i fd (by rw [← e]; simp)
    have hi' : i < xs.length := by rw [hxs]; simpa using hi
    exact ⟨xs[i], by rw [h1]; exact List.getElem?_eq_getElem hi'⟩)
  refine ⟨a, ?_, hQ⟩
  rw [ha, List.drop_zero, ← hC, ← hl, List.take_length]
theorem opens_slice {sz : Nat} (ht : P.underlying t = some (.slice e)) (hC : P.cellsOf e = sz) (hsz : 0 < sz) [Inhabited α] (hlen : ∀ a, (f a).length = sz) (h : Opens enc P w base spare held e f Q) :
    Opens enc P w base spare held t (fun s : Sl α => [s.val]) (fun s => s.Lies w f sz ∧ ∀ a ∈ s.l, Q a) := by
  intro n cs x hx
  rcases open_slice ht hx with ⟨hcs, -⟩ | ⟨a, len, cap, m, n, D, Pl, hcs, hb, hl, hm, hmm, -, hi⟩
  · exact ⟨⟨[], none, 0⟩, hcs.symm, ⟨Rd.none_, by simp, by simp [maxLen]⟩, fun a ha => by simp at ha⟩
  · have hml : len ≤ m := by rw [hmm]; split <;> omega
    have hrow : ∀ i, i < len → ∃ y : α, (∀ j u, (f y)[j]? = some u → w.cell? (a.add (i * sz + j)) = some u) ∧ Q y := by
      intro i hil
      obtain ⟨cs', hc, hd⟩ := hi i (by omega)
      obtain ⟨y, hy, hQ⟩ := h n cs' _ hd
      rw [hC] at hc
      obtain ⟨_, hcl, hat⟩ := World.cells?_some hc
      refine ⟨y, fun j u hu => ?_, hQ⟩
      rw [hy] at hu
      have hj : j < sz := by
        have := (List.getElem?_eq_some_iff.1 hu).1
        omega
      have := hat j hj
      rw [Go.Deep.add_add] at this
      rw [this]; exact hu
    obtain ⟨V, hV⟩ := choose_lt (α := α) (p := fun i x => (∀ j u, (f x)[j]? = some u → w.cell? (a.add (i * sz + j)) = some u) ∧ Q x) hrow
    refine ⟨⟨(List.range len).map V, some a, cap⟩, by simp [Sl.val, hcs], ⟨?_, by simpa using hl, hm⟩, fun x hx => ?_⟩
    · exact rd_mk (w := w) (a := a) (l := (List.range len).map V) hlen hsz (fun k hk j u hu => by
        simp only [List.getElem_map, List.getElem_range] at hu
        exact (hV k (by simpa using hk)).1 j u hu)
    · simp only [List.mem_map, List.mem_range] at hx
      obtain ⟨i, hi, rfl⟩ := hx
      exact (hV i hi).2
/-- an argument that is a struct -/
theorem opens_agg {r : Reach} {b0 : Nat} {fs : Array Field} {v : Value} {d : DataW H} {p : List MemPlace} (ht : P.underlying t = some (.struct fs)) (h : Opens enc P w base spare held t f Q)
    (hv : Value.okWide P w r b0 t v) (hd : DataW.Trod enc P w base spare held t v d p) : ∃ a : α, v = .agg (f a).toArray ∧ Q a := by
  obtain ⟨cs, rfl, _⟩ := okWide_struct ht hv
  obtain ⟨fuel, hf⟩ := hd
  obtain ⟨a, h1, h2⟩ := h fuel _ _ hf
  refine ⟨a, ?_, h2⟩
  rw [h1]
  simp [Value.cells]
/-- an argument that is a slice -/
theorem opens_sl {r : Reach} {b0 : Nat} {v : Value} {d : DataW H} {p : List MemPlace} {R : Sl α → Prop} (ht : P.underlying t = some (.slice e)) (h : Opens enc P w base spare held t (fun s : Sl α => [s.val]) R)
    (hv : Value.okWide P w r b0 t v) (hd : DataW.Trod enc P w base spare held t v d p) : ∃ s : Sl α, v = s.val ∧ R s := by
  obtain ⟨A, n, c, rfl⟩ := okWide_slice ht hv
  obtain ⟨fuel, hf⟩ := hd
  obtain ⟨a, h1, h2⟩ := h fuel _ _ hf
  refine ⟨a, ?_, h2⟩
  simp [Value.cells] at h1
  exact h1.symm
end
end Go.Proofs.YtnddoehhcpejjaaGreat
/- Pairs of an account and an amount: their cells; lists in order. No program. -/
namespace Go.Proofs.YtnddoehhcpejjaaGreat
set_option linter.unusedVariables false
set_option linter.unusedSimpArgs false
open Go.RowKit

structure Bal where
  account : Int
  amount : Int
namespace Bal
def zero : Bal := ⟨0, 0⟩
def cells (b : Bal) : List Value := [.int .i64 b.account, .int .i64 b.amount]
theorem one (b : Bal) : ∀ u ∈ cells b, u.oneCell' = true := by
  intro u hu
  simp [cells] at hu
  rcases hu with rfl | rfl <;> rfl
theorem mk_ (r : List Int) (h : r.length = 2) : ∃ a : Bal, cells a = r.map (Value.int .i64) := by
  match r, h with
  | [a, b], _ => exact ⟨⟨a, b⟩, rfl⟩
/-- where the pairs of a list lie -/
theorem at_ {w : World} {B : Nat} {A : Option Addr} {l : List Bal} (h : Rd w B 2 A l.length (cellsOf cells l)) {k : Nat} (hk : k < l.length) :
    ∃ b o, A = some ⟨b, o, none⟩ ∧ b < B ∧ w.cell? ⟨b, o + k * 2, none⟩ = some (.int .i64 l[k].account) ∧ w.cell? ⟨b, o + k * 2 + 1, none⟩ = some (.int .i64 l[k].amount) := by
  obtain ⟨b, o, e, hb, hc⟩ := rd_at (f := cells) (sz := 2) (fun _ => rfl) h hk
  exact ⟨b, o, e, hb, hc 0 _ rfl, hc 1 _ rfl⟩
theorem getD_at (l : List Bal) (k : Nat) (hk : k < l.length) : l.getD k zero = l[k] := by simp [List.getD, hk]
end Bal
instance balInh : Inhabited Bal := ⟨Bal.zero⟩
def amV (n : Int) : Bool := decide (-1000000000000 ≤ n) && decide (n ≤ 1000000000000)
theorem amV_is {n : Int} (h : amV n = true) : -1000000000000 ≤ n ∧ n ≤ 1000000000000 := by unfold amV at h; simpa using h
/-- a condition on every place -/
def allAt (n : Nat) (p : Nat → Bool) : Bool := (List.range n).all p
theorem allAt_no {n k : Nat} {p : Nat → Bool} (hk : k < n) (h : p k = false) : allAt n p = false := by
  unfold allAt
  rw [List.all_eq_false]
  exact ⟨k, by simpa using hk, by simp [h]⟩
theorem allAt_yes {n : Nat} {p : Nat → Bool} (h : ∀ j, j < n → p j = true) : allAt n p = true := by
  unfold allAt
  rw [List.all_eq_true]
  intro j hj
  exact h j (by simpa using hj)
theorem allAt_at {n k : Nat} {p : Nat → Bool} (h : allAt n p = true) (hk : k < n) : p k = true := by
  unfold allAt at h
  rw [List.all_eq_true] at h
  exact h k (by simpa using hk)
theorem allAt_and {n : Nat} {p q : Nat → Bool} : allAt n (fun j => p j && q j) = (allAt n p && allAt n q) := by
  rw [Bool.eq_iff_iff]
  simp only [Bool.and_eq_true]
  constructor
  · intro h
    exact ⟨allAt_yes fun j hj => by have := allAt_at h hj; simp at this; exact this.1, allAt_yes fun j hj => by have := allAt_at h hj; simp at this; exact this.2⟩
  · intro ⟨h1, h2⟩
    exact allAt_yes fun j hj => by simp [allAt_at h1 hj, allAt_at h2 hj]
/-- in order, and amounts that are let -/
def ascAt (b : List Bal) (j : Nat) : Bool := (j == 0 || decide ((b.getD (j - 1) Bal.zero).account < (b.getD j Bal.zero).account)) && amV (b.getD j Bal.zero).amount
def ascV (b : List Bal) : Bool := allAt b.length (ascAt b)
theorem asc_mk {b : List Bal} {k : Nat} (hk : k < b.length) (ho : k = 0 ∨ (b[k - 1]'(by omega)).account < b[k].account) (hm : amV b[k].amount = true) : ascAt b k = true := by
  unfold ascAt
  rw [Bal.getD_at b k hk, Bal.getD_at b (k - 1) (by omega), hm]
  rcases ho with h | h
  · simp [h]
  · simp [h]
theorem asc_no {b : List Bal} {k : Nat} (hk : k < b.length) (h : (0 < k ∧ b[k].account ≤ (b[k - 1]'(by omega)).account) ∨ amV b[k].amount = false) : ascAt b k = false := by
  unfold ascAt
  rw [Bal.getD_at b k hk, Bal.getD_at b (k - 1) (by omega)]
  rcases h with h | h
  · have h0 : (k == 0) = false := by simp; omega
    have h1 : decide ((b[k - 1]'(by omega)).account < b[k].account) = false := by simp; omega
    rw [h0, h1]; simp
  · rw [h]; simp
theorem asc_amount {b : List Bal} (h : ascV b = true) {x : Bal} (hx : x ∈ b) : amV x.amount = true := by
  obtain ⟨j, hj, rfl⟩ := List.mem_iff_getElem.1 hx
  have := allAt_at h hj
  unfold ascAt at this
  rw [Bal.getD_at b j hj] at this
  simp only [Bool.and_eq_true] at this
  exact this.2
end Go.Proofs.YtnddoehhcpejjaaGreat
