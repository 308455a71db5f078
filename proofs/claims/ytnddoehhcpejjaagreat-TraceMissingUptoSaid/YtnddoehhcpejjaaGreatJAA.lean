/- Texts of this claim, put together. -/
import Derived.WalkKit
import Derived.WalkSpells
import Derived.WalkLawsBesides
import Derived.Lib.Hide
import Derived.Deep.Draws
import Derived.Laws.OwnMore
import Derived.Maps.Own
import Derived.Maps.OwnSet
import Derived.Maps.Views
import Derived.Maps.AppendAt
import Derived.Deep.QuietTactic
import Derived.BigQuiet
import Derived.OrdersHeld
/- Small laws on the model's operations that the proofs of this claim use; over any program. -/
namespace Go.Proofs.YtnddoehhcpejjaaGreat
set_option linter.unusedVariables false
set_option linter.unusedSimpArgs false
open Go.RowKit

theorem ret_bool {a b : Bool} (h : a = b) : Ending.returned (.bool a) = .returned (.bool b) := by rw [h]
theorem ret_int {k : IntKind} {a b : Int} (h : a = b) : Ending.returned (.int k a) = .returned (.int k b) := by rw [h]

theorem ret_pair {k q : IntKind} {a b c d : Int} (h : a = b ∧ c = d) : Ending.returned (.tuple #[.int k a, .int q c]) = .returned (.tuple #[.int k b, .int q d]) := by rw [h.1, h.2]

/-- An element of an array value, elements of one integer cell. -/
theorem run_index_agg1 {P : Program} {t e : TypeId} {n : Nat} {k q : IntKind} {j : TypeInfo} (ht : P.underlying t = some (.array n e)) (he : P.underlying e = some (.int k)) (hi : P.info? e = some j) (hs : j.size = 1)
    (cs : Array Value) (i : Int) (v : Value) (h0 : 0 ≤ i) (hn : i < n) (hv : cs[i.toNat]? = some v) (w : World) : (Instr.index t (.agg cs) (.int q i)).run P w = .ok v w := by
  simp [Instr.index, part, isAgg, run_underlying ht, run_underlying he, sizeOf, typeInfo, hi, hs, h0, hn, hv, asIntOf]

theorem results_tmp4 {fn : Func} {t u v x : Tmp} (h : fn.results = #[.tmp t, .tmp u, .tmp v, .tmp x]) (tmps : Array Value) (P : Program) (w : World) :
    (results fn tmps).run P w = .ok (.tuple #[tmps.getD t undef, tmps.getD u undef, tmps.getD v undef, tmps.getD x undef]) w := by simp [results, h]

/-- The cells of a block that was just made. -/
theorem add_zero_ (b j : Nat) : ((⟨b, 0, none⟩ : Addr).add j) = ⟨b, j, none⟩ := by unfold Addr.add; split <;> simp_all
theorem cells_new (w : World) (cs : Array Value) (t : TypeId) (l : List Value) (hl : cs.toList = l) :
    ∀ (j : Nat) (u : Value), l[j]? = some u → (w.alloc (.cells cs t)).cell? ((⟨w.heap.size, 0, none⟩ : Addr).add j) = some u := by
  intro j u hu
  subst hl
  rw [add_zero_, cell_of_row (w.alloc (.cells cs t)) w.heap.size j cs t (0, 0) (heap_alloc_new w _)]
  simpa using hu

/-- The shape of a row of the call's own that is not empty. -/
theorem own_form {w : World} {base : Nat} {e : TypeId} {size : Nat} {v : Value} {n : Nat} {xs : List Value} (h : w.ownsRow base e size v n xs) (hn : 0 < n) :
    ∃ g cap, v = .slice (some ⟨g, 0, none⟩) n cap ∧ base ≤ g ∧ g < w.heap.size ∧ n ≤ cap := by
  rcases h.2 with ⟨_, h0⟩ | ⟨g, cap, cur, hv, hb, hg, hnc, _⟩
  · omega
  · exact ⟨g, cap, hv, hb, (Array.getElem?_eq_some_iff.1 hg).1, hnc⟩
/-- An append to a row of the call's own leaves all below it as it was. -/
theorem bel_own {w w1 w2 : World} {base : Nat} {e : TypeId} {size : Nat} {v : Value} {n : Nat} {xs : List Value} (h : Below base w w1) (hB : base ≤ w1.heap.size) (hown : w1.ownsRow base e size v n xs) (hg : w1.grownBy w2 v.ownBlock) : Below base w w2 :=
  h.grown hg hB (fun k hk => (hown.lt k hk).1)

theorem bcell {W w1 : World} (hb : Below W.heap.size W w1) : (∀ b o, b < W.heap.size → w1.cell? ⟨b, o, none⟩ = W.cell? ⟨b, o, none⟩) ∧ (∀ b o, b < W.heap.size → w1.frozen? ⟨b, o, none⟩ = W.frozen? ⟨b, o, none⟩) :=
  ⟨fun b o h => hb.cell (p := ⟨b, o, none⟩) h, fun b o h => hb.frozen (p := ⟨b, o, none⟩) h⟩
theorem below_drewN_ {B : Nat} {a w : World} (h : Below B a w) (n : Nat) : Below B a (w.drewN n) := ⟨h.os, h.tape, h.output, h.size, h.block⟩
theorem one_u8 (n : Int) : ∀ u ∈ [Value.int .u8 n], u.oneCell' = true := by
  intro u hu
  simp at hu
  subst hu
  rfl

/-- What holds below the first world's heap is handed on through a call. -/
theorem bel {w w1 w2 : World} (h : Below w.heap.size w w1) (k : Below w1.heap.size w1 w2) : Below w.heap.size w w2 := h.trans (k.mono h.size)
theorem bel' {w w1 w2 : World} (k : Below w1.heap.size w1 w2) (h : Below w.heap.size w w1) : Below w.heap.size w w2 := bel h k
end Go.Proofs.YtnddoehhcpejjaaGreat
/- Words for memory: a slice that reads as a list of cells, a block of the call's own that is known whole. Over any program. -/
namespace Go.Proofs.YtnddoehhcpejjaaGreat
set_option linter.unusedVariables false
set_option linter.unusedSimpArgs false
open Go.RowKit

/-- The slice at A with n elements of sz cells reads as xs; it lies below block B. -/
def Rd (w : World) (B sz : Nat) (A : Option Addr) (n : Nat) (xs : List Value) : Prop :=
  xs.length = n * sz ∧ (0 < n → ∃ b o, A = some ⟨b, o, none⟩ ∧ b < B ∧ ∀ j u, xs[j]? = some u → w.cell? ⟨b, o + j, none⟩ = some u)

section
variable {w w' : World} {B B' sz n : Nat} {A : Option Addr} {xs : List Value}
theorem Rd.none_ : Rd w B sz A 0 [] := ⟨by simp, fun h => absurd h (by omega)⟩
theorem Rd.keep (h : Rd w B sz A n xs) (hk : ∀ b o, b < B → w'.cell? ⟨b, o, none⟩ = w.cell? ⟨b, o, none⟩) : Rd w' B sz A n xs :=
  ⟨h.1, fun hn => by
    obtain ⟨b, o, e, hb, hc⟩ := h.2 hn
    exact ⟨b, o, e, hb, fun j u hu => (hk _ _ hb).trans (hc j u hu)⟩⟩
theorem Rd.more (h : Rd w B sz A n xs) (hB : B ≤ B') : Rd w B' sz A n xs :=
  ⟨h.1, fun hn => by
    obtain ⟨b, o, e, hb, hc⟩ := h.2 hn
    exact ⟨b, o, e, by omega, hc⟩⟩
theorem Rd.below (h : Rd w B sz A n xs) {C : Nat} (hb : Below C w w') (hC : B ≤ C) : Rd w' B sz A n xs := h.keep fun b o hp => hb.cell (p := ⟨b, o, none⟩) (by show b < C; omega)
theorem Rd.now {w W : World} {sz n : Nat} {A : Option Addr} {xs : List Value} (h : Rd w w.heap.size sz A n xs) (hb : Below w.heap.size w W) : Rd W W.heap.size sz A n xs := (h.below hb (Nat.le_refl _)).more hb.size
theorem Rd.alloc (h : Rd w B sz A n xs) (hB : B ≤ w.heap.size) (o : Obj) : Rd (w.alloc o) B sz A n xs :=
  h.keep fun b q hp => World.cell?_alloc_lt w o ⟨b, q, none⟩ (by show b < _; omega)
theorem Rd.drew (h : Rd w B sz A n xs) : Rd w.drew B sz A n xs := h
theorem Rd.drewN (h : Rd w B sz A n xs) (k : Nat) : Rd (w.drewN k) B sz A n xs := h
/-- what the call made itself reads, too -/
theorem Rd.of_own {base : Nat} {e : TypeId} {v : Value} (h : w.ownsRow base e sz v n xs) : ∃ A c, v = .slice A n c ∧ Rd w w.heap.size sz A n xs := by
  rcases h.2 with ⟨rfl, h0⟩ | ⟨g, cap, cur, rfl, hb, hg, hnc, hcm, hcs, ht⟩
  · subst h0; exact ⟨none, 0, rfl, ⟨h.1, fun hn => absurd hn (by omega)⟩⟩
  · refine ⟨some ⟨g, 0, none⟩, cap, rfl, h.1, fun _ => ⟨g, 0, rfl, (Array.getElem?_eq_some_iff.1 hg).1, fun j u hu => ?_⟩⟩
    have := h.cells (g := g) rfl j u hu
    rwa [add_zero_, ← Nat.zero_add j] at this
end

theorem cells_new2 (w : World) (o : Obj) (cs : Array Value) (t : TypeId) (l : List Value) (hl : cs.toList = l) :
    ∀ (j : Nat) (u : Value), l[j]? = some u → ((w.alloc o).alloc (.cells cs t)).cell? ((⟨w.heap.size + 1, 0, none⟩ : Addr).add j) = some u := by
  have := cells_new (w.alloc o) cs t l hl
  simpa using this
/-- Block g is just the cells cs of element type t, none of them frozen. -/
def Blk (w : World) (g : Nat) (t : TypeId) (cs : Array Value) : Prop := w.heap[g]? = some (.cells cs t (0, 0))
section
variable {w w' : World} {g : Nat} {t : TypeId} {cs : Array Value}
theorem Blk.lt (h : Blk w g t cs) : g < w.heap.size := (Array.getElem?_eq_some_iff.1 h).1
theorem Blk.cell (h : Blk w g t cs) (i : Nat) : w.cell? ⟨g, i, none⟩ = cs[i]? := cell_of_row w g i cs t (0, 0) h
theorem Blk.frozen (h : Blk w g t cs) (i : Nat) : w.frozen? ⟨g, i, none⟩ = false := by unfold Blk at h; simp [World.frozen?, h]
theorem Blk.new (w : World) (t : TypeId) (cs : Array Value) : Blk (w.alloc (.cells cs t)) w.heap.size t cs := heap_alloc_new w _
theorem Blk.drew (h : Blk w g t cs) : Blk w.drew g t cs := h
theorem Blk.drewN (h : Blk w g t cs) (n : Nat) : Blk (w.drewN n) g t cs := h
theorem Blk.alloc (h : Blk w g t cs) (o : Obj) : Blk (w.alloc o) g t cs := (Below.heap_alloc w o g h.lt).trans h
theorem Blk.far (h : Blk w g t cs) {p : Addr} (hp : g ≠ p.block) (u : Value) : Blk (w.setCell p u) g t cs := (Below.heap_setCell w p u g hp).trans h
theorem Blk.grown {row : Option Nat} (h : Blk w g t cs) (hg : w.grownBy w' row) (hne : some g ≠ row) : Blk w' g t cs := (hg.block g h.lt hne).trans h
theorem Blk.below {B : Nat} (h : Blk w g t cs) (hb : Below B w w') (hg : g < B) : Blk w' g t cs := (hb.block g hg).trans h
theorem Blk.step (h : Blk w g t cs) (hb : Below w.heap.size w w') : Blk w' g t cs := h.below hb h.lt
theorem Blk.set_ (h : Blk w g t cs) (i : Nat) (u : Value) : Blk (w.setCell ⟨g, i, none⟩ u) g t (cs.setIfInBounds i u) := by
  unfold Blk at h ⊢
  simp [World.setCell, Array.getElem?_modify, h]
theorem cell_ne (w : World) (g i j : Nat) (u : Value) (h : i ≠ j) : (w.setCell ⟨g, i, none⟩ u).cell? ⟨g, j, none⟩ = w.cell? ⟨g, j, none⟩ :=
  World.cell?_setCell_other w ⟨g, i, none⟩ ⟨g, j, none⟩ u (fun e => h (congrArg Addr.off e))
end
/-- numbers as cells -/
def intCells (l : List Int) : List Value := l.map fun c => Value.int .i64 c
theorem intCells_app (a b : List Int) : intCells (a ++ b) = intCells a ++ intCells b := by unfold intCells; simp
theorem intCells_len (a : List Int) : (intCells a).length = a.length := by unfold intCells; simp
theorem int_at {w : World} {B : Nat} {A : Option Addr} {l : List Int} (h : Rd w B 1 A l.length (intCells l)) {k : Nat} (hk : k < l.length) :
    ∃ b o, A = some ⟨b, o, none⟩ ∧ b < B ∧ w.cell? ⟨b, o + k, none⟩ = some (.int .i64 l[k]) := by
  obtain ⟨b, o, e, hb, hc⟩ := h.2 (by omega)
  exact ⟨b, o, e, hb, hc k _ (by unfold intCells; simp [hk])⟩
def sliceLen : Value → Nat
  | .slice _ n _ => n
  | _ => 0
theorem own_slice {w : World} {base : Nat} {e : TypeId} {sz : Nat} {v : Value} {n : Nat} {xs : List Value} (h : w.ownsRow base e sz v n xs) : sliceLen v = n := by
  obtain ⟨A, c, rfl, _⟩ := Rd.of_own h
  rfl
end Go.Proofs.YtnddoehhcpejjaaGreat
/- Words for maps of the call's own with whole numbers as keys: a set of numbers; sums. Over any program. -/
namespace Go.Proofs.YtnddoehhcpejjaaGreat
set_option linter.unusedVariables false
set_option linter.unusedSimpArgs false
open Go.RowKit
open Go.Maps (Keyed)

theorem wf64 {c : Int} (h0 : -9223372036854775808 ≤ c) (h1 : c ≤ 9223372036854775807) : (Lit.int .i64 c).wf = true := by
  have := IntWalk.wrap64_in c ⟨h0, h1⟩
  rw [← this]
  exact wrap64_wf _

theorem grown_below {w w' : World} (h : Below w.heap.size w w') (row : Option Nat) : w.grownBy w' row := ⟨h.os, h.tape, h.output, h.size, fun j hj _ => h.block j hj⟩
theorem one_i64 (n : Int) : ∀ u ∈ [Value.int .i64 n], u.oneCell' = true := by
  intro u hu
  simp at hu
  subst hu
  rfl
/-- a row of the call's own stays through a call -/
theorem own_step {w w' : World} {base : Nat} {e : TypeId} {sz : Nat} {v : Value} {n : Nat} {xs : List Value} (h : w.ownsRow base e sz v n xs) (hb : Below w.heap.size w w') : w'.ownsRow base e sz v n xs := h.kept (grown_below hb none) (Classical.em _)

/-- Block b is a map of at most n entries in which just the numbers of S stand as true. -/
def SetW (P : Program) (k e : TypeId) (w : World) (b n : Nat) (S : List Int) : Prop :=
  ∃ D : DataW Unit, w.ownsMap P k (plainElem P e) b n D ∧ Maps.IsMap D ∧ ∀ c, D.atKey (.int .i64 c) (.lit (.bool false)) = .lit (.bool (decide (c ∈ S)))
/-- Block b is a map of at most n entries that says f. -/
def SumW (P : Program) (k e : TypeId) (w : World) (b n : Nat) (f : Int → Int) : Prop :=
  ∃ D : DataW Unit, w.ownsMap P k (plainElem P e) b n D ∧ Maps.IsMap D ∧ ∀ c, D.atKey (.int .i64 c) (.lit (.int .i64 0)) = .lit (.int .i64 (f c))

section
variable {P : Program} {k e t : TypeId} {w w' : World} {b n : Nat} {S : List Int} {f : Int → Int}
theorem SetW.made (w : World) : SetW P k e (w.alloc (.map #[] 0)) w.heap.size 0 [] := ⟨.map [], World.ownsMap_made _ _ _ _, Maps.isMap_empty, fun _ => by simp [DataW.atKey]⟩
theorem SumW.made (w : World) : SumW P k e (w.alloc (.map #[] 0)) w.heap.size 0 (fun _ => 0) := ⟨.map [], World.ownsMap_made _ _ _ _, Maps.isMap_empty, fun _ => by simp [DataW.atKey]⟩
theorem SetW.lt (h : SetW P k e w b n S) : b < w.heap.size := by obtain ⟨D, h, _⟩ := h; exact h.lt
theorem SumW.lt (h : SumW P k e w b n f) : b < w.heap.size := by obtain ⟨D, h, _⟩ := h; exact h.lt
theorem SetW.kept {row : Option Nat} (h : SetW P k e w b n S) (hg : w.grownBy w' row) (hne : some b ≠ row) : SetW P k e w' b n S := by obtain ⟨D, h, r⟩ := h; exact ⟨D, h.kept hg hne, r⟩
theorem SumW.kept {row : Option Nat} (h : SumW P k e w b n f) (hg : w.grownBy w' row) (hne : some b ≠ row) : SumW P k e w' b n f := by obtain ⟨D, h, r⟩ := h; exact ⟨D, h.kept hg hne, r⟩
theorem SetW.step (h : SetW P k e w b n S) (hb : Below w.heap.size w w') : SetW P k e w' b n S := h.kept (grown_below hb none) (by simp)
theorem SumW.step (h : SumW P k e w b n f) (hb : Below w.heap.size w w') : SumW P k e w' b n f := h.kept (grown_below hb none) (by simp)
theorem SetW.alloc (h : SetW P k e w b n S) (o : Obj) : SetW P k e (w.alloc o) b n S := h.kept (World.grownBy_alloc w o none) (by simp)
theorem SumW.alloc (h : SumW P k e w b n f) (o : Obj) : SumW P k e (w.alloc o) b n f := h.kept (World.grownBy_alloc w o none) (by simp)
theorem SetW.drewN (h : SetW P k e w b n S) (q : Nat) : SetW P k e (w.drewN q) b n S := h
theorem SumW.drewN (h : SumW P k e w b n f) (q : Nat) : SumW P k e (w.drewN q) b n f := h
theorem map_ne {R : Value → Option (DataW Unit × List MemPlace)} {D : DataW Unit} {base : Nat} {E : TypeId} {sz : Nat} {v : Value} {m : Nat} {xs : List Value} (h : w.ownsMap P k R b n D) (hr : w.ownsRow base E sz v m xs) : some b ≠ v.ownBlock := by
  obtain ⟨es, cl, hb, _⟩ := h
  rcases hr.2 with ⟨rfl, _⟩ | ⟨g, cap, cur, rfl, _, hg, _⟩
  · simp [Value.ownBlock]
  · simp only [Value.ownBlock, ne_eq, Option.some.injEq]
    rintro rfl
    rw [hb] at hg
    simp at hg
theorem SetW.ne {base : Nat} {E : TypeId} {sz : Nat} {v : Value} {m : Nat} {xs : List Value} (h : SetW P k e w b n S) (hr : w.ownsRow base E sz v m xs) : some b ≠ v.ownBlock := by
  obtain ⟨D, h, _⟩ := h
  exact map_ne h hr
theorem SumW.ne {base : Nat} {E : TypeId} {sz : Nat} {v : Value} {m : Nat} {xs : List Value} (h : SumW P k e w b n f) (hr : w.ownsRow base E sz v m xs) : some b ≠ v.ownBlock := by
  obtain ⟨D, h, _⟩ := h
  exact map_ne h hr
theorem SetW.blk_ne {g : Nat} {E : TypeId} {cs : Array Value} (h : SetW P k e w b n S) (hr : Blk w g E cs) : b ≠ g := by
  obtain ⟨D, ⟨es, cl, hb, _⟩, _⟩ := h
  rintro rfl
  unfold Blk at hr
  rw [hb] at hr
  simp at hr

theorem plainElem_bool_inv {e : TypeId} (he : P.underlying e = some .bool) {v : Value} {z : DataW Unit × List MemPlace} (h : plainElem P e v = some z) : ∃ x, v = .bool x ∧ z = (.lit (.bool x), []) := by
  unfold plainElem at h
  rw [he] at h
  cases v <;> simp at h
  exact ⟨_, rfl, h.symm⟩

/-- the look-up in a set -/
theorem SetW.look (h : SetW P k e w b n S) (hk : P.underlying k = some (.int .i64)) (he : P.underlying e = some .bool) (ht : P.underlying t = some (.map k e)) (hz : (zeroValue e).run P w = .ok (.bool false) w)
    {c : Int} (hc : (Lit.int .i64 c).wf = true) : (Instr.lookup t (.map (some b)) (.int .i64 c) false).run P w = .ok (.bool (decide (c ∈ S))) w := by
  obtain ⟨D, h, _, hD⟩ := h
  obtain ⟨v, ps, hrun, hv⟩ := h.lookup (Maps.int_keyed hk) ht hz (plainElem_bool he false) (Maps.keyOf_int_mk hk hc)
  obtain ⟨x, rfl, e2⟩ := plainElem_bool_inv he hv
  rw [hD c] at e2
  injection e2 with e2 _
  injection e2 with e2
  injection e2 with e2
  rw [hrun, e2]
/-- the look-up of a sum -/
theorem SumW.look (h : SumW P k e w b n f) (hk : P.underlying k = some (.int .i64)) (he : P.underlying e = some (.int .i64)) (ht : P.underlying t = some (.map k e)) (hz : (zeroValue e).run P w = .ok (.int .i64 0) w)
    {c : Int} (hc : (Lit.int .i64 c).wf = true) : (Instr.lookup t (.map (some b)) (.int .i64 c) false).run P w = .ok (.int .i64 (f c)) w := by
  obtain ⟨D, h, _, hD⟩ := h
  obtain ⟨x, hrun, hv, _⟩ := h.lookup_int (Maps.int_keyed hk) ht he hz (Maps.keyOf_int_mk hk hc)
  rw [hD c] at hv
  injection hv with hv
  injection hv with _ hv
  rw [hrun, hv]
theorem int_ne {c d : Int} (h : c ≠ d) : Lit.int .i64 c ≠ Lit.int .i64 d := fun e => h (by injection e)
theorem SetW.put {D : DataW Unit} {c : Int} (hm : Maps.IsMap D) (hD : ∀ c, D.atKey (.int .i64 c) (.lit (.bool false)) = .lit (.bool (decide (c ∈ S))))
    (h2 : w'.ownsMap P k (plainElem P e) b (n + 1) (D.put (.int .i64 c) (.lit (.bool true)))) : SetW P k e w' b (n + 1) (S ++ [c]) := by
  refine ⟨_, h2, hm.put _ _, fun d => ?_⟩
  by_cases hd : d = c
  · subst hd
    rw [Maps.atKey_put_same hm (show WideAt.IsKeyLit (.int .i64 d) from trivial)]
    simp
  · rw [Maps.atKey_put_other (int_ne hd), hD d]
    simp [hd]
theorem SumW.put {D : DataW Unit} {c x : Int} (hm : Maps.IsMap D) (hD : ∀ c, D.atKey (.int .i64 c) (.lit (.int .i64 0)) = .lit (.int .i64 (f c)))
    (h2 : w'.ownsMap P k (plainElem P e) b (n + 1) (D.put (.int .i64 c) (.lit (.int .i64 x)))) : SumW P k e w' b (n + 1) (fun d => if d = c then x else f d) := by
  refine ⟨_, h2, hm.put _ _, fun d => ?_⟩
  by_cases hd : d = c
  · subst hd
    rw [Maps.atKey_put_same hm (show WideAt.IsKeyLit (.int .i64 d) from trivial)]
    simp
  · rw [Maps.atKey_put_other (int_ne hd), hD d]
    simp [hd]
/-- a number is laid into the set: at the operation -/
theorem wpList_set_put {ops : Array Oper} {rest : List Oper} {o : Oper} {a : Act} {Q : Exit → Act → World → Prop} (hg : o.guard = none) (m x v : Operand) (t : TypeId) (hop : o.op = Op.mapUpdate t m x v)
    (hk : P.underlying k = some (.int .i64)) (he : P.underlying e = some .bool) (ht : P.underlying t = some (.map k e)) (h : SetW P k e w b n S) (hn : n < maxLen) (c : Int) (hc : (Lit.int .i64 c).wf = true)
    (hm : a.eval m = .map (some b)) (hx : a.eval x = .int .i64 c) (hv : a.eval v = .bool true)
    (hK : ∀ w', SetW P k e w' b (n + 1) (S ++ [c]) → w.grownBy w' (some b) → wpList P ops Q rest (a.put o.dst undef) w') : wpList P ops Q (o :: rest) a w := by
  obtain ⟨D, h, hM, hD⟩ := h
  exact wpList_mapUpdate_own w hg m x v t hop k e (Maps.int_keyed hk) ht _ b n D hm h hn _ _ _ hx hv (Maps.keyOf_int_mk hk hc) _ [] (plainElem_bool he true) fun w' h2 g2 => hK w' (SetW.put hM hD h2) g2
theorem wpList_sum_put {ops : Array Oper} {rest : List Oper} {o : Oper} {a : Act} {Q : Exit → Act → World → Prop} (hg : o.guard = none) (m x v : Operand) (t : TypeId) (hop : o.op = Op.mapUpdate t m x v)
    (hk : P.underlying k = some (.int .i64)) (he : P.underlying e = some (.int .i64)) (ht : P.underlying t = some (.map k e)) (h : SumW P k e w b n f) (hn : n < maxLen) (c y : Int) (hc : (Lit.int .i64 c).wf = true) (hy : (Lit.int .i64 y).wf = true)
    (hm : a.eval m = .map (some b)) (hx : a.eval x = .int .i64 c) (hv : a.eval v = .int .i64 y)
    (hK : ∀ w', SumW P k e w' b (n + 1) (fun d => if d = c then y else f d) → w.grownBy w' (some b) → wpList P ops Q rest (a.put o.dst undef) w') : wpList P ops Q (o :: rest) a w := by
  obtain ⟨D, h, hM, hD⟩ := h
  exact wpList_mapUpdate_own w hg m x v t hop k e (Maps.int_keyed hk) ht _ b n D hm h hn _ _ _ hx hv (Maps.keyOf_int_mk hk hc) _ [] (plainElem_int he hy) fun w' h2 g2 => hK w' (SumW.put hM hD h2) g2
end
end Go.Proofs.YtnddoehhcpejjaaGreat
/- A region that draws its order, whose operations read and whose calls make memory: one walk. Over any program. -/
namespace Go.Proofs.YtnddoehhcpejjaaGreat
set_option linter.unusedVariables false
set_option linter.unusedSimpArgs false
open Go.RowKit

theorem own_base {w : World} {base base' : Nat} {e : TypeId} {sz : Nat} {v : Value} {n : Nat} {xs : List Value} (h : w.ownsRow base e sz v n xs) (hB : base' ≤ base) : w.ownsRow base' e sz v n xs :=
  ⟨h.1, h.2.imp id fun ⟨g, cap, cur, h1, h2, h3⟩ => ⟨g, cap, cur, h1, by omega, h3⟩⟩
theorem upto_succ {p : Nat → Prop} {k : Nat} (h : ∀ j, j < k → p j) (hk : p k) : ∀ j, j < k + 1 → p j := fun j hj => by
  by_cases e : j = k
  · subst e; exact hk
  · exact h j (by omega)
/-- a world in which all that was there is as it was -/
structure Later (w : World) where
  now : World
  below : Below w.heap.size w now
instance instLater (w : World) : Nonempty (Later w) := ⟨⟨w, Below.refl _ _⟩⟩
namespace Later
variable {w : World} {P : Program}
theorem cell (d : Later w) {b o : Nat} {v : Value} (hb : b < w.heap.size) (h : w.cell? ⟨b, o, none⟩ = some v) : d.now.cell? ⟨b, o, none⟩ = some v := (d.below.cell (p := ⟨b, o, none⟩) hb).trans h
theorem call {f : FuncId} {args : Array Value} {v : Value} (d : Later w) (h : Calls P f args d.now fun e w' => e = .returned v ∧ Below d.now.heap.size d.now w') :
    Calls P f args d.now fun e w' => e = .returned v ∧ ∃ d' : Later w, w' = d'.now :=
  h.mono fun _ _ ⟨he, hb⟩ => ⟨he, ⟨_, bel d.below hb⟩, rfl⟩
theorem same {f : FuncId} {args : Array Value} {v : Value} (d : Later w) (h : Calls P f args d.now fun e w' => e = .returned v ∧ d.now = w') :
    Calls P f args d.now fun e w' => e = .returned v ∧ ∃ d' : Later w, w' = d'.now :=
  h.mono fun _ _ ⟨he, hb⟩ => ⟨he, d, hb.symm⟩
end Later
theorem wp_region_later {P : Program} {id : Nat} {Q : Exit → Act → World → Prop} {a : Act} {w : World} {l : List Oper} (hm : P.follows .mixedOrders = true) (hB : Region.lexB .any l.toArray = true)
    (h : wpQuiet P l.toArray (fun w' => ∃ d : Later w, w' = d.now) (fun a' => ∀ w', (∃ d : Later w, w' = d.now) → Q .normal a' w') l a) : (Code.region id l.toArray true).wp P Q a w :=
  wp_region_quiet (C := fun w' => ∃ d : Later w, w' = d.now) hm hB ⟨⟨w.drew, (Below.refl _ _).drew⟩, rfl⟩ (by simpa using h)
end Go.Proofs.YtnddoehhcpejjaaGreat
/- A region that draws its order: operations that read are taken first, one after the other; a call comes up alone. Over any program. -/
namespace Go.Proofs.YtnddoehhcpejjaaGreat
set_option linter.unusedVariables false
set_option linter.unusedSimpArgs false
open Go.RowKit

/-- operations that yield one value and change nothing, if they do not fail -/
def plainB : Op → Bool
  | .move _ | .assign _ | .pick _ _ _ | .nilCheck _ | .load _ _ | .fieldAddr _ _ _ | .field _ _ _ | .indexAddr _ _ _ | .index _ _ _ | .lookup _ _ _ _ | .binOp _ _ _ _ _ | .unOp _ _ _ | .convert _ _ _ | .extract _ _ | .build _ _ => true
  | .call c => match c.callee with
    | .builtin .len => true
    | _ => false
  | _ => false
theorem then_ok {α β : Type} {r : Result α} {f : α → World → Result β} {b : β} {w' : World} (h : r.andThen f = .ok b w') : ∃ a w1, r = .ok a w1 ∧ f a w1 = .ok b w' := by
  cases r with
  | ok a w1 => exact ⟨a, w1, rfl, h⟩
  | halt x w1 => cases h
theorem plain_bind {P : Program} {s : Sem Value} {w w' : World} {n : Next} (h : (do let x ← s; pure (Next.value x) : Sem Next).run P w = .ok n w') : ∃ v, n = .value v := by
  rw [Sem.run_bind] at h
  obtain ⟨a, w1, _, h2⟩ := then_ok h
  simp at h2
  exact ⟨a, h2.1.symm⟩
theorem nil_value {P : Program} {ρ : Operand → Value} {o : Oper} {w w' : World} {n : Next} {x : Operand} (ho : o.op = .nilCheck x) (hr : (execOp ρ o).run P w = .ok n w') : ∃ v, n = .value v := by
  unfold execOp at hr
  simp only [ho] at hr
  split at hr
  · simp [runtimePanic] at hr
  · simp [runtimePanic] at hr
  · simp [runtimePanic] at hr
  · split at hr
    · simp [runtimePanic] at hr
    · rw [Sem.run_bind] at hr
      obtain ⟨a, w1, _, h2⟩ := then_ok hr
      rw [Sem.run_bind] at h2
      obtain ⟨a2, w2, _, h3⟩ := then_ok h2
      split at h3
      · rw [Sem.run_bind] at h3
        obtain ⟨a3, w3, h4, _⟩ := then_ok h3
        simp [unsupported] at h4
      · simp at h3
        exact ⟨_, h3.1.symm⟩
    · simp at hr
      exact ⟨_, hr.1.symm⟩
  · simp at hr
    exact ⟨_, hr.1.symm⟩
theorem plain_value {P : Program} {ρ : Operand → Value} {o : Oper} {w w' : World} {n : Next} (h : plainB o.op = true) (hr : (execOp ρ o).run P w = .ok n w') : ∃ v, n = .value v := by
  by_cases hnil : ∃ x, o.op = .nilCheck x
  · exact nil_value hnil.choose_spec hr
  unfold execOp at hr
  cases ho : o.op <;> rw [ho] at h <;> first | (cases h; done) | (refine (hnil ?_).elim; exact Exists.intro _ ho) | skip
  all_goals simp only [ho] at hr
  all_goals first
    | exact plain_bind hr
    | (rw [Sem.run_bind] at hr; obtain ⟨x, w1, _, h2⟩ := then_ok hr; simp at h2; exact ⟨_, h2.1.symm⟩)
    | (simp at hr; exact ⟨_, hr.1.symm⟩)
    | skip
  rename_i c
  simp only [plainB] at h
  split at h
  · rename_i hc
    unfold resolve at hr
    simp only [hc] at hr
    rw [Sem.run_bind] at hr
    obtain ⟨a, w1, h1, h2⟩ := then_ok hr
    simp at h1
    obtain ⟨rfl, rfl⟩ := h1
    simp only [invoke, builtin] at h2
    exact plain_bind h2
  · cases h

/-- a world that came later -/
def Near (W w : World) : Prop := ∃ d : Later W, w = d.now
theorem Near.of {W w : World} (h : Below W.heap.size W w) : Near W w := ⟨⟨w, h⟩, rfl⟩
theorem Near.below {W w : World} (h : Near W w) : Below W.heap.size W w := by obtain ⟨d, rfl⟩ := h; exact d.below
theorem Near.drew (W : World) : Near W W.drew := Near.of (Below.refl _ _).drew
theorem Near.on {W w w' : World} (h : Near W w) (hb : Below w.heap.size w w') : Near W w' := Near.of (bel h.below hb)

section
variable {P : Program} {ops : Array Oper} {Q : Exit → Act → World → Prop} {W w : World} {i fuel : Nat} {o : Oper} {a : Act} {listed : Array Bool}
theorem rel_begin {id n : Nat} {l : List Oper} (W : World) (hm : P.follows .mixedOrders = true) (hn : l.length = n)
    (h : wpAnyH P .any l.toArray Q (fun w' => ∃ d : Later W, w' = d.now) n (Array.replicate n false) a w.drew) : (Code.region id l.toArray true).wp P Q a w := by
  subst hn
  exact wp_region_held hm (by simpa using h)
theorem drop_at {rest : List Oper} (h : ops.toList.drop i = o :: rest) : ops[i]? = some o := by
  rw [← Array.getElem?_toList, ← Nat.add_zero i, ← List.getElem?_drop, h]
  rfl
theorem rel_want {rest : List Oper} (hl : ops.toList.drop i = o :: rest) (hp : plainB o.op = true) (hs : Region.noSelect ops = true) (hf : Region.free .any ops listed i = true) (hr : (Region.ready .any ops listed).contains i = true)
    (hw : Region.wanted o (yielded ops a.tmps) = true) (hQ : ∀ c a v w, Q (.panic c) (Act.put a o.dst v) w → Q (.panic c) a w) (hS : Near W w)
    (h : ∀ K : Act → Prop, (∀ a', wpAnyH P .any ops Q (fun w' => ∃ d : Later W, w' = d.now) fuel (listed.setIfInBounds i true) a' w → K a') → o.quiet P a (fun w' => ∃ d : Later W, w' = d.now) K) :
    wpAnyH P .any ops Q (fun w' => ∃ d : Later W, w' = d.now) (fuel + 1) listed a w := by
  obtain ⟨v, h1, h2⟩ := h (fun a' => wpAnyH P .any ops Q (fun w' => ∃ d : Later W, w' = d.now) fuel (listed.setIfInBounds i true) a' w) (fun _ h => h)
  refine wpAnyH_take (v := v) (drop_at hl) hs hf hr (fun c a w h => hQ c a _ w h) (.inl ⟨hw, fun w' hw' => ?_⟩) hS h2
  have h3 := h1 w' hw'
  unfold Oper.quietAt at h3
  generalize hx : (execOp a.eval o).run P w' = r at h3
  cases r with
  | ok n w2 =>
    obtain ⟨u, rfl⟩ := plain_value hp hx
    simp only [Oper.quietUpon] at h3
    rw [h3.1, h3.2]
  | halt x w2 => simp only [Oper.quietUpon] at h3
theorem rel_skip {rest : List Oper} (hl : ops.toList.drop i = o :: rest) (hs : Region.noSelect ops = true) (hf : Region.free .any ops listed i = true) (hr : (Region.ready .any ops listed).contains i = true)
    (hw : Region.wanted o (yielded ops a.tmps) = false) (hQ : ∀ c a v w, Q (.panic c) (Act.put a o.dst v) w → Q (.panic c) a w) (hS : Near W w)
    (h : wpAnyH P .any ops Q (fun w' => ∃ d : Later W, w' = d.now) fuel (listed.setIfInBounds i true) (a.put o.dst undef) w) :
    wpAnyH P .any ops Q (fun w' => ∃ d : Later W, w' = d.now) (fuel + 1) listed a w :=
  wpAnyH_take (v := undef) (drop_at hl) hs hf hr (fun c a w h => hQ c a _ w h) (.inr ⟨hw, rfl⟩) hS h
theorem rel_call {rest : List Oper} (hr : Region.ready .any ops listed = [i]) (hl : ops.toList.drop i = o :: rest) (hw : Region.wanted o (yielded ops a.tmps) = true)
    (h : ∀ K : Act → World → Prop, (∀ a' w', Near W w' → (Near W w' → wpAnyH P .any ops Q (fun w' => ∃ d : Later W, w' = d.now) fuel (listed.setIfInBounds i true) a' w') → K a' w') → o.wp P a w K Q) :
    wpAnyH P .any ops Q (fun w' => ∃ d : Later W, w' = d.now) (fuel + 1) listed a w := by
  refine wpAnyH_all hr (by simp) fun j hj => ?_
  simp only [List.mem_singleton] at hj
  subst hj
  unfold wpOp
  rw [drop_at hl]
  show if Region.wanted o (yielded ops a.tmps) = true then _ else _
  rw [if_pos hw]
  exact .inl (h _ fun a' w' hn hh => ⟨hn, hh hn⟩)
end
end Go.Proofs.YtnddoehhcpejjaaGreat
