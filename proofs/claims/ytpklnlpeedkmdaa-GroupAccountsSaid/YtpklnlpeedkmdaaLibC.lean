/- Words for memory: a slice that reads as a list of cells, a block of the call's own that is known whole. Over any program. -/
import Derived.Test.YtpklnlpeedkmdaaLibA
import Derived.Deep.Draws
import Derived.Laws.OwnMore
namespace Go.Proofs.Ytpklnlpeedkmdaa
set_option linter.unusedVariables false
set_option linter.unusedSimpArgs false
open Go.RowKit

/-- The slice at A with n elements of sz cells reads as xs; it lies below block B. -/
def Rd (w : World) (B sz : Nat) (A : Option Addr) (n : Nat) (xs : List Value) : Prop :=
  xs.length = n * sz ∧ (0 < n → ∃ b o, A = some ⟨b, o, none⟩ ∧ b < B ∧ ∀ j u, xs[j]? = some u → w.cell? ⟨b, o + j, none⟩ = some u)

section
variable {w w' : World} {B B' sz n : Nat} {A : Option Addr} {xs : List Value}
theorem Rd.none_ : Rd w B sz A 0 [] := ⟨by simp, fun h => absurd h (by omega)⟩
theorem Rd.keep (h : Rd w B sz A n xs) (hk : ∀ b o, b < B → w'.cell? ⟨b, o, none⟩ = w.cell? ⟨b, o, none⟩) : Rd w' B sz A n xs :=
  ⟨h.1, fun hn => by
    obtain ⟨b, o, e, hb, hc⟩ := h.2 hn
    exact ⟨b, o, e, hb, fun j u hu => (hk _ _ hb).trans (hc j u hu)⟩⟩
theorem Rd.more (h : Rd w B sz A n xs) (hB : B ≤ B') : Rd w B' sz A n xs :=
  ⟨h.1, fun hn => by
    obtain ⟨b, o, e, hb, hc⟩ := h.2 hn
    exact ⟨b, o, e, by omega, hc⟩⟩
theorem Rd.below (h : Rd w B sz A n xs) {C : Nat} (hb : Below C w w') (hC : B ≤ C) : Rd w' B sz A n xs := h.keep fun b o hp => hb.cell (p := ⟨b, o, none⟩) (by show b < C; omega)
theorem Rd.now {w W : World} {sz n : Nat} {A : Option Addr} {xs : List Value} (h : Rd w w.heap.size sz A n xs) (hb : Below w.heap.size w W) : Rd W W.heap.size sz A n xs := (h.below hb (Nat.le_refl _)).more hb.size
theorem Rd.alloc (h : Rd w B sz A n xs) (hB : B ≤ w.heap.size) (o : Obj) : Rd (w.alloc o) B sz A n xs :=
  h.keep fun b q hp => World.cell?_alloc_lt w o ⟨b, q, none⟩ (by show b < _; omega)
theorem Rd.drew (h : Rd w B sz A n xs) : Rd w.drew B sz A n xs := h
theorem Rd.drewN (h : Rd w B sz A n xs) (k : Nat) : Rd (w.drewN k) B sz A n xs := h
/-- what the call made itself reads, too -/
theorem Rd.of_own {base : Nat} {e : TypeId} {v : Value} (h : w.ownsRow base e sz v n xs) : ∃ A c, v = .slice A n c ∧ Rd w w.heap.size sz A n xs := by
  rcases h.2 with ⟨rfl, h0⟩ | ⟨g, cap, cur, rfl, hb, hg, hnc, hcm, hcs, ht⟩
  · subst h0; exact ⟨none, 0, rfl, ⟨h.1, fun hn => absurd hn (by omega)⟩⟩
  · refine ⟨some ⟨g, 0, none⟩, cap, rfl, h.1, fun _ => ⟨g, 0, rfl, (Array.getElem?_eq_some_iff.1 hg).1, fun j u hu => ?_⟩⟩
    have := h.cells (g := g) rfl j u hu
    rwa [add_zero_, ← Nat.zero_add j] at this
end

theorem cells_new2 (w : World) (o : Obj) (cs : Array Value) (t : TypeId) (l : List Value) (hl : cs.toList = l) :
    ∀ (j : Nat) (u : Value), l[j]? = some u → ((w.alloc o).alloc (.cells cs t)).cell? ((⟨w.heap.size + 1, 0, none⟩ : Addr).add j) = some u := by
  have := cells_new (w.alloc o) cs t l hl
  simpa using this
/-- Block g is just the cells cs of element type t, none of them frozen. -/
def Blk (w : World) (g : Nat) (t : TypeId) (cs : Array Value) : Prop := w.heap[g]? = some (.cells cs t (0, 0))
section
variable {w w' : World} {g : Nat} {t : TypeId} {cs : Array Value}
theorem Blk.lt (h : Blk w g t cs) : g < w.heap.size := (Array.getElem?_eq_some_iff.1 h).1
theorem Blk.cell (h : Blk w g t cs) (i : Nat) : w.cell? ⟨g, i, none⟩ = cs[i]? := cell_of_row w g i cs t (0, 0) h
theorem Blk.frozen (h : Blk w g t cs) (i : Nat) : w.frozen? ⟨g, i, none⟩ = false := by unfold Blk at h; simp [World.frozen?, h]
theorem Blk.new (w : World) (t : TypeId) (cs : Array Value) : Blk (w.alloc (.cells cs t)) w.heap.size t cs := heap_alloc_new w _
theorem Blk.drew (h : Blk w g t cs) : Blk w.drew g t cs := h
theorem Blk.drewN (h : Blk w g t cs) (n : Nat) : Blk (w.drewN n) g t cs := h
theorem Blk.alloc (h : Blk w g t cs) (o : Obj) : Blk (w.alloc o) g t cs := (Below.heap_alloc w o g h.lt).trans h
theorem Blk.far (h : Blk w g t cs) {p : Addr} (hp : g ≠ p.block) (u : Value) : Blk (w.setCell p u) g t cs := (Below.heap_setCell w p u g hp).trans h
theorem Blk.grown {row : Option Nat} (h : Blk w g t cs) (hg : w.grownBy w' row) (hne : some g ≠ row) : Blk w' g t cs := (hg.block g h.lt hne).trans h
theorem Blk.below {B : Nat} (h : Blk w g t cs) (hb : Below B w w') (hg : g < B) : Blk w' g t cs := (hb.block g hg).trans h
theorem Blk.step (h : Blk w g t cs) (hb : Below w.heap.size w w') : Blk w' g t cs := h.below hb h.lt
theorem Blk.set_ (h : Blk w g t cs) (i : Nat) (u : Value) : Blk (w.setCell ⟨g, i, none⟩ u) g t (cs.setIfInBounds i u) := by
  unfold Blk at h ⊢
  simp [World.setCell, Array.getElem?_modify, h]
theorem cell_ne (w : World) (g i j : Nat) (u : Value) (h : i ≠ j) : (w.setCell ⟨g, i, none⟩ u).cell? ⟨g, j, none⟩ = w.cell? ⟨g, j, none⟩ :=
  World.cell?_setCell_other w ⟨g, i, none⟩ ⟨g, j, none⟩ u (fun e => h (congrArg Addr.off e))
end
/-- numbers as cells -/
def intCells (l : List Int) : List Value := l.map fun c => Value.int .i64 c
theorem intCells_app (a b : List Int) : intCells (a ++ b) = intCells a ++ intCells b := by unfold intCells; simp
theorem intCells_len (a : List Int) : (intCells a).length = a.length := by unfold intCells; simp
theorem int_at {w : World} {B : Nat} {A : Option Addr} {l : List Int} (h : Rd w B 1 A l.length (intCells l)) {k : Nat} (hk : k < l.length) :
    ∃ b o, A = some ⟨b, o, none⟩ ∧ b < B ∧ w.cell? ⟨b, o + k, none⟩ = some (.int .i64 l[k]) := by
  obtain ⟨b, o, e, hb, hc⟩ := h.2 (by omega)
  exact ⟨b, o, e, hb, hc k _ (by unfold intCells; simp [hk])⟩
def sliceLen : Value → Nat
  | .slice _ n _ => n
  | _ => 0
theorem own_slice {w : World} {base : Nat} {e : TypeId} {sz : Nat} {v : Value} {n : Nat} {xs : List Value} (h : w.ownsRow base e sz v n xs) : sliceLen v = n := by
  obtain ⟨A, c, rfl, _⟩ := Rd.of_own h
  rfl
end Go.Proofs.Ytpklnlpeedkmdaa
