/- Texts of this claim, put together. -/
import Derived.Test.YtnkmjdaeafeaaaaJAC
import Derived.Test.YtnkmjdaeafeaaaaJAA
import Derived.Deep.MidRow
/- A list of structs of the call's own: its block; two of its elements exchanged. Over any program. -/
namespace Go.Proofs.Ytnkmjdaeafeaaaa
set_option linter.unusedVariables false
set_option linter.unusedSimpArgs false
open Go.RowKit

theorem own_blk {w : World} {base : Nat} {e : TypeId} {size : Nat} {v : Value} {n : Nat} {xs : List Value} (h : w.ownsRow base e size v n xs) (hn : 0 < n) :
    ∃ g cap cur, v = .slice (some ⟨g, 0, none⟩) n cap ∧ base ≤ g ∧ Blk w g e cur ∧ n ≤ cap ∧ ∀ (j : Nat) (u : Value), xs[j]? = some u → cur[j]? = some u := by
  have h0 := h
  rcases h.2 with ⟨_, h0⟩ | ⟨g, cap, cur, hv, hb, hg, hnc, _⟩
  · omega
  · refine ⟨g, cap, cur, hv, hb, hg, hnc, fun j u hu => ?_⟩
    have := h0.cells (g := g) (by rw [hv]; rfl) j u hu
    rw [add_zero_] at this
    rw [← (show Blk w g e cur from hg).cell j]
    exact this
theorem Blk.ne {w : World} {g g' : Nat} {t t' : TypeId} {cs cs' : Array Value} (h : Blk w g t cs) (h' : Blk w g' t' cs') (ht : t ≠ t') : g ≠ g' := by
  rintro rfl
  unfold Blk at h h'
  rw [h] at h'
  injection h' with h'
  injection h' with _ h' _
  exact ht h'
theorem own_ne_blk {w : World} {base : Nat} {e : TypeId} {size : Nat} {v : Value} {n : Nat} {xs : List Value} (h : w.ownsRow base e size v n xs) {g : Nat} {t : TypeId} {cs : Array Value} (hB : Blk w g t cs) (ht : t ≠ e) : some g ≠ v.ownBlock := by
  rcases h.2 with ⟨h, _⟩ | ⟨g', cap, cur, h, _, hg, _⟩
  · rw [h]; simp [Value.ownBlock]
  · rw [h]
    simp only [Value.ownBlock, ne_eq, Option.some.injEq]
    intro e
    exact hB.ne (show Blk w g' _ cur from hg) ht e
theorem blk_new2 (w : World) (o : Obj) (t : TypeId) (cs : Array Value) : Blk ((w.alloc o).alloc (.cells cs t)) (w.heap.size + 1) t cs := by
  have := Blk.new (w.alloc o) t cs
  rwa [World.size_alloc] at this
theorem heap_setCells_ (b g : Nat) (hg : b ≠ g) : ∀ (vs : List Value) (o : Nat) (w : World), (w.setCells g o vs).heap[b]? = w.heap[b]? := by
  intro vs
  induction vs with
  | nil => intro o w; rfl
  | cons v vs ih => intro o w; exact (ih (o + 1) _).trans (Below.heap_setCell w ⟨g, o, none⟩ v b hg)
theorem size_setCells_ (g : Nat) : ∀ (vs : List Value) (o : Nat) (w : World), (w.setCells g o vs).heap.size = w.heap.size := by
  intro vs
  induction vs with
  | nil => intro o w; rfl
  | cons v vs ih => intro o w; exact (ih (o + 1) _).trans (World.size_setCell _ _ _)
theorem Blk.setCells {w : World} {g g' : Nat} {t : TypeId} {cs : Array Value} (h : Blk w g t cs) (hg : g ≠ g') (o : Nat) (vs : List Value) : Blk (w.setCells g' o vs) g t cs := (heap_setCells_ g g' hg vs o w).trans h
theorem below_setCells {B g : Nat} {w : World} (hg : B ≤ g) : ∀ (vs : List Value) (o : Nat) {w' : World}, Below B w w' → Below B w (w'.setCells g o vs) := by
  intro vs
  induction vs with
  | nil => intro o w' h; exact h
  | cons v vs ih => intro o w' h; exact ih (o + 1) (h.setCell (p := ⟨g, o, none⟩) hg v)
section
variable {α : Type} {f : α → List Value} {sz : Nat} (hf : ∀ a, (f a).length = sz)
include hf
theorem range_of {w : World} {g : Nat} {t : TypeId} {cur : Array Value} {l : List α} (h : Blk w g t cur) (hc : ∀ (j : Nat) (u : Value), (cellsOf f l)[j]? = some u → cur[j]? = some u) (k : Nat) (hk : k < l.length) :
    w.rangeAt g (k * sz) (f l[k]) ∧ w.there g (k * sz) sz := by
  have key : ∀ j u, (f l[k])[j]? = some u → w.cell? ⟨g, k * sz + j, none⟩ = some u := fun j u hu => by
    have hj : j < sz := by
      have := (List.getElem?_eq_some_iff.1 hu).1
      rwa [hf] at this
    rw [h.cell]
    refine hc _ u ?_
    rw [cellsOf_at hf l k j hk hj]
    exact hu
  refine ⟨key, fun j hj => ⟨?_, h.frozen _⟩⟩
  have : (f l[k])[j]? = some ((f l[k])[j]'(by rw [hf]; exact hj)) := List.getElem?_eq_getElem _
  rw [key j _ this]; rfl
theorem swap_rd {w : World} {g : Nat} {t : TypeId} {cur : Array Value} {l l' : List α} (hsz : 0 < sz) (h : Blk w g t cur) (hc : ∀ (j : Nat) (u : Value), (cellsOf f l)[j]? = some u → cur[j]? = some u) (i k : Nat) (hi : i < l.length) (hk : k < l.length)
    (hl : l'.length = l.length) (hat : ∀ m (hm : m < l'.length), l'[m] = if m = k then l[i] else if m = i then l[k] else l[m]'(by omega)) :
    Rd ((w.setCells g (i * sz) (f l[k])).setCells g (k * sz) (f l[i])) ((w.setCells g (i * sz) (f l[k])).setCells g (k * sz) (f l[i])).heap.size sz (some ⟨g, 0, none⟩) l'.length (cellsOf f l') := by
  refine rd_mk (a := ⟨g, 0, none⟩) hf hsz fun m hm j u hu => ?_
  have ea : (⟨g, 0, none⟩ : Addr).add (m * sz + j) = ⟨g, m * sz + j, none⟩ := add_zero_ _ _
  rw [ea]
  have hm' : m < l.length := by omega
  have hr := range_of hf h hc m hm'
  have hri := range_of hf h hc i hi
  have hrk := range_of hf h hc k hk
  have far : ∀ {a b : Nat}, a ≠ b → a * sz + sz ≤ b * sz ∨ b * sz + sz ≤ a * sz := by
    intro a b hab
    rcases Nat.lt_or_gt_of_ne hab with h | h
    · left; have := Nat.mul_le_mul_right sz (Nat.succ_le_of_lt h); rw [Nat.succ_mul] at this; exact this
    · right; have := Nat.mul_le_mul_right sz (Nat.succ_le_of_lt h); rw [Nat.succ_mul] at this; exact this
  rw [hat m hm] at hu
  by_cases h1 : m = k
  · subst h1
    rw [if_pos rfl] at hu
    exact World.rangeAt_setCells_same _ _ _ _ (by rw [hf]; exact World.there_setCells hrk.2 _ _ _) j u hu
  · rw [if_neg h1] at hu
    by_cases h2 : m = i
    · subst h2
      rw [if_pos rfl] at hu
      refine World.rangeAt_setCells_apart (World.rangeAt_setCells_same _ _ _ _ (by rw [hf]; exact hri.2)) _ _ _ ?_ j u hu
      rw [hf, hf]
      have := far h1
      omega
    · rw [if_neg h2] at hu
      refine World.rangeAt_setCells_apart (World.rangeAt_setCells_apart hr.1 _ _ _ ?_) _ _ _ ?_ j u hu
      · rw [hf, hf]; have := far h2; omega
      · rw [hf, hf]; have := far h1; omega
theorem rd_take {w : World} {B : Nat} {A : Option Addr} {l : List α} (h : Rd w B sz A l.length (cellsOf f l)) (n : Nat) (hn : n ≤ l.length) : Rd w B sz A (l.take n).length (cellsOf f (l.take n)) := by
  refine ⟨cellsOf_len hf _, fun h0 => ?_⟩
  obtain ⟨b, o, e, hb, hc⟩ := h.2 (by rw [List.length_take] at h0; omega)
  refine ⟨b, o, e, hb, fun j u hu => hc j u ?_⟩
  have e2 : cellsOf f l = cellsOf f (l.take n) ++ cellsOf f (l.drop n) := by rw [← cellsOf_app, List.take_append_drop]
  rw [e2, List.getElem?_append_left (List.getElem?_eq_some_iff.1 hu).1]
  exact hu
end
end Go.Proofs.Ytnkmjdaeafeaaaa
