/- Texts of this claim, put together. -/
import Derived.Test.YthfbpbbepogllaaGreatJAH
import Derived.Test.YthfbpbbepogllaaGreatJAB
import Derived.Deep.MidRow
import Derived.Test.YthfbpbbepogllaaGreatJAC
import Derived.Test.YthfbpbbepogllaaGreatJAE
import Derived.Test.YthfbpbbepogllaaGreatChecked
/- A list of structs of the call's own: its block; two of its elements exchanged. Over any program. -/
namespace Go.Proofs.YthfbpbbepogllaaGreat
set_option linter.unusedVariables false
set_option linter.unusedSimpArgs false
open Go.RowKit

theorem own_blk {w : World} {base : Nat} {e : TypeId} {size : Nat} {v : Value} {n : Nat} {xs : List Value} (h : w.ownsRow base e size v n xs) (hn : 0 < n) :
    ∃ g cap cur, v = .slice (some ⟨g, 0, none⟩) n cap ∧ base ≤ g ∧ Blk w g e cur ∧ n ≤ cap ∧ ∀ (j : Nat) (u : Value), xs[j]? = some u → cur[j]? = some u := by
  have h0 := h
  rcases h.2 with ⟨_, h0⟩ | ⟨g, cap, cur, hv, hb, hg, hnc, _⟩
  · omega
  · refine ⟨g, cap, cur, hv, hb, hg, hnc, fun j u hu => ?_⟩
    have := h0.cells (g := g) (by rw [hv]; rfl) j u hu
    rw [add_zero_] at this
    rw [← (show Blk w g e cur from hg).cell j]
    exact this
theorem Blk.ne {w : World} {g g' : Nat} {t t' : TypeId} {cs cs' : Array Value} (h : Blk w g t cs) (h' : Blk w g' t' cs') (ht : t ≠ t') : g ≠ g' := by
  rintro rfl
  unfold Blk at h h'
  rw [h] at h'
  injection h' with h'
  injection h' with _ h' _
  exact ht h'
theorem own_ne_blk {w : World} {base : Nat} {e : TypeId} {size : Nat} {v : Value} {n : Nat} {xs : List Value} (h : w.ownsRow base e size v n xs) {g : Nat} {t : TypeId} {cs : Array Value} (hB : Blk w g t cs) (ht : t ≠ e) : some g ≠ v.ownBlock := by
  rcases h.2 with ⟨h, _⟩ | ⟨g', cap, cur, h, _, hg, _⟩
  · rw [h]; simp [Value.ownBlock]
  · rw [h]
    simp only [Value.ownBlock, ne_eq, Option.some.injEq]
    intro e
    exact hB.ne (show Blk w g' _ cur from hg) ht e
theorem blk_new2 (w : World) (o : Obj) (t : TypeId) (cs : Array Value) : Blk ((w.alloc o).alloc (.cells cs t)) (w.heap.size + 1) t cs := by
  have := Blk.new (w.alloc o) t cs
  rwa [World.size_alloc] at this
theorem heap_setCells_ (b g : Nat) (hg : b ≠ g) : ∀ (vs : List Value) (o : Nat) (w : World), (w.setCells g o vs).heap[b]? = w.heap[b]? := by
  intro vs
  induction vs with
  | nil => intro o w; rfl
  | cons v vs ih => intro o w; exact (ih (o + 1) _).trans (Below.heap_setCell w ⟨g, o, none⟩ v b hg)
theorem size_setCells_ (g : Nat) : ∀ (vs : List Value) (o : Nat) (w : World), (w.setCells g o vs).heap.size = w.heap.size := by
  intro vs
  induction vs with
  | nil => intro o w; rfl
  | cons v vs ih => intro o w; exact (ih (o + 1) _).trans (World.size_setCell _ _ _)
theorem Blk.setCells {w : World} {g g' : Nat} {t : TypeId} {cs : Array Value} (h : Blk w g t cs) (hg : g ≠ g') (o : Nat) (vs : List Value) : Blk (w.setCells g' o vs) g t cs := (heap_setCells_ g g' hg vs o w).trans h
theorem below_setCells {B g : Nat} {w : World} (hg : B ≤ g) : ∀ (vs : List Value) (o : Nat) {w' : World}, Below B w w' → Below B w (w'.setCells g o vs) := by
  intro vs
  induction vs with
  | nil => intro o w' h; exact h
  | cons v vs ih => intro o w' h; exact ih (o + 1) (h.setCell (p := ⟨g, o, none⟩) hg v)
section
variable {α : Type} {f : α → List Value} {sz : Nat} (hf : ∀ a, (f a).length = sz)
include hf
theorem range_of {w : World} {g : Nat} {t : TypeId} {cur : Array Value} {l : List α} (h : Blk w g t cur) (hc : ∀ (j : Nat) (u : Value), (cellsOf f l)[j]? = some u → cur[j]? = some u) (k : Nat) (hk : k < l.length) :
    w.rangeAt g (k * sz) (f l[k]) ∧ w.there g (k * sz) sz := by
  have key : ∀ j u, (f l[k])[j]? = some u → w.cell? ⟨g, k * sz + j, none⟩ = some u := fun j u hu => by
    have hj : j < sz := by
      have := (List.getElem?_eq_some_iff.1 hu).1
      rwa [hf] at this
    rw [h.cell]
    refine hc _ u ?_
    rw [cellsOf_at hf l k j hk hj]
    exact hu
  refine ⟨key, fun j hj => ⟨?_, h.frozen _⟩⟩
  have : (f l[k])[j]? = some ((f l[k])[j]'(by rw [hf]; exact hj)) := List.getElem?_eq_getElem _
  rw [key j _ this]; rfl
theorem swap_rd {w : World} {g : Nat} {t : TypeId} {cur : Array Value} {l l' : List α} (hsz : 0 < sz) (h : Blk w g t cur) (hc : ∀ (j : Nat) (u : Value), (cellsOf f l)[j]? = some u → cur[j]? = some u) (i k : Nat) (hi : i < l.length) (hk : k < l.length)
    (hl : l'.length = l.length) (hat : ∀ m (hm : m < l'.length), l'[m] = if m = k then l[i] else if m = i then l[k] else l[m]'(by omega)) :
    Rd ((w.setCells g (i * sz) (f l[k])).setCells g (k * sz) (f l[i])) ((w.setCells g (i * sz) (f l[k])).setCells g (k * sz) (f l[i])).heap.size sz (some ⟨g, 0, none⟩) l'.length (cellsOf f l') := by
  refine rd_mk (a := ⟨g, 0, none⟩) hf hsz fun m hm j u hu => ?_
  have ea : (⟨g, 0, none⟩ : Addr).add (m * sz + j) = ⟨g, m * sz + j, none⟩ := add_zero_ _ _
  rw [ea]
  have hm' : m < l.length := by omega
  have hr := range_of hf h hc m hm'
  have hri := range_of hf h hc i hi
  have hrk := range_of hf h hc k hk
  have far : ∀ {a b : Nat}, a ≠ b → a * sz + sz ≤ b * sz ∨ b * sz + sz ≤ a * sz := by
    intro a b hab
    rcases Nat.lt_or_gt_of_ne hab with h | h
    · left; have := Nat.mul_le_mul_right sz (Nat.succ_le_of_lt h); rw [Nat.succ_mul] at this; exact this
    · right; have := Nat.mul_le_mul_right sz (Nat.succ_le_of_lt h); rw [Nat.succ_mul] at this; exact this
  rw [hat m hm] at hu
  by_cases h1 : m = k
  · subst h1
    rw [if_pos rfl] at hu
    exact World.rangeAt_setCells_same _ _ _ _ (by rw [hf]; exact World.there_setCells hrk.2 _ _ _) j u hu
  · rw [if_neg h1] at hu
    by_cases h2 : m = i
    · subst h2
      rw [if_pos rfl] at hu
      refine World.rangeAt_setCells_apart (World.rangeAt_setCells_same _ _ _ _ (by rw [hf]; exact hri.2)) _ _ _ ?_ j u hu
      rw [hf, hf]
      have := far h1
      omega
    · rw [if_neg h2] at hu
      refine World.rangeAt_setCells_apart (World.rangeAt_setCells_apart hr.1 _ _ _ ?_) _ _ _ ?_ j u hu
      · rw [hf, hf]; have := far h2; omega
      · rw [hf, hf]; have := far h1; omega
theorem rd_take {w : World} {B : Nat} {A : Option Addr} {l : List α} (h : Rd w B sz A l.length (cellsOf f l)) (n : Nat) (hn : n ≤ l.length) : Rd w B sz A (l.take n).length (cellsOf f (l.take n)) := by
  refine ⟨cellsOf_len hf _, fun h0 => ?_⟩
  obtain ⟨b, o, e, hb, hc⟩ := h.2 (by rw [List.length_take] at h0; omega)
  refine ⟨b, o, e, hb, fun j u hu => hc j u ?_⟩
  have e2 : cellsOf f l = cellsOf f (l.take n) ++ cellsOf f (l.drop n) := by rw [← cellsOf_app, List.take_append_drop]
  rw [e2, List.getElem?_append_left (List.getElem?_eq_some_iff.1 hu).1]
  exact hu
end
end Go.Proofs.YthfbpbbepogllaaGreat
/- Structs of many cells, whole: loaded out of a list, stored into a block, handed back. Over any program. -/
namespace Go.Proofs.YthfbpbbepogllaaGreat
set_option linter.unusedVariables false
set_option linter.unusedSimpArgs false
open Go.RowKit

theorem blk_row {w : World} {g : Nat} {t : TypeId} {cs : Array Value} (h : Blk w g t cs) (cs' : Array Value) : Blk (w.setRow g cs') g t cs' := setRow_heap w g cs cs' t (0, 0) h
theorem blk_row_other {w : World} {g g' : Nat} {t : TypeId} {cs : Array Value} (h : Blk w g t cs) (hg : g ≠ g') (cs' : Array Value) : Blk (w.setRow g' cs') g t cs := (setRow_other w g' g cs' hg).trans h
theorem below_row {B g : Nat} {w w' : World} {cs : Array Value} (h : Below B w w') (hg : B ≤ g) : Below B w (w'.setRow g cs) :=
  ⟨h.os, h.tape, h.output, by have := h.size; simpa [World.setRow] using this, fun b hb => (setRow_other w' g b cs (by omega)).trans (h.block b hb)⟩
theorem alloc_row (w : World) (zs cs : Array Value) (t : TypeId) : (w.alloc (.cells zs t)).setRow w.heap.size cs = w.alloc (.cells cs t) := by
  unfold World.setRow World.alloc
  simp only
  congr 1
  apply Array.ext
  · simp
  · intro i h1 h2
    simp only [Array.getElem_modify, Array.getElem_push]
    simp only [Array.size_modify, Array.size_push] at h1
    by_cases e : i < w.heap.size
    · simp [e, Nat.ne_of_gt e]
    · have : i = w.heap.size := by omega
      subst this
      simp
section
variable {P : Program} {ops : Array Oper} {w W : World} {o : Oper} {rest : List Oper} {a : Act} {t T : TypeId} {fs : Array Field}
theorem wpList_load_arr {Q : Exit → Act → World → Prop} (hgd : o.guard = none) (ty : TypeId) (x : Operand) (ho : o.op = .load ty x) (b off : Nat) (hx : a.eval x = .pointer (some ⟨b, off, none⟩)) (arr : Array Value) (hc : w.rangeAt b off arr.toList)
    (hu : P.underlying ty = some (.struct fs)) (n : Nat) (hi : (P.info? ty).map (·.size) = some n) (hn : arr.size = n)
    (h : wpList P ops Q rest (a.put o.dst (.agg arr)) w) : wpList P ops Q (o :: rest) a w :=
  wpList_load_mid hgd ty x ho b off hx arr.toList _ hc hu rfl (by rw [hi, Array.length_toList, hn]) (by simpa using h)
theorem wpList_alloc_put {Q : Exit → Act → World → Prop} (hgd : o.guard = none) (ty : TypeId) (x y : Operand) (ho : o.op = .store ty x y) (hd : o.dst = none)
    (cells : Array Value) (zs : Array Value) (hx : a.eval x = .pointer (some ⟨w.heap.size, 0, none⟩)) (hy : a.eval y = .agg cells)
    (n : Nat) (hi : (P.info? ty).map (·.size) = some n) (hn : cells.size = n) (hz : zs.size = n) (h1 : cells.all (·.oneCell') = true)
    (h : wpList P ops Q rest a (w.alloc (.cells cells t))) : wpList P ops Q (o :: rest) a (w.alloc (.cells zs t)) := by
  refine wpList_store_row hgd ty x y ho w.heap.size cells hx hy t zs (Blk.new w t zs) (by rw [hi, hn]) (by rw [hz, hn]) h1 ?_
  rw [alloc_row, hd]
  exact h
theorem wpList_builtV {Q : Exit → Act → World → Prop} (hg : o.guard = none) (dst : Tmp) (hdst : o.dst = some dst) (T : TypeId) (parts : Array (Nat × Operand)) (ho : o.op = .build T parts) (cs : Array Value) (vs : List (Nat × Value))
    (hv : (parts.map fun (i, x) => (i, a.eval x)).toList = vs) (h : P.built T vs = some cs) (hK : wpList P ops Q rest (a.put (some dst) (.agg cs)) w) : wpList P ops Q (o :: rest) a w :=
  wpList_built hg dst hdst T parts ho cs (hv ▸ h) hK
theorem results_row2 {fn : Func} {p q : Tmp} {ty : TypeId} (h : fn.results = #[.cell p ty, .tmp q]) (tmps : Array Value) (w : World) (g : Nat) (t : TypeId) (cs : Array Value)
    (hp : tmps.getD p undef = .pointer (some ⟨g, 0, none⟩)) (hg : Blk w g t cs) (hu : P.underlying ty = some (.struct fs)) (hi : (P.info? ty).map (·.size) = some cs.size) :
    (results fn tmps).run P w = .ok (.tuple #[.agg cs, tmps.getD q undef]) w := by
  have hp' : tmps[p]?.getD undef = .pointer (some ⟨g, 0, none⟩) := by simpa using hp
  simp [results, h, hp', asAddr, run_loadVar_row w g t ty cs (0, 0) _ hg hu rfl hi]
end
end Go.Proofs.YthfbpbbepogllaaGreat
/- The walks of Find of contributions, and of its reference. -/
namespace Go.Proofs.YthfbpbbepogllaaGreat
set_option linter.unusedVariables false
set_option linter.unusedSimpArgs false
open Go.RowKit

def zeroCon : Array Value := #[.int .i64 0, .int .i64 0, .int .i64 0, .bool false, .slice none 0 0, .bool false, .slice none 0 0, .bool false, .slice none 0 0, .bool false, .slice none 0 0, .slice none 0 0, .slice none 0 0]
/-- the cells of a contribution whose items are shown -/
def conCs (e m : Int) (v : Value) : Array Value := #[.int .i64 e, .int .i64 m, .int .i64 0, .bool false, .slice none 0 0, .bool false, .slice none 0 0, .bool false, .slice none 0 0, .bool false, .slice none 0 0, v, .slice none 0 0]
def ConR.arr (x : ConR) : Array Value := conCs x.entity x.method x.items.val
def ConPost (l : List ConR) (e : Int) (w : World) (en : Ending) (w' : World) : Prop :=
  en = .returned (.tuple #[.agg (conF l e).arr, .bool (conB l e)]) ∧ Below w.heap.size w w'
theorem ConR.cell_at {w : World} {B : Nat} {A : Option Addr} {l : List ConR} (h : Rd w B 13 A l.length (cellsOf ConR.cells l)) {k : Nat} (hk : k < l.length) :
    ∃ b o, A = some ⟨b, o, none⟩ ∧ b < B ∧ w.rangeAt b (o + k * 13) (l[k]).cells := by
  obtain ⟨b, o, e, hb, hc⟩ := ConR.at_ h hk
  exact ⟨b, o, e, hb, fun j v hv => hc j v hv⟩
theorem ConR.arr_list (x : ConR) : x.arr.toList = x.cells := rfl
theorem ConR.arr_one (x : ConR) : x.arr.all (·.oneCell') = true := by
  rw [← Array.all_toList, List.all_eq_true]
  exact fun u hu => x.one u hu
theorem zero_one : zeroCon.all (·.oneCell') = true := (default : ConR).arr_one
theorem con_default : (default : ConR).arr = zeroCon := rfl
theorem conf_range {w : World} {b o : Nat} {x : ConR} (h : w.rangeAt b o x.cells) : w.rangeAt b o x.arr.toList := h
theorem cfind_any_size : (Tryz.prog.info? 93).map (·.size) = some 13 := by kernel_rfl
set_option maxRecDepth 100000 in
set_option maxHeartbeats 4000000 in
theorem cfind_any (l : List ConR) (e : Int) (A : Option Addr) (cap : Nat) (w : World) (hr : Rd w w.heap.size 13 A l.length (cellsOf ConR.cells l)) (hn : l.length ≤ 1000000) :
    Calls Tryz.prog 72 #[.slice A l.length cap, .int .i64 e] w (ConPost l e w) := by
  have hb : Below w.heap.size w (w.alloc (.cells zeroCon 93)) := (Below.refl _ _).alloc (Nat.le_refl _) _
  have HB := Lib.hid (Blk.new w 93 zeroCon)
  have HR := Lib.hid hr
  clear hr
  unfold ConPost
  go_enter Tryz.func72, Tryz.ntmps72
  go_wp2_with fail
  go_loopw [10] (fun t wr => ∃ k : Nat, k ≤ l.length ∧ (∀ j (h : j < k) (h2 : j < l.length), conIs e (l[j]'h2) = false) ∧ t = .int .i64 k ∧ Blk wr w.heap.size 93 zeroCon ∧ Below w.heap.size w wr) (fun t _ => l.length - (intOf t).toNat)
  case atStart => exact ⟨0, by omega, fun j h => by omega, rfl, HB.out, hb⟩
  case round =>
    clear hb
    obtain ⟨k, hk, hno, rfl, hB, hb⟩ := hrel
    have HN := Lib.hid hno
    have hz := hb.size
    have hlB := hB.lt
    have HBr := Lib.hid hB
    clear hno hB
    by_cases hlt : k < l.length
    · obtain ⟨b, o, hA, hbo, hx⟩ := ConR.cell_at (Rd.now HR.out hb) hlt
      subst hA
      have f0 : wr.cell? ⟨b, o + k * 13, none⟩ = some (.int .i64 l[k].entity) := hx 0 _ rfl
      have HX := Lib.hid hx
      have HH := Lib.hid (con_hit (l := l) (e := e) k hlt (fun j h => HN.out j h (by omega)))
      clear hx
      generalize hxx : l[k] = x at *
      have HXX := Lib.hid hxx
      clear hxx
      have HBn := Lib.hid (HBr.out.alloc (.cells x.arr 93))
      have HNx := Lib.hid (Blk.new wr 93 x.arr)
      have hbn := hb.alloc hz (.cells x.arr 93)
      cases hc : (x.entity == e)
      · have HC : Hid (conIs e x = false) := Lib.hid hc
        go_wp2_with (first
          | (refine wpList_load_arr rfl 93 (.tmp 12) rfl b (o + k * 13) rfl x.arr HX.out Tryz.underlying93 13 cfind_any_size rfl ?_)
          | (refine wpList_alloc_put rfl 93 (.tmp 7) (.tmp 13) rfl rfl x.arr _ rfl rfl 13 cfind_any_size rfl rfl x.arr_one ?_; have k0 : (wr.alloc (.cells x.arr 93)).cell? ⟨wr.heap.size, 0, none⟩ = some (.int .i64 x.entity) := HNx.out.cell 0))
        clear k0
        go_roundw
        case rel =>
          refine ⟨k + 1, by omega, fun j h h2 => ?_, by go_num, HBn.out, hbn⟩
          by_cases hj : j = k
          · subst hj; rw [HXX.out]; exact HC.out
          · exact HN.out j (by omega) h2
        case measure => simp [intOf]; omega
      · have HC : Hid (conIs e x = true) := Lib.hid hc
        go_wp2_with (first
          | (refine wpList_load_arr rfl 93 (.tmp 12) rfl b (o + k * 13) rfl x.arr HX.out Tryz.underlying93 13 cfind_any_size rfl ?_)
          | (refine wpList_alloc_put rfl 93 (.tmp 7) (.tmp 13) rfl rfl x.arr _ rfl rfl 13 cfind_any_size rfl rfl x.arr_one ?_; have k0 : (wr.alloc (.cells x.arr 93)).cell? ⟨wr.heap.size, 0, none⟩ = some (.int .i64 x.entity) := HNx.out.cell 0)
          | (refine wpList_load_blk 93 (.tmp 7) rfl wr.heap.size rfl (by kernel_rfl) HNx.out Tryz.underlying93 cfind_any_size ?_)
          | (refine wpList_store_row rfl 93 (.tmp 4) (.tmp 18) rfl w.heap.size x.arr rfl rfl 93 zeroCon HBn.out cfind_any_size rfl x.arr_one ?_))
        clear k0
        refine bodyPost_ret (v := .tuple #[.agg x.arr, .bool true]) (results_row2 Tryz.results72 _ _ w.heap.size 93 x.arr rfl (blk_row HBn.out _) Tryz.underlying93 cfind_any_size) rfl ?_
        obtain ⟨h1, h2⟩ := HH.out HC.out
        exact ⟨by rw [h1, h2], below_row hbn (Nat.le_refl _)⟩
    · have HE := Lib.hid (con_miss (l := l) (e := e) (fun j h => HN.out j (by omega) h))
      go_wp2_with (refine wpList_store_row rfl 93 (.tmp 4) (.tmp 20) rfl w.heap.size zeroCon rfl rfl 93 zeroCon HBr.out cfind_any_size rfl zero_one ?_)
      refine bodyPost_ret (v := .tuple #[.agg zeroCon, .bool false]) (results_row2 Tryz.results72 _ _ w.heap.size 93 zeroCon rfl (blk_row HBr.out _) Tryz.underlying93 cfind_any_size) rfl ?_
      exact ⟨by rw [HE.out.1, HE.out.2]; rfl, below_row hb (Nat.le_refl _)⟩
theorem rcfind_any_size : (Tryz.prog.info? 99).map (·.size) = some 13 := by kernel_rfl
set_option maxRecDepth 100000 in
set_option maxHeartbeats 4000000 in
theorem rcfind_any (l : List ConR) (e : Int) (A : Option Addr) (cap : Nat) (w : World) (hr : Rd w w.heap.size 13 A l.length (cellsOf ConR.cells l)) (hn : l.length ≤ 1000000) :
    Calls Tryz.prog 76 #[.slice A l.length cap, .int .i64 e] w (ConPost l e w) := by
  have hb : Below w.heap.size w (w.alloc (.cells zeroCon 99)) := (Below.refl _ _).alloc (Nat.le_refl _) _
  have HB := Lib.hid (Blk.new w 99 zeroCon)
  have HR := Lib.hid hr
  clear hr
  unfold ConPost
  go_enter Tryz.func76, Tryz.ntmps76
  go_wp2_with fail
  go_loopw [6] (fun t wr => ∃ k : Nat, k ≤ l.length ∧ (∀ j (h : j < k) (h2 : j < l.length), conIs e (l[j]'h2) = false) ∧ t = .int .i64 k ∧ Blk wr w.heap.size 99 zeroCon ∧ Below w.heap.size w wr) (fun t _ => l.length - (intOf t).toNat)
  case atStart => exact ⟨0, by omega, fun j h => by omega, rfl, HB.out, hb⟩
  case round =>
    clear hb
    obtain ⟨k, hk, hno, rfl, hB, hb⟩ := hrel
    have HN := Lib.hid hno
    have hz := hb.size
    have hlB := hB.lt
    have HBr := Lib.hid hB
    clear hno hB
    by_cases hlt : k < l.length
    · obtain ⟨b, o, hA, hbo, hx⟩ := ConR.cell_at (Rd.now HR.out hb) hlt
      subst hA
      have f0 : wr.cell? ⟨b, o + k * 13, none⟩ = some (.int .i64 l[k].entity) := hx 0 _ rfl
      have HX := Lib.hid hx
      have HH := Lib.hid (con_hit (l := l) (e := e) k hlt (fun j h => HN.out j h (by omega)))
      clear hx
      generalize hxx : l[k] = x at *
      have HXX := Lib.hid hxx
      clear hxx
      cases hc : (x.entity == e)
      · have HC : Hid (conIs e x = false) := Lib.hid hc
        go_wp2_with fail
        go_roundw
        case rel =>
          refine ⟨k + 1, by omega, fun j h h2 => ?_, by go_num, HBr.out, hb⟩
          by_cases hj : j = k
          · subst hj; rw [HXX.out]; exact HC.out
          · exact HN.out j (by omega) h2
        case measure => simp [intOf]; omega
      · have HC : Hid (conIs e x = true) := Lib.hid hc
        go_wp2_with (first
          | (refine wpList_load_arr rfl 99 (.tmp 22) rfl b (o + k * 13) rfl x.arr HX.out Tryz.underlying99 13 rcfind_any_size rfl ?_)
          | (refine wpList_store_row rfl 99 (.tmp 4) (.tmp 23) rfl w.heap.size x.arr rfl rfl 99 zeroCon HBr.out rcfind_any_size rfl x.arr_one ?_))
        refine bodyPost_ret (v := .tuple #[.agg x.arr, .bool true]) (results_row2 Tryz.results76 _ _ w.heap.size 99 x.arr rfl (blk_row HBr.out _) Tryz.underlying99 rcfind_any_size) rfl ?_
        obtain ⟨h1, h2⟩ := HH.out HC.out
        exact ⟨by rw [h1, h2], below_row hb (Nat.le_refl _)⟩
    · have HE := Lib.hid (con_miss (l := l) (e := e) (fun j h => HN.out j (by omega) h))
      go_wp2_with (refine wpList_store_row rfl 99 (.tmp 4) (.tmp 24) rfl w.heap.size zeroCon rfl rfl 99 zeroCon HBr.out rcfind_any_size rfl zero_one ?_)
      refine bodyPost_ret (v := .tuple #[.agg zeroCon, .bool false]) (results_row2 Tryz.results76 _ _ w.heap.size 99 zeroCon rfl (blk_row HBr.out _) Tryz.underlying99 rcfind_any_size) rfl ?_
      exact ⟨by rw [HE.out.1, HE.out.2]; rfl, below_row hb (Nat.le_refl _)⟩
end Go.Proofs.YthfbpbbepogllaaGreat
/- The walks of Find and of its reference, of Few. -/
namespace Go.Proofs.YthfbpbbepogllaaGreat
set_option linter.unusedVariables false
set_option linter.unusedSimpArgs false
open Go.RowKit

/-- the number of the first one, or -1 -/
def fidx {α : Type} (q : α → Bool) (l : List α) : Int := match l.findIdx? q with | some i => (i : Int) | none => -1
section
variable {α : Type} {q : α → Bool} {l : List α}
theorem fidx_hit (k : Nat) (hk : k < l.length) (h : ∀ j (hj : j < k), q (l[j]'(by omega)) = false) (hq : q l[k] = true) : fidx q l = k := by
  unfold fidx
  have : l.findIdx? q = some k := by
    rw [List.findIdx?_eq_some_iff_getElem]
    exact ⟨hk, hq, fun j hj => by simp [h j hj]⟩
  rw [this]
theorem fidx_miss (h : ∀ j (hj : j < l.length), q l[j] = false) : fidx q l = -1 := by
  unfold fidx
  have : l.findIdx? q = none := by
    rw [List.findIdx?_eq_none_iff]
    intro x hx
    obtain ⟨j, hj, rfl⟩ := List.mem_iff_getElem.1 hx
    exact h j hj
  rw [this]
end
def nameIs (s : ByteArray) (x : EntR) : Bool := x.name.toList == s.toList
/-- what the walks of groups need to know of one -/
structure GIn (w : World) (cl : List Acc) (cA : Option Addr) (el : List EntR) (eA : Option Addr) : Prop where
  ch : Rd w w.heap.size 4 cA cl.length (Ch.cells cl)
  en : Rd w w.heap.size 5 eA el.length (cellsOf EntR.cells el)
  ok : ∀ x ∈ el, x.Ok w
  wf : ∀ a ∈ cl, (Lit.int .i64 a.code).wf = true
theorem GIn.step {w w2 : World} {cl : List Acc} {cA : Option Addr} {el : List EntR} {eA : Option Addr} (h : GIn w cl cA el eA) (hb : Below w.heap.size w w2) : GIn w2 cl cA el eA :=
  ⟨Rd.now h.ch hb, Rd.now h.en hb, fun x hx => (h.ok x hx).step hb, h.wf⟩
section
variable (cur : ByteArray) (y m p : Int) (cl : List Acc) (cA : Option Addr) (cc : Nat) (ro : RolesR) (el : List EntR) (eA : Option Addr) (ec : Nat) (w : World)
def fndI (el : List EntR) (s : ByteArray) : Int := if 0 ≤ fidx (nameIs s) el then fidx (nameIs s) el else 0
def fndB (el : List EntR) (s : ByteArray) : Bool := decide (0 ≤ fidx (nameIs s) el)
set_option maxRecDepth 100000 in
set_option maxHeartbeats 1000000 in
theorem grfind_any (s : ByteArray) (h : GIn w cl cA el eA) (hn : el.length ≤ 1000000) :
    Calls Tryz.prog 63 #[.agg #[.string cur, .int .i64 y, .int .i64 m, .int .i64 p, .slice cA cl.length cc, .int .i64 ro.investment, .int .i64 ro.goodwill, .int .i64 ro.associates, .int .i64 ro.inventory, .int .i64 ro.reserve, .int .i64 ro.minority, .int .i64 ro.retained, .int .i64 ro.acquired, .int .i64 ro.owners, .int .i64 ro.disposal, .int .i64 ro.associateProfit, .int .i64 ro.dividends, .int .i64 ro.minorityProfit, .int .i64 ro.difference, .int .i64 ro.margin, .slice eA el.length ec], .string s] w (fun e w' => e = .returned (.tuple #[.int .i64 (fndI el s), .bool (fndB el s)]) ∧ Below w.heap.size w w') := by
  have H := Lib.hid h
  clear h
  have hb : Below w.heap.size w (w.alloc (.cells #[.string cur, .int .i64 y, .int .i64 m, .int .i64 p, .slice cA cl.length cc, .int .i64 ro.investment, .int .i64 ro.goodwill, .int .i64 ro.associates, .int .i64 ro.inventory, .int .i64 ro.reserve, .int .i64 ro.minority, .int .i64 ro.retained, .int .i64 ro.acquired, .int .i64 ro.owners, .int .i64 ro.disposal, .int .i64 ro.associateProfit, .int .i64 ro.dividends, .int .i64 ro.minorityProfit, .int .i64 ro.difference, .int .i64 ro.margin, .slice eA el.length ec] 29)) := (Below.refl _ _).alloc (Nat.le_refl _) _
  have HB := Lib.hid (Blk.new w 29 #[.string cur, .int .i64 y, .int .i64 m, .int .i64 p, .slice cA cl.length cc, .int .i64 ro.investment, .int .i64 ro.goodwill, .int .i64 ro.associates, .int .i64 ro.inventory, .int .i64 ro.reserve, .int .i64 ro.minority, .int .i64 ro.retained, .int .i64 ro.acquired, .int .i64 ro.owners, .int .i64 ro.disposal, .int .i64 ro.associateProfit, .int .i64 ro.dividends, .int .i64 ro.minorityProfit, .int .i64 ro.difference, .int .i64 ro.margin, .slice eA el.length ec])
  obtain ⟨W, hW⟩ : ∃ W, W = w.alloc (.cells #[.string cur, .int .i64 y, .int .i64 m, .int .i64 p, .slice cA cl.length cc, .int .i64 ro.investment, .int .i64 ro.goodwill, .int .i64 ro.associates, .int .i64 ro.inventory, .int .i64 ro.reserve, .int .i64 ro.minority, .int .i64 ro.retained, .int .i64 ro.acquired, .int .i64 ro.owners, .int .i64 ro.disposal, .int .i64 ro.associateProfit, .int .i64 ro.dividends, .int .i64 ro.minorityProfit, .int .i64 ro.difference, .int .i64 ro.margin, .slice eA el.length ec] 29) := ⟨_, rfl⟩
  have HW := Lib.hid hW
  rw [← hW] at hb HB
  clear hW
  have e4 : W.cell? ⟨w.heap.size, 20, none⟩ = some (.slice eA el.length ec) := HB.out.cell 20
  have HI := Rd.now H.out.en hb
  have HII := Lib.hid HI
  clear HI
  go_enter Tryz.func63, Tryz.ntmps63
  go_wp2_with fail
  rw [← HW.out]
  clear HW
  go_loopw [6] (fun t wr => ∃ k : Nat, k ≤ el.length ∧ (∀ j (h : j < k) (h1 : j < el.length), nameIs s (el[j]'h1) = false) ∧ t = .int .i64 k ∧ W = wr) (fun t _ => el.length - (intOf t).toNat)
  case atStart => exact ⟨0, by omega, fun j h => by omega, rfl, rfl⟩
  case round =>
    obtain ⟨k, hk, hno, rfl, rfl⟩ := hrel
    have HN := Lib.hid hno
    clear hno
    by_cases hlt : k < el.length
    · obtain ⟨b, o, hA, hbo, f0, f1, f2, f3, f4⟩ := EntR.at_ HII.out hlt
      subst hA
      cases hq : (el[k].name.toList == s.toList)
      · have HQ : Hid (nameIs s el[k] = false) := Lib.hid hq
        go_wp2_with fail
        go_roundw
        case rel =>
          refine ⟨k + 1, by omega, fun j h h1 => ?_, by go_num, trivial⟩
          by_cases e : j = k
          · subst e; exact HQ.out
          · exact HN.out j (by omega) h1
        case measure => simp [intOf]; omega
      · have HE : Hid (fidx (nameIs s) el = k) := Lib.hid (fidx_hit k hlt (fun j hj => HN.out j hj (by omega)) hq)
        go_wp2_with fail
        go_ret2
        exact ⟨by unfold fndI fndB; rw [HE.out]; simp, hb⟩
    · have HE : Hid (fidx (nameIs s) el = -1) := Lib.hid (fidx_miss fun j hj => HN.out j (by omega) hj)
      go_wp2_with fail
      go_ret2
      exact ⟨by unfold fndI fndB; rw [HE.out]; simp, hb⟩
end
end Go.Proofs.YthfbpbbepogllaaGreat
