/- Texts of this claim, put together. -/
import Derived.Test.YtnddoehhcpejjaaGreatJAR
import Derived.Test.YtnddoehhcpejjaaGreatChecked
import Derived.Sort.OwnSortedInts
import Derived.Maps.OwnSet
import Derived.Test.YtnddoehhcpejjaaGreatJAD
import Derived.Test.YtnddoehhcpejjaaGreatJAB
import Derived.Deep.MidRow
/- The walks of money.Valid, of the sort of a row of the call's own, of collect. -/
namespace Go.Proofs.YtnddoehhcpejjaaGreat
set_option linter.unusedVariables false
set_option linter.unusedSimpArgs false
open Go.RowKit
open Go.Maps (Keyed)


theorem money_any (n : Int) (w : World) : Calls Tryz.prog 55 #[.int .i64 n] w (fun e w' => e = .returned (.bool (amV n)) ∧ w = w') := by
  have HE : Hid (amV n = (decide (-1000000000000 ≤ n) && decide (n ≤ 1000000000000))) := Lib.hid rfl
  by_cases h1 : -1000000000000 ≤ n
  · by_cases h2 : n ≤ 1000000000000
    all_goals
      go_enter Tryz.func55, Tryz.ntmps55
      go_wp2_with fail
      go_ret
      exact ⟨ret_bool (by rw [HE.out]; simp [h1, h2] <;> omega), rfl⟩
  · go_enter Tryz.func55, Tryz.ntmps55
    go_wp2_with fail
    go_ret
    exact ⟨ret_bool (by rw [HE.out]; simp [h1] <;> omega), rfl⟩

def SortPost (base : Nat) (v : Value) (zs : List Int) (w : World) (e : Ending) (w' : World) : Prop :=
  e = .returned (.tuple #[]) ∧ w'.ownsRow base 3 1 v zs.length (intCells (srt zs)) ∧ w.grownBy w' v.ownBlock
theorem sort_own (base : Nat) (v : Value) (zs : List Int) (w : World) (h : w.ownsRow base 3 1 v zs.length (intCells zs)) (hl : zs.length ≤ 100000000) :
    Calls Tryz.prog 56 #[v] w (SortPost base v zs w) := by
  rcases Nat.eq_zero_or_pos zs.length with h0 | h0
  · have hz : zs = [] := List.eq_nil_of_length_eq_zero h0
    subst hz
    have hnil : SortPost base v [] w (.returned (.tuple #[])) w := ⟨rfl, by simpa [srt] using h, World.grownBy.refl w _⟩
    rcases h.2 with ⟨rfl, _⟩ | ⟨g, cap, cur, rfl, _⟩
    · exact (Tryz.slices_Sort_int_none none 0 w).mono fun e w' hh => by rw [hh.1, hh.2]; exact hnil
    · exact (Tryz.slices_Sort_int_none _ cap w).mono fun e w' hh => by rw [hh.1, hh.2]; exact hnil
  · rcases h.2 with ⟨_, hz⟩ | ⟨g, cap, cur, rfl, hb, hg, hn, hm, hs, ht⟩
    · omega
    · have hlt : g < w.heap.size := (Array.getElem?_eq_some_iff.1 hg).1
      refine (Tryz.slices_Sort_int g 0 cap zs w (holds_of_blockI hg (by rw [Nat.mul_one] at ht; exact ht)) hlt (by omega)).mono fun e w' hh => ?_
      obtain ⟨he, n, os, rfl⟩ := hh
      refine ⟨he, ?_, grownBy_sortedI _⟩
      have := ownsRow_sortedI (n := n) (os := os) (ss := zs) (ts := srt zs) (base := base) (e := 3) (cap := cap) (srt_len zs) hb hg hn hm hs
      exact this
/-- what collect hands back: the sums in order, or an error -/
def ColPost (T : TypeId) (base : Nat) (f : Int → Int) (w : World) (e : Ending) (w' : World) : Prop :=
  ∃ (v : Value) (L : List Bal) (E : Int), e = .returned (.tuple #[v, .int .i64 E]) ∧ w'.ownsRow base T 2 v L.length (cellsOf Bal.cells L) ∧ Below w.heap.size w w' ∧
    ((E = 0 ∧ IsC f L ∧ ∀ c, amV (f c) = true) ∨ (E = 2 ∧ L = [] ∧ ∃ c, amV (f c) = false))

theorem colp_info : (Tryz.prog.info? 57).map (fun i => (i.zero, i.size, i.bytes)) = some (some (.agg #[.int .i64 0, .int .i64 0]), 2, 16) := by kernel_rfl
theorem colb_info : (Tryz.prog.info? 61).map (fun i => (i.zero, i.size, i.bytes)) = some (some (.agg #[.int .i64 0, .int .i64 0]), 2, 16) := by kernel_rfl
set_option maxRecDepth 100000 in
set_option maxHeartbeats 2000000 in
theorem colb_any (b n : Nat) (f : Int → Int) (w : World) (hS : SumW Tryz.prog 3 3 w b n f) (hn : n ≤ 1000000) :
    Calls Tryz.prog 36 #[.map (some b)] w (ColPost 61 w.heap.size f w) := by
  have hS0 := hS
  obtain ⟨D, hown, hM, hD⟩ := hS
  have HD := Lib.hid hD
  have HM := Lib.hid hM
  have hb := Below.refl w.heap.size w
  obtain ⟨i0, hi, hz0, hz1, hz2⟩ := info_parts int_info
  have hsz := hown.size_le
  have hbl := hown.lt
  have hmk := fun W => run_make_ints (P := Tryz.prog) (t := 113) (z := .int .i64 0) Tryz.underlying113 hi hz0 hz1 hz2 (Maps.size D) (by omega) W
  clear hD hM
  go_enter Tryz.func36, Tryz.ntmps36
  go_wp2_with (first
    | (at_len; refine wpList_len_own _ rfl _ 99 rfl 3 3 Tryz.underlying99 _ b n D rfl hown ?_)
    | (at_range; refine wpList_range_own _ rfl _ 99 rfl 3 3 keyed_int Tryz.underlying99 _ b n D rfl (hown.alloc _) ?_; intro w0 hrg0 hg0 hs0))
  have hb0 : Below w.heap.size w w0 := by
    have := (hb.alloc (Nat.le_refl _) (.cells (madeCells #[.int .i64 0] (Maps.size D)) 3)).grown hg0 (by simp) (fun k hk => by cases hk)
    exact this
  have ho0 : w0.ownsRow w.heap.size 3 1 (.slice (some ⟨w.heap.size, 0, none⟩) 0 (Maps.size D)) 0 [] :=
    (own_empty w 3 w.heap.size 1 (Maps.size D) (Nat.le_refl _) _ (by rw [size_madeCells]; omega) (by unfold maxLen; omega)).kept hg0 (by right; simp [Value.ownBlock])
  have HC0 := Lib.hid (gath_start f D)
  obtain ⟨r, hr⟩ : ∃ r, r = (w.alloc (.cells (madeCells #[.int .i64 0] (Maps.size D)) 3)).heap.size := ⟨_, rfl⟩
  rw [← hr] at hrg0 hs0 ⊢
  have hrl : w.heap.size < r := by rw [hr]; simp
  clear hr hb hg0 hs0 hown
  go_frame
  go_loopw [4] (fun v wr => ∃ (L : List Int) (left : Lit → Bool) (cnt : Nat), wr.ranges Tryz.prog 3 (plainElem Tryz.prog 3) b r n D left cnt ∧ Gath f D left L ∧ (∀ c ∈ L, (Lit.int .i64 c).wf = true) ∧ wr.ownsRow w.heap.size 3 1 v L.length (intCells L) ∧ L.length + cnt ≤ n ∧ Below w.heap.size w wr) (fun _ wr => wr.rangeLeft b r)
  case atStart => exact ⟨[], _, _, hrg0, HC0.out, (fun c hc => by simp at hc), ho0, by simp; omega, hb0⟩
  case round =>
    clear hrg0 hb0 ho0 HC0
    obtain ⟨L, left, cnt, hrg, hC, hW, ho, hLc, hb⟩ := hrel
    have HC := Lib.hid hC
    have HW := Lib.hid hW
    have HNE := Lib.hid ho.lt
    have hz := hb.size
    have hnb := map_ne hrg.owns ho
    have hnr := range_ne hrg ho
    clear hC hW
    go_wp2_with (at_next; refine wpList_next_ranges_ii _ rfl _ rfl 3 3 .i64 .i64 keyed_int Tryz.underlying3 Tryz.underlying3 b r n _ _ _ rfl hrg ?_ ?_)
    · intro _ hl0
      have HEND := Lib.hid (gath_end HC.out hl0 HD.out)
      have HL := Lib.hid HC.out.1
      have hS1 : SumW Tryz.prog 3 3 wr b n f := ⟨D, hrg.owns, HM.out, HD.out⟩
      have hlen : L.length ≤ 1000000 := by omega
      have hlen2 : L.length ≤ n := by omega
      obtain ⟨A4, c4, rfl, -⟩ := Rd.of_own ho
      go_wp2_with (go_at_call 56; refine (sort_own w.heap.size _ L wr ho (by omega)).mono ?_; rintro e w2 ⟨rfl, ho2, hg2⟩)
      have hb2 : Below w.heap.size w w2 := Below.grown hb hg2 hz (fun k hk => (HNE.out k hk).1)
      have hS2 := hS1.kept hg2 hnb
      have HW2 : Hid (∀ c ∈ srt L, (Lit.int .i64 c).wf = true) := Lib.hid (fun c hc => HW.out c ((srt_mem L c).1 hc))
      clear hg2 hS1 hl0 hrg ho hb hnb hnr HNE HC HW
      obtain ⟨j0, hj0, hj1, hj2, hj3⟩ := info_parts colb_info
      go_wp2_with fail
      go_loopw [7, 33] (fun v t wr => ∃ j : Nat, j ≤ L.length ∧ t = .int .i64 j ∧ wr.ownsRow w.heap.size 61 2 v (balsOf f ((srt L).take j)).length (cellsOf Bal.cells (balsOf f ((srt L).take j))) ∧
        wr.ownsRow w.heap.size 3 1 (.slice A4 L.length c4) L.length (intCells (srt L)) ∧ SumW Tryz.prog 3 3 wr b n f ∧ Below w.heap.size w wr) (fun _ t _ => L.length - (intOf t).toNat)
      case atStart => exact ⟨0, by omega, rfl, World.ownsRow_nil _ _ _ _, ho2, hS2, hb2⟩
      case round =>
        clear ho2 hS2 hb2
        obtain ⟨j, hj, rfl, ho, hoc, hS, hb⟩ := hrel
        have hz3 := hb.size
        by_cases hjn : j < L.length
        · have hjl : j < (srt L).length := by rw [srt_len]; exact hjn
          have hoc' := hoc
          rw [← srt_len L] at hoc'
          obtain ⟨ba, oa, hA4, hba, r0⟩ := int_at (own_rd hoc') hjl
          clear hoc'
          subst hA4
          have hc : (Lit.int .i64 (srt L)[j]).wf = true := HW2.out _ (List.getElem_mem hjl)
          have hLL := hS.look (t := 99) Tryz.underlying3 Tryz.underlying3 Tryz.underlying99 (zero_int _) hc
          have hne2 := hS.ne ho
          have HT := Lib.hid (balsOf_take f (srt L) j hjl)
          have hml : (balsOf f ((srt L).take j)).length ≤ n := by rw [balsOf_len, List.length_take]; omega
          go_wp2_with (at_builtin; refine wpList_append_rec Bal.cells 2 (fun _ => rfl) Bal.one rfl (.tmp 37) (.tmp 43) 39 rfl w.heap.size 61 j0 (.agg #[.int .i64 0, .int .i64 0]) 16 Tryz.underlying39 hj0 hj1 hj2 hj3 rfl (by decide) _ (balsOf f ((srt L).take j)) rfl (ho.alloc _) wr.heap.size 1 ⟨(srt L)[j], f (srt L)[j]⟩ _ rfl (Blk.new wr _ _) rfl ?c3 ?c4 ?c5 ?_)
          case c3 => simp only [maxLen]; omega
          case c4 => omega
          case c5 => simp; omega
          intro v4 w4 ho4 hg4
          have hb3 : Below w.heap.size w (wr.alloc (.cells #[.int .i64 (srt L)[j], .int .i64 (f (srt L)[j])] 61)) := (by repeat (first | exact hb | refine Below.alloc ?_ (by have hbs := hb.size; first | omega | (simp; done) | (simp; omega)) _ | refine Below.drew ?_ | refine below_drewN_ ?_ _ | refine Below.setCell ?_ (by simp) _))
          have hb4 := bel_own hb3 (by simp; omega) (ho.alloc _) hg4
          have hoc4 := own_apart (hoc.alloc (.cells #[.int .i64 (srt L)[j], .int .i64 (f (srt L)[j])] 61)) (ho.alloc _) (by decide) hg4
          have hS4 := (hS.alloc (.cells #[.int .i64 (srt L)[j], .int .i64 (f (srt L)[j])] 61)).kept hg4 hne2
          clear hg4 hb3 hLL
          go_wp2_with fail
          go_roundw
          case rel => exact ⟨j + 1, by omega, by go_num, by rw [HT.out, List.length_append]; exact ho4, hoc4, hS4, hb4⟩
          case measure => simp [intOf]; omega
        · have HT : Hid ((srt L).take j = srt L) := Lib.hid (List.take_of_length_le (by rw [srt_len]; omega))
          rw [HT.out] at ho
          go_wp2_with fail
          go_ret2
          exact ⟨_, _, 0, rfl, ho, hb, .inl ⟨rfl, isC_of (srt_asc HL.out) (fun c => by rw [srt_mem]; exact HEND.out.1 c), HEND.out.2⟩⟩
    · intro x c w1 cnt1 hwx hwc hlx hat hrg1 hlt hg1 hs1 hen
      have hcx : c = f x := by
        have h1 := hat (.lit (.int .i64 0))
        rw [HD.out x] at h1
        injection h1 with h1
        injection h1 with _ h1
        exact h1.symm
      subst hcx
      have HHAS := Lib.hid (Maps.has_true_of_atKey hat)
      have HLX := Lib.hid hlx
      have ho1 := ho.kept hg1 (.inr hnr)
      have hb1 : Below w.heap.size w w1 := Below.grown hb hg1 hz (fun k hk => by injection hk with hk; omega)
      have hnb1 := map_ne hrg1.owns ho1
      have hnr1 := range_ne hrg1 ho1
      have hz1' := hb1.size
      clear hs1 hg1 hat hlx hwc
      cases hm : amV (f x)
      · have HM2 := Lib.hid hm
        go_wp2_with (go_at_call 55; refine (money_any _ _).mono ?_; rintro e w2 ⟨rfl, rfl⟩)
        go_ret2
        exact ⟨_, [], 2, rfl, World.ownsRow_nil _ _ _ _, hb1, .inr ⟨rfl, rfl, x, HM2.out⟩⟩
      · have HM2 := Lib.hid hm
        by_cases h0 : f x = 0
        · have hd : (f x != 0) = false := by simp [h0]
          have HG := Lib.hid (gath_skip HC.out h0)
          clear h0
          go_wp2_with (go_at_call 55; refine (money_any _ _).mono ?_; rintro e w2 ⟨rfl, rfl⟩)
          go_roundw
          case rel => exact ⟨L, strike left x, cnt1, hrg1, HG.out, HW.out, ho1, by omega, hb1⟩
          case measure => rw [hrg1.left_eq, hrg.left_eq]; exact hlt
        · have hd : (f x != 0) = true := by simp [h0]
          have HG := Lib.hid (gath_take HC.out HLX.out HHAS.out h0 HM2.out)
          clear h0
          go_wp2_with (first
            | (go_at_call 55; refine (money_any _ _).mono ?_; rintro e w2 ⟨rfl, rfl⟩)
            | (at_builtin; refine wpList_append_own _ rfl (.tmp 25) (.tmp 27) 113 rfl w.heap.size 3 i0 (.int .i64 0) 1 8 Tryz.underlying113 hi hz0 hz1 hz2 rfl (by decide) _ (L).length (intCells (L)) rfl (ho1.alloc _) ⟨w1.heap.size, 0, none⟩ 1 1 [.int .i64 (x)] rfl rfl ?c1 (one_i64 _) ?c3 ?c4 ?c5 ?_))
          case c1 => exact cells_new _ _ _ _ rfl
          case c3 => simp only [maxLen]; omega
          case c4 => omega
          case c5 => simp; omega
          intro v4 w4 ho4 hg4 _
          have hb3 : Below w.heap.size w (w1.alloc (.cells #[.int .i64 x] 3)) := hb1.alloc hz1' _
          have hb4 := bel_own hb3 (by simp; omega) (ho1.alloc _) hg4
          have hrg4 := (hrg1.alloc (.cells #[.int .i64 x] 3)).kept hg4 hnb1 (Ne.symm hnr1)
          clear hg4 hb3 hen
          go_wp2_with fail
          go_roundw
          case rel =>
            refine ⟨L ++ [x], strike left x, cnt1, hrg4, HG.out, ?_, by rw [intCells_app, List.length_append]; exact ho4, by rw [List.length_append]; simp; omega, hb4⟩
            intro y hy
            rcases List.mem_append.1 hy with hy | hy
            · exact HW.out y hy
            · simp only [List.mem_singleton] at hy; subst hy; exact hwx
          case measure => rw [hrg4.left_eq, hrg.left_eq]; exact hlt
end Go.Proofs.YtnddoehhcpejjaaGreat
/- A list of structs of the call's own: its block; two of its elements exchanged. Over any program. -/
namespace Go.Proofs.YtnddoehhcpejjaaGreat
set_option linter.unusedVariables false
set_option linter.unusedSimpArgs false
open Go.RowKit

theorem own_blk {w : World} {base : Nat} {e : TypeId} {size : Nat} {v : Value} {n : Nat} {xs : List Value} (h : w.ownsRow base e size v n xs) (hn : 0 < n) :
    ∃ g cap cur, v = .slice (some ⟨g, 0, none⟩) n cap ∧ base ≤ g ∧ Blk w g e cur ∧ n ≤ cap ∧ ∀ (j : Nat) (u : Value), xs[j]? = some u → cur[j]? = some u := by
  have h0 := h
  rcases h.2 with ⟨_, h0⟩ | ⟨g, cap, cur, hv, hb, hg, hnc, _⟩
  · omega
  · refine ⟨g, cap, cur, hv, hb, hg, hnc, fun j u hu => ?_⟩
    have := h0.cells (g := g) (by rw [hv]; rfl) j u hu
    rw [add_zero_] at this
    rw [← (show Blk w g e cur from hg).cell j]
    exact this
theorem Blk.ne {w : World} {g g' : Nat} {t t' : TypeId} {cs cs' : Array Value} (h : Blk w g t cs) (h' : Blk w g' t' cs') (ht : t ≠ t') : g ≠ g' := by
  rintro rfl
  unfold Blk at h h'
  rw [h] at h'
  injection h' with h'
  injection h' with _ h' _
  exact ht h'
theorem own_ne_blk {w : World} {base : Nat} {e : TypeId} {size : Nat} {v : Value} {n : Nat} {xs : List Value} (h : w.ownsRow base e size v n xs) {g : Nat} {t : TypeId} {cs : Array Value} (hB : Blk w g t cs) (ht : t ≠ e) : some g ≠ v.ownBlock := by
  rcases h.2 with ⟨h, _⟩ | ⟨g', cap, cur, h, _, hg, _⟩
  · rw [h]; simp [Value.ownBlock]
  · rw [h]
    simp only [Value.ownBlock, ne_eq, Option.some.injEq]
    intro e
    exact hB.ne (show Blk w g' _ cur from hg) ht e
theorem blk_new2 (w : World) (o : Obj) (t : TypeId) (cs : Array Value) : Blk ((w.alloc o).alloc (.cells cs t)) (w.heap.size + 1) t cs := by
  have := Blk.new (w.alloc o) t cs
  rwa [World.size_alloc] at this
theorem heap_setCells_ (b g : Nat) (hg : b ≠ g) : ∀ (vs : List Value) (o : Nat) (w : World), (w.setCells g o vs).heap[b]? = w.heap[b]? := by
  intro vs
  induction vs with
  | nil => intro o w; rfl
  | cons v vs ih => intro o w; exact (ih (o + 1) _).trans (Below.heap_setCell w ⟨g, o, none⟩ v b hg)
theorem size_setCells_ (g : Nat) : ∀ (vs : List Value) (o : Nat) (w : World), (w.setCells g o vs).heap.size = w.heap.size := by
  intro vs
  induction vs with
  | nil => intro o w; rfl
  | cons v vs ih => intro o w; exact (ih (o + 1) _).trans (World.size_setCell _ _ _)
theorem Blk.setCells {w : World} {g g' : Nat} {t : TypeId} {cs : Array Value} (h : Blk w g t cs) (hg : g ≠ g') (o : Nat) (vs : List Value) : Blk (w.setCells g' o vs) g t cs := (heap_setCells_ g g' hg vs o w).trans h
theorem below_setCells {B g : Nat} {w : World} (hg : B ≤ g) : ∀ (vs : List Value) (o : Nat) {w' : World}, Below B w w' → Below B w (w'.setCells g o vs) := by
  intro vs
  induction vs with
  | nil => intro o w' h; exact h
  | cons v vs ih => intro o w' h; exact ih (o + 1) (h.setCell (p := ⟨g, o, none⟩) hg v)
section
variable {α : Type} {f : α → List Value} {sz : Nat} (hf : ∀ a, (f a).length = sz)
include hf
theorem range_of {w : World} {g : Nat} {t : TypeId} {cur : Array Value} {l : List α} (h : Blk w g t cur) (hc : ∀ (j : Nat) (u : Value), (cellsOf f l)[j]? = some u → cur[j]? = some u) (k : Nat) (hk : k < l.length) :
    w.rangeAt g (k * sz) (f l[k]) ∧ w.there g (k * sz) sz := by
  have key : ∀ j u, (f l[k])[j]? = some u → w.cell? ⟨g, k * sz + j, none⟩ = some u := fun j u hu => by
    have hj : j < sz := by
      have := (List.getElem?_eq_some_iff.1 hu).1
      rwa [hf] at this
    rw [h.cell]
    refine hc _ u ?_
    rw [cellsOf_at hf l k j hk hj]
    exact hu
  refine ⟨key, fun j hj => ⟨?_, h.frozen _⟩⟩
  have : (f l[k])[j]? = some ((f l[k])[j]'(by rw [hf]; exact hj)) := List.getElem?_eq_getElem _
  rw [key j _ this]; rfl
theorem swap_rd {w : World} {g : Nat} {t : TypeId} {cur : Array Value} {l l' : List α} (hsz : 0 < sz) (h : Blk w g t cur) (hc : ∀ (j : Nat) (u : Value), (cellsOf f l)[j]? = some u → cur[j]? = some u) (i k : Nat) (hi : i < l.length) (hk : k < l.length)
    (hl : l'.length = l.length) (hat : ∀ m (hm : m < l'.length), l'[m] = if m = k then l[i] else if m = i then l[k] else l[m]'(by omega)) :
    Rd ((w.setCells g (i * sz) (f l[k])).setCells g (k * sz) (f l[i])) ((w.setCells g (i * sz) (f l[k])).setCells g (k * sz) (f l[i])).heap.size sz (some ⟨g, 0, none⟩) l'.length (cellsOf f l') := by
  refine rd_mk (a := ⟨g, 0, none⟩) hf hsz fun m hm j u hu => ?_
  have ea : (⟨g, 0, none⟩ : Addr).add (m * sz + j) = ⟨g, m * sz + j, none⟩ := add_zero_ _ _
  rw [ea]
  have hm' : m < l.length := by omega
  have hr := range_of hf h hc m hm'
  have hri := range_of hf h hc i hi
  have hrk := range_of hf h hc k hk
  have far : ∀ {a b : Nat}, a ≠ b → a * sz + sz ≤ b * sz ∨ b * sz + sz ≤ a * sz := by
    intro a b hab
    rcases Nat.lt_or_gt_of_ne hab with h | h
    · left; have := Nat.mul_le_mul_right sz (Nat.succ_le_of_lt h); rw [Nat.succ_mul] at this; exact this
    · right; have := Nat.mul_le_mul_right sz (Nat.succ_le_of_lt h); rw [Nat.succ_mul] at this; exact this
  rw [hat m hm] at hu
  by_cases h1 : m = k
  · subst h1
    rw [if_pos rfl] at hu
    exact World.rangeAt_setCells_same _ _ _ _ (by rw [hf]; exact World.there_setCells hrk.2 _ _ _) j u hu
  · rw [if_neg h1] at hu
    by_cases h2 : m = i
    · subst h2
      rw [if_pos rfl] at hu
      refine World.rangeAt_setCells_apart (World.rangeAt_setCells_same _ _ _ _ (by rw [hf]; exact hri.2)) _ _ _ ?_ j u hu
      rw [hf, hf]
      have := far h1
      omega
    · rw [if_neg h2] at hu
      refine World.rangeAt_setCells_apart (World.rangeAt_setCells_apart hr.1 _ _ _ ?_) _ _ _ ?_ j u hu
      · rw [hf, hf]; have := far h2; omega
      · rw [hf, hf]; have := far h1; omega
theorem rd_take {w : World} {B : Nat} {A : Option Addr} {l : List α} (h : Rd w B sz A l.length (cellsOf f l)) (n : Nat) (hn : n ≤ l.length) : Rd w B sz A (l.take n).length (cellsOf f (l.take n)) := by
  refine ⟨cellsOf_len hf _, fun h0 => ?_⟩
  obtain ⟨b, o, e, hb, hc⟩ := h.2 (by rw [List.length_take] at h0; omega)
  refine ⟨b, o, e, hb, fun j u hu => hc j u ?_⟩
  have e2 : cellsOf f l = cellsOf f (l.take n) ++ cellsOf f (l.drop n) := by rw [← cellsOf_app, List.take_append_drop]
  rw [e2, List.getElem?_append_left (List.getElem?_eq_some_iff.1 hu).1]
  exact hu
end
end Go.Proofs.YtnddoehhcpejjaaGreat
