/- Texts of this claim, put together. -/
import Derived.Test.YtkfbchgabmffoaaTrcWalksFZ
import Derived.Test.YtkfbchgabmffoaaJAM
import Derived.Test.YtkfbchgabmffoaaJAH
import Derived.Test.YtkfbchgabmffoaaJAG
/- The walk of Lines of a result: a loop over its iterator. -/
namespace Go.Proofs.Ytkfbchgabmffoaa
set_option linter.unusedVariables false
set_option linter.unusedSimpArgs false
open Go.RowKit Go.Shelf

attribute [local go_sem] Oper.semAt_some

theorem keepB_t {s B : Nat} : ∀ {A W C : World}, KeepB s B A W → KeepB s B W C → KeepB s B A C := fun h k => h.trans k
theorem blk_own {β : Type} (B : Nat) (t : TypeId) (cs : Array Value) : Own (fun (_ : β) W => Blk W B t cs) := fun _ X Y row hs hg hrow =>
  hs.grown hg (fun e' => by obtain ⟨o, ho, hc⟩ := hrow B e'.symm; rw [show X.heap[B]? = _ from hs] at ho; cases ho; cases hc)
set_option maxHeartbeats 1000000 in
theorem all_in (F : Fence) (n : Nat) (hF : F.fn 17) (hro : F.round = none) (cs : Array Value) (w : World) :
    CallsIn F n Try.prog 17 #[.agg cs] w fun e w' => e = .returned (.func (.func 27) #[] #[.pointer (some ⟨w.heap.size, 0, none⟩)]) ∧ w' = w.alloc (.cells cs 26) := by
  refine callsIn_of_wp Try.func17 rfl hF ?_ hro
  simp only [Try.ntmps17, List.size_toArray, List.length_cons, List.length_nil, Nat.reduceAdd, Nat.reduceSub, Array.replicate_succ, Array.replicate_zero, List.push_toArray, List.append_toArray, List.nil_append, List.cons_append]
  gi_wp2
  go_ret
  exact ⟨rfl, rfl⟩
set_option maxRecDepth 100000 in
set_option maxHeartbeats 8000000 in
theorem lines_in (F : Fence) (n : Nat) (hL : F.fn 10) (hA : F.fn 17) (hF : F.fn 27) (hro : F.round = none) (hn : 3 ≤ n) (per : Int) (I : List ItemR) (AI : Option Addr) (cI : Nat) (P : List PostR) (AP : Option Addr) (cP : Nat) (T : List Bal) (AT : Option Addr) (cT : Nat) (f t : Int) (w : World) (h : RIn w I AI P AP T AT)
    (hnB : (allB I P).length ≤ 1000000) (hnI : I.length ≤ 1000000) (hnP : P.length ≤ 1000000) (hnT : T.length ≤ 1000000) (hnQ : ∀ p ∈ P, p.parts.l.length ≤ 1000000) :
    CallsIn F n Try.prog 10 #[.agg #[.int .i64 per, .slice AI I.length cI, .slice AP P.length cP, .slice AT T.length cT], .int .i64 f, .int .i64 t] w (OwnSrc 38 w.heap.size (linesV f t I P) w) := by
  have h1 : 1 ≤ n := by omega
  obtain ⟨i0, hi, hz0, hz1, hz2⟩ := info_parts tsrc_info
  refine callsIn_of_wp_marks Try.func10 rfl hL ?_ hro
  simp only [Try.ntmps10, List.size_toArray, List.length_cons, List.length_nil, Nat.reduceAdd, Nat.reduceSub, Array.replicate_succ, Array.replicate_zero, List.push_toArray, List.append_toArray, List.nil_append, List.cons_append]
  gi_wp2_with (gi_at_call 17; refine (all_in F (n - 1) hA hro _ _).mono ?_; rintro e w' ⟨rfl, rfl⟩)
  obtain ⟨W0, hW0⟩ : ∃ W0, ((((w.alloc (.cells #[.int .i64 per, .slice AI I.length cI, .slice AP P.length cP, .slice AT T.length cT] 26)).alloc (.cells #[.int .i64 f] 3)).alloc (.cells #[.int .i64 t] 3)).alloc (.cells #[.slice none 0 0] 29)).alloc (.cells #[.int .i64 per, .slice AI I.length cI, .slice AP P.length cP, .slice AT T.length cT] 26) = W0 := ⟨_, rfl⟩
  have hsz : W0.heap.size = w.heap.size + 1 + 1 + 1 + 1 + 1 := by rw [← hW0]; simp
  have hB0 : Below w.heap.size w W0 := by rw [← hW0]; exact (((((Below.refl _ w).alloc (Nat.le_refl _) _).alloc (by simp) _).alloc (by simp; omega) _).alloc (by simp; omega) _).alloc (by simp; omega) _
  have bF : Boxed W0 (w.heap.size + 1) 3 (.int .i64 f) := by
    rw [← hW0]
    have := Boxed.new (w.alloc (.cells #[.int .i64 per, .slice AI I.length cI, .slice AP P.length cP, .slice AT T.length cT] 26)) 3 (.int .i64 f)
    rw [World.size_alloc] at this
    exact ((this.alloc _).alloc _).alloc _
  have bT : Boxed W0 (w.heap.size + 1 + 1) 3 (.int .i64 t) := by
    rw [← hW0]
    have := Boxed.new ((w.alloc (.cells #[.int .i64 per, .slice AI I.length cI, .slice AP P.length cP, .slice AT T.length cT] 26)).alloc (.cells #[.int .i64 f] 3)) 3 (.int .i64 t)
    rw [World.size_alloc, World.size_alloc] at this
    exact (this.alloc _).alloc _
  have bO : Boxed W0 (w.heap.size + 1 + 1 + 1) 29 (.slice none 0 0) := by
    rw [← hW0]
    have := Boxed.new (((w.alloc (.cells #[.int .i64 per, .slice AI I.length cI, .slice AP P.length cP, .slice AT T.length cT] 26)).alloc (.cells #[.int .i64 f] 3)).alloc (.cells #[.int .i64 t] 3)) 29 (.slice none 0 0)
    rw [World.size_alloc, World.size_alloc, World.size_alloc] at this
    exact this.alloc _
  have bB : Blk W0 (w.heap.size + 1 + 1 + 1 + 1) 26 #[.int .i64 per, .slice AI I.length cI, .slice AP P.length cP, .slice AT T.length cT] := by
    rw [← hW0]
    have := Blk.new ((((w.alloc (.cells #[.int .i64 per, .slice AI I.length cI, .slice AP P.length cP, .slice AT T.length cT] 26)).alloc (.cells #[.int .i64 f] 3)).alloc (.cells #[.int .i64 t] 3)).alloc (.cells #[.slice none 0 0] 29)) 26 #[.int .i64 per, .slice AI I.length cI, .slice AP P.length cP, .slice AT T.length cT]
    rwa [World.size_alloc, World.size_alloc, World.size_alloc, World.size_alloc] at this
  rw [hW0]
  clear hW0
  refine wpIn_rangeFunc_ownH hro h1 (gf := 27) (lb := #[.pointer (some ⟨w.heap.size + 1 + 1 + 1 + 1, 0, none⟩)]) rfl hF (enters_of Try.func27 (by kernel_rfl) rfl)
    (all_stops F (n - 1) hF hro (by omega) per I AI cI P AP cP T AT cT w W0 (w.heap.size + 1 + 1 + 1 + 1) h hB0 bB hnI hnP hnQ) keepB_t
    (fun W l o o' hl h1 h2 h3 => ⟨belowK_b (w := W0) (by omega) W l o o' hl h1 h2 h3, World.putObj_heap_other (by omega)⟩) (Below.refl _ _) (fun _ => rfl)
    (fun pre W => ((∃ v, Boxed W (w.heap.size + 1 + 1 + 1) 29 v ∧ W.ownsRow w.heap.size 38 6 v (pick f t pre).length (cellsOf SrcR.cells (pick f t pre)) ∧ True) ∧ ((Boxed W (w.heap.size + 1) 3 (.int .i64 f) ∧ Boxed W (w.heap.size + 1 + 1) 3 (.int .i64 t)) ∧ Blk W (w.heap.size + 1 + 1 + 1 + 1) 26 #[.int .i64 per, .slice AI I.length cI, .slice AP P.length cP, .slice AT T.length cT])) ∧ Below w.heap.size w W)
    (fun _ _ _ => False)
    (OwnFrom.and (OwnFrom.and (Own.from (holdsRow_own w.heap.size (w.heap.size + 1 + 1 + 1) 29 38 6 (fun pre => (pick f t pre).length) (fun pre => cellsOf SrcR.cells (pick f t pre)) (fun _ _ => True)) _) (OwnFrom.and (OwnFrom.and (Own.from (boxed_own _ _ _) _) (Own.from (boxed_own _ _ _) _)) (Own.from (blk_own _ _ _) _))) (ownFrom_below (Nat.le_refl _) (by omega)))
    (fun _ _ _ _ _ hs _ _ => hs)
    ⟨⟨⟨_, bO, World.ownsRow_nil _ _ _ _, trivial⟩, ⟨bF, bT⟩, bB⟩, hB0⟩
    (fun x a' W => ∃ Bx, w.heap.size + 1 + 1 + 1 + 1 < Bx ∧ Blk W Bx 38 #[.int .i64 x.ref.entry, .int .i64 x.ref.line, .int .i64 x.posting, .int .i64 x.index, .int .i64 x.account, .int .i64 x.amount] ∧ a' = { tmps := #[.agg #[.int .i64 per, .slice AI I.length cI, .slice AP P.length cP, .slice AT T.length cT], .int .i64 f, .int .i64 t, .pointer (some ⟨w.heap.size, 0, none⟩), .pointer (some ⟨w.heap.size + 1, 0, none⟩), .pointer (some ⟨w.heap.size + 1 + 1, 0, none⟩), .slice none 0 0, .pointer (some ⟨w.heap.size + 1 + 1 + 1, 0, none⟩), .pointer (some ⟨Bx, 0, none⟩), .agg #[.int .i64 per, .slice AI I.length cI, .slice AP P.length cP, .slice AT T.length cT], .func (.func 27) #[] #[.pointer (some ⟨w.heap.size + 1 + 1 + 1 + 1, 0, none⟩)], .agg #[.int .i64 x.ref.entry, .int .i64 x.ref.line, .int .i64 x.posting, .int .i64 x.index, .int .i64 x.account, .int .i64 x.amount], undef, undef, undef, undef, undef, undef, undef, undef, undef, undef, undef, undef, undef, undef, undef], defers := [] })
    (fun x a' _ X Y row hs hg hr => by obtain ⟨Bx, h1, h2, h3⟩ := hs; exact ⟨Bx, h1, blk_own (β := Unit) Bx _ _ () X Y row h2 hg (fun r e => (hr r e).2), h3⟩)
    ?assign ?body ?done ?stop
  case assign =>
    rintro l pre x W K ⟨⟨⟨v, hv, hrow, -⟩, ⟨hF1, hT1⟩, hBk⟩, hB1⟩ hK
    unfold SrcR.enc
    gi_wp2
    exact hK _ _ ((KeepsOthers.alloc _ _).from _) ⟨(Below.refl _ W).alloc hB1.size _, Below.heap_alloc W _ _ hBk.lt⟩ ⟨⟨⟨v, hv.alloc _, hrow.alloc _, trivial⟩, ⟨hF1.alloc _, hT1.alloc _⟩, hBk.alloc _⟩, hB1.alloc hB1.size _⟩ ⟨W.heap.size, hBk.lt, Blk.new W _ _, rfl⟩
  case body =>
    rintro l pre x a' W hl ⟨r, hr⟩ ⟨⟨⟨v, hv, hrow, -⟩, ⟨hF1, hT1⟩, hBk⟩, hB1⟩ ⟨Bx, hBx, bX, rfl⟩ hlt
    have c0 : W.cell? ⟨Bx, 0, none⟩ = some (.int .i64 x.ref.entry) := bX.cell 0
    have c1 : W.cell? ⟨Bx, 1, none⟩ = some (.int .i64 x.ref.line) := bX.cell 1
    have c2 : W.cell? ⟨Bx, 2, none⟩ = some (.int .i64 x.posting) := bX.cell 2
    have c3 : W.cell? ⟨Bx, 3, none⟩ = some (.int .i64 x.index) := bX.cell 3
    have c4 : W.cell? ⟨Bx, 4, none⟩ = some (.int .i64 x.account) := bX.cell 4
    have c5 : W.cell? ⟨Bx, 5, none⟩ = some (.int .i64 x.amount) := bX.cell 5
    have cF := hF1.cell
    have cT := hT1.cell
    have cO := hv.cell
    have hpl : (pick f t pre).length ≤ 1000000 := by
      have e1 := pick_le f t pre
      rw [srcs_len] at hlt
      omega
    have hz := hB1.size
    by_cases h1' : f ≤ x.account
    · by_cases h2' : x.account ≤ t
      · have HP := Lib.hid (pick_yes pre (inS_yes (f := f) (t := t) (s := x) h1' h2'))
        gi_wp2_with (gi_at_builtin; refine wpListIn_append_own _ rfl _ _ 29 rfl w.heap.size 38 i0 _ 6 48 Try.underlying29 hi hz0 hz1 hz2 rfl (by decide) _ _ _ rfl (hrow.alloc (.cells #[.int .i64 x.ref.entry, .int .i64 x.ref.line, .int .i64 x.posting, .int .i64 x.index, .int .i64 x.account, .int .i64 x.amount] 38)) ⟨W.heap.size, 0, none⟩ 1 1 (SrcR.cells x) rfl rfl (cells_new W _ _ _ rfl) (SrcR.one x) (by simp only [maxLen]; omega) (by omega) (by simp; omega) ?_; intro v' w1 hown' hgrow _; obtain ⟨g', cap', rfl⟩ := ownsRow_succ hown'; obtain ⟨hv1, hv2, hr2, hk2, hb2⟩ := hv.appended (by decide) hrow hz (by omega) hown' hgrow; have hc1 := hv1.cell; have hf1 := hv1.frozen)
        have nF : some (w.heap.size + 1) ≠ v.ownBlock := hF1.not_row (by decide) hrow
        have nT : some (w.heap.size + 1 + 1) ≠ v.ownBlock := hT1.not_row (by decide) hrow
        have nB : some (w.heap.size + 1 + 1 + 1 + 1) ≠ v.ownBlock := own_ne_blk hrow hBk (by decide)
        have kF := ((hF1.alloc (.cells #[.int .i64 x.ref.entry, .int .i64 x.ref.line, .int .i64 x.posting, .int .i64 x.index, .int .i64 x.account, .int .i64 x.amount] 38)).kept hgrow nF).other (B' := w.heap.size + 1 + 1 + 1) (by omega) (.slice (some ⟨g', 0, none⟩) ((pick f t pre).length + 1) cap')
        have kT := ((hT1.alloc (.cells #[.int .i64 x.ref.entry, .int .i64 x.ref.line, .int .i64 x.posting, .int .i64 x.index, .int .i64 x.account, .int .i64 x.amount] 38)).kept hgrow nT).other (B' := w.heap.size + 1 + 1 + 1) (by omega) (.slice (some ⟨g', 0, none⟩) ((pick f t pre).length + 1) cap')
        have kB := ((hBk.alloc (.cells #[.int .i64 x.ref.entry, .int .i64 x.ref.line, .int .i64 x.posting, .int .i64 x.index, .int .i64 x.account, .int .i64 x.amount] 38)).grown hgrow nB).far (p := ⟨w.heap.size + 1 + 1 + 1, 0, none⟩) (by show w.heap.size + 1 + 1 + 1 + 1 ≠ w.heap.size + 1 + 1 + 1; omega) (.slice (some ⟨g', 0, none⟩) ((pick f t pre).length + 1) cap')
        exact ⟨hk2.from _, ⟨hb2, kB.trans hBk.symm⟩, ⟨⟨_, hv2, by rw [HP.out, List.length_append, List.length_singleton, cellsOf_app, show cellsOf SrcR.cells [x] = SrcR.cells x from by simp [cellsOf]]; exact hr2, trivial⟩, ⟨kF, kT⟩, kB⟩, hB1.trans hb2⟩
      · have HP := Lib.hid (pick_no pre (inS_no2 (f := f) (t := t) (s := x) h2'))
        gi_wp2
        exact ⟨KeepsFrom.refl _ _, ⟨Below.refl _ _, rfl⟩, ⟨⟨v, hv, by rw [HP.out]; exact hrow⟩, ⟨hF1, hT1⟩, hBk⟩, hB1⟩
    · have HP := Lib.hid (pick_no pre (inS_no1 (f := f) (t := t) (s := x) h1'))
      gi_wp2
      exact ⟨KeepsFrom.refl _ _, ⟨Below.refl _ _, rfl⟩, ⟨⟨v, hv, by rw [HP.out]; exact hrow⟩, ⟨hF1, hT1⟩, hBk⟩, hB1⟩
  case done =>
    rintro D ys W hD rfl ⟨⟨⟨v, hv, hrow, -⟩, -, -⟩, hB1⟩ hK
    have hc := hv.cell
    gi_wp2
    refine ⟨by simp, .inl ⟨_, _, rfl, run_takeDeferred hK, ?_⟩⟩
    exact ⟨_, results_tmp rfl _ _ _, v, rfl, ownsRow_putObj hrow _ hK rfl, hB1.trans (belowK_b (w := w) (Nat.le_refl _) W D _ _ (by omega) hK rfl rfl)⟩
  case stop =>
    rintro D c pre W _ _ h _
    exact h.elim
theorem lines_any (per : Int) (I : List ItemR) (AI : Option Addr) (cI : Nat) (P : List PostR) (AP : Option Addr) (cP : Nat) (T : List Bal) (AT : Option Addr) (cT : Nat) (f t : Int) (w : World) (h : RIn w I AI P AP T AT)
    (hnB : (allB I P).length ≤ 1000000) (hnI : I.length ≤ 1000000) (hnP : P.length ≤ 1000000) (hnT : T.length ≤ 1000000) (hnQ : ∀ p ∈ P, p.parts.l.length ≤ 1000000) :
    Calls Try.prog 10 #[.agg #[.int .i64 per, .slice AI I.length cI, .slice AP P.length cP, .slice AT T.length cT], .int .i64 f, .int .i64 t] w (OwnSrc 38 w.heap.size (linesV f t I P) w) :=
  (callsIn_wide (n := 5)).1 (lines_in Fence.wide 5 trivial trivial trivial rfl (by omega) per I AI cI P AP cP T AT cT f t w h hnB hnI hnP hnT hnQ)
end Go.Proofs.Ytkfbchgabmffoaa
/- The walks of Figure. -/
namespace Go.Proofs.Ytkfbchgabmffoaa
set_option linter.unusedVariables false
set_option linter.unusedSimpArgs false
open Go.RowKit

set_option maxHeartbeats 2000000 in
theorem fig_any (m : List Bal) (f t : Int) (A : Option Addr) (cap : Nat) (w : World) (hr : Rd w w.heap.size 2 A m.length (cellsOf Bal.cells m)) (hn : m.length ≤ 1000000) :
    Calls Try.prog 18 #[.slice A m.length cap, .int .i64 f, .int .i64 t] w (fun e w' => e = .returned (.int .i64 (figW f t m)) ∧ Below w.heap.size w w') := by
  have hb := Below.refl w.heap.size w
  have HR := Lib.hid hr
  clear hr
  go_enter Try.func18, Try.ntmps18
  go_wp2_with fail
  go_loopw [7, 12] (fun s t' wr => ∃ k : Nat, k ≤ m.length ∧ s = .int .i64 (figW f t (m.take k)) ∧ t' = .int .i64 k ∧ Below w.heap.size w wr) (fun _ t' _ => m.length - (intOf t').toNat)
  case atStart => exact ⟨0, by omega, rfl, rfl, hb⟩
  case round =>
    clear hb
    obtain ⟨k, hk, rfl, rfl, hb⟩ := hrel
    have hz := hb.size
    by_cases hlt : k < m.length
    · obtain ⟨x, o, hA, hbo, f0, f1⟩ := Bal.at_ (HR.out.below hb (Nat.le_refl _)) hlt
      subst hA
      have HK := Lib.hid (figW_take f t m k hlt)
      by_cases h1 : f ≤ m[k].account
      · by_cases h2 : m[k].account ≤ t
        · have HE : Hid (figW f t (m.take (k + 1)) = wrap64 (figW f t (m.take k) + m[k].amount)) := Lib.hid (by rw [HK.out, if_pos (by simp [inR, h1, h2])])
          go_wp2_with fail
          go_roundw
          case rel => exact ⟨k + 1, by omega, by rw [HE.out], by go_num, (by repeat (first | exact hb | refine Below.alloc ?_ (by have hbs := hb.size; first | omega | (simp; done) | (simp; omega)) _ | refine Below.drew ?_ | refine below_drewN_ ?_ _ | refine Below.setCell ?_ (by simp) _))⟩
          case measure => simp [intOf]; omega
        · have HE : Hid (figW f t (m.take (k + 1)) = figW f t (m.take k)) := Lib.hid (by rw [HK.out, if_neg (by simp [inR, h1]; omega)])
          go_wp2_with fail
          go_roundw
          case rel => exact ⟨k + 1, by omega, by rw [HE.out], by go_num, (by repeat (first | exact hb | refine Below.alloc ?_ (by have hbs := hb.size; first | omega | (simp; done) | (simp; omega)) _ | refine Below.drew ?_ | refine below_drewN_ ?_ _ | refine Below.setCell ?_ (by simp) _))⟩
          case measure => simp [intOf]; omega
      · have HE : Hid (figW f t (m.take (k + 1)) = figW f t (m.take k)) := Lib.hid (by rw [HK.out, if_neg (by simp [inR, h1])])
        go_wp2_with fail
        go_roundw
        case rel => exact ⟨k + 1, by omega, by rw [HE.out], by go_num, (by repeat (first | exact hb | refine Below.alloc ?_ (by have hbs := hb.size; first | omega | (simp; done) | (simp; omega)) _ | refine Below.drew ?_ | refine below_drewN_ ?_ _ | refine Below.setCell ?_ (by simp) _))⟩
        case measure => simp [intOf]; omega
    · have HE : Hid (m.take k = m) := Lib.hid (List.take_of_length_le (by omega))
      go_wp2_with fail
      go_ret
      exact ⟨by rw [HE.out]; rfl, hb⟩
set_option maxHeartbeats 2000000 in
theorem rfig_any (m : List Bal) (f t : Int) (A : Option Addr) (cap : Nat) (w : World) (hr : Rd w w.heap.size 2 A m.length (cellsOf Bal.cells m)) (hn : m.length ≤ 1000000) :
    Calls Try.prog 19 #[.slice A m.length cap, .int .i64 f, .int .i64 t] w (fun e w' => e = .returned (.int .i64 (figW f t m)) ∧ Below w.heap.size w w') := by
  have hb := Below.refl w.heap.size w
  have HR := Lib.hid hr
  clear hr
  go_enter Try.func19, Try.ntmps19
  go_wp2_with fail
  go_loopw [7, 8] (fun s t' wr => ∃ k : Nat, k ≤ m.length ∧ s = .int .i64 (figW f t (m.take k)) ∧ t' = .int .i64 k ∧ Below w.heap.size w wr) (fun _ t' _ => m.length - (intOf t').toNat)
  case atStart => exact ⟨0, by omega, rfl, rfl, hb⟩
  case round =>
    clear hb
    obtain ⟨k, hk, rfl, rfl, hb⟩ := hrel
    have hz := hb.size
    by_cases hlt : k < m.length
    · obtain ⟨x, o, hA, hbo, f0, f1⟩ := Bal.at_ (HR.out.below hb (Nat.le_refl _)) hlt
      subst hA
      have HK := Lib.hid (figW_take f t m k hlt)
      by_cases h1 : f ≤ m[k].account
      · by_cases h2 : m[k].account ≤ t
        · have HE : Hid (figW f t (m.take (k + 1)) = wrap64 (figW f t (m.take k) + m[k].amount)) := Lib.hid (by rw [HK.out, if_pos (by simp [inR, h1, h2])])
          go_wp2_with fail
          go_roundw
          case rel => exact ⟨k + 1, by omega, by rw [HE.out], by go_num, (by repeat (first | exact hb | refine Below.alloc ?_ (by have hbs := hb.size; first | omega | (simp; done) | (simp; omega)) _ | refine Below.drew ?_ | refine below_drewN_ ?_ _ | refine Below.setCell ?_ (by simp) _))⟩
          case measure => simp [intOf]; omega
        · have HE : Hid (figW f t (m.take (k + 1)) = figW f t (m.take k)) := Lib.hid (by rw [HK.out, if_neg (by simp [inR, h1]; omega)])
          go_wp2_with fail
          go_roundw
          case rel => exact ⟨k + 1, by omega, by rw [HE.out], by go_num, (by repeat (first | exact hb | refine Below.alloc ?_ (by have hbs := hb.size; first | omega | (simp; done) | (simp; omega)) _ | refine Below.drew ?_ | refine below_drewN_ ?_ _ | refine Below.setCell ?_ (by simp) _))⟩
          case measure => simp [intOf]; omega
      · have HE : Hid (figW f t (m.take (k + 1)) = figW f t (m.take k)) := Lib.hid (by rw [HK.out, if_neg (by simp [inR, h1])])
        go_wp2_with fail
        go_roundw
        case rel => exact ⟨k + 1, by omega, by rw [HE.out], by go_num, (by repeat (first | exact hb | refine Below.alloc ?_ (by have hbs := hb.size; first | omega | (simp; done) | (simp; omega)) _ | refine Below.drew ?_ | refine below_drewN_ ?_ _ | refine Below.setCell ?_ (by simp) _))⟩
        case measure => simp [intOf]; omega
    · have HE : Hid (m.take k = m) := Lib.hid (List.take_of_length_le (by omega))
      go_wp2_with fail
      go_ret
      exact ⟨by rw [HE.out]; rfl, hb⟩
end Go.Proofs.Ytkfbchgabmffoaa
