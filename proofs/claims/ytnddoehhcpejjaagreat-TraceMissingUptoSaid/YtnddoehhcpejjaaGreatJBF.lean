/- Texts of this claim, put together. -/
import Derived.Test.YtnddoehhcpejjaaGreatJBE
import Derived.Test.YtnddoehhcpejjaaGreatJBI
import Derived.Test.YtnddoehhcpejjaaGreatJBA
/- The walk of Lines of a result: a loop over its iterator. -/
namespace Go.Proofs.YtnddoehhcpejjaaGreat
set_option linter.unusedVariables false
set_option linter.unusedSimpArgs false
open Go.RowKit Go.Shelf

attribute [local go_sem] Oper.semAt_some

theorem keepB_t {s B : Nat} : ∀ {A W C : World}, KeepB s B A W → KeepB s B W C → KeepB s B A C := fun h k => h.trans k
theorem blk_own {β : Type} (B : Nat) (t : TypeId) (cs : Array Value) : Own (fun (_ : β) W => Blk W B t cs) := fun _ X Y row hs hg hrow =>
  hs.grown hg (fun e' => by obtain ⟨o, ho, hc⟩ := hrow B e'.symm; rw [show X.heap[B]? = _ from hs] at ho; cases ho; cases hc)
set_option maxHeartbeats 1000000 in
theorem all_in (F : Fence) (n : Nat) (hF : F.fn 24) (hro : F.round = none) (cs : Array Value) (w : World) :
    CallsIn F n Tryz.prog 24 #[.agg cs] w fun e w' => e = .returned (.func (.func 37) #[] #[.pointer (some ⟨w.heap.size, 0, none⟩)]) ∧ w' = w.alloc (.cells cs 41) := by
  refine callsIn_of_wp Tryz.func24 rfl hF ?_ hro
  simp only [Tryz.ntmps24, List.size_toArray, List.length_cons, List.length_nil, Nat.reduceAdd, Nat.reduceSub, Array.replicate_succ, Array.replicate_zero, List.push_toArray, List.append_toArray, List.nil_append, List.cons_append]
  gi_wp2
  go_ret
  exact ⟨rfl, rfl⟩
set_option maxRecDepth 100000 in
set_option maxHeartbeats 8000000 in
theorem lines_in (F : Fence) (n : Nat) (hL : F.fn 13) (hA : F.fn 24) (hF : F.fn 37) (hro : F.round = none) (hn : 3 ≤ n) (per : Int) (I : List ItemR) (AI : Option Addr) (cI : Nat) (P : List PostR) (AP : Option Addr) (cP : Nat) (T : List Bal) (AT : Option Addr) (cT : Nat) (f t : Int) (w : World) (h : RIn w I AI P AP T AT)
    (hnB : (allB I P).length ≤ 1000000) (hnI : I.length ≤ 1000000) (hnP : P.length ≤ 1000000) (hnT : T.length ≤ 1000000) (hnQ : ∀ p ∈ P, p.parts.l.length ≤ 1000000) :
    CallsIn F n Tryz.prog 13 #[.agg #[.int .i64 per, .slice AI I.length cI, .slice AP P.length cP, .slice AT T.length cT], .int .i64 f, .int .i64 t] w (OwnSrc 87 w.heap.size (linesV f t I P) w) := by
  have h1 : 1 ≤ n := by omega
  obtain ⟨i0, hi, hz0, hz1, hz2⟩ := info_parts tsrc_info
  refine callsIn_of_wp_marks Tryz.func13 rfl hL ?_ hro
  simp only [Tryz.ntmps13, List.size_toArray, List.length_cons, List.length_nil, Nat.reduceAdd, Nat.reduceSub, Array.replicate_succ, Array.replicate_zero, List.push_toArray, List.append_toArray, List.nil_append, List.cons_append]
  gi_wp2_with (gi_at_call 24; refine (all_in F (n - 1) hA hro _ _).mono ?_; rintro e w' ⟨rfl, rfl⟩)
  obtain ⟨W0, hW0⟩ : ∃ W0, ((((w.alloc (.cells #[.int .i64 per, .slice AI I.length cI, .slice AP P.length cP, .slice AT T.length cT] 41)).alloc (.cells #[.int .i64 f] 3)).alloc (.cells #[.int .i64 t] 3)).alloc (.cells #[.slice none 0 0] 63)).alloc (.cells #[.int .i64 per, .slice AI I.length cI, .slice AP P.length cP, .slice AT T.length cT] 41) = W0 := ⟨_, rfl⟩
  have hsz : W0.heap.size = w.heap.size + 1 + 1 + 1 + 1 + 1 := by rw [← hW0]; simp
  have hB0 : Below w.heap.size w W0 := by rw [← hW0]; exact (((((Below.refl _ w).alloc (Nat.le_refl _) _).alloc (by simp) _).alloc (by simp; omega) _).alloc (by simp; omega) _).alloc (by simp; omega) _
  have bF : Boxed W0 (w.heap.size + 1) 3 (.int .i64 f) := by
    rw [← hW0]
    have := Boxed.new (w.alloc (.cells #[.int .i64 per, .slice AI I.length cI, .slice AP P.length cP, .slice AT T.length cT] 41)) 3 (.int .i64 f)
    rw [World.size_alloc] at this
    exact ((this.alloc _).alloc _).alloc _
  have bT : Boxed W0 (w.heap.size + 1 + 1) 3 (.int .i64 t) := by
    rw [← hW0]
    have := Boxed.new ((w.alloc (.cells #[.int .i64 per, .slice AI I.length cI, .slice AP P.length cP, .slice AT T.length cT] 41)).alloc (.cells #[.int .i64 f] 3)) 3 (.int .i64 t)
    rw [World.size_alloc, World.size_alloc] at this
    exact (this.alloc _).alloc _
  have bO : Boxed W0 (w.heap.size + 1 + 1 + 1) 63 (.slice none 0 0) := by
    rw [← hW0]
    have := Boxed.new (((w.alloc (.cells #[.int .i64 per, .slice AI I.length cI, .slice AP P.length cP, .slice AT T.length cT] 41)).alloc (.cells #[.int .i64 f] 3)).alloc (.cells #[.int .i64 t] 3)) 63 (.slice none 0 0)
    rw [World.size_alloc, World.size_alloc, World.size_alloc] at this
    exact this.alloc _
  have bB : Blk W0 (w.heap.size + 1 + 1 + 1 + 1) 41 #[.int .i64 per, .slice AI I.length cI, .slice AP P.length cP, .slice AT T.length cT] := by
    rw [← hW0]
    have := Blk.new ((((w.alloc (.cells #[.int .i64 per, .slice AI I.length cI, .slice AP P.length cP, .slice AT T.length cT] 41)).alloc (.cells #[.int .i64 f] 3)).alloc (.cells #[.int .i64 t] 3)).alloc (.cells #[.slice none 0 0] 63)) 41 #[.int .i64 per, .slice AI I.length cI, .slice AP P.length cP, .slice AT T.length cT]
    rwa [World.size_alloc, World.size_alloc, World.size_alloc, World.size_alloc] at this
  rw [hW0]
  clear hW0
  refine wpIn_rangeFunc_ownH hro h1 (gf := 37) (lb := #[.pointer (some ⟨w.heap.size + 1 + 1 + 1 + 1, 0, none⟩)]) rfl hF (enters_of Tryz.func37 (by kernel_rfl) rfl)
    (all_stops F (n - 1) hF hro (by omega) per I AI cI P AP cP T AT cT w W0 (w.heap.size + 1 + 1 + 1 + 1) h hB0 bB hnI hnP hnQ) keepB_t
    (fun W l o o' hl h1 h2 h3 => ⟨belowK_b (w := W0) (by omega) W l o o' hl h1 h2 h3, World.putObj_heap_other (by omega)⟩) (Below.refl _ _) (fun _ => rfl)
    (fun pre W => ((∃ v, Boxed W (w.heap.size + 1 + 1 + 1) 63 v ∧ W.ownsRow w.heap.size 87 6 v (pick f t pre).length (cellsOf SrcR.cells (pick f t pre)) ∧ True) ∧ ((Boxed W (w.heap.size + 1) 3 (.int .i64 f) ∧ Boxed W (w.heap.size + 1 + 1) 3 (.int .i64 t)) ∧ Blk W (w.heap.size + 1 + 1 + 1 + 1) 41 #[.int .i64 per, .slice AI I.length cI, .slice AP P.length cP, .slice AT T.length cT])) ∧ Below w.heap.size w W)
    (fun _ _ _ => False)
    (OwnFrom.and (OwnFrom.and (Own.from (holdsRow_own w.heap.size (w.heap.size + 1 + 1 + 1) 63 87 6 (fun pre => (pick f t pre).length) (fun pre => cellsOf SrcR.cells (pick f t pre)) (fun _ _ => True)) _) (OwnFrom.and (OwnFrom.and (Own.from (boxed_own _ _ _) _) (Own.from (boxed_own _ _ _) _)) (Own.from (blk_own _ _ _) _))) (ownFrom_below (Nat.le_refl _) (by omega)))
    (fun _ _ _ _ _ hs _ _ => hs)
    ⟨⟨⟨_, bO, World.ownsRow_nil _ _ _ _, trivial⟩, ⟨bF, bT⟩, bB⟩, hB0⟩
    (fun x a' W => ∃ Bx, w.heap.size + 1 + 1 + 1 + 1 < Bx ∧ Blk W Bx 87 #[.int .i64 x.ref.entry, .int .i64 x.ref.line, .int .i64 x.posting, .int .i64 x.index, .int .i64 x.account, .int .i64 x.amount] ∧ a' = { tmps := #[.agg #[.int .i64 per, .slice AI I.length cI, .slice AP P.length cP, .slice AT T.length cT], .int .i64 f, .int .i64 t, .pointer (some ⟨w.heap.size, 0, none⟩), .pointer (some ⟨w.heap.size + 1, 0, none⟩), .pointer (some ⟨w.heap.size + 1 + 1, 0, none⟩), .slice none 0 0, .pointer (some ⟨w.heap.size + 1 + 1 + 1, 0, none⟩), .pointer (some ⟨Bx, 0, none⟩), .agg #[.int .i64 per, .slice AI I.length cI, .slice AP P.length cP, .slice AT T.length cT], .func (.func 37) #[] #[.pointer (some ⟨w.heap.size + 1 + 1 + 1 + 1, 0, none⟩)], .agg #[.int .i64 x.ref.entry, .int .i64 x.ref.line, .int .i64 x.posting, .int .i64 x.index, .int .i64 x.account, .int .i64 x.amount], undef, undef, undef, undef, undef, undef, undef, undef, undef, undef, undef, undef, undef, undef, undef], defers := [] })
    (fun x a' _ X Y row hs hg hr => by obtain ⟨Bx, h1, h2, h3⟩ := hs; exact ⟨Bx, h1, blk_own (β := Unit) Bx _ _ () X Y row h2 hg (fun r e => (hr r e).2), h3⟩)
    ?assign ?body ?done ?stop
  case assign =>
    rintro l pre x W K ⟨⟨⟨v, hv, hrow, -⟩, ⟨hF1, hT1⟩, hBk⟩, hB1⟩ hK
    unfold SrcR.enc
    gi_wp2
    exact hK _ _ ((KeepsOthers.alloc _ _).from _) ⟨(Below.refl _ W).alloc hB1.size _, Below.heap_alloc W _ _ hBk.lt⟩ ⟨⟨⟨v, hv.alloc _, hrow.alloc _, trivial⟩, ⟨hF1.alloc _, hT1.alloc _⟩, hBk.alloc _⟩, hB1.alloc hB1.size _⟩ ⟨W.heap.size, hBk.lt, Blk.new W _ _, rfl⟩
  case body =>
    rintro l pre x a' W hl ⟨r, hr⟩ ⟨⟨⟨v, hv, hrow, -⟩, ⟨hF1, hT1⟩, hBk⟩, hB1⟩ ⟨Bx, hBx, bX, rfl⟩ hlt
    have c0 : W.cell? ⟨Bx, 0, none⟩ = some (.int .i64 x.ref.entry) := bX.cell 0
    have c1 : W.cell? ⟨Bx, 1, none⟩ = some (.int .i64 x.ref.line) := bX.cell 1
    have c2 : W.cell? ⟨Bx, 2, none⟩ = some (.int .i64 x.posting) := bX.cell 2
    have c3 : W.cell? ⟨Bx, 3, none⟩ = some (.int .i64 x.index) := bX.cell 3
    have c4 : W.cell? ⟨Bx, 4, none⟩ = some (.int .i64 x.account) := bX.cell 4
    have c5 : W.cell? ⟨Bx, 5, none⟩ = some (.int .i64 x.amount) := bX.cell 5
    have cF := hF1.cell
    have cT := hT1.cell
    have cO := hv.cell
    have hpl : (pick f t pre).length ≤ 1000000 := by
      have e1 := pick_le f t pre
      rw [srcs_len] at hlt
      omega
    have hz := hB1.size
    by_cases h1' : f ≤ x.account
    · by_cases h2' : x.account ≤ t
      · have HP := Lib.hid (pick_yes pre (inS_yes (f := f) (t := t) (s := x) h1' h2'))
        gi_wp2_with (gi_at_builtin; refine wpListIn_append_own _ rfl _ _ 63 rfl w.heap.size 87 i0 _ 6 48 Tryz.underlying63 hi hz0 hz1 hz2 rfl (by decide) _ _ _ rfl (hrow.alloc (.cells #[.int .i64 x.ref.entry, .int .i64 x.ref.line, .int .i64 x.posting, .int .i64 x.index, .int .i64 x.account, .int .i64 x.amount] 87)) ⟨W.heap.size, 0, none⟩ 1 1 (SrcR.cells x) rfl rfl (cells_new W _ _ _ rfl) (SrcR.one x) (by simp only [maxLen]; omega) (by omega) (by simp; omega) ?_; intro v' w1 hown' hgrow _; obtain ⟨g', cap', rfl⟩ := ownsRow_succ hown'; obtain ⟨hv1, hv2, hr2, hk2, hb2⟩ := hv.appended (by decide) hrow hz (by omega) hown' hgrow; have hc1 := hv1.cell; have hf1 := hv1.frozen)
        have nF : some (w.heap.size + 1) ≠ v.ownBlock := hF1.not_row (by decide) hrow
        have nT : some (w.heap.size + 1 + 1) ≠ v.ownBlock := hT1.not_row (by decide) hrow
        have nB : some (w.heap.size + 1 + 1 + 1 + 1) ≠ v.ownBlock := own_ne_blk hrow hBk (by decide)
        have kF := ((hF1.alloc (.cells #[.int .i64 x.ref.entry, .int .i64 x.ref.line, .int .i64 x.posting, .int .i64 x.index, .int .i64 x.account, .int .i64 x.amount] 87)).kept hgrow nF).other (B' := w.heap.size + 1 + 1 + 1) (by omega) (.slice (some ⟨g', 0, none⟩) ((pick f t pre).length + 1) cap')
        have kT := ((hT1.alloc (.cells #[.int .i64 x.ref.entry, .int .i64 x.ref.line, .int .i64 x.posting, .int .i64 x.index, .int .i64 x.account, .int .i64 x.amount] 87)).kept hgrow nT).other (B' := w.heap.size + 1 + 1 + 1) (by omega) (.slice (some ⟨g', 0, none⟩) ((pick f t pre).length + 1) cap')
        have kB := ((hBk.alloc (.cells #[.int .i64 x.ref.entry, .int .i64 x.ref.line, .int .i64 x.posting, .int .i64 x.index, .int .i64 x.account, .int .i64 x.amount] 87)).grown hgrow nB).far (p := ⟨w.heap.size + 1 + 1 + 1, 0, none⟩) (by show w.heap.size + 1 + 1 + 1 + 1 ≠ w.heap.size + 1 + 1 + 1; omega) (.slice (some ⟨g', 0, none⟩) ((pick f t pre).length + 1) cap')
        exact ⟨hk2.from _, ⟨hb2, kB.trans hBk.symm⟩, ⟨⟨_, hv2, by rw [HP.out, List.length_append, List.length_singleton, cellsOf_app, show cellsOf SrcR.cells [x] = SrcR.cells x from by simp [cellsOf]]; exact hr2, trivial⟩, ⟨kF, kT⟩, kB⟩, hB1.trans hb2⟩
      · have HP := Lib.hid (pick_no pre (inS_no2 (f := f) (t := t) (s := x) h2'))
        gi_wp2
        exact ⟨KeepsFrom.refl _ _, ⟨Below.refl _ _, rfl⟩, ⟨⟨v, hv, by rw [HP.out]; exact hrow⟩, ⟨hF1, hT1⟩, hBk⟩, hB1⟩
    · have HP := Lib.hid (pick_no pre (inS_no1 (f := f) (t := t) (s := x) h1'))
      gi_wp2
      exact ⟨KeepsFrom.refl _ _, ⟨Below.refl _ _, rfl⟩, ⟨⟨v, hv, by rw [HP.out]; exact hrow⟩, ⟨hF1, hT1⟩, hBk⟩, hB1⟩
  case done =>
    rintro D ys W hD rfl ⟨⟨⟨v, hv, hrow, -⟩, -, -⟩, hB1⟩ hK
    have hc := hv.cell
    gi_wp2
    refine ⟨by simp, .inl ⟨_, _, rfl, run_takeDeferred hK, ?_⟩⟩
    exact ⟨_, results_tmp rfl _ _ _, v, rfl, ownsRow_putObj hrow _ hK rfl, hB1.trans (belowK_b (w := w) (Nat.le_refl _) W D _ _ (by omega) hK rfl rfl)⟩
  case stop =>
    rintro D c pre W _ _ h _
    exact h.elim
theorem lines_any (per : Int) (I : List ItemR) (AI : Option Addr) (cI : Nat) (P : List PostR) (AP : Option Addr) (cP : Nat) (T : List Bal) (AT : Option Addr) (cT : Nat) (f t : Int) (w : World) (h : RIn w I AI P AP T AT)
    (hnB : (allB I P).length ≤ 1000000) (hnI : I.length ≤ 1000000) (hnP : P.length ≤ 1000000) (hnT : T.length ≤ 1000000) (hnQ : ∀ p ∈ P, p.parts.l.length ≤ 1000000) :
    Calls Tryz.prog 13 #[.agg #[.int .i64 per, .slice AI I.length cI, .slice AP P.length cP, .slice AT T.length cT], .int .i64 f, .int .i64 t] w (OwnSrc 87 w.heap.size (linesV f t I P) w) :=
  (callsIn_wide (n := 5)).1 (lines_in Fence.wide 5 trivial trivial trivial rfl (by omega) per I AI cI P AP cP T AT cT f t w h hnB hnI hnP hnT hnQ)
end Go.Proofs.YtnddoehhcpejjaaGreat
/- The walks of Figure. -/
namespace Go.Proofs.YtnddoehhcpejjaaGreat
set_option linter.unusedVariables false
set_option linter.unusedSimpArgs false
open Go.RowKit

set_option maxHeartbeats 2000000 in
theorem fig_any (m : List Bal) (f t : Int) (A : Option Addr) (cap : Nat) (w : World) (hr : Rd w w.heap.size 2 A m.length (cellsOf Bal.cells m)) (hn : m.length ≤ 1000000) :
    Calls Tryz.prog 23 #[.slice A m.length cap, .int .i64 f, .int .i64 t] w (fun e w' => e = .returned (.int .i64 (figW f t m)) ∧ Below w.heap.size w w') := by
  have hb := Below.refl w.heap.size w
  have HR := Lib.hid hr
  clear hr
  go_enter Tryz.func23, Tryz.ntmps23
  go_wp2_with fail
  go_loopw [7, 12] (fun s t' wr => ∃ k : Nat, k ≤ m.length ∧ s = .int .i64 (figW f t (m.take k)) ∧ t' = .int .i64 k ∧ Below w.heap.size w wr) (fun _ t' _ => m.length - (intOf t').toNat)
  case atStart => exact ⟨0, by omega, rfl, rfl, hb⟩
  case round =>
    clear hb
    obtain ⟨k, hk, rfl, rfl, hb⟩ := hrel
    have hz := hb.size
    by_cases hlt : k < m.length
    · obtain ⟨x, o, hA, hbo, f0, f1⟩ := Bal.at_ (HR.out.below hb (Nat.le_refl _)) hlt
      subst hA
      have HK := Lib.hid (figW_take f t m k hlt)
      by_cases h1 : f ≤ m[k].account
      · by_cases h2 : m[k].account ≤ t
        · have HE : Hid (figW f t (m.take (k + 1)) = wrap64 (figW f t (m.take k) + m[k].amount)) := Lib.hid (by rw [HK.out, if_pos (by simp [inR, h1, h2])])
          go_wp2_with fail
          go_roundw
          case rel => exact ⟨k + 1, by omega, by rw [HE.out], by go_num, (by repeat (first | exact hb | refine Below.alloc ?_ (by have hbs := hb.size; first | omega | (simp; done) | (simp; omega)) _ | refine Below.drew ?_ | refine below_drewN_ ?_ _ | refine Below.setCell ?_ (by simp) _))⟩
          case measure => simp [intOf]; omega
        · have HE : Hid (figW f t (m.take (k + 1)) = figW f t (m.take k)) := Lib.hid (by rw [HK.out, if_neg (by simp [inR, h1]; omega)])
          go_wp2_with fail
          go_roundw
          case rel => exact ⟨k + 1, by omega, by rw [HE.out], by go_num, (by repeat (first | exact hb | refine Below.alloc ?_ (by have hbs := hb.size; first | omega | (simp; done) | (simp; omega)) _ | refine Below.drew ?_ | refine below_drewN_ ?_ _ | refine Below.setCell ?_ (by simp) _))⟩
          case measure => simp [intOf]; omega
      · have HE : Hid (figW f t (m.take (k + 1)) = figW f t (m.take k)) := Lib.hid (by rw [HK.out, if_neg (by simp [inR, h1])])
        go_wp2_with fail
        go_roundw
        case rel => exact ⟨k + 1, by omega, by rw [HE.out], by go_num, (by repeat (first | exact hb | refine Below.alloc ?_ (by have hbs := hb.size; first | omega | (simp; done) | (simp; omega)) _ | refine Below.drew ?_ | refine below_drewN_ ?_ _ | refine Below.setCell ?_ (by simp) _))⟩
        case measure => simp [intOf]; omega
    · have HE : Hid (m.take k = m) := Lib.hid (List.take_of_length_le (by omega))
      go_wp2_with fail
      go_ret
      exact ⟨by rw [HE.out]; rfl, hb⟩
end Go.Proofs.YtnddoehhcpejjaaGreat
/- What the laws on results ask first; the walks of TraceLines and TraceCheck. -/
namespace Go.Proofs.YtnddoehhcpejjaaGreat
set_option linter.unusedVariables false
set_option linter.unusedSimpArgs false
open Go.RowKit

def amtsAll (m : List Bal) : Bool := allAt m.length (smallAt m)
def smallT (I : List ItemR) (P : List PostR) (T : List Bal) : Bool := amtsAll (allB I P ++ T) && (decide (I.length ≤ 200) && decide (P.length ≤ 50) && decide ((allB I P ++ T).length ≤ 1000))
structure SmallOk (I : List ItemR) (P : List PostR) (T : List Bal) : Prop where
  items : I.length ≤ 200
  postings : P.length ≤ 50
  all : (allB I P).length + T.length ≤ 1000
  am : within 1125899906842624 (allB I P)
  amT : within 1125899906842624 T
theorem amts_in {m : List Bal} (h : amtsAll m = true) : within 1125899906842624 m := by
  intro x hx
  obtain ⟨j, hj, rfl⟩ := List.mem_iff_getElem.1 hx
  have := allAt_at h hj
  unfold smallAt at this
  rw [Bal.getD_at m j hj] at this
  simp only [Bool.and_eq_true, decide_eq_true_eq] at this
  exact ⟨this.2, this.1⟩
theorem smallT_ok {I : List ItemR} {P : List PostR} {T : List Bal} (h : smallT I P T = true) : SmallOk I P T := by
  unfold smallT at h
  simp only [Bool.and_eq_true, decide_eq_true_eq] at h
  obtain ⟨h1, ⟨h2, h3⟩, h4⟩ := h
  have h5 := amts_in h1
  rw [List.length_append] at h4
  exact ⟨h2, h3, h4, fun x hx => h5 x (List.mem_append_left _ hx), fun x hx => h5 x (List.mem_append_right _ hx)⟩
theorem SmallOk.parts {I : List ItemR} {P : List PostR} {T : List Bal} (h : SmallOk I P T) : ∀ p ∈ P, p.parts.l.length ≤ 1000000 := by
  intro p hp
  obtain ⟨k, hk, rfl⟩ := List.mem_iff_getElem.1 hp
  have h1 := poBals_len P k hk
  have h2 := h.all
  unfold allB at h2
  rw [List.length_append] at h2
  omega
theorem amts_no {m : List Bal} {k : Nat} (hk : k < m.length) (h : ¬ (m[k].amount ≤ 1125899906842624 ∧ -1125899906842624 ≤ m[k].amount)) : amtsAll m = false := by
  refine allAt_no hk ?_
  unfold smallAt
  rw [Bal.getD_at m k hk]
  rw [Bool.eq_false_iff]
  intro h2
  simp only [Bool.and_eq_true, decide_eq_true_eq] at h2
  exact h h2
theorem amts_at {m : List Bal} {k : Nat} (hk : k < m.length) (h : m[k].amount ≤ 1125899906842624) (h2 : -1125899906842624 ≤ m[k].amount) : smallAt m k = true := by
  unfold smallAt
  rw [Bal.getD_at m k hk]
  simp [h, h2]
theorem part_info : (Tryz.prog.info? 57).map (fun i => (i.zero, i.size, i.bytes)) = some (some (.agg #[.int .i64 0, .int .i64 0]), 2, 16) := by kernel_rfl
set_option maxRecDepth 100000 in
set_option maxHeartbeats 8000000 in
theorem tsmall_any (per : Int) (I : List ItemR) (AI : Option Addr) (cI : Nat) (P : List PostR) (AP : Option Addr) (cP : Nat) (T : List Bal) (AT : Option Addr) (cT : Nat) (w : World) (h : RIn w I AI P AP T AT)
    (hn : (allB I P).length ≤ 400000) (hnI : I.length ≤ 400000) (hnP : P.length ≤ 400000) (hnT : T.length ≤ 400000) :
    Calls Tryz.prog 6 #[.agg #[.int .i64 per, .slice AI I.length cI, .slice AP P.length cP, .slice AT T.length cT]] w (BoolPost (smallT I P T) w) := by
  have hb : Below w.heap.size w (w.alloc (.cells #[.int .i64 per, .slice AI I.length cI, .slice AP P.length cP, .slice AT T.length cT] 41)) := (Below.refl _ _).alloc (Nat.le_refl _) _
  have HB := Lib.hid (Blk.new w 41 #[.int .i64 per, .slice AI I.length cI, .slice AP P.length cP, .slice AT T.length cT])
  have H := Lib.hid h
  have HNB := Lib.hid hn
  obtain ⟨i0, hi, hz0, hz1, hz2⟩ := info_parts part_info
  clear h hn
  go_enter Tryz.func6, Tryz.ntmps6
  go_wp2_with fail
  generalize hWW : w.alloc (.cells #[.int .i64 per, .slice AI I.length cI, .slice AP P.length cP, .slice AT T.length cT] 41) = W at *
  clear hWW
  refine (rparts_any I AI cI P AP cP _ (Rd.now H.out.it hb) (Rd.now H.out.po hb) (fun p hp => (H.out.step hb).pok p hp) (by have := HNB.out; omega) (by omega) (by omega)).mono ?_
  rintro e w1 ⟨v1, rfl, ho1, hb1⟩
  have HB1 := Lib.hid (HB.out.step hb1)
  replace hb := bel hb hb1
  have hs1 := hb1.size
  have hz := hb.size
  obtain ⟨L, hL⟩ : ∃ L, L = allB I P := ⟨_, rfl⟩
  have HL := Lib.hid hL
  have hnL : L.length ≤ 400000 := by rw [hL]; exact HNB.out
  have HST : Hid (smallT I P T = (amtsAll (L ++ T) && (decide (I.length ≤ 200) && decide (P.length ≤ 50) && decide ((L ++ T).length ≤ 1000)))) := Lib.hid (by rw [hL]; rfl)
  rw [← hL] at ho1
  have HO0 : Hid (w1.ownsRow W.heap.size 57 2 v1 (L ++ T.take 0).length (cellsOf Bal.cells (L ++ T.take 0))) := Lib.hid (by simpa using ho1)
  have hWz : w.heap.size ≤ W.heap.size := by have := HB.out.lt; omega
  clear hL hb1 ho1 HB
  go_wp2_with fail
  go_loopw [3, 4] (fun v x wr => ∃ k : Nat, k ≤ T.length ∧ x = .int .i64 k ∧ wr.ownsRow W.heap.size 57 2 v (L ++ T.take k).length (cellsOf Bal.cells (L ++ T.take k)) ∧ Blk wr w.heap.size 41 #[.int .i64 per, .slice AI I.length cI, .slice AP P.length cP, .slice AT T.length cT] ∧ Below w.heap.size w wr ∧ W.heap.size ≤ wr.heap.size) (fun _ x _ => T.length - (intOf x).toNat)
  case atStart => exact ⟨0, by omega, rfl, HO0.out, HB1.out, hb, hs1⟩
  case round =>
    clear hb HB1 HO0 hs1 hz
    obtain ⟨k, hk, rfl, ho, hB, hb, hs1⟩ := hrel
    have hz := hb.size
    have e3 : wr.cell? ⟨w.heap.size, 3, none⟩ = some (.slice AT T.length cT) := hB.cell 3
    by_cases hlt : k < T.length
    · obtain ⟨x, o, hA, hbo, f0, f1⟩ := Bal.at_ (Rd.now H.out.to hb) hlt
      subst hA
      obtain ⟨S, hS⟩ : ∃ S, S = L ++ T.take k := ⟨_, rfl⟩
      have HSN : Hid (L ++ T.take (k + 1) = S ++ [T[k]]) := Lib.hid (by rw [hS, take_snoc' T k hlt, List.append_assoc])
      have hln : S.length ≤ 1000000 := by rw [hS, List.length_append, List.length_take]; omega
      rw [← hS] at ho
      clear hS
      have HBA := Lib.hid ((hB.alloc (.cells #[.int .i64 T[k].account, .int .i64 T[k].amount] 57)))
      have HNE := Lib.hid (own_ne_blk ho hB (by decide))
      clear hB
      go_wp2_with (at_builtin; refine wpList_append_rec Bal.cells 2 (fun _ => rfl) Bal.one rfl (.tmp 18) (.tmp 24) 58 rfl W.heap.size 57 i0 (.agg #[.int .i64 0, .int .i64 0]) 16 Tryz.underlying58 hi hz0 hz1 hz2 rfl (by decide) _ S rfl (ho.alloc (.cells #[.int .i64 T[k].account, .int .i64 T[k].amount] 57)) wr.heap.size 1 T[k] _ rfl (Blk.new wr _ _) rfl ?c3 ?c4 ?c5 ?_)
      case c3 => simp only [maxLen]; omega
      case c4 => omega
      case c5 => simp; omega
      intro v4 w4 ho4 hg4
      have hb4 : Below w.heap.size w w4 := bel_own (w1 := wr.alloc (.cells #[.int .i64 T[k].account, .int .i64 T[k].amount] 57)) (hb.alloc hz _) (by simp; omega) (own_base (ho.alloc _) hWz) hg4
      have hB4 := HBA.out.grown hg4 HNE.out
      have hs4 : W.heap.size ≤ w4.heap.size := by have := hg4.size; simp at this; omega
      clear hg4
      go_wp2_with fail
      go_roundw
      case rel => exact ⟨k + 1, by omega, by go_num, by rw [HSN.out, List.length_append, List.length_singleton]; exact ho4, hB4, hb4, hs4⟩
      case measure => simp [intOf]; omega
    · have HE : Hid (T.take k = T) := Lib.hid (List.take_of_length_le (by omega))
      rw [HE.out] at ho
      obtain ⟨S, hS⟩ : ∃ S, S = L ++ T := ⟨_, rfl⟩
      rw [← hS] at ho HST
      have hlS : S.length ≤ 1000000 := by rw [hS, List.length_append]; omega
      have HB := Lib.hid hB
      clear hS hB HL
      obtain ⟨A5, c5, rfl, hrx⟩ := Rd.of_own ho
      have H5 := Lib.hid hrx
      clear hrx ho
      go_wp2_with fail
      go_loopw [5] (fun x wq => ∃ k : Nat, k ≤ S.length ∧ (∀ j, j < k → smallAt S j = true) ∧ x = .int .i64 k ∧ Below wr.heap.size wr wq) (fun x _ => S.length - (intOf x).toNat)
      case atStart => exact ⟨0, by omega, fun j h => by omega, rfl, Below.refl _ _⟩
      case round =>
        obtain ⟨wo, rfl⟩ : ∃ wo : World, wo = wr := ⟨_, rfl⟩
        obtain ⟨k, hk, hno, rfl, hbr⟩ := hrel
        have HN := Lib.hid hno
        clear hno e3
        have hbw := bel hb hbr
        by_cases hlt : k < S.length
        · obtain ⟨x, o, hA, hbo, f0, f1⟩ := Bal.at_ (Rd.now H5.out hbr) hlt
          subst hA
          by_cases h1 : S[k].amount ≤ 1125899906842624
          · by_cases h2 : -1125899906842624 ≤ S[k].amount
            · have HA := Lib.hid (amts_at hlt h1 h2)
              go_wp2_with fail
              go_roundw
              case rel => exact ⟨k + 1, by omega, fun j hj => (by
                by_cases e : j = k
                · subst e; exact HA.out
                · exact HN.out j (by omega)), by go_num, hbr⟩
              case measure => simp [intOf]; omega
            · have HE : Hid (smallT I P T = false) := Lib.hid (by rw [HST.out, amts_no hlt (fun h => h2 h.2)]; rfl)
              go_wp2_with fail
              go_ret
              exact ⟨ret_bool HE.out.symm, hbw⟩
          · have HE : Hid (smallT I P T = false) := Lib.hid (by rw [HST.out, amts_no hlt (fun h => h1 h.1)]; rfl)
            go_wp2_with fail
            go_ret
            exact ⟨ret_bool HE.out.symm, hbw⟩
        · have HE : Hid (smallT I P T = (decide (I.length ≤ 200) && decide (P.length ≤ 50) && decide (S.length ≤ 1000))) := Lib.hid (by rw [HST.out, show amtsAll S = true from allAt_yes fun j hj => HN.out j (by omega)]; rfl)
          have e1 : wo.cell? ⟨w.heap.size, 1, none⟩ = some (.slice AI I.length cI) := (HB.out.step hbr).cell 1
          have e2 : wo.cell? ⟨w.heap.size, 2, none⟩ = some (.slice AP P.length cP) := (HB.out.step hbr).cell 2
          by_cases c1 : I.length ≤ 200
          · by_cases c2 : P.length ≤ 50
            · by_cases c3 : S.length ≤ 1000
              · go_wp2_with fail
                go_ret
                exact ⟨ret_bool (by rw [HE.out]; simp [c1, c2] <;> omega), hbw⟩
              · go_wp2_with fail
                go_ret
                exact ⟨ret_bool (by rw [HE.out]; simp [c1, c2] <;> omega), hbw⟩
            · go_wp2_with fail
              go_ret
              exact ⟨ret_bool (by rw [HE.out]; simp [c1, c2]), hbw⟩
          · go_wp2_with fail
            go_ret
            exact ⟨ret_bool (by rw [HE.out]; simp [c1]), hbw⟩
end Go.Proofs.YtnddoehhcpejjaaGreat
