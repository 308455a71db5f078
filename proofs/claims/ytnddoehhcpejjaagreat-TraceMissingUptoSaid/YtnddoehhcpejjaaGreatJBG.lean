/- Texts of this claim, put together. -/
import Derived.Test.YtnddoehhcpejjaaGreatJBF
/- The example; the walks of TraceLines and TraceCheck. -/
namespace Go.Proofs.YtnddoehhcpejjaaGreat
set_option linter.unusedVariables false
set_option linter.unusedSimpArgs false
open Go.RowKit

set_option maxHeartbeats 1000000 in
theorem tfig_any (per : Int) (vI vP : Value) (T : List Bal) (AT : Option Addr) (cT : Nat) (f t : Int) (w : World) (h : Rd w w.heap.size 2 AT T.length (cellsOf Bal.cells T)) (hnT : T.length ≤ 1000000) :
    Calls Tryz.prog 12 #[.agg #[.int .i64 per, vI, vP, .slice AT T.length cT], .int .i64 f, .int .i64 t] w (fun e w' => e = .returned (.int .i64 (figW f t T)) ∧ Below w.heap.size w w') := by
  have hb : Below w.heap.size w (w.alloc (.cells #[.int .i64 per, vI, vP, .slice AT T.length cT] 41)) := (Below.refl _ _).alloc (Nat.le_refl _) _
  have H := Lib.hid h
  clear h
  go_enter Tryz.func12, Tryz.ntmps12
  go_wp2_with (go_at_call 23; refine (fig_any T f t AT cT _ (Rd.now H.out hb) hnT).mono ?_; rintro e w2 ⟨rfl, hb2⟩)
  go_ret
  exact ⟨rfl, bel hb hb2⟩
namespace Tr
def I0 : List ItemR := [⟨⟨0, 0⟩, 0, 1010, 0, 0, 90⟩]
def q0 : List Bal := [⟨1010, -90⟩, ⟨3100, 90⟩]
def P0 (b : Nat) : List PostR := [⟨0, 0, 0, 0, ⟨q0, some ⟨b, 0, none⟩, 2⟩⟩]
def T0 : List Bal := [⟨3100, 90⟩]
theorem all0 (b : Nat) : allB I0 (P0 b) = [⟨1010, 90⟩, ⟨1010, -90⟩, ⟨3100, 90⟩] := rfl
theorem of0 (c : Int) : ofW [⟨1010, 90⟩, ⟨1010, -90⟩, ⟨3100, 90⟩] c = if c = 3100 then 90 else 0 := by
  have hw : within 100 [⟨1010, 90⟩, ⟨1010, -90⟩, ⟨3100, 90⟩] := by
    intro x hx
    simp only [List.mem_cons, List.not_mem_nil, or_false] at hx
    rcases hx with rfl | rfl | rfl <;> decide
  rw [ofW_eq' _ c hw (by decide) (by decide)]
  unfold ofV
  rw [sm_cons, sm_cons, sm_cons, sm_nil]
  show (if (1010 : Int) = c then (90 : Int) else 0) + ((if (1010 : Int) = c then (-90 : Int) else 0) + ((if (3100 : Int) = c then (90 : Int) else 0) + 0)) = _
  by_cases h1 : (1010 : Int) = c
  · subst h1; rfl
  · by_cases h2 : (3100 : Int) = c
    · subst h2; rfl
    · rw [if_neg h1, if_neg h1, if_neg h2, if_neg (fun e => h2 e.symm)]; rfl
theorem allLen (b : Nat) : (allB I0 (P0 b)).length ≤ 1000000 := by rw [all0]; decide
theorem check0 (b : Nat) : CheckOk I0 (P0 b) T0 := by
  refine ⟨by decide, ?_, fun c => ?_⟩
  · rw [all0]
    refine ⟨by simp [T0], fun x => ?_⟩
    rw [of0]
    simp only [T0, List.mem_singleton]
    constructor
    · rintro rfl; simp
    · rintro ⟨h1, h2⟩
      by_cases h : x.account = 3100
      · rw [if_pos h] at h1
        cases x; simp at h h1 ⊢; exact ⟨h, h1.symm⟩
      · rw [if_neg h] at h1; exact absurd h1.symm h2
  · rw [all0, of0]
    by_cases h : c = 3100
    · rw [if_pos h]; decide
    · rw [if_neg h]; decide
theorem lines0 (b : Nat) : (linesV 1000 1999 I0 (P0 b)).length = 2 := by unfold linesV pick srcs; rfl
theorem fig0 : figW 1000 1999 T0 = 0 := by decide
end Tr
set_option maxRecDepth 100000 in
set_option maxHeartbeats 4000000 in
theorem tr_awake (w : World) : Calls Tryz.prog 4 #[] w (BoolPost true w) := by
  go_enter Tryz.func4, Tryz.ntmps4
  go_upto_region 2 with fail
  obtain ⟨W, hW⟩ : ∃ W, W = ((((w.alloc (.cells #[.int .i64 0, .int .i64 0, .int .i64 0, .int .i64 1010, .int .i64 0, .int .i64 0, .int .i64 90] 55)).alloc (.cells #[.int .i64 1010, .int .i64 (-90), .int .i64 3100, .int .i64 90] 57)).alloc (.cells #[.int .i64 0, .int .i64 0, .int .i64 0, .int .i64 0, .slice (some ⟨w.heap.size + 1, 0, none⟩) 2 2] 60)).alloc (.cells #[.int .i64 3100, .int .i64 90] 61)).alloc (.cells #[.int .i64 0, .slice (some ⟨w.heap.size, 0, none⟩) 1 1, .slice (some ⟨w.heap.size + 1 + 1, 0, none⟩) 1 1, .slice (some ⟨w.heap.size + 1 + 1 + 1, 0, none⟩) 1 1] 41) := ⟨_, rfl⟩
  rw [← hW]
  have hb : Below w.heap.size w W := by rw [hW]; exact (((((Below.refl _ w).alloc (Nat.le_refl _) _).alloc (by simp) _).alloc (by simp; omega) _).alloc (by simp; omega) _).alloc (by simp; omega) _
  have B0 : Blk W w.heap.size 55 #[.int .i64 0, .int .i64 0, .int .i64 0, .int .i64 1010, .int .i64 0, .int .i64 0, .int .i64 90] := by
    rw [hW]; exact ((((Blk.new w _ _).alloc _).alloc _).alloc _).alloc _
  have B1 : Blk W (w.heap.size + 1) 57 #[.int .i64 1010, .int .i64 (-90), .int .i64 3100, .int .i64 90] := by
    rw [hW]
    have := Blk.new (w.alloc (.cells #[.int .i64 0, .int .i64 0, .int .i64 0, .int .i64 1010, .int .i64 0, .int .i64 0, .int .i64 90] 55)) 57 #[.int .i64 1010, .int .i64 (-90), .int .i64 3100, .int .i64 90]
    rw [World.size_alloc] at this
    exact ((this.alloc _).alloc _).alloc _
  have B2 : Blk W (w.heap.size + 1 + 1) 60 #[.int .i64 0, .int .i64 0, .int .i64 0, .int .i64 0, .slice (some ⟨w.heap.size + 1, 0, none⟩) 2 2] := by
    rw [hW]
    have := Blk.new ((w.alloc (.cells #[.int .i64 0, .int .i64 0, .int .i64 0, .int .i64 1010, .int .i64 0, .int .i64 0, .int .i64 90] 55)).alloc (.cells #[.int .i64 1010, .int .i64 (-90), .int .i64 3100, .int .i64 90] 57)) 60 #[.int .i64 0, .int .i64 0, .int .i64 0, .int .i64 0, .slice (some ⟨w.heap.size + 1, 0, none⟩) 2 2]
    rw [World.size_alloc, World.size_alloc] at this
    exact (this.alloc _).alloc _
  have B3 : Blk W (w.heap.size + 1 + 1 + 1) 61 #[.int .i64 3100, .int .i64 90] := by
    rw [hW]
    have := Blk.new (((w.alloc (.cells #[.int .i64 0, .int .i64 0, .int .i64 0, .int .i64 1010, .int .i64 0, .int .i64 0, .int .i64 90] 55)).alloc (.cells #[.int .i64 1010, .int .i64 (-90), .int .i64 3100, .int .i64 90] 57)).alloc (.cells #[.int .i64 0, .int .i64 0, .int .i64 0, .int .i64 0, .slice (some ⟨w.heap.size + 1, 0, none⟩) 2 2] 60)) 61 #[.int .i64 3100, .int .i64 90]
    rw [World.size_alloc, World.size_alloc, World.size_alloc] at this
    exact this.alloc _
  have B4 : Blk W (w.heap.size + 1 + 1 + 1 + 1) 41 #[.int .i64 0, .slice (some ⟨w.heap.size, 0, none⟩) 1 1, .slice (some ⟨w.heap.size + 1 + 1, 0, none⟩) 1 1, .slice (some ⟨w.heap.size + 1 + 1 + 1, 0, none⟩) 1 1] := by
    rw [hW]
    have := Blk.new ((((w.alloc (.cells #[.int .i64 0, .int .i64 0, .int .i64 0, .int .i64 1010, .int .i64 0, .int .i64 0, .int .i64 90] 55)).alloc (.cells #[.int .i64 1010, .int .i64 (-90), .int .i64 3100, .int .i64 90] 57)).alloc (.cells #[.int .i64 0, .int .i64 0, .int .i64 0, .int .i64 0, .slice (some ⟨w.heap.size + 1, 0, none⟩) 2 2] 60)).alloc (.cells #[.int .i64 3100, .int .i64 90] 61)) 41 #[.int .i64 0, .slice (some ⟨w.heap.size, 0, none⟩) 1 1, .slice (some ⟨w.heap.size + 1 + 1, 0, none⟩) 1 1, .slice (some ⟨w.heap.size + 1 + 1 + 1, 0, none⟩) 1 1]
    rwa [World.size_alloc, World.size_alloc, World.size_alloc, World.size_alloc] at this
  clear hW
  have hR : RIn W Tr.I0 (some ⟨w.heap.size, 0, none⟩) (Tr.P0 (w.heap.size + 1)) (some ⟨w.heap.size + 1 + 1, 0, none⟩) Tr.T0 (some ⟨w.heap.size + 1 + 1 + 1, 0, none⟩) := by
    refine ⟨Rd.of_blk B0 rfl rfl, Rd.of_blk B2 rfl rfl, Rd.of_blk B3 rfl rfl, fun p hp => ?_, fun x hx => ?_⟩
    · simp only [Tr.P0, List.mem_singleton] at hp
      subst hp
      refine ⟨rfl, rfl, rfl, rfl, ⟨Rd.of_blk B1 rfl rfl, by simp [Tr.q0], by simp [maxLen]⟩, fun y hy => ?_⟩
      simp only [Tr.q0, List.mem_cons, List.not_mem_nil, or_false] at hy
      rcases hy with rfl | rfl <;> exact ⟨rfl, rfl⟩
    · simp only [Tr.I0, List.mem_singleton] at hx
      subst hx
      exact ⟨rfl, rfl, rfl⟩
  have HR := Lib.hid hR
  have HC := Lib.hid (check_yes (Tr.check0 (w.heap.size + 1)))
  have HB := Lib.hid B4
  have e0 : W.cell? ⟨w.heap.size + 1 + 1 + 1 + 1, 0, none⟩ = some (.int .i64 0) := B4.cell 0
  have e1 : W.cell? ⟨w.heap.size + 1 + 1 + 1 + 1, 1, none⟩ = some (.slice (some ⟨w.heap.size, 0, none⟩) 1 1) := B4.cell 1
  have e2 : W.cell? ⟨w.heap.size + 1 + 1 + 1 + 1, 2, none⟩ = some (.slice (some ⟨w.heap.size + 1 + 1, 0, none⟩) 1 1) := B4.cell 2
  have e3 : W.cell? ⟨w.heap.size + 1 + 1 + 1 + 1, 3, none⟩ = some (.slice (some ⟨w.heap.size + 1 + 1 + 1, 0, none⟩) 1 1) := B4.cell 3
  clear hR B0 B1 B2 B3 B4
  go_wp2_with fail
  refine (tcheck_any 0 Tr.I0 (some ⟨w.heap.size, 0, none⟩) 1 (Tr.P0 (w.heap.size + 1)) (some ⟨w.heap.size + 1 + 1, 0, none⟩) 1 Tr.T0 (some ⟨w.heap.size + 1 + 1 + 1, 0, none⟩) 1 _ HR.out (Tr.allLen _) (by decide) (by simp [Tr.P0]) (by decide)).mono ?_
  rintro e w2 ⟨rfl, hb2⟩
  rw [HC.out]
  have e0 : w2.cell? ⟨w.heap.size + 1 + 1 + 1 + 1, 0, none⟩ = some (.int .i64 0) := (HB.out.step hb2).cell 0
  have e1 : w2.cell? ⟨w.heap.size + 1 + 1 + 1 + 1, 1, none⟩ = some (.slice (some ⟨w.heap.size, 0, none⟩) 1 1) := (HB.out.step hb2).cell 1
  have e2 : w2.cell? ⟨w.heap.size + 1 + 1 + 1 + 1, 2, none⟩ = some (.slice (some ⟨w.heap.size + 1 + 1, 0, none⟩) 1 1) := (HB.out.step hb2).cell 2
  have e3 : w2.cell? ⟨w.heap.size + 1 + 1 + 1 + 1, 3, none⟩ = some (.slice (some ⟨w.heap.size + 1 + 1 + 1, 0, none⟩) 1 1) := (HB.out.step hb2).cell 3
  have HR2 := Lib.hid (HR.out.step hb2)
  have HB2 := Lib.hid (HB.out.step hb2)
  have hb3 := bel hb hb2
  clear hb hb2 HR HB
  go_wp2_with fail
  refine (tfig_any 0 (.slice (some ⟨w.heap.size, 0, none⟩) 1 1) (.slice (some ⟨w.heap.size + 1 + 1, 0, none⟩) 1 1) Tr.T0 (some ⟨w.heap.size + 1 + 1 + 1, 0, none⟩) 1 1000 1999 _ HR2.out.to (by decide)).mono ?_
  rintro e w4 ⟨rfl, hb4⟩
  rw [Tr.fig0]
  have e0 : w4.cell? ⟨w.heap.size + 1 + 1 + 1 + 1, 0, none⟩ = some (.int .i64 0) := (HB2.out.step hb4).cell 0
  have e1 : w4.cell? ⟨w.heap.size + 1 + 1 + 1 + 1, 1, none⟩ = some (.slice (some ⟨w.heap.size, 0, none⟩) 1 1) := (HB2.out.step hb4).cell 1
  have e2 : w4.cell? ⟨w.heap.size + 1 + 1 + 1 + 1, 2, none⟩ = some (.slice (some ⟨w.heap.size + 1 + 1, 0, none⟩) 1 1) := (HB2.out.step hb4).cell 2
  have e3 : w4.cell? ⟨w.heap.size + 1 + 1 + 1 + 1, 3, none⟩ = some (.slice (some ⟨w.heap.size + 1 + 1 + 1, 0, none⟩) 1 1) := (HB2.out.step hb4).cell 3
  have HR4 := Lib.hid (HR2.out.step hb4)
  have hb5 := bel hb3 hb4
  clear hb3 hb4 HR2 HB2
  go_wp2_with fail
  refine (lines_any 0 Tr.I0 (some ⟨w.heap.size, 0, none⟩) 1 (Tr.P0 (w.heap.size + 1)) (some ⟨w.heap.size + 1 + 1, 0, none⟩) 1 Tr.T0 (some ⟨w.heap.size + 1 + 1 + 1, 0, none⟩) 1 1000 1999 _ HR4.out (Tr.allLen _) (by decide) (by simp [Tr.P0]) (by decide) (by simp [Tr.P0, Tr.q0])).mono ?_
  rintro e w6 ⟨v6, rfl, ho6, hb6⟩
  rw [Tr.lines0] at ho6
  obtain ⟨A6, c6, rfl, hrx⟩ := Rd.of_own ho6
  have H6 := Lib.hid hrx
  clear hrx ho6
  have hb7 := bel hb5 hb6
  go_wp2_with fail
  go_ret
  exact ⟨rfl, hb7⟩
end Go.Proofs.YtnddoehhcpejjaaGreat
/- The walks of TraceCheck and TraceLines. -/
namespace Go.Proofs.YtnddoehhcpejjaaGreat
set_option linter.unusedVariables false
set_option linter.unusedSimpArgs false
open Go.RowKit

/-- what the bound on the reading gives -/
structure TIn (w : World) (I : List ItemR) (AI : Option Addr) (cI : Nat) (P : List PostR) (AP : Option Addr) (cP : Nat) (T : List Bal) (AT : Option Addr) (cT : Nat) : Prop where
  rin : RIn w I AI P AP T AT
  all : (allB I P).length ≤ 400000
  it : I.length ≤ 400000
  po : P.length ≤ 400000
  to : T.length ≤ 400000
  ci : I.length ≤ cI
  cp : P.length ≤ cP
  ct : T.length ≤ cT
section
variable (per : Int) (I : List ItemR) (AI : Option Addr) (cI : Nat) (P : List PostR) (AP : Option Addr) (cP : Nat) (T : List Bal) (AT : Option Addr) (cT : Nat) (w : World)
end
end Go.Proofs.YtnddoehhcpejjaaGreat
