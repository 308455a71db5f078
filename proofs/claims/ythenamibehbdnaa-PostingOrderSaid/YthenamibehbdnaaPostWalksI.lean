/- The walk of posting.Equal. -/
import Derived.Test.YthenamibehbdnaaPostWalksH
namespace Go.Proofs.Ythenamibehbdnaa
set_option linter.unusedVariables false
set_option linter.unusedSimpArgs false
open Go.RowKit

set_option maxRecDepth 100000 in
set_option maxHeartbeats 1000000 in
theorem pequal_any (a b : Hd) (m n : List Bal) (A B : Option Addr) (c1 c2 : Nat) (w : World) (hr : Rd w w.heap.size 2 A m.length (cellsOf Bal.cells m)) (hq : Rd w w.heap.size 2 B n.length (cellsOf Bal.cells n)) (hn : m.length ≤ 1000000) (hn2 : n.length ≤ 1000000) :
    Calls Try.prog 31 #[.agg #[.int .i64 a.kind, .int .i64 a.entity, .int .i64 a.other, .int .i64 a.rule, .slice A m.length c1], .agg #[.int .i64 b.kind, .int .i64 b.entity, .int .i64 b.other, .int .i64 b.rule, .slice B n.length c2]] w
      (BoolPost (decide (cmpH a b = 0 ∧ m = n)) w) := by
  have hb := Below.refl w.heap.size w
  have HR := Lib.hid hr
  have HQ := Lib.hid hq
  clear hr hq
  have hbx : Below w.heap.size w ((w.alloc (.cells #[.int .i64 a.kind, .int .i64 a.entity, .int .i64 a.other, .int .i64 a.rule, .slice A m.length c1] 45)).alloc (.cells #[.int .i64 b.kind, .int .i64 b.entity, .int .i64 b.other, .int .i64 b.rule, .slice B n.length c2] 45)) := (by repeat (first | exact hb | refine Below.alloc ?_ (by have hbs := hb.size; first | omega | (simp; done) | (simp; omega)) _ | refine Below.drew ?_ | refine below_drewN_ ?_ _ | refine Below.setCell ?_ (by simp) _))
  have hA := (Blk.new w 45 #[.int .i64 a.kind, .int .i64 a.entity, .int .i64 a.other, .int .i64 a.rule, .slice A m.length c1]).alloc (.cells #[.int .i64 b.kind, .int .i64 b.entity, .int .i64 b.other, .int .i64 b.rule, .slice B n.length c2] 45)
  have hB := Blk.new (w.alloc (.cells #[.int .i64 a.kind, .int .i64 a.entity, .int .i64 a.other, .int .i64 a.rule, .slice A m.length c1] 45)) 45 #[.int .i64 b.kind, .int .i64 b.entity, .int .i64 b.other, .int .i64 b.rule, .slice B n.length c2]
  have e1 : (w.alloc (.cells #[.int .i64 a.kind, .int .i64 a.entity, .int .i64 a.other, .int .i64 a.rule, .slice A m.length c1] 45)).heap.size = w.heap.size + 1 := by simp
  rw [e1] at hB
  clear e1
  obtain ⟨W, hW⟩ : ∃ W, W = ((w.alloc (.cells #[.int .i64 a.kind, .int .i64 a.entity, .int .i64 a.other, .int .i64 a.rule, .slice A m.length c1] 45)).alloc (.cells #[.int .i64 b.kind, .int .i64 b.entity, .int .i64 b.other, .int .i64 b.rule, .slice B n.length c2] 45)) := ⟨_, rfl⟩
  have HW := Lib.hid hW
  rw [← hW] at hA hB hbx
  clear hW
  have HA := Lib.hid hA
  have HB := Lib.hid hB
  have hla := hA.lt
  have hlb := hB.lt
  have f0 : W.cell? ⟨w.heap.size, 0, none⟩ = some (.int .i64 a.kind) := hA.cell 0
  have f1 : W.cell? ⟨w.heap.size, 1, none⟩ = some (.int .i64 a.entity) := hA.cell 1
  have f2 : W.cell? ⟨w.heap.size, 2, none⟩ = some (.int .i64 a.other) := hA.cell 2
  have f3 : W.cell? ⟨w.heap.size, 3, none⟩ = some (.int .i64 a.rule) := hA.cell 3
  have f4 : W.cell? ⟨w.heap.size, 4, none⟩ = some (.slice A m.length c1) := hA.cell 4
  have g0 : W.cell? ⟨w.heap.size + 1, 0, none⟩ = some (.int .i64 b.kind) := hB.cell 0
  have g1 : W.cell? ⟨w.heap.size + 1, 1, none⟩ = some (.int .i64 b.entity) := hB.cell 1
  have g2 : W.cell? ⟨w.heap.size + 1, 2, none⟩ = some (.int .i64 b.other) := hB.cell 2
  have g3 : W.cell? ⟨w.heap.size + 1, 3, none⟩ = some (.int .i64 b.rule) := hB.cell 3
  have g4 : W.cell? ⟨w.heap.size + 1, 4, none⟩ = some (.slice B n.length c2) := hB.cell 4
  clear hA hB hb
  cases h0 : (cmpH a b == 0)
  · have H0 : Hid (¬ cmpH a b = 0) := Lib.hid (by simpa using h0)
    go_enter Try.func31, Try.ntmps31
    go_wp2_with fail
    rw [← HW.out]
    go_wp2_with (go_at_call 29; refine (pcompare_any a b _ _ _).mono ?_; rintro e w2 ⟨rfl, hb2⟩)
    go_ret
    exact ⟨ret_bool (by simp [H0.out]), bel hbx hb2⟩
  · have H0 : Hid (cmpH a b = 0) := Lib.hid (by simpa using h0)
    go_enter Try.func31, Try.ntmps31
    go_wp2_with fail
    rw [← HW.out]
    go_wp2_with (first
      | (go_at_call 29; refine (pcompare_any a b _ _ _).mono ?_; rintro e w2 ⟨rfl, hb2⟩; have k4 : w2.cell? ⟨w.heap.size, 4, none⟩ = some (.slice A m.length c1) := ((HA.out.below hb2 hla).cell 4); have l4 : w2.cell? ⟨w.heap.size + 1, 4, none⟩ = some (.slice B n.length c2) := ((HB.out.below hb2 hlb).cell 4); have hbw := bel hbx hb2)
      | (go_at_call 48; refine (sequal_any m n A B c1 c2 _ (Rd.now HR.out hbw) (Rd.now HQ.out hbw) hn hn2).mono ?_; rintro e w3 ⟨rfl, hb3⟩))
    go_ret
    exact ⟨ret_bool (by simp [H0.out]), bel hbw hb3⟩
end Go.Proofs.Ythenamibehbdnaa
