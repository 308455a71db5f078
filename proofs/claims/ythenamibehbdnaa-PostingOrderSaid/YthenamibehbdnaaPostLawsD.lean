/- The walk of PostingOrder. -/
import Derived.Test.YthenamibehbdnaaPostWalksI
import Derived.Test.YthenamibehbdnaaPostMathE
namespace Go.Proofs.Ythenamibehbdnaa
set_option linter.unusedVariables false
set_option linter.unusedSimpArgs false
open Go.RowKit

def ord3 (x y z : Int) : Prop := x = 1 ∨ ((x = -1 ∨ x = 0) ∧ y = 1) ∨ (x = -1 ∧ y = -1 ∧ z = -1) ∨ (x = -1 ∧ y = 0 ∧ z = -1) ∨ (x = 0 ∧ y = -1 ∧ z = -1) ∨ (x = 0 ∧ y = 0 ∧ z = 0)
theorem ord3_H (a b c : Hd) : ord3 (cmpH a b) (cmpH b c) (cmpH a c) := by
  have h1 := cmpH_bd a b
  have h2 := cmpH_bd b c
  have h3 := cmpH_bd a c
  have h4 := tri_H a b c
  unfold Tri at h4
  unfold ord3
  generalize cmpH a b = x at *
  generalize cmpH b c = y at *
  generalize cmpH a c = z at *
  omega
set_option maxRecDepth 100000 in
set_option maxHeartbeats 4000000 in
theorem law_PostingOrder (a b c : Hd) (m n o : List Bal) (A B C : Option Addr) (c1 c2 c3 : Nat) (w : World) (hm : m.length ≤ maxLen) (hn : n.length ≤ maxLen) (ho : o.length ≤ maxLen)
    (hr : Rd w w.heap.size 2 A m.length (cellsOf Bal.cells m)) (hq : Rd w w.heap.size 2 B n.length (cellsOf Bal.cells n)) :
    Calls Try.prog 8 #[.agg #[.int .i64 a.kind, .int .i64 a.entity, .int .i64 a.other, .int .i64 a.rule, .slice A m.length c1], .agg #[.int .i64 b.kind, .int .i64 b.entity, .int .i64 b.other, .int .i64 b.rule, .slice B n.length c2], .agg #[.int .i64 c.kind, .int .i64 c.entity, .int .i64 c.other, .int .i64 c.rule, .slice C o.length c3]] w
      fun e w' => e = .returned (.bool true) ∧ Below w.heap.size w w' := by
  unfold maxLen at hm hn ho
  have hb0 := Below.refl w.heap.size w
  have HR := Lib.hid hr
  have HQ := Lib.hid hq
  clear hr hq
  obtain ⟨x, hx⟩ : ∃ x, x = cmpH a b := ⟨_, rfl⟩
  obtain ⟨xr, hxr⟩ : ∃ x, x = cmpH b a := ⟨_, rfl⟩
  obtain ⟨y, hy⟩ : ∃ x, x = cmpH b c := ⟨_, rfl⟩
  obtain ⟨z, hz⟩ : ∃ x, x = cmpH a c := ⟨_, rfl⟩
  obtain ⟨E, hE⟩ : ∃ E, E = decide (cmpH a b = 0 ∧ m = n) := ⟨_, rfl⟩
  have K1 := Lib.hid (fun v u W => hx ▸ pcompare_any a b v u W)
  have K2 := Lib.hid (fun v u W => hxr ▸ pcompare_any b a v u W)
  have K3 := Lib.hid (fun v u W => hy ▸ pcompare_any b c v u W)
  have K4 := Lib.hid (fun v u W => hz ▸ pcompare_any a c v u W)
  have K5 := Lib.hid (fun v u W => hx ▸ rcompare_any a b v u W)
  have K6 := Lib.hid (fun W h1 h2 h3 h4 => hE ▸ pequal_any a b m n A B c1 c2 W h1 h2 h3 h4)
  have K7 := Lib.hid (fun W h1 h2 h3 h4 => hE ▸ requal_any a b m n A B c1 c2 W h1 h2 h3 h4)
  have K8 : Hid (∀ W, Rd W W.heap.size 2 A m.length (cellsOf Bal.cells m) → m.length ≤ 1000000 → Calls Try.prog 31 #[.agg #[.int .i64 a.kind, .int .i64 a.entity, .int .i64 a.other, .int .i64 a.rule, .slice A m.length c1], .agg #[.int .i64 a.kind, .int .i64 a.entity, .int .i64 a.other, .int .i64 a.rule, .slice A m.length c1]] W (BoolPost true W)) := Lib.hid fun W h1 h2 => by
    have := pequal_any a a m m A A c1 c1 W h1 h1 h2 h2
    simpa [cmpH_self] using this
  have HO := Lib.hid (ord3_H a b c)
  have HB := Lib.hid (cmpH_bd b a)
  have HN := Lib.hid (cmpH_neg a b)
  rw [← hx, ← hy, ← hz] at HO
  rw [← hx, ← hxr] at HN
  rw [← hxr] at HB
  clear hx hxr hy hz hE
  have hd1 : (x != x) = false := by simp
  have hd2 : (x != wrap64 (-xr)) = false := by
    have h1 := HB.out
    have h2 := HN.out
    rw [wrap_in (by omega) (by omega), ← h2]
    simp
  have hd3 : (E != E) = false := by simp
  clear HN HB
  have hb : Below w.heap.size w (((w.alloc (.cells #[.int .i64 a.kind, .int .i64 a.entity, .int .i64 a.other, .int .i64 a.rule, .slice A m.length c1] 45)).alloc (.cells #[.int .i64 b.kind, .int .i64 b.entity, .int .i64 b.other, .int .i64 b.rule, .slice B n.length c2] 45)).alloc (.cells #[.int .i64 c.kind, .int .i64 c.entity, .int .i64 c.other, .int .i64 c.rule, .slice C o.length c3] 45)) := by
    have hb := hb0
    exact (by repeat (first | exact hb | refine Below.alloc ?_ (by have hbs := hb.size; first | omega | (simp; done) | (simp; omega)) _ | refine Below.drew ?_ | refine below_drewN_ ?_ _ | refine Below.setCell ?_ (by simp) _))
  have hA := ((Blk.new w 45 #[.int .i64 a.kind, .int .i64 a.entity, .int .i64 a.other, .int .i64 a.rule, .slice A m.length c1]).alloc (.cells #[.int .i64 b.kind, .int .i64 b.entity, .int .i64 b.other, .int .i64 b.rule, .slice B n.length c2] 45)).alloc (.cells #[.int .i64 c.kind, .int .i64 c.entity, .int .i64 c.other, .int .i64 c.rule, .slice C o.length c3] 45)
  have hB := (Blk.new (w.alloc (.cells #[.int .i64 a.kind, .int .i64 a.entity, .int .i64 a.other, .int .i64 a.rule, .slice A m.length c1] 45)) 45 #[.int .i64 b.kind, .int .i64 b.entity, .int .i64 b.other, .int .i64 b.rule, .slice B n.length c2]).alloc (.cells #[.int .i64 c.kind, .int .i64 c.entity, .int .i64 c.other, .int .i64 c.rule, .slice C o.length c3] 45)
  have hC := (Blk.new ((w.alloc (.cells #[.int .i64 a.kind, .int .i64 a.entity, .int .i64 a.other, .int .i64 a.rule, .slice A m.length c1] 45)).alloc (.cells #[.int .i64 b.kind, .int .i64 b.entity, .int .i64 b.other, .int .i64 b.rule, .slice B n.length c2] 45)) 45 #[.int .i64 c.kind, .int .i64 c.entity, .int .i64 c.other, .int .i64 c.rule, .slice C o.length c3])
  have e1 : (w.alloc (.cells #[.int .i64 a.kind, .int .i64 a.entity, .int .i64 a.other, .int .i64 a.rule, .slice A m.length c1] 45)).heap.size = w.heap.size + 1 := by simp
  have e2 : ((w.alloc (.cells #[.int .i64 a.kind, .int .i64 a.entity, .int .i64 a.other, .int .i64 a.rule, .slice A m.length c1] 45)).alloc (.cells #[.int .i64 b.kind, .int .i64 b.entity, .int .i64 b.other, .int .i64 b.rule, .slice B n.length c2] 45)).heap.size = w.heap.size + 2 := by simp
  rw [e1] at hB
  rw [e2] at hC
  clear e1 e2 hb0
  obtain ⟨W, hW⟩ : ∃ W, W = (((w.alloc (.cells #[.int .i64 a.kind, .int .i64 a.entity, .int .i64 a.other, .int .i64 a.rule, .slice A m.length c1] 45)).alloc (.cells #[.int .i64 b.kind, .int .i64 b.entity, .int .i64 b.other, .int .i64 b.rule, .slice B n.length c2] 45)).alloc (.cells #[.int .i64 c.kind, .int .i64 c.entity, .int .i64 c.other, .int .i64 c.rule, .slice C o.length c3] 45)) := ⟨_, rfl⟩
  have HW := Lib.hid hW
  rw [← hW] at hA hB hC hb
  clear hW
  have HA := Lib.hid hA
  have HB := Lib.hid hB
  have HC := Lib.hid hC
  clear hA hB hC
  go_enter Try.func8, Try.ntmps8
  go_wp2_with fail
  rw [← HW.out]
  clear HW
  refine (post_awake _).mono ?_
  rintro e w2 ⟨rfl, hb2⟩
  have hbe := bel hb hb2
  have HA2 := Lib.hid (HA.out.step hb2)
  have HB2 := Lib.hid (HB.out.step hb2)
  have HC2 := Lib.hid (HC.out.step hb2)
  clear HA HB HC hb2 hb
  have f4 : w2.cell? ⟨w.heap.size, 4, none⟩ = some (.slice A m.length c1) := HA2.out.cell 4
  have g4 : w2.cell? ⟨w.heap.size + 1, 4, none⟩ = some (.slice B n.length c2) := HB2.out.cell 4
  have h4 : w2.cell? ⟨w.heap.size + 2, 4, none⟩ = some (.slice C o.length c3) := HC2.out.cell 4
  by_cases hl1 : m.length ≤ 200
  · by_cases hl2 : n.length ≤ 200
    · by_cases hl3 : o.length ≤ 200
      · go_wp2_with fail
        clear f4 g4 h4
        have p0 : ∀ d : Later w2, d.now.cell? ⟨w.heap.size, 0, none⟩ = some (.int .i64 a.kind) := fun d => d.cell HA2.out.lt (HA2.out.cell 0)
        have p1 : ∀ d : Later w2, d.now.cell? ⟨w.heap.size, 1, none⟩ = some (.int .i64 a.entity) := fun d => d.cell HA2.out.lt (HA2.out.cell 1)
        have p2 : ∀ d : Later w2, d.now.cell? ⟨w.heap.size, 2, none⟩ = some (.int .i64 a.other) := fun d => d.cell HA2.out.lt (HA2.out.cell 2)
        have p3 : ∀ d : Later w2, d.now.cell? ⟨w.heap.size, 3, none⟩ = some (.int .i64 a.rule) := fun d => d.cell HA2.out.lt (HA2.out.cell 3)
        have p4 : ∀ d : Later w2, d.now.cell? ⟨w.heap.size, 4, none⟩ = some (.slice A m.length c1) := fun d => d.cell HA2.out.lt (HA2.out.cell 4)
        have q0 : ∀ d : Later w2, d.now.cell? ⟨w.heap.size + 1, 0, none⟩ = some (.int .i64 b.kind) := fun d => d.cell HB2.out.lt (HB2.out.cell 0)
        have q1 : ∀ d : Later w2, d.now.cell? ⟨w.heap.size + 1, 1, none⟩ = some (.int .i64 b.entity) := fun d => d.cell HB2.out.lt (HB2.out.cell 1)
        have q2 : ∀ d : Later w2, d.now.cell? ⟨w.heap.size + 1, 2, none⟩ = some (.int .i64 b.other) := fun d => d.cell HB2.out.lt (HB2.out.cell 2)
        have q3 : ∀ d : Later w2, d.now.cell? ⟨w.heap.size + 1, 3, none⟩ = some (.int .i64 b.rule) := fun d => d.cell HB2.out.lt (HB2.out.cell 3)
        have q4 : ∀ d : Later w2, d.now.cell? ⟨w.heap.size + 1, 4, none⟩ = some (.slice B n.length c2) := fun d => d.cell HB2.out.lt (HB2.out.cell 4)
        have r0 : ∀ d : Later w2, d.now.cell? ⟨w.heap.size + 2, 0, none⟩ = some (.int .i64 c.kind) := fun d => d.cell HC2.out.lt (HC2.out.cell 0)
        have r1 : ∀ d : Later w2, d.now.cell? ⟨w.heap.size + 2, 1, none⟩ = some (.int .i64 c.entity) := fun d => d.cell HC2.out.lt (HC2.out.cell 1)
        have r2 : ∀ d : Later w2, d.now.cell? ⟨w.heap.size + 2, 2, none⟩ = some (.int .i64 c.other) := fun d => d.cell HC2.out.lt (HC2.out.cell 2)
        have r3 : ∀ d : Later w2, d.now.cell? ⟨w.heap.size + 2, 3, none⟩ = some (.int .i64 c.rule) := fun d => d.cell HC2.out.lt (HC2.out.cell 3)
        have r4 : ∀ d : Later w2, d.now.cell? ⟨w.heap.size + 2, 4, none⟩ = some (.slice C o.length c3) := fun d => d.cell HC2.out.lt (HC2.out.cell 4)
        refine wp_region_later (by kernel_rfl) (by kernel_rfl) ?_
        (repeat (go_big_quiet_step ((fail)))); go_big_quiet_step ((go_at_call 29; exact Later.call _ (K1.out _ _ _)))
        (repeat (go_big_quiet_step ((fail)))); go_big_quiet_step ((go_at_call 29; exact Later.call _ (K3.out _ _ _)))
        (repeat (go_big_quiet_step ((fail)))); go_big_quiet_step ((go_at_call 29; exact Later.call _ (K4.out _ _ _)))
        (repeat (go_big_quiet_step ((fail)))); refine wpQuiet_nil ?_; rintro _ ⟨dq, rfl⟩
        have hbf := bel hbe dq.below
        have HA3 := Lib.hid (HA2.out.step dq.below)
        have HB3 := Lib.hid (HB2.out.step dq.below)
        clear p0 p1 p2 p3 p4 q0 q1 q2 q3 q4 r0 r1 r2 r3 r4 HA2 HB2 HC2 hbe
        generalize dq.now = w3 at *
        go_wp2_with fail
        have p0 : ∀ d : Later w3, d.now.cell? ⟨w.heap.size, 0, none⟩ = some (.int .i64 a.kind) := fun d => d.cell HA3.out.lt (HA3.out.cell 0)
        have p1 : ∀ d : Later w3, d.now.cell? ⟨w.heap.size, 1, none⟩ = some (.int .i64 a.entity) := fun d => d.cell HA3.out.lt (HA3.out.cell 1)
        have p2 : ∀ d : Later w3, d.now.cell? ⟨w.heap.size, 2, none⟩ = some (.int .i64 a.other) := fun d => d.cell HA3.out.lt (HA3.out.cell 2)
        have p3 : ∀ d : Later w3, d.now.cell? ⟨w.heap.size, 3, none⟩ = some (.int .i64 a.rule) := fun d => d.cell HA3.out.lt (HA3.out.cell 3)
        have p4 : ∀ d : Later w3, d.now.cell? ⟨w.heap.size, 4, none⟩ = some (.slice A m.length c1) := fun d => d.cell HA3.out.lt (HA3.out.cell 4)
        have q0 : ∀ d : Later w3, d.now.cell? ⟨w.heap.size + 1, 0, none⟩ = some (.int .i64 b.kind) := fun d => d.cell HB3.out.lt (HB3.out.cell 0)
        have q1 : ∀ d : Later w3, d.now.cell? ⟨w.heap.size + 1, 1, none⟩ = some (.int .i64 b.entity) := fun d => d.cell HB3.out.lt (HB3.out.cell 1)
        have q2 : ∀ d : Later w3, d.now.cell? ⟨w.heap.size + 1, 2, none⟩ = some (.int .i64 b.other) := fun d => d.cell HB3.out.lt (HB3.out.cell 2)
        have q3 : ∀ d : Later w3, d.now.cell? ⟨w.heap.size + 1, 3, none⟩ = some (.int .i64 b.rule) := fun d => d.cell HB3.out.lt (HB3.out.cell 3)
        have q4 : ∀ d : Later w3, d.now.cell? ⟨w.heap.size + 1, 4, none⟩ = some (.slice B n.length c2) := fun d => d.cell HB3.out.lt (HB3.out.cell 4)
        have HRd : Hid (∀ d : Later w3, Rd d.now d.now.heap.size 2 A m.length (cellsOf Bal.cells m)) := Lib.hid fun d => Rd.now HR.out (bel hbf d.below)
        have HQd : Hid (∀ d : Later w3, Rd d.now d.now.heap.size 2 B n.length (cellsOf Bal.cells n)) := Lib.hid fun d => Rd.now HQ.out (bel hbf d.below)
        refine wp_region_later (by kernel_rfl) (by kernel_rfl) ?_
        (repeat (go_big_quiet_step ((fail)))); go_big_quiet_step ((go_at_call 30; exact Later.call _ (K5.out _ _ _)))
        (repeat (go_big_quiet_step ((fail)))); go_big_quiet_step ((go_at_call 29; exact Later.call _ (K2.out _ _ _)))
        (repeat (go_big_quiet_step ((fail)))); go_big_quiet_step ((go_at_call 31; exact Later.call _ (K6.out _ (HRd.out _) (HQd.out _) (by omega) (by omega))))
        (repeat (go_big_quiet_step ((fail)))); go_big_quiet_step ((go_at_call 32; exact Later.call _ (K7.out _ (HRd.out _) (HQd.out _) (by omega) (by omega))))
        (repeat (go_big_quiet_step ((fail)))); go_big_quiet_step ((go_at_call 31; exact Later.call _ (K8.out _ (HRd.out _) (by omega))))
        (repeat (go_big_quiet_step ((fail)))); refine wpQuiet_nil ?_; rintro _ ⟨dq, rfl⟩
        have hbg := bel hbf dq.below
        clear p0 p1 p2 p3 p4 q0 q1 q2 q3 q4 HA3 HB3 hbf hd1 hd2 hd3 K1 K2 K3 K4 K5 K6 K7 K8 HRd HQd
        generalize dq.now = w4 at hbg ⊢
        have hO := HO.out
        unfold ord3 at hO
        rcases hO with rfl | ⟨rfl | rfl, rfl⟩ | ⟨rfl, rfl, rfl⟩ | ⟨rfl, rfl, rfl⟩ | ⟨rfl, rfl, rfl⟩ | ⟨rfl, rfl, rfl⟩
        all_goals
          clear HO
          go_wp2_with fail
          go_ret
          exact ⟨rfl, hbg⟩
      · go_wp2_with fail
        go_ret
        exact ⟨rfl, hbe⟩
    · go_wp2_with fail
      go_ret
      exact ⟨rfl, hbe⟩
  · go_wp2_with fail
    go_ret
    exact ⟨rfl, hbe⟩
end Go.Proofs.Ythenamibehbdnaa
