/- Texts of this claim, put together. -/
import Derived.Test.YtkfbchgabmffoaaJAJ
import Derived.Test.YtkfbchgabmffoaaPostWalksHZ
/- The walks of Compare of items, of Equal of balances. -/
namespace Go.Proofs.Ytkfbchgabmffoaa
set_option linter.unusedVariables false
set_option linter.unusedSimpArgs false
open Go.RowKit

set_option maxRecDepth 100000 in
set_option maxHeartbeats 2000000 in
theorem icompare_any (a b : ItemR) (w : World) :
    Calls Try.prog 20 #[.agg #[.int .i64 a.ref.entry, .int .i64 a.ref.line, .int .i64 a.entity, .int .i64 a.account, .int .i64 a.partner, .int .i64 a.date, .int .i64 a.amount], .agg #[.int .i64 b.ref.entry, .int .i64 b.ref.line, .int .i64 b.entity, .int .i64 b.account, .int .i64 b.partner, .int .i64 b.date, .int .i64 b.amount]] w
      (fun e w' => e = .returned (.int .i64 (cmpI a b)) ∧ Below w.heap.size w w') := by
  have hb := Below.refl w.heap.size w
  obtain ⟨⟨ae, al⟩, a1, a2, a3, a4, a5⟩ := a
  obtain ⟨⟨be, bl⟩, b1, b2, b3, b4, b5⟩ := b
  dsimp only
  have HC : Hid (cmpI ⟨⟨ae, al⟩, a1, a2, a3, a4, a5⟩ ⟨⟨be, bl⟩, b1, b2, b3, b4, b5⟩ = firstNZ [cmpV a1 b1, cmpV a4 b4, cmpV ae be, cmpV al bl]) := Lib.hid rfl
  have hbx : Below w.heap.size w ((w.alloc (.cells #[.int .i64 ae, .int .i64 al, .int .i64 a1, .int .i64 a2, .int .i64 a3, .int .i64 a4, .int .i64 a5] 45)).alloc (.cells #[.int .i64 be, .int .i64 bl, .int .i64 b1, .int .i64 b2, .int .i64 b3, .int .i64 b4, .int .i64 b5] 45)) := (by repeat (first | exact hb | refine Below.alloc ?_ (by have hbs := hb.size; first | omega | (simp; done) | (simp; omega)) _ | refine Below.drew ?_ | refine below_drewN_ ?_ _ | refine Below.setCell ?_ (by simp) _))
  have hA := (Blk.new w 45 #[.int .i64 ae, .int .i64 al, .int .i64 a1, .int .i64 a2, .int .i64 a3, .int .i64 a4, .int .i64 a5]).alloc (.cells #[.int .i64 be, .int .i64 bl, .int .i64 b1, .int .i64 b2, .int .i64 b3, .int .i64 b4, .int .i64 b5] 45)
  have hB := Blk.new (w.alloc (.cells #[.int .i64 ae, .int .i64 al, .int .i64 a1, .int .i64 a2, .int .i64 a3, .int .i64 a4, .int .i64 a5] 45)) 45 #[.int .i64 be, .int .i64 bl, .int .i64 b1, .int .i64 b2, .int .i64 b3, .int .i64 b4, .int .i64 b5]
  have e1 : (w.alloc (.cells #[.int .i64 ae, .int .i64 al, .int .i64 a1, .int .i64 a2, .int .i64 a3, .int .i64 a4, .int .i64 a5] 45)).heap.size = w.heap.size + 1 := by simp
  rw [e1] at hB
  clear e1
  obtain ⟨W, hW⟩ : ∃ W, W = ((w.alloc (.cells #[.int .i64 ae, .int .i64 al, .int .i64 a1, .int .i64 a2, .int .i64 a3, .int .i64 a4, .int .i64 a5] 45)).alloc (.cells #[.int .i64 be, .int .i64 bl, .int .i64 b1, .int .i64 b2, .int .i64 b3, .int .i64 b4, .int .i64 b5] 45)) := ⟨_, rfl⟩
  have HW := Lib.hid hW
  rw [← hW] at hA hB hbx
  have hsz : W.heap.size = w.heap.size + 2 := by rw [hW]; simp
  clear hW
  have hla := hA.lt
  have hlb := hB.lt
  clear hsz
  have p0 : ∀ d : Later W, d.now.cell? ⟨w.heap.size, 0, none⟩ = some (.int .i64 ae) := fun d => d.cell hla (hA.cell 0)
  have p1 : ∀ d : Later W, d.now.cell? ⟨w.heap.size, 1, none⟩ = some (.int .i64 al) := fun d => d.cell hla (hA.cell 1)
  have p2 : ∀ d : Later W, d.now.cell? ⟨w.heap.size, 2, none⟩ = some (.int .i64 a1) := fun d => d.cell hla (hA.cell 2)
  have p3 : ∀ d : Later W, d.now.cell? ⟨w.heap.size, 5, none⟩ = some (.int .i64 a4) := fun d => d.cell hla (hA.cell 5)
  have q0 : ∀ d : Later W, d.now.cell? ⟨w.heap.size + 1, 0, none⟩ = some (.int .i64 be) := fun d => d.cell hlb (hB.cell 0)
  have q1 : ∀ d : Later W, d.now.cell? ⟨w.heap.size + 1, 1, none⟩ = some (.int .i64 bl) := fun d => d.cell hlb (hB.cell 1)
  have q2 : ∀ d : Later W, d.now.cell? ⟨w.heap.size + 1, 2, none⟩ = some (.int .i64 b1) := fun d => d.cell hlb (hB.cell 2)
  have q3 : ∀ d : Later W, d.now.cell? ⟨w.heap.size + 1, 5, none⟩ = some (.int .i64 b4) := fun d => d.cell hlb (hB.cell 5)
  clear hA hB hb hla hlb
  go_enter Try.func20, Try.ntmps20
  go_wp2_with fail
  rw [← HW.out]
  refine rel_begin (n := 27) (W) (by kernel_rfl) rfl ?_; have hC := Near.drew (W)
  (first | (refine rel_want (i := 0) rfl rfl (by kernel_rfl) (by kernel_rfl) (by kernel_rfl) rfl (fun _ _ _ _ h => h) hC ?_; intro K hK; go_big_quiet_op; go_big_quiet_on) | (refine rel_skip (i := 0) rfl (by kernel_rfl) (by kernel_rfl) (by kernel_rfl) rfl (fun _ _ _ _ h => h) hC ?_; simp only [Act.put, List.setIfInBounds_toArray, List.set_cons_zero, List.set_cons_succ])); (first | (refine rel_want (i := 1) rfl rfl (by kernel_rfl) (by kernel_rfl) (by kernel_rfl) rfl (fun _ _ _ _ h => h) hC ?_; intro K hK; go_big_quiet_op; go_big_quiet_on) | (refine rel_skip (i := 1) rfl (by kernel_rfl) (by kernel_rfl) (by kernel_rfl) rfl (fun _ _ _ _ h => h) hC ?_; simp only [Act.put, List.setIfInBounds_toArray, List.set_cons_zero, List.set_cons_succ])); (first | (refine rel_want (i := 2) rfl rfl (by kernel_rfl) (by kernel_rfl) (by kernel_rfl) rfl (fun _ _ _ _ h => h) hC ?_; intro K hK; go_big_quiet_op; go_big_quiet_on) | (refine rel_skip (i := 2) rfl (by kernel_rfl) (by kernel_rfl) (by kernel_rfl) rfl (fun _ _ _ _ h => h) hC ?_; simp only [Act.put, List.setIfInBounds_toArray, List.set_cons_zero, List.set_cons_succ])); (first | (refine rel_want (i := 3) rfl rfl (by kernel_rfl) (by kernel_rfl) (by kernel_rfl) rfl (fun _ _ _ _ h => h) hC ?_; intro K hK; go_big_quiet_op; go_big_quiet_on) | (refine rel_skip (i := 3) rfl (by kernel_rfl) (by kernel_rfl) (by kernel_rfl) rfl (fun _ _ _ _ h => h) hC ?_; simp only [Act.put, List.setIfInBounds_toArray, List.set_cons_zero, List.set_cons_succ])); (first | (refine rel_want (i := 5) rfl rfl (by kernel_rfl) (by kernel_rfl) (by kernel_rfl) rfl (fun _ _ _ _ h => h) hC ?_; intro K hK; go_big_quiet_op; go_big_quiet_on) | (refine rel_skip (i := 5) rfl (by kernel_rfl) (by kernel_rfl) (by kernel_rfl) rfl (fun _ _ _ _ h => h) hC ?_; simp only [Act.put, List.setIfInBounds_toArray, List.set_cons_zero, List.set_cons_succ])); (first | (refine rel_want (i := 6) rfl rfl (by kernel_rfl) (by kernel_rfl) (by kernel_rfl) rfl (fun _ _ _ _ h => h) hC ?_; intro K hK; go_big_quiet_op; go_big_quiet_on) | (refine rel_skip (i := 6) rfl (by kernel_rfl) (by kernel_rfl) (by kernel_rfl) rfl (fun _ _ _ _ h => h) hC ?_; simp only [Act.put, List.setIfInBounds_toArray, List.set_cons_zero, List.set_cons_succ])); (first | (refine rel_want (i := 7) rfl rfl (by kernel_rfl) (by kernel_rfl) (by kernel_rfl) rfl (fun _ _ _ _ h => h) hC ?_; intro K hK; go_big_quiet_op; go_big_quiet_on) | (refine rel_skip (i := 7) rfl (by kernel_rfl) (by kernel_rfl) (by kernel_rfl) rfl (fun _ _ _ _ h => h) hC ?_; simp only [Act.put, List.setIfInBounds_toArray, List.set_cons_zero, List.set_cons_succ])); (first | (refine rel_want (i := 8) rfl rfl (by kernel_rfl) (by kernel_rfl) (by kernel_rfl) rfl (fun _ _ _ _ h => h) hC ?_; intro K hK; go_big_quiet_op; go_big_quiet_on) | (refine rel_skip (i := 8) rfl (by kernel_rfl) (by kernel_rfl) (by kernel_rfl) rfl (fun _ _ _ _ h => h) hC ?_; simp only [Act.put, List.setIfInBounds_toArray, List.set_cons_zero, List.set_cons_succ])); (first | (refine rel_want (i := 10) rfl rfl (by kernel_rfl) (by kernel_rfl) (by kernel_rfl) rfl (fun _ _ _ _ h => h) hC ?_; intro K hK; go_big_quiet_op; go_big_quiet_on) | (refine rel_skip (i := 10) rfl (by kernel_rfl) (by kernel_rfl) (by kernel_rfl) rfl (fun _ _ _ _ h => h) hC ?_; simp only [Act.put, List.setIfInBounds_toArray, List.set_cons_zero, List.set_cons_succ])); (first | (refine rel_want (i := 11) rfl rfl (by kernel_rfl) (by kernel_rfl) (by kernel_rfl) rfl (fun _ _ _ _ h => h) hC ?_; intro K hK; go_big_quiet_op; go_big_quiet_on) | (refine rel_skip (i := 11) rfl (by kernel_rfl) (by kernel_rfl) (by kernel_rfl) rfl (fun _ _ _ _ h => h) hC ?_; simp only [Act.put, List.setIfInBounds_toArray, List.set_cons_zero, List.set_cons_succ])); (first | (refine rel_want (i := 12) rfl rfl (by kernel_rfl) (by kernel_rfl) (by kernel_rfl) rfl (fun _ _ _ _ h => h) hC ?_; intro K hK; go_big_quiet_op; go_big_quiet_on) | (refine rel_skip (i := 12) rfl (by kernel_rfl) (by kernel_rfl) (by kernel_rfl) rfl (fun _ _ _ _ h => h) hC ?_; simp only [Act.put, List.setIfInBounds_toArray, List.set_cons_zero, List.set_cons_succ])); (first | (refine rel_want (i := 13) rfl rfl (by kernel_rfl) (by kernel_rfl) (by kernel_rfl) rfl (fun _ _ _ _ h => h) hC ?_; intro K hK; go_big_quiet_op; go_big_quiet_on) | (refine rel_skip (i := 13) rfl (by kernel_rfl) (by kernel_rfl) (by kernel_rfl) rfl (fun _ _ _ _ h => h) hC ?_; simp only [Act.put, List.setIfInBounds_toArray, List.set_cons_zero, List.set_cons_succ])); (first | (refine rel_want (i := 14) rfl rfl (by kernel_rfl) (by kernel_rfl) (by kernel_rfl) rfl (fun _ _ _ _ h => h) hC ?_; intro K hK; go_big_quiet_op; go_big_quiet_on) | (refine rel_skip (i := 14) rfl (by kernel_rfl) (by kernel_rfl) (by kernel_rfl) rfl (fun _ _ _ _ h => h) hC ?_; simp only [Act.put, List.setIfInBounds_toArray, List.set_cons_zero, List.set_cons_succ])); (first | (refine rel_want (i := 15) rfl rfl (by kernel_rfl) (by kernel_rfl) (by kernel_rfl) rfl (fun _ _ _ _ h => h) hC ?_; intro K hK; go_big_quiet_op; go_big_quiet_on) | (refine rel_skip (i := 15) rfl (by kernel_rfl) (by kernel_rfl) (by kernel_rfl) rfl (fun _ _ _ _ h => h) hC ?_; simp only [Act.put, List.setIfInBounds_toArray, List.set_cons_zero, List.set_cons_succ])); (first | (refine rel_want (i := 17) rfl rfl (by kernel_rfl) (by kernel_rfl) (by kernel_rfl) rfl (fun _ _ _ _ h => h) hC ?_; intro K hK; go_big_quiet_op; go_big_quiet_on) | (refine rel_skip (i := 17) rfl (by kernel_rfl) (by kernel_rfl) (by kernel_rfl) rfl (fun _ _ _ _ h => h) hC ?_; simp only [Act.put, List.setIfInBounds_toArray, List.set_cons_zero, List.set_cons_succ])); (first | (refine rel_want (i := 18) rfl rfl (by kernel_rfl) (by kernel_rfl) (by kernel_rfl) rfl (fun _ _ _ _ h => h) hC ?_; intro K hK; go_big_quiet_op; go_big_quiet_on) | (refine rel_skip (i := 18) rfl (by kernel_rfl) (by kernel_rfl) (by kernel_rfl) rfl (fun _ _ _ _ h => h) hC ?_; simp only [Act.put, List.setIfInBounds_toArray, List.set_cons_zero, List.set_cons_succ])); (first | (refine rel_want (i := 19) rfl rfl (by kernel_rfl) (by kernel_rfl) (by kernel_rfl) rfl (fun _ _ _ _ h => h) hC ?_; intro K hK; go_big_quiet_op; go_big_quiet_on) | (refine rel_skip (i := 19) rfl (by kernel_rfl) (by kernel_rfl) (by kernel_rfl) rfl (fun _ _ _ _ h => h) hC ?_; simp only [Act.put, List.setIfInBounds_toArray, List.set_cons_zero, List.set_cons_succ])); (first | (refine rel_want (i := 20) rfl rfl (by kernel_rfl) (by kernel_rfl) (by kernel_rfl) rfl (fun _ _ _ _ h => h) hC ?_; intro K hK; go_big_quiet_op; go_big_quiet_on) | (refine rel_skip (i := 20) rfl (by kernel_rfl) (by kernel_rfl) (by kernel_rfl) rfl (fun _ _ _ _ h => h) hC ?_; simp only [Act.put, List.setIfInBounds_toArray, List.set_cons_zero, List.set_cons_succ])); (first | (refine rel_want (i := 21) rfl rfl (by kernel_rfl) (by kernel_rfl) (by kernel_rfl) rfl (fun _ _ _ _ h => h) hC ?_; intro K hK; go_big_quiet_op; go_big_quiet_on) | (refine rel_skip (i := 21) rfl (by kernel_rfl) (by kernel_rfl) (by kernel_rfl) rfl (fun _ _ _ _ h => h) hC ?_; simp only [Act.put, List.setIfInBounds_toArray, List.set_cons_zero, List.set_cons_succ])); (first | (refine rel_want (i := 22) rfl rfl (by kernel_rfl) (by kernel_rfl) (by kernel_rfl) rfl (fun _ _ _ _ h => h) hC ?_; intro K hK; go_big_quiet_op; go_big_quiet_on) | (refine rel_skip (i := 22) rfl (by kernel_rfl) (by kernel_rfl) (by kernel_rfl) rfl (fun _ _ _ _ h => h) hC ?_; simp only [Act.put, List.setIfInBounds_toArray, List.set_cons_zero, List.set_cons_succ]))
  refine rel_call (i := 4) (by kernel_rfl) rfl rfl ?_; intro K hK; go_simp; go_at_call 29; refine (compare_bel _ _ _).mono ?_; rintro e w2 ⟨rfl, hb2⟩; (try go_wp2_with fail); replace hC := hC.on hb2; refine hK _ _ hC (fun _ => ?_); clear hK K; (try simp only [Act.put, List.setIfInBounds_toArray, List.set_cons_zero, List.set_cons_succ])
  refine rel_call (i := 9) (by kernel_rfl) rfl rfl ?_; intro K hK; go_simp; go_at_call 29; refine (compare_bel _ _ _).mono ?_; rintro e w2 ⟨rfl, hb2⟩; (try go_wp2_with fail); replace hC := hC.on hb2; refine hK _ _ hC (fun _ => ?_); clear hK K; (try simp only [Act.put, List.setIfInBounds_toArray, List.set_cons_zero, List.set_cons_succ])
  refine rel_call (i := 16) (by kernel_rfl) rfl rfl ?_; intro K hK; go_simp; go_at_call 29; refine (compare_bel _ _ _).mono ?_; rintro e w2 ⟨rfl, hb2⟩; (try go_wp2_with fail); replace hC := hC.on hb2; refine hK _ _ hC (fun _ => ?_); clear hK K; (try simp only [Act.put, List.setIfInBounds_toArray, List.set_cons_zero, List.set_cons_succ])
  refine rel_call (i := 23) (by kernel_rfl) rfl rfl ?_; intro K hK; go_simp; go_at_call 29; refine (compare_bel _ _ _).mono ?_; rintro e w2 ⟨rfl, hb2⟩; (try go_wp2_with fail); replace hC := hC.on hb2; refine hK _ _ hC (fun _ => ?_); clear hK K; (try simp only [Act.put, List.setIfInBounds_toArray, List.set_cons_zero, List.set_cons_succ])
  refine rel_call (i := 24) (by kernel_rfl) rfl rfl ?_; intro K hK; go_simp; have hC2 := hC.below; refine hK _ _ (Near.of (by repeat (first | exact hC2 | refine Below.alloc ?_ (by have hbs := hC2.size; first | omega | (simp; done) | (simp at hbs ⊢; omega)) _ | refine Below.drew ?_ | refine below_drewN_ ?_ _))) ?_; clear hK K hC hC2; intro hC; (try simp only [Act.put, List.setIfInBounds_toArray, List.set_cons_zero, List.set_cons_succ])
  refine rel_call (i := 25) (by kernel_rfl) rfl rfl ?_; intro K hK; go_simp; go_at_call 28; refine (or_bel [cmpV a1 b1, cmpV a4 b4, cmpV ae be, cmpV al bl] _ 4 _ (Rd.of_blk (Blk.new _ 3 _) rfl rfl) (by simp)).mono ?_; rintro e w2 ⟨rfl, hb2⟩; (try go_wp2_with fail); replace hC := hC.on hb2; refine hK _ _ hC (fun _ => ?_); clear hK K; (try simp only [Act.put, List.setIfInBounds_toArray, List.set_cons_zero, List.set_cons_succ])
  (first | (refine rel_want (i := 26) rfl rfl (by kernel_rfl) (by kernel_rfl) (by kernel_rfl) rfl (fun _ _ _ _ h => h) hC ?_; intro K hK; go_big_quiet_op; go_big_quiet_on) | (refine rel_skip (i := 26) rfl (by kernel_rfl) (by kernel_rfl) (by kernel_rfl) rfl (fun _ _ _ _ h => h) hC ?_; simp only [Act.put, List.setIfInBounds_toArray, List.set_cons_zero, List.set_cons_succ]))
  refine wpAnyH_done (by kernel_rfl) ?_ _
  have hbe := bel hbx hC.below
  go_wp2_with fail
  go_ret
  exact ⟨ret_int HC.out.symm, hbe⟩
theorem four_at (a0 a1 a2 a3 : Int) (k : Nat) (hk : k < 4) : (#[.int .i64 a0, .int .i64 a1, .int .i64 a2, .int .i64 a3] : Array Value)[k]? = some (.int .i64 ([a0, a1, a2, a3].getD k 0)) := by
  rcases k with _ | _ | _ | _ | k
  · rfl
  · rfl
  · rfl
  · rfl
  · omega
theorem four_cmp (a0 a1 a2 a3 b0 b1 b2 b3 : Int) (k : Nat) (hk : k < 4) : [cmpV a0 b0, cmpV a1 b1, cmpV a2 b2, cmpV a3 b3].getD k 0 = cmpV ([a0, a1, a2, a3].getD k 0) ([b0, b1, b2, b3].getD k 0) := by
  rcases k with _ | _ | _ | _ | k
  · rfl
  · rfl
  · rfl
  · rfl
  · omega
set_option maxRecDepth 100000 in
set_option maxHeartbeats 4000000 in
theorem ricompare_any (a b : ItemR) (w : World) :
    Calls Try.prog 23 #[.agg #[.int .i64 a.ref.entry, .int .i64 a.ref.line, .int .i64 a.entity, .int .i64 a.account, .int .i64 a.partner, .int .i64 a.date, .int .i64 a.amount], .agg #[.int .i64 b.ref.entry, .int .i64 b.ref.line, .int .i64 b.entity, .int .i64 b.account, .int .i64 b.partner, .int .i64 b.date, .int .i64 b.amount]] w
      (fun e w' => e = .returned (.int .i64 (cmpI a b)) ∧ Below w.heap.size w w') := by
  have hb := Below.refl w.heap.size w
  obtain ⟨⟨ae, al⟩, a1, a2, a3, a4, a5⟩ := a
  obtain ⟨⟨be, bl⟩, b1, b2, b3, b4, b5⟩ := b
  dsimp only
  have HC : Hid (cmpI ⟨⟨ae, al⟩, a1, a2, a3, a4, a5⟩ ⟨⟨be, bl⟩, b1, b2, b3, b4, b5⟩ = firstNZ [cmpV a1 b1, cmpV a4 b4, cmpV ae be, cmpV al bl]) := Lib.hid rfl
  have hbx : Below w.heap.size w ((w.alloc (.cells #[.int .i64 ae, .int .i64 al, .int .i64 a1, .int .i64 a2, .int .i64 a3, .int .i64 a4, .int .i64 a5] 45)).alloc (.cells #[.int .i64 be, .int .i64 bl, .int .i64 b1, .int .i64 b2, .int .i64 b3, .int .i64 b4, .int .i64 b5] 45)) := (by repeat (first | exact hb | refine Below.alloc ?_ (by have hbs := hb.size; first | omega | (simp; done) | (simp; omega)) _ | refine Below.drew ?_ | refine below_drewN_ ?_ _ | refine Below.setCell ?_ (by simp) _))
  have hA := (Blk.new w 45 #[.int .i64 ae, .int .i64 al, .int .i64 a1, .int .i64 a2, .int .i64 a3, .int .i64 a4, .int .i64 a5]).alloc (.cells #[.int .i64 be, .int .i64 bl, .int .i64 b1, .int .i64 b2, .int .i64 b3, .int .i64 b4, .int .i64 b5] 45)
  have hB := Blk.new (w.alloc (.cells #[.int .i64 ae, .int .i64 al, .int .i64 a1, .int .i64 a2, .int .i64 a3, .int .i64 a4, .int .i64 a5] 45)) 45 #[.int .i64 be, .int .i64 bl, .int .i64 b1, .int .i64 b2, .int .i64 b3, .int .i64 b4, .int .i64 b5]
  have e1 : (w.alloc (.cells #[.int .i64 ae, .int .i64 al, .int .i64 a1, .int .i64 a2, .int .i64 a3, .int .i64 a4, .int .i64 a5] 45)).heap.size = w.heap.size + 1 := by simp
  rw [e1] at hB
  clear e1
  obtain ⟨W, hW⟩ : ∃ W, W = ((w.alloc (.cells #[.int .i64 ae, .int .i64 al, .int .i64 a1, .int .i64 a2, .int .i64 a3, .int .i64 a4, .int .i64 a5] 45)).alloc (.cells #[.int .i64 be, .int .i64 bl, .int .i64 b1, .int .i64 b2, .int .i64 b3, .int .i64 b4, .int .i64 b5] 45)) := ⟨_, rfl⟩
  have HW := Lib.hid hW
  rw [← hW] at hA hB hbx
  have hsz : W.heap.size = w.heap.size + 2 := by rw [hW]; simp
  clear hW
  have hla := hA.lt
  have hlb := hB.lt
  have p0 : W.cell? ⟨w.heap.size, 0, none⟩ = some (.int .i64 ae) := hA.cell 0
  have p1 : W.cell? ⟨w.heap.size, 1, none⟩ = some (.int .i64 al) := hA.cell 1
  have p2 : W.cell? ⟨w.heap.size, 2, none⟩ = some (.int .i64 a1) := hA.cell 2
  have p3 : W.cell? ⟨w.heap.size, 5, none⟩ = some (.int .i64 a4) := hA.cell 5
  have q0 : W.cell? ⟨w.heap.size + 1, 0, none⟩ = some (.int .i64 be) := hB.cell 0
  have q1 : W.cell? ⟨w.heap.size + 1, 1, none⟩ = some (.int .i64 bl) := hB.cell 1
  have q2 : W.cell? ⟨w.heap.size + 1, 2, none⟩ = some (.int .i64 b1) := hB.cell 2
  have q3 : W.cell? ⟨w.heap.size + 1, 5, none⟩ = some (.int .i64 b4) := hB.cell 5
  have HX := Lib.hid ((Blk.new W 72 #[.int .i64 a1, .int .i64 a4, .int .i64 ae, .int .i64 al]).alloc (.cells #[.int .i64 b1, .int .i64 b4, .int .i64 be, .int .i64 bl] 72))
  have HY := Lib.hid (Blk.new (W.alloc (.cells #[.int .i64 a1, .int .i64 a4, .int .i64 ae, .int .i64 al] 72)) 72 #[.int .i64 b1, .int .i64 b4, .int .i64 be, .int .i64 bl])
  have hbz : Below w.heap.size w ((W.alloc (.cells #[.int .i64 a1, .int .i64 a4, .int .i64 ae, .int .i64 al] 72)).alloc (.cells #[.int .i64 b1, .int .i64 b4, .int .i64 be, .int .i64 bl] 72)) := (hbx.alloc hbx.size _).alloc (by have := hbx.size; simp; omega) _
  clear hA hB hb hla hlb
  go_enter Try.func23, Try.ntmps23
  go_wp2_with fail
  rw [← HW.out]
  go_wp2_with fail
  generalize hgen : (W.alloc (.cells #[.int .i64 a1, .int .i64 a4, .int .i64 ae, .int .i64 al] 72)).alloc (.cells #[.int .i64 b1, .int .i64 b4, .int .i64 be, .int .i64 bl] 72) = W2 at *
  have HX2 : Hid (Blk W2 (w.heap.size + 1 + 1) 72 #[.int .i64 a1, .int .i64 a4, .int .i64 ae, .int .i64 al]) := Lib.hid (by have := HX.out; rwa [hsz] at this)
  have HY2 : Hid (Blk W2 (w.heap.size + 1 + 1 + 1) 72 #[.int .i64 b1, .int .i64 b4, .int .i64 be, .int .i64 bl]) := Lib.hid (by have := HY.out; rwa [World.size_alloc, hsz] at this)
  clear hgen HX HY p0 p1 p2 p3 q0 q1 q2 q3 hsz hbx HW
  go_loopw [7] (fun t wr => ∃ k : Nat, k ≤ 4 ∧ (∀ j, j < k → [cmpV a1 b1, cmpV a4 b4, cmpV ae be, cmpV al bl].getD j 0 = 0) ∧ t = .int .i64 k ∧ Below W2.heap.size W2 wr) (fun t _ => 4 - (intOf t).toNat)
  case atStart => exact ⟨0, by omega, fun j h => by omega, rfl, Below.refl _ _⟩
  case round =>
    obtain ⟨k, hk, hno, rfl, hbr⟩ := hrel
    have HN := Lib.hid hno
    clear hno
    have hbe := bel hbz hbr
    by_cases hlt : k < 4
    · have HX3 := HX2.out.step hbr
      have HY3 := HY2.out.step hbr
      have x1 := HX3.lt
      have y1 := HY3.lt
      have hcm := four_cmp a1 a4 ae al b1 b4 be bl k hlt
      have qa : ∀ d : Later wr, d.now.cell? ⟨w.heap.size + 1 + 1, k, none⟩ = some (.int .i64 ([a1, a4, ae, al].getD k 0)) := fun d => d.cell x1 ((HX3.cell k).trans (four_at _ _ _ _ k hlt))
      have qb : ∀ d : Later wr, d.now.cell? ⟨w.heap.size + 1 + 1 + 1, k, none⟩ = some (.int .i64 ([b1, b4, be, bl].getD k 0)) := fun d => d.cell y1 ((HY3.cell k).trans (four_at _ _ _ _ k hlt))
      have HCM := Lib.hid hcm
      clear hcm HX3 HY3
      generalize [a1, a4, ae, al].getD k 0 = u at *
      generalize [b1, b4, be, bl].getD k 0 = v at *
      have hi0 : (0 : Int) ≤ (k : Int) := by omega
      have hi4 : (k : Int) < 4 := by omega
      by_cases h1 : u < v
      · have HE : Hid (firstNZ [cmpV a1 b1, cmpV a4 b4, cmpV ae be, cmpV al bl] = -1) := Lib.hid (by
          have e : [cmpV a1 b1, cmpV a4 b4, cmpV ae be, cmpV al bl].getD k 0 = -1 := by rw [HCM.out]; unfold cmpV; rw [if_pos h1]
          rw [getD_in_ [cmpV a1 b1, cmpV a4 b4, cmpV ae be, cmpV al bl] k hlt] at e
          rw [firstNZ_at [cmpV a1 b1, cmpV a4 b4, cmpV ae be, cmpV al bl] k hlt HN.out (by rw [e]; decide), e])
        go_wp2_with fail
        refine wp_region_later (by kernel_rfl) (by kernel_rfl) ?_; (repeat (go_big_quiet_step ((fail)))); refine wpQuiet_nil ?_; rintro _ ⟨dq, rfl⟩
        have hbf := bel hbe dq.below
        go_wp2_with fail
        go_ret
        exact ⟨ret_int (by rw [HC.out, HE.out]), hbf⟩
      · by_cases h2 : v < u
        · have HE : Hid (firstNZ [cmpV a1 b1, cmpV a4 b4, cmpV ae be, cmpV al bl] = 1) := Lib.hid (by
            have e : [cmpV a1 b1, cmpV a4 b4, cmpV ae be, cmpV al bl].getD k 0 = 1 := by rw [HCM.out]; unfold cmpV; rw [if_neg h1, if_pos h2]
            rw [getD_in_ [cmpV a1 b1, cmpV a4 b4, cmpV ae be, cmpV al bl] k hlt] at e
            rw [firstNZ_at [cmpV a1 b1, cmpV a4 b4, cmpV ae be, cmpV al bl] k hlt HN.out (by rw [e]; decide), e])
          go_wp2_with fail
          refine wp_region_later (by kernel_rfl) (by kernel_rfl) ?_; (repeat (go_big_quiet_step ((fail)))); refine wpQuiet_nil ?_; rintro _ ⟨dq, rfl⟩
          have hbf := bel hbe dq.below
          replace qa : ∀ d : Later dq.now, d.now.cell? ⟨w.heap.size + 1 + 1, k, none⟩ = some (.int .i64 u) := fun d => qa ⟨d.now, bel dq.below d.below⟩
          replace qb : ∀ d : Later dq.now, d.now.cell? ⟨w.heap.size + 1 + 1 + 1, k, none⟩ = some (.int .i64 v) := fun d => qb ⟨d.now, bel dq.below d.below⟩
          go_wp2_with fail
          refine wp_region_later (by kernel_rfl) (by kernel_rfl) ?_; (repeat (go_big_quiet_step ((fail)))); refine wpQuiet_nil ?_; rintro _ ⟨dq, rfl⟩
          have hbg := bel hbf dq.below
          go_wp2_with fail
          go_ret
          exact ⟨ret_int (by rw [HC.out, HE.out]), hbg⟩
        · have H0 : Hid ([cmpV a1 b1, cmpV a4 b4, cmpV ae be, cmpV al bl].getD k 0 = 0) := Lib.hid (by rw [HCM.out]; unfold cmpV; rw [if_neg h1, if_neg h2])
          go_wp2_with fail
          refine wp_region_later (by kernel_rfl) (by kernel_rfl) ?_; (repeat (go_big_quiet_step ((fail)))); refine wpQuiet_nil ?_; rintro _ ⟨dq, rfl⟩
          have hbf := bel hbr dq.below
          replace qa : ∀ d : Later dq.now, d.now.cell? ⟨w.heap.size + 1 + 1, k, none⟩ = some (.int .i64 u) := fun d => qa ⟨d.now, bel dq.below d.below⟩
          replace qb : ∀ d : Later dq.now, d.now.cell? ⟨w.heap.size + 1 + 1 + 1, k, none⟩ = some (.int .i64 v) := fun d => qb ⟨d.now, bel dq.below d.below⟩
          go_wp2_with fail
          refine wp_region_later (by kernel_rfl) (by kernel_rfl) ?_; (repeat (go_big_quiet_step ((fail)))); refine wpQuiet_nil ?_; rintro _ ⟨dq, rfl⟩
          have hbg := bel hbf dq.below
          go_wp2_with fail
          go_roundw
          case rel => exact ⟨k + 1, by omega, upto_succ HN.out H0.out, by go_num, hbg⟩
          case measure => simp [intOf]; omega
    · have HE : Hid (firstNZ [cmpV a1 b1, cmpV a4 b4, cmpV ae be, cmpV al bl] = 0) := Lib.hid (firstNZ_none _ fun j hj => by
        have := HN.out j (by simp at hj; omega)
        rwa [getD_in_ _ _ hj] at this)
      go_wp2_with fail
      go_ret
      exact ⟨ret_int (by rw [HC.out, HE.out]), hbe⟩
set_option maxHeartbeats 1000000 in
theorem bequal_any (m n : List Bal) (A B : Option Addr) (c1 c2 : Nat) (w : World) (hr : Rd w w.heap.size 2 A m.length (cellsOf Bal.cells m)) (hq : Rd w w.heap.size 2 B n.length (cellsOf Bal.cells n)) (hn : m.length ≤ 2000000) (hn2 : n.length ≤ 2000000) :
    Calls Try.prog 22 #[.slice A m.length c1, .slice B n.length c2] w (BoolPost (decide (m = n)) w) := by
  have hb := Below.refl w.heap.size w
  have HR := Lib.hid hr
  have HQ := Lib.hid hq
  clear hr hq
  cases hl : ((m.length : Int) != (n.length : Int))
  · have HL : Hid (m.length = n.length) := Lib.hid (by simp at hl; omega)
    go_enter Try.func22, Try.ntmps22
    go_wp2_with fail
    go_loopw [5, 13] (fun _ t wr => ∃ k : Nat, k ≤ m.length ∧ (∀ j (h : j < k) (h1 : j < m.length) (h2 : j < n.length), m[j]'h1 = n[j]'h2) ∧ t = .int .i64 k ∧ Below w.heap.size w wr) (fun _ t _ => m.length - (intOf t).toNat)
    case atStart => exact ⟨0, by omega, fun j h => by omega, rfl, hb⟩
    case round =>
      clear hb
      obtain ⟨k, hk, hno, rfl, hb⟩ := hrel
      have HN := Lib.hid hno
      clear hno
      by_cases hlt : k < m.length
      · have hlt2 : k < n.length := by have := HL.out; omega
        obtain ⟨x, o, hA, hbo, f0, f1⟩ := Bal.at_ (Rd.now HR.out hb) hlt
        obtain ⟨y, p, hB, hbp, g0, g1⟩ := Bal.at_ (Rd.now HQ.out hb) hlt2
        subst hA hB
        have q0 : ∀ d : Later wr, d.now.cell? ⟨x, o + k * 2, none⟩ = some (.int .i64 m[k].account) := fun d => d.cell hbo f0
        have q1 : ∀ d : Later wr, d.now.cell? ⟨x, o + k * 2 + 1, none⟩ = some (.int .i64 m[k].amount) := fun d => d.cell hbo f1
        have q2 : ∀ d : Later wr, d.now.cell? ⟨y, p + k * 2, none⟩ = some (.int .i64 n[k].account) := fun d => d.cell hbp g0
        have q3 : ∀ d : Later wr, d.now.cell? ⟨y, p + k * 2 + 1, none⟩ = some (.int .i64 n[k].amount) := fun d => d.cell hbp g1
        clear f0 f1 g0 g1
        rcases bal_cases m[k] n[k] with hc | ⟨hc1, hc2⟩ | ⟨hc1, hc2, hc3⟩
        · have HC := Lib.hid hc
          rw [hc] at q0 q1
          clear hc
          go_wp2_with fail
          refine wp_region_later (by kernel_rfl) (by kernel_rfl) ?_; (repeat (go_big_quiet_step ((fail)))); refine wpQuiet_nil ?_; rintro _ ⟨dq, rfl⟩
          have hbe := bel hb dq.below
          go_wp2_with fail
          go_roundw
          case rel =>
            refine ⟨k + 1, by omega, fun j h h1 h2 => ?_, by go_num, hbe⟩
            by_cases hj : j = k
            · subst hj; exact HC.out
            · exact HN.out j (by omega) h1 h2
          case measure => simp [intOf]; omega
        · have HE : Hid (¬ m = n) := Lib.hid (fun e => hc2 (by subst e; rfl))
          clear hc2
          go_wp2_with fail
          refine wp_region_later (by kernel_rfl) (by kernel_rfl) ?_; (repeat (go_big_quiet_step ((fail)))); refine wpQuiet_nil ?_; rintro _ ⟨dq, rfl⟩
          have hbe := bel hb dq.below
          go_wp2_with fail
          go_ret
          exact ⟨ret_bool (by simp [HE.out]), hbe⟩
        · have HE : Hid (¬ m = n) := Lib.hid (fun e => hc3 (by subst e; rfl))
          clear hc3
          go_wp2_with fail
          refine wp_region_later (by kernel_rfl) (by kernel_rfl) ?_; (repeat (go_big_quiet_step ((fail)))); refine wpQuiet_nil ?_; rintro _ ⟨dq, rfl⟩
          have hbe := bel hb dq.below
          go_wp2_with fail
          go_ret
          exact ⟨ret_bool (by simp [HE.out]), hbe⟩
      · have HE : Hid (m = n) := Lib.hid (List.ext_getElem HL.out (fun j h1 h2 => HN.out j (by omega) h1 h2))
        go_wp2_with fail
        go_ret
        exact ⟨ret_bool (by simp [HE.out]), hb⟩
  · have HE : Hid (¬ m = n) := Lib.hid (fun e => by subst e; simp at hl)
    go_enter Try.func22, Try.ntmps22
    go_wp2_with fail
    go_ret
    exact ⟨ret_bool (by simp [HE.out]), hb⟩
end Go.Proofs.Ytkfbchgabmffoaa
