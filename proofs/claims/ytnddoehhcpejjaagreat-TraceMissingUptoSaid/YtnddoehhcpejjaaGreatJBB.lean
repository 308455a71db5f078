/- Texts of this claim, put together. -/
import Derived.Test.YtnddoehhcpejjaaGreatJBA
import Derived.Test.YtnddoehhcpejjaaGreatJAD
import Derived.Test.YtnddoehhcpejjaaGreatJAK
import Derived.Maps.OwnSet
/- The walks of SameParts, small and awake. -/
namespace Go.Proofs.YtnddoehhcpejjaaGreat
set_option linter.unusedVariables false
set_option linter.unusedSimpArgs false
open Go.RowKit

def sample : List Bal := [⟨3000, 5⟩, ⟨1000, 2⟩, ⟨3000, -5⟩, ⟨2000, -2⟩]
def sampleL : List Bal := [⟨1000, 2⟩, ⟨2000, -2⟩]
theorem sample_of (c : Int) : ofW sample c = if c = 1000 then 2 else if c = 2000 then -2 else 0 := by
  rw [ofW_eq' (M := 10) sample c (by unfold within sample; decide) (by decide) (by decide)]
  unfold ofV sample
  by_cases h1 : c = 1000
  · subst h1; decide
  by_cases h2 : c = 2000
  · subst h2; decide
  by_cases h3 : c = 3000
  · subst h3; decide
  rw [if_neg h1, if_neg h2]
  simp only [sm_cons, sm_nil]
  rw [if_neg (fun e => h3 e.symm), if_neg (fun e => h1 e.symm), if_neg (fun e => h3 e.symm), if_neg (fun e => h2 e.symm)]
  rfl
theorem sample_is : IsC (ofW sample) sampleL := by
  refine ⟨by decide, fun x => ?_⟩
  rw [sample_of]
  obtain ⟨a, n⟩ := x
  simp only [sampleL, List.mem_cons, List.not_mem_nil, or_false, Bal.mk.injEq]
  by_cases h1 : a = 1000
  · subst h1; simp; omega
  by_cases h2 : a = 2000
  · subst h2; simp; omega
  simp [h1, h2]
  omega
theorem sample_am (c : Int) : amV (ofW sample c) = true := by
  rw [sample_of]
  by_cases h1 : c = 1000
  · rw [if_pos h1]; decide
  by_cases h2 : c = 2000
  · rw [if_neg h1, if_pos h2]; decide
  · rw [if_neg h1, if_neg h2]; decide
theorem sample_wf : ∀ x ∈ sample, (Lit.int .i64 x.account).wf = true := by unfold sample; decide
end Go.Proofs.YtnddoehhcpejjaaGreat
/- The walks of Or, slices.Equal, posting.Compare and posting.Equal. -/
namespace Go.Proofs.YtnddoehhcpejjaaGreat
set_option linter.unusedVariables false
set_option linter.unusedSimpArgs false
open Go.RowKit

theorem or_any (l : List Int) (A : Option Addr) (cap : Nat) (w : World) (hr : Rd w w.heap.size 1 A l.length (intCells l)) (hn : l.length ≤ 1000000) :
    Calls Tryz.prog 34 #[.slice A l.length cap] w (fun e w' => e = .returned (.int .i64 (firstNZ l)) ∧ w = w') := by
  have HR := Lib.hid hr
  clear hr
  go_enter Tryz.func34, Tryz.ntmps34
  go_wp2_with fail
  go_loopw [5, 8] (fun _ t wr => ∃ k : Nat, k ≤ l.length ∧ (∀ j, j < k → l.getD j 0 = 0) ∧ t = .int .i64 k ∧ w = wr) (fun _ t _ => l.length - (intOf t).toNat)
  case atStart => exact ⟨0, by omega, fun j h => by omega, rfl, rfl⟩
  case round =>
    obtain ⟨k, hk, hno, rfl, rfl⟩ := hrel
    have HN := Lib.hid hno
    clear hno
    by_cases hlt : k < l.length
    · obtain ⟨b, o, hA, hbo, f0⟩ := int_at HR.out hlt
      subst hA
      by_cases h0 : l[k] = 0
      · have hd : (l[k] != 0) = false := by simp [h0]
        have H0 : Hid (l.getD k 0 = 0) := Lib.hid (by rw [getD_in_ l k hlt]; exact h0)
        clear h0
        go_wp2_with fail
        go_roundw
        case rel => exact ⟨k + 1, by omega, upto_succ HN.out H0.out, by go_num, trivial⟩
        case measure => simp [intOf]; omega
      · have hd : (l[k] != 0) = true := by simp [h0]
        have HE : Hid (firstNZ l = l[k]) := Lib.hid (firstNZ_at l k hlt HN.out h0)
        clear h0
        go_wp2_with fail
        go_ret
        exact ⟨ret_int HE.out.symm, rfl⟩
    · have HE : Hid (firstNZ l = 0) := Lib.hid (firstNZ_none _ fun j hj => by
        have := HN.out j (by omega)
        rwa [getD_in_ _ _ hj] at this)
      go_wp2_with fail
      go_ret
      exact ⟨ret_int HE.out.symm, rfl⟩
theorem bal_cases (s t : Bal) : s = t ∨ ((s.account == t.account) = false ∧ s ≠ t) ∨ ((s.account == t.account) = true ∧ (s.amount == t.amount) = false ∧ s ≠ t) := by
  by_cases h1 : s.account = t.account
  · by_cases h2 : s.amount = t.amount
    · refine .inl ?_
      cases s; cases t; simp at h1 h2 ⊢; exact ⟨h1, h2⟩
    · exact .inr (.inr ⟨by simpa using h1, by simpa using h2, fun e => h2 (by rw [e])⟩)
  · exact .inr (.inl ⟨by simpa using h1, fun e => h1 (by rw [e])⟩)
end Go.Proofs.YtnddoehhcpejjaaGreat
/- The walks of posting.Compare and posting.Equal. -/
namespace Go.Proofs.YtnddoehhcpejjaaGreat
set_option linter.unusedVariables false
set_option linter.unusedSimpArgs false
open Go.RowKit

theorem compare_bel (a b : Int) (w : World) : Calls Tryz.prog 35 #[.int .i64 a, .int .i64 b] w (fun e w' => e = .returned (.int .i64 (cmpV a b)) ∧ Below w.heap.size w w') :=
  (compare_any a b w).mono fun e w' h => ⟨h.1, h.2 ▸ Below.refl _ _⟩
theorem or_bel (l : List Int) (A : Option Addr) (cap : Nat) (w : World) (hr : Rd w w.heap.size 1 A l.length (intCells l)) (hn : l.length ≤ 1000000) :
    Calls Tryz.prog 34 #[.slice A l.length cap] w (fun e w' => e = .returned (.int .i64 (firstNZ l)) ∧ Below w.heap.size w w') :=
  (or_any l A cap w hr hn).mono fun e w' h => ⟨h.1, h.2 ▸ Below.refl _ _⟩
end Go.Proofs.YtnddoehhcpejjaaGreat
/- The walks of Compare of items, of Equal of balances. -/
namespace Go.Proofs.YtnddoehhcpejjaaGreat
set_option linter.unusedVariables false
set_option linter.unusedSimpArgs false
open Go.RowKit

set_option maxRecDepth 100000 in
set_option maxHeartbeats 2000000 in
theorem icompare_any (a b : ItemR) (w : World) :
    Calls Tryz.prog 20 #[.agg #[.int .i64 a.ref.entry, .int .i64 a.ref.line, .int .i64 a.entity, .int .i64 a.account, .int .i64 a.partner, .int .i64 a.date, .int .i64 a.amount], .agg #[.int .i64 b.ref.entry, .int .i64 b.ref.line, .int .i64 b.entity, .int .i64 b.account, .int .i64 b.partner, .int .i64 b.date, .int .i64 b.amount]] w
      (fun e w' => e = .returned (.int .i64 (cmpI a b)) ∧ Below w.heap.size w w') := by
  have hb := Below.refl w.heap.size w
  obtain ⟨⟨ae, al⟩, a1, a2, a3, a4, a5⟩ := a
  obtain ⟨⟨be, bl⟩, b1, b2, b3, b4, b5⟩ := b
  dsimp only
  have HC : Hid (cmpI ⟨⟨ae, al⟩, a1, a2, a3, a4, a5⟩ ⟨⟨be, bl⟩, b1, b2, b3, b4, b5⟩ = firstNZ [cmpV a1 b1, cmpV a4 b4, cmpV ae be, cmpV al bl]) := Lib.hid rfl
  have hbx : Below w.heap.size w ((w.alloc (.cells #[.int .i64 ae, .int .i64 al, .int .i64 a1, .int .i64 a2, .int .i64 a3, .int .i64 a4, .int .i64 a5] 55)).alloc (.cells #[.int .i64 be, .int .i64 bl, .int .i64 b1, .int .i64 b2, .int .i64 b3, .int .i64 b4, .int .i64 b5] 55)) := (by repeat (first | exact hb | refine Below.alloc ?_ (by have hbs := hb.size; first | omega | (simp; done) | (simp; omega)) _ | refine Below.drew ?_ | refine below_drewN_ ?_ _ | refine Below.setCell ?_ (by simp) _))
  have hA := (Blk.new w 55 #[.int .i64 ae, .int .i64 al, .int .i64 a1, .int .i64 a2, .int .i64 a3, .int .i64 a4, .int .i64 a5]).alloc (.cells #[.int .i64 be, .int .i64 bl, .int .i64 b1, .int .i64 b2, .int .i64 b3, .int .i64 b4, .int .i64 b5] 55)
  have hB := Blk.new (w.alloc (.cells #[.int .i64 ae, .int .i64 al, .int .i64 a1, .int .i64 a2, .int .i64 a3, .int .i64 a4, .int .i64 a5] 55)) 55 #[.int .i64 be, .int .i64 bl, .int .i64 b1, .int .i64 b2, .int .i64 b3, .int .i64 b4, .int .i64 b5]
  have e1 : (w.alloc (.cells #[.int .i64 ae, .int .i64 al, .int .i64 a1, .int .i64 a2, .int .i64 a3, .int .i64 a4, .int .i64 a5] 55)).heap.size = w.heap.size + 1 := by simp
  rw [e1] at hB
  clear e1
  obtain ⟨W, hW⟩ : ∃ W, W = ((w.alloc (.cells #[.int .i64 ae, .int .i64 al, .int .i64 a1, .int .i64 a2, .int .i64 a3, .int .i64 a4, .int .i64 a5] 55)).alloc (.cells #[.int .i64 be, .int .i64 bl, .int .i64 b1, .int .i64 b2, .int .i64 b3, .int .i64 b4, .int .i64 b5] 55)) := ⟨_, rfl⟩
  have HW := Lib.hid hW
  rw [← hW] at hA hB hbx
  have hsz : W.heap.size = w.heap.size + 2 := by rw [hW]; simp
  clear hW
  have hla := hA.lt
  have hlb := hB.lt
  clear hsz
  have p0 : ∀ d : Later W, d.now.cell? ⟨w.heap.size, 0, none⟩ = some (.int .i64 ae) := fun d => d.cell hla (hA.cell 0)
  have p1 : ∀ d : Later W, d.now.cell? ⟨w.heap.size, 1, none⟩ = some (.int .i64 al) := fun d => d.cell hla (hA.cell 1)
  have p2 : ∀ d : Later W, d.now.cell? ⟨w.heap.size, 2, none⟩ = some (.int .i64 a1) := fun d => d.cell hla (hA.cell 2)
  have p3 : ∀ d : Later W, d.now.cell? ⟨w.heap.size, 5, none⟩ = some (.int .i64 a4) := fun d => d.cell hla (hA.cell 5)
  have q0 : ∀ d : Later W, d.now.cell? ⟨w.heap.size + 1, 0, none⟩ = some (.int .i64 be) := fun d => d.cell hlb (hB.cell 0)
  have q1 : ∀ d : Later W, d.now.cell? ⟨w.heap.size + 1, 1, none⟩ = some (.int .i64 bl) := fun d => d.cell hlb (hB.cell 1)
  have q2 : ∀ d : Later W, d.now.cell? ⟨w.heap.size + 1, 2, none⟩ = some (.int .i64 b1) := fun d => d.cell hlb (hB.cell 2)
  have q3 : ∀ d : Later W, d.now.cell? ⟨w.heap.size + 1, 5, none⟩ = some (.int .i64 b4) := fun d => d.cell hlb (hB.cell 5)
  clear hA hB hb hla hlb
  go_enter Tryz.func20, Tryz.ntmps20
  go_wp2_with fail
  rw [← HW.out]
  refine rel_begin (n := 27) (W) (by kernel_rfl) rfl ?_; have hC := Near.drew (W)
  (first | (refine rel_want (i := 0) rfl rfl (by kernel_rfl) (by kernel_rfl) (by kernel_rfl) rfl (fun _ _ _ _ h => h) hC ?_; intro K hK; go_big_quiet_op; go_big_quiet_on) | (refine rel_skip (i := 0) rfl (by kernel_rfl) (by kernel_rfl) (by kernel_rfl) rfl (fun _ _ _ _ h => h) hC ?_; simp only [Act.put, List.setIfInBounds_toArray, List.set_cons_zero, List.set_cons_succ])); (first | (refine rel_want (i := 1) rfl rfl (by kernel_rfl) (by kernel_rfl) (by kernel_rfl) rfl (fun _ _ _ _ h => h) hC ?_; intro K hK; go_big_quiet_op; go_big_quiet_on) | (refine rel_skip (i := 1) rfl (by kernel_rfl) (by kernel_rfl) (by kernel_rfl) rfl (fun _ _ _ _ h => h) hC ?_; simp only [Act.put, List.setIfInBounds_toArray, List.set_cons_zero, List.set_cons_succ])); (first | (refine rel_want (i := 2) rfl rfl (by kernel_rfl) (by kernel_rfl) (by kernel_rfl) rfl (fun _ _ _ _ h => h) hC ?_; intro K hK; go_big_quiet_op; go_big_quiet_on) | (refine rel_skip (i := 2) rfl (by kernel_rfl) (by kernel_rfl) (by kernel_rfl) rfl (fun _ _ _ _ h => h) hC ?_; simp only [Act.put, List.setIfInBounds_toArray, List.set_cons_zero, List.set_cons_succ])); (first | (refine rel_want (i := 3) rfl rfl (by kernel_rfl) (by kernel_rfl) (by kernel_rfl) rfl (fun _ _ _ _ h => h) hC ?_; intro K hK; go_big_quiet_op; go_big_quiet_on) | (refine rel_skip (i := 3) rfl (by kernel_rfl) (by kernel_rfl) (by kernel_rfl) rfl (fun _ _ _ _ h => h) hC ?_; simp only [Act.put, List.setIfInBounds_toArray, List.set_cons_zero, List.set_cons_succ])); (first | (refine rel_want (i := 5) rfl rfl (by kernel_rfl) (by kernel_rfl) (by kernel_rfl) rfl (fun _ _ _ _ h => h) hC ?_; intro K hK; go_big_quiet_op; go_big_quiet_on) | (refine rel_skip (i := 5) rfl (by kernel_rfl) (by kernel_rfl) (by kernel_rfl) rfl (fun _ _ _ _ h => h) hC ?_; simp only [Act.put, List.setIfInBounds_toArray, List.set_cons_zero, List.set_cons_succ])); (first | (refine rel_want (i := 6) rfl rfl (by kernel_rfl) (by kernel_rfl) (by kernel_rfl) rfl (fun _ _ _ _ h => h) hC ?_; intro K hK; go_big_quiet_op; go_big_quiet_on) | (refine rel_skip (i := 6) rfl (by kernel_rfl) (by kernel_rfl) (by kernel_rfl) rfl (fun _ _ _ _ h => h) hC ?_; simp only [Act.put, List.setIfInBounds_toArray, List.set_cons_zero, List.set_cons_succ])); (first | (refine rel_want (i := 7) rfl rfl (by kernel_rfl) (by kernel_rfl) (by kernel_rfl) rfl (fun _ _ _ _ h => h) hC ?_; intro K hK; go_big_quiet_op; go_big_quiet_on) | (refine rel_skip (i := 7) rfl (by kernel_rfl) (by kernel_rfl) (by kernel_rfl) rfl (fun _ _ _ _ h => h) hC ?_; simp only [Act.put, List.setIfInBounds_toArray, List.set_cons_zero, List.set_cons_succ])); (first | (refine rel_want (i := 8) rfl rfl (by kernel_rfl) (by kernel_rfl) (by kernel_rfl) rfl (fun _ _ _ _ h => h) hC ?_; intro K hK; go_big_quiet_op; go_big_quiet_on) | (refine rel_skip (i := 8) rfl (by kernel_rfl) (by kernel_rfl) (by kernel_rfl) rfl (fun _ _ _ _ h => h) hC ?_; simp only [Act.put, List.setIfInBounds_toArray, List.set_cons_zero, List.set_cons_succ])); (first | (refine rel_want (i := 10) rfl rfl (by kernel_rfl) (by kernel_rfl) (by kernel_rfl) rfl (fun _ _ _ _ h => h) hC ?_; intro K hK; go_big_quiet_op; go_big_quiet_on) | (refine rel_skip (i := 10) rfl (by kernel_rfl) (by kernel_rfl) (by kernel_rfl) rfl (fun _ _ _ _ h => h) hC ?_; simp only [Act.put, List.setIfInBounds_toArray, List.set_cons_zero, List.set_cons_succ])); (first | (refine rel_want (i := 11) rfl rfl (by kernel_rfl) (by kernel_rfl) (by kernel_rfl) rfl (fun _ _ _ _ h => h) hC ?_; intro K hK; go_big_quiet_op; go_big_quiet_on) | (refine rel_skip (i := 11) rfl (by kernel_rfl) (by kernel_rfl) (by kernel_rfl) rfl (fun _ _ _ _ h => h) hC ?_; simp only [Act.put, List.setIfInBounds_toArray, List.set_cons_zero, List.set_cons_succ])); (first | (refine rel_want (i := 12) rfl rfl (by kernel_rfl) (by kernel_rfl) (by kernel_rfl) rfl (fun _ _ _ _ h => h) hC ?_; intro K hK; go_big_quiet_op; go_big_quiet_on) | (refine rel_skip (i := 12) rfl (by kernel_rfl) (by kernel_rfl) (by kernel_rfl) rfl (fun _ _ _ _ h => h) hC ?_; simp only [Act.put, List.setIfInBounds_toArray, List.set_cons_zero, List.set_cons_succ])); (first | (refine rel_want (i := 13) rfl rfl (by kernel_rfl) (by kernel_rfl) (by kernel_rfl) rfl (fun _ _ _ _ h => h) hC ?_; intro K hK; go_big_quiet_op; go_big_quiet_on) | (refine rel_skip (i := 13) rfl (by kernel_rfl) (by kernel_rfl) (by kernel_rfl) rfl (fun _ _ _ _ h => h) hC ?_; simp only [Act.put, List.setIfInBounds_toArray, List.set_cons_zero, List.set_cons_succ])); (first | (refine rel_want (i := 14) rfl rfl (by kernel_rfl) (by kernel_rfl) (by kernel_rfl) rfl (fun _ _ _ _ h => h) hC ?_; intro K hK; go_big_quiet_op; go_big_quiet_on) | (refine rel_skip (i := 14) rfl (by kernel_rfl) (by kernel_rfl) (by kernel_rfl) rfl (fun _ _ _ _ h => h) hC ?_; simp only [Act.put, List.setIfInBounds_toArray, List.set_cons_zero, List.set_cons_succ])); (first | (refine rel_want (i := 15) rfl rfl (by kernel_rfl) (by kernel_rfl) (by kernel_rfl) rfl (fun _ _ _ _ h => h) hC ?_; intro K hK; go_big_quiet_op; go_big_quiet_on) | (refine rel_skip (i := 15) rfl (by kernel_rfl) (by kernel_rfl) (by kernel_rfl) rfl (fun _ _ _ _ h => h) hC ?_; simp only [Act.put, List.setIfInBounds_toArray, List.set_cons_zero, List.set_cons_succ])); (first | (refine rel_want (i := 17) rfl rfl (by kernel_rfl) (by kernel_rfl) (by kernel_rfl) rfl (fun _ _ _ _ h => h) hC ?_; intro K hK; go_big_quiet_op; go_big_quiet_on) | (refine rel_skip (i := 17) rfl (by kernel_rfl) (by kernel_rfl) (by kernel_rfl) rfl (fun _ _ _ _ h => h) hC ?_; simp only [Act.put, List.setIfInBounds_toArray, List.set_cons_zero, List.set_cons_succ])); (first | (refine rel_want (i := 18) rfl rfl (by kernel_rfl) (by kernel_rfl) (by kernel_rfl) rfl (fun _ _ _ _ h => h) hC ?_; intro K hK; go_big_quiet_op; go_big_quiet_on) | (refine rel_skip (i := 18) rfl (by kernel_rfl) (by kernel_rfl) (by kernel_rfl) rfl (fun _ _ _ _ h => h) hC ?_; simp only [Act.put, List.setIfInBounds_toArray, List.set_cons_zero, List.set_cons_succ])); (first | (refine rel_want (i := 19) rfl rfl (by kernel_rfl) (by kernel_rfl) (by kernel_rfl) rfl (fun _ _ _ _ h => h) hC ?_; intro K hK; go_big_quiet_op; go_big_quiet_on) | (refine rel_skip (i := 19) rfl (by kernel_rfl) (by kernel_rfl) (by kernel_rfl) rfl (fun _ _ _ _ h => h) hC ?_; simp only [Act.put, List.setIfInBounds_toArray, List.set_cons_zero, List.set_cons_succ])); (first | (refine rel_want (i := 20) rfl rfl (by kernel_rfl) (by kernel_rfl) (by kernel_rfl) rfl (fun _ _ _ _ h => h) hC ?_; intro K hK; go_big_quiet_op; go_big_quiet_on) | (refine rel_skip (i := 20) rfl (by kernel_rfl) (by kernel_rfl) (by kernel_rfl) rfl (fun _ _ _ _ h => h) hC ?_; simp only [Act.put, List.setIfInBounds_toArray, List.set_cons_zero, List.set_cons_succ])); (first | (refine rel_want (i := 21) rfl rfl (by kernel_rfl) (by kernel_rfl) (by kernel_rfl) rfl (fun _ _ _ _ h => h) hC ?_; intro K hK; go_big_quiet_op; go_big_quiet_on) | (refine rel_skip (i := 21) rfl (by kernel_rfl) (by kernel_rfl) (by kernel_rfl) rfl (fun _ _ _ _ h => h) hC ?_; simp only [Act.put, List.setIfInBounds_toArray, List.set_cons_zero, List.set_cons_succ])); (first | (refine rel_want (i := 22) rfl rfl (by kernel_rfl) (by kernel_rfl) (by kernel_rfl) rfl (fun _ _ _ _ h => h) hC ?_; intro K hK; go_big_quiet_op; go_big_quiet_on) | (refine rel_skip (i := 22) rfl (by kernel_rfl) (by kernel_rfl) (by kernel_rfl) rfl (fun _ _ _ _ h => h) hC ?_; simp only [Act.put, List.setIfInBounds_toArray, List.set_cons_zero, List.set_cons_succ]))
  refine rel_call (i := 4) (by kernel_rfl) rfl rfl ?_; intro K hK; go_simp; go_at_call 35; refine (compare_bel _ _ _).mono ?_; rintro e w2 ⟨rfl, hb2⟩; (try go_wp2_with fail); replace hC := hC.on hb2; refine hK _ _ hC (fun _ => ?_); clear hK K; (try simp only [Act.put, List.setIfInBounds_toArray, List.set_cons_zero, List.set_cons_succ])
  refine rel_call (i := 9) (by kernel_rfl) rfl rfl ?_; intro K hK; go_simp; go_at_call 35; refine (compare_bel _ _ _).mono ?_; rintro e w2 ⟨rfl, hb2⟩; (try go_wp2_with fail); replace hC := hC.on hb2; refine hK _ _ hC (fun _ => ?_); clear hK K; (try simp only [Act.put, List.setIfInBounds_toArray, List.set_cons_zero, List.set_cons_succ])
  refine rel_call (i := 16) (by kernel_rfl) rfl rfl ?_; intro K hK; go_simp; go_at_call 35; refine (compare_bel _ _ _).mono ?_; rintro e w2 ⟨rfl, hb2⟩; (try go_wp2_with fail); replace hC := hC.on hb2; refine hK _ _ hC (fun _ => ?_); clear hK K; (try simp only [Act.put, List.setIfInBounds_toArray, List.set_cons_zero, List.set_cons_succ])
  refine rel_call (i := 23) (by kernel_rfl) rfl rfl ?_; intro K hK; go_simp; go_at_call 35; refine (compare_bel _ _ _).mono ?_; rintro e w2 ⟨rfl, hb2⟩; (try go_wp2_with fail); replace hC := hC.on hb2; refine hK _ _ hC (fun _ => ?_); clear hK K; (try simp only [Act.put, List.setIfInBounds_toArray, List.set_cons_zero, List.set_cons_succ])
  refine rel_call (i := 24) (by kernel_rfl) rfl rfl ?_; intro K hK; go_simp; have hC2 := hC.below; refine hK _ _ (Near.of (by repeat (first | exact hC2 | refine Below.alloc ?_ (by have hbs := hC2.size; first | omega | (simp; done) | (simp at hbs ⊢; omega)) _ | refine Below.drew ?_ | refine below_drewN_ ?_ _))) ?_; clear hK K hC hC2; intro hC; (try simp only [Act.put, List.setIfInBounds_toArray, List.set_cons_zero, List.set_cons_succ])
  refine rel_call (i := 25) (by kernel_rfl) rfl rfl ?_; intro K hK; go_simp; go_at_call 34; refine (or_bel [cmpV a1 b1, cmpV a4 b4, cmpV ae be, cmpV al bl] _ 4 _ (Rd.of_blk (Blk.new _ 3 _) rfl rfl) (by simp)).mono ?_; rintro e w2 ⟨rfl, hb2⟩; (try go_wp2_with fail); replace hC := hC.on hb2; refine hK _ _ hC (fun _ => ?_); clear hK K; (try simp only [Act.put, List.setIfInBounds_toArray, List.set_cons_zero, List.set_cons_succ])
  (first | (refine rel_want (i := 26) rfl rfl (by kernel_rfl) (by kernel_rfl) (by kernel_rfl) rfl (fun _ _ _ _ h => h) hC ?_; intro K hK; go_big_quiet_op; go_big_quiet_on) | (refine rel_skip (i := 26) rfl (by kernel_rfl) (by kernel_rfl) (by kernel_rfl) rfl (fun _ _ _ _ h => h) hC ?_; simp only [Act.put, List.setIfInBounds_toArray, List.set_cons_zero, List.set_cons_succ]))
  refine wpAnyH_done (by kernel_rfl) ?_ _
  have hbe := bel hbx hC.below
  go_wp2_with fail
  go_ret
  exact ⟨ret_int HC.out.symm, hbe⟩
theorem four_at (a0 a1 a2 a3 : Int) (k : Nat) (hk : k < 4) : (#[.int .i64 a0, .int .i64 a1, .int .i64 a2, .int .i64 a3] : Array Value)[k]? = some (.int .i64 ([a0, a1, a2, a3].getD k 0)) := by
  rcases k with _ | _ | _ | _ | k
  · rfl
  · rfl
  · rfl
  · rfl
  · omega
theorem four_cmp (a0 a1 a2 a3 b0 b1 b2 b3 : Int) (k : Nat) (hk : k < 4) : [cmpV a0 b0, cmpV a1 b1, cmpV a2 b2, cmpV a3 b3].getD k 0 = cmpV ([a0, a1, a2, a3].getD k 0) ([b0, b1, b2, b3].getD k 0) := by
  rcases k with _ | _ | _ | _ | k
  · rfl
  · rfl
  · rfl
  · rfl
  · omega
set_option maxHeartbeats 1000000 in
theorem bequal_any (m n : List Bal) (A B : Option Addr) (c1 c2 : Nat) (w : World) (hr : Rd w w.heap.size 2 A m.length (cellsOf Bal.cells m)) (hq : Rd w w.heap.size 2 B n.length (cellsOf Bal.cells n)) (hn : m.length ≤ 2000000) (hn2 : n.length ≤ 2000000) :
    Calls Tryz.prog 22 #[.slice A m.length c1, .slice B n.length c2] w (BoolPost (decide (m = n)) w) := by
  have hb := Below.refl w.heap.size w
  have HR := Lib.hid hr
  have HQ := Lib.hid hq
  clear hr hq
  cases hl : ((m.length : Int) != (n.length : Int))
  · have HL : Hid (m.length = n.length) := Lib.hid (by simp at hl; omega)
    go_enter Tryz.func22, Tryz.ntmps22
    go_wp2_with fail
    go_loopw [5, 13] (fun _ t wr => ∃ k : Nat, k ≤ m.length ∧ (∀ j (h : j < k) (h1 : j < m.length) (h2 : j < n.length), m[j]'h1 = n[j]'h2) ∧ t = .int .i64 k ∧ Below w.heap.size w wr) (fun _ t _ => m.length - (intOf t).toNat)
    case atStart => exact ⟨0, by omega, fun j h => by omega, rfl, hb⟩
    case round =>
      clear hb
      obtain ⟨k, hk, hno, rfl, hb⟩ := hrel
      have HN := Lib.hid hno
      clear hno
      by_cases hlt : k < m.length
      · have hlt2 : k < n.length := by have := HL.out; omega
        obtain ⟨x, o, hA, hbo, f0, f1⟩ := Bal.at_ (Rd.now HR.out hb) hlt
        obtain ⟨y, p, hB, hbp, g0, g1⟩ := Bal.at_ (Rd.now HQ.out hb) hlt2
        subst hA hB
        have q0 : ∀ d : Later wr, d.now.cell? ⟨x, o + k * 2, none⟩ = some (.int .i64 m[k].account) := fun d => d.cell hbo f0
        have q1 : ∀ d : Later wr, d.now.cell? ⟨x, o + k * 2 + 1, none⟩ = some (.int .i64 m[k].amount) := fun d => d.cell hbo f1
        have q2 : ∀ d : Later wr, d.now.cell? ⟨y, p + k * 2, none⟩ = some (.int .i64 n[k].account) := fun d => d.cell hbp g0
        have q3 : ∀ d : Later wr, d.now.cell? ⟨y, p + k * 2 + 1, none⟩ = some (.int .i64 n[k].amount) := fun d => d.cell hbp g1
        clear f0 f1 g0 g1
        rcases bal_cases m[k] n[k] with hc | ⟨hc1, hc2⟩ | ⟨hc1, hc2, hc3⟩
        · have HC := Lib.hid hc
          rw [hc] at q0 q1
          clear hc
          go_wp2_with fail
          refine wp_region_later (by kernel_rfl) (by kernel_rfl) ?_; (repeat (go_big_quiet_step ((fail)))); refine wpQuiet_nil ?_; rintro _ ⟨dq, rfl⟩
          have hbe := bel hb dq.below
          go_wp2_with fail
          go_roundw
          case rel =>
            refine ⟨k + 1, by omega, fun j h h1 h2 => ?_, by go_num, hbe⟩
            by_cases hj : j = k
            · subst hj; exact HC.out
            · exact HN.out j (by omega) h1 h2
          case measure => simp [intOf]; omega
        · have HE : Hid (¬ m = n) := Lib.hid (fun e => hc2 (by subst e; rfl))
          clear hc2
          go_wp2_with fail
          refine wp_region_later (by kernel_rfl) (by kernel_rfl) ?_; (repeat (go_big_quiet_step ((fail)))); refine wpQuiet_nil ?_; rintro _ ⟨dq, rfl⟩
          have hbe := bel hb dq.below
          go_wp2_with fail
          go_ret
          exact ⟨ret_bool (by simp [HE.out]), hbe⟩
        · have HE : Hid (¬ m = n) := Lib.hid (fun e => hc3 (by subst e; rfl))
          clear hc3
          go_wp2_with fail
          refine wp_region_later (by kernel_rfl) (by kernel_rfl) ?_; (repeat (go_big_quiet_step ((fail)))); refine wpQuiet_nil ?_; rintro _ ⟨dq, rfl⟩
          have hbe := bel hb dq.below
          go_wp2_with fail
          go_ret
          exact ⟨ret_bool (by simp [HE.out]), hbe⟩
      · have HE : Hid (m = n) := Lib.hid (List.ext_getElem HL.out (fun j h1 h2 => HN.out j (by omega) h1 h2))
        go_wp2_with fail
        go_ret
        exact ⟨ret_bool (by simp [HE.out]), hb⟩
  · have HE : Hid (¬ m = n) := Lib.hid (fun e => by subst e; simp at hl)
    go_enter Tryz.func22, Tryz.ntmps22
    go_wp2_with fail
    go_ret
    exact ⟨ret_bool (by simp [HE.out]), hb⟩
end Go.Proofs.YtnddoehhcpejjaaGreat
/- A set of the call's own, 'map[K]struct{}', with keys of any type. Over any program. -/
namespace Go.Proofs.YtnddoehhcpejjaaGreat
set_option linter.unusedVariables false
set_option linter.unusedSimpArgs false
open Go.RowKit
open Go.Maps (Keyed)

/-- Block b is a map of at most n entries that has just the keys that f says. -/
def HasW (P : Program) (k : TypeId) (w : World) (b n : Nat) (f : Value → Bool) : Prop :=
  ∃ D : DataW Unit, w.ownsMap P k unitElem b n D ∧ Maps.IsMap D ∧ ∀ v l, keyOf P k v = some l → Maps.has D l = f v
section
variable {P : Program} {k e t : TypeId} {w w' : World} {b n : Nat} {f g : Value → Bool}
theorem HasW.made (w : World) : HasW P k (w.alloc (.map #[] 0)) w.heap.size 0 (fun _ => false) := ⟨.map [], World.ownsMap_made _ _ _ _, Maps.isMap_empty, fun _ _ _ => by simp [Maps.has_eq]⟩
theorem HasW.lt (h : HasW P k w b n f) : b < w.heap.size := by obtain ⟨D, h, _⟩ := h; exact h.lt
theorem HasW.kept {row : Option Nat} (h : HasW P k w b n f) (hg : w.grownBy w' row) (hne : some b ≠ row) : HasW P k w' b n f := by obtain ⟨D, h, r⟩ := h; exact ⟨D, h.kept hg hne, r⟩
theorem HasW.step (h : HasW P k w b n f) (hb : Below w.heap.size w w') : HasW P k w' b n f := h.kept (grown_below hb none) (by simp)
theorem HasW.alloc (h : HasW P k w b n f) (o : Obj) : HasW P k (w.alloc o) b n f := h.kept (World.grownBy_alloc w o none) (by simp)
theorem HasW.isMap (h : HasW P k w b n f) : ∃ es cl, w.heap[b]? = some (.map es cl) := by
  obtain ⟨D, ⟨es, cl, hb, _⟩, _⟩ := h
  exact ⟨es, cl, hb⟩
/-- asked with ', is' -/
theorem wpList_has_look {ops : Array Oper} {rest : List Oper} {o : Oper} {a : Act} {Q : Exit → Act → World → Prop} (hgd : o.guard = none) (m x : Operand) (t : TypeId) (hop : o.op = Op.lookup t m x true)
    (e : TypeId) (hk : Keyed P k) (ht : P.underlying t = some (.map k e)) (hz : (zeroValue e).run P w = .ok (.agg #[]) w) (h : HasW P k w b n f) (y : Value) (l : Lit) (hl : keyOf P k y = some l)
    (hm : a.eval m = .map (some b)) (hx : a.eval x = y) (c : Bool) (hc : f y = c)
    (hK : wpList P ops Q rest (a.put o.dst (.tuple #[.agg #[], .bool c])) w) : wpList P ops Q (o :: rest) a w := by
  obtain ⟨D, h, _, hD⟩ := h
  refine wpList_lookup_own_unit w hgd m x t hop k e hk ht hz b n D hm h y l hx hl ?_
  rw [hD y l hl, hc]
  exact hK
theorem HasW.put {D : DataW Unit} {v : Value} {l : Lit} (hk : Keyed P k) (hm : Maps.IsMap D) (hD : ∀ v l, keyOf P k v = some l → Maps.has D l = f v) (hl : keyOf P k v = some l)
    (hg : g v = true) (hgo : ∀ u lu, keyOf P k u = some lu → u ≠ v → g u = f u) (h2 : w'.ownsMap P k unitElem b (n + 1) (D.put l (.agg []))) : HasW P k w' b (n + 1) g := by
  refine ⟨_, h2, hm.put _ _, fun u lu hu => ?_⟩
  by_cases hd : lu = l
  · subst hd
    obtain rfl := hk.inj hu hl
    rw [Maps.has_put_same hm (hk.key hl), hg]
  · rw [Maps.has_put_other hd, hD u lu hu, hgo u lu hu (fun e => hd (by rw [e, hl] at hu; injection hu with hu; exact hu.symm))]
/-- a key is laid: at the operation -/
theorem wpList_has_put {ops : Array Oper} {rest : List Oper} {o : Oper} {a : Act} {Q : Exit → Act → World → Prop} (g : Value → Bool) (hgd : o.guard = none) (m x v : Operand) (t : TypeId) (hop : o.op = Op.mapUpdate t m x v)
    (e : TypeId) (hk : Keyed P k) (ht : P.underlying t = some (.map k e)) (h : HasW P k w b n f) (hn : n < maxLen) (y : Value) (l : Lit) (hl : keyOf P k y = some l)
    (hm : a.eval m = .map (some b)) (hx : a.eval x = y) (hv : a.eval v = .agg #[]) (hg : g y = true) (hgo : ∀ u lu, keyOf P k u = some lu → u ≠ y → g u = f u)
    (hK : ∀ w', HasW P k w' b (n + 1) g → w.grownBy w' (some b) → wpList P ops Q rest (a.put o.dst undef) w') : wpList P ops Q (o :: rest) a w := by
  obtain ⟨D, h, hM, hD⟩ := h
  exact wpList_mapUpdate_own w hgd m x v t hop k e hk ht _ b n D hm h hn _ _ _ hx hv hl _ [] unitElem_mk fun w' h2 g2 => hK w' (HasW.put hk hM hD hl hg hgo h2) g2
end
end Go.Proofs.YtnddoehhcpejjaaGreat
/- The walk of PostingClean. -/
namespace Go.Proofs.YtnddoehhcpejjaaGreat
set_option linter.unusedVariables false
set_option linter.unusedSimpArgs false
open Go.RowKit

/-- how collecting ends -/
def ColAlt (f : Int → Int) (L : List Bal) (E : Int) : Prop := (E = 0 ∧ IsC f L ∧ ∀ c, amV (f c) = true) ∨ (E = 2 ∧ L = [] ∧ ∃ c, amV (f c) = false)
theorem small_sum {m : List Bal} (h : smallV m = true) : sumW m = sumV m := by
  obtain ⟨h1, h2⟩ := small_is h
  exact sumW_eq m h1 (by omega) (by omega)
theorem small_of {m : List Bal} (h : smallV m = true) (c : Int) : ofW m c = ofV m c := by
  obtain ⟨h1, h2⟩ := small_is h
  exact ofW_eq' m c h1 (by omega) (by omega)
theorem clean_of {m L : List Bal} (hl : m.length ≤ 200) (h : IsC (ofW m) L) (ha : ∀ c, amV (ofW m c) = true) (c : Int) : ofW L c = ofW m c := by
  have := clean_len h
  rw [ofW_eq' L c (clean_amount h ha) (by omega) (by omega)]
  exact clean_again h c
theorem clean_twice {m L L2 : List Bal} {E2 : Int} (hs : smallV m = true) (h : IsC (ofW m) L) (ha : ∀ c, amV (ofW m c) = true) (h2 : ColAlt (ofW L) L2 E2) : E2 = 0 ∧ L2 = L ∧ sumW L = sumW m := by
  have hl := (small_is hs).2
  have hll := clean_len h
  have hof := clean_of hl h ha
  refine ⟨?_, ?_, ?_⟩
  · rcases h2 with ⟨e, _, _⟩ | ⟨_, _, c, hc⟩
    · exact e
    · rw [hof, ha c] at hc; cases hc
  · rcases h2 with ⟨_, h3, _⟩ | ⟨_, _, c, hc⟩
    · exact isC_unique h3 h hof
    · rw [hof, ha c] at hc; cases hc
  · rw [sumW_eq L (clean_amount h ha) (by omega) (by omega), small_sum hs]
    exact clean_sum h (small_of hs)
theorem col_len {f : Int → Int} {m L : List Bal} {E : Int} (h : ColAlt f L E) (hf : f = ofW m) : L.length ≤ m.length := by
  subst hf
  rcases h with ⟨_, h, _⟩ | ⟨_, rfl, _⟩
  · exact clean_len h
  · simp
theorem col_wf {m L : List Bal} {E : Int} (h : ColAlt (ofW m) L E) (hwf : ∀ x ∈ m, (Lit.int .i64 x.account).wf = true) : ∀ x ∈ L, (Lit.int .i64 x.account).wf = true := by
  rcases h with ⟨_, h, _⟩ | ⟨_, rfl, _⟩
  · intro x hx
    obtain ⟨y, hy, e⟩ := clean_in h hx
    rw [← e]; exact hwf y hy
  · intro x hx; simp at hx
end Go.Proofs.YtnddoehhcpejjaaGreat
