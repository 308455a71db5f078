/- The walks of the reference's Compare, Equal and SameParts. -/
import Derived.Test.YthenamibehbdnaaPostWalksC
import Derived.Test.YthenamibehbdnaaPostMathC
import Derived.Test.YthenamibehbdnaaCmp
import Derived.Laws.StructEq
namespace Go.Proofs.Ythenamibehbdnaa
set_option linter.unusedVariables false
set_option linter.unusedSimpArgs false
open Go.RowKit

instance instDecBal : DecidableEq Bal := fun a b => decidable_of_iff (a.account = b.account ∧ a.amount = b.amount) (by cases a; cases b; simp)
/-- a posting without its parts -/
structure Hd where
  kind : Int
  entity : Int
  other : Int
  rule : Int
  deriving DecidableEq
def firstNZ : List Int → Int
  | [] => 0
  | x :: l => if x = 0 then firstNZ l else x
theorem firstNZ_none (l : List Int) (h : ∀ j (h : j < l.length), l[j] = 0) : firstNZ l = 0 := by
  induction l with
  | nil => rfl
  | cons x l ih =>
    unfold firstNZ
    have h0 := h 0 (by simp)
    rw [if_pos (by simpa using h0)]
    exact ih (fun j hj => h (j + 1) (by simp; omega))
theorem firstNZ_at (l : List Int) (k : Nat) (hk : k < l.length) (h : ∀ j, j < k → l.getD j 0 = 0) (h0 : l[k] ≠ 0) : firstNZ l = l[k] := by
  induction l generalizing k with
  | nil => simp at hk
  | cons x l ih =>
    unfold firstNZ
    cases k with
    | zero => simp at h0 ⊢; exact fun e => absurd e h0
    | succ k =>
      have := h 0 (by omega)
      simp at this
      rw [if_pos this]
      exact ih k (by simpa using hk) (fun j hj => by have := h (j + 1) (by omega); simpa using this) (by simpa using h0)
def cmps (a b : Hd) : List Int := [cmpV a.kind b.kind, cmpV a.entity b.entity, cmpV a.other b.other, cmpV a.rule b.rule]
def cmpH (a b : Hd) : Int := firstNZ (cmps a b)
theorem order_any (a b : Int) (w : World) : Calls Try.prog 47 #[.int .i64 a, .int .i64 b] w (fun e w' => e = .returned (.int .i64 (cmpV a b)) ∧ w = w') := by
  by_cases h1 : a < b
  · have HE : Hid (cmpV a b = -1) := Lib.hid (by unfold cmpV; rw [if_pos h1])
    go_enter Try.func47, Try.ntmps47
    go_wp2_with fail
    go_ret
    exact ⟨ret_int HE.out.symm, rfl⟩
  by_cases h2 : b < a
  · have HE : Hid (cmpV a b = 1) := Lib.hid (by unfold cmpV; rw [if_neg h1, if_pos h2])
    go_enter Try.func47, Try.ntmps47
    go_wp2_with fail
    go_ret
    exact ⟨ret_int HE.out.symm, rfl⟩
  · have HE : Hid (cmpV a b = 0) := Lib.hid (by unfold cmpV; rw [if_neg h1, if_neg h2])
    go_enter Try.func47, Try.ntmps47
    go_wp2_with fail
    go_ret
    exact ⟨ret_int HE.out.symm, rfl⟩
theorem getD_in_ (l : List Int) (k : Nat) (h : k < l.length) : l.getD k 0 = l[k] := by simp [h]
theorem idx4 (x1 x2 x3 x4 : Int) (k : Nat) (hk : k < 4) (w : World) : (Instr.index 77 (.agg #[.int .i64 x1, .int .i64 x2, .int .i64 x3, .int .i64 x4]) (.int .i64 k)).run Try.prog w = .ok (.int .i64 ([x1, x2, x3, x4].getD k 0)) w := by
  obtain ⟨i0, hi, hz0, hz1, hz2⟩ := info_parts int_info
  refine run_index_agg1 Try.underlying77 Try.underlying3 hi hz1 _ _ _ (by omega) (by omega) ?_ w
  have : k = 0 ∨ k = 1 ∨ k = 2 ∨ k = 3 := by omega
  rcases this with rfl | rfl | rfl | rfl
  all_goals rfl
set_option maxRecDepth 100000 in
set_option maxHeartbeats 1000000 in
theorem rcompare_any (a b : Hd) (v u : Value) (w : World) :
    Calls Try.prog 30 #[.agg #[.int .i64 a.kind, .int .i64 a.entity, .int .i64 a.other, .int .i64 a.rule, v], .agg #[.int .i64 b.kind, .int .i64 b.entity, .int .i64 b.other, .int .i64 b.rule, u]] w
      (fun e w' => e = .returned (.int .i64 (cmpH a b)) ∧ Below w.heap.size w w') := by
  have hb := Below.refl w.heap.size w
  obtain ⟨a1, a2, a3, a4⟩ := a
  obtain ⟨b1, b2, b3, b4⟩ := b
  dsimp only
  have HC : Hid (cmps ⟨a1, a2, a3, a4⟩ ⟨b1, b2, b3, b4⟩ = [cmpV a1 b1, cmpV a2 b2, cmpV a3 b3, cmpV a4 b4]) := Lib.hid rfl
  obtain ⟨i0, hi, hz0, hz1, hz2⟩ := info_parts int_info
  have hbx : Below w.heap.size w ((w.alloc (.cells #[.int .i64 a1, .int .i64 a2, .int .i64 a3, .int .i64 a4, v] 45)).alloc (.cells #[.int .i64 b1, .int .i64 b2, .int .i64 b3, .int .i64 b4, u] 45)) := (by repeat (first | exact hb | refine Below.alloc ?_ (by have hbs := hb.size; first | omega | (simp; done) | (simp; omega)) _ | refine Below.drew ?_ | refine below_drewN_ ?_ _ | refine Below.setCell ?_ (by simp) _))
  have hA := (Blk.new w 45 #[.int .i64 a1, .int .i64 a2, .int .i64 a3, .int .i64 a4, v]).alloc (.cells #[.int .i64 b1, .int .i64 b2, .int .i64 b3, .int .i64 b4, u] 45)
  have hB := Blk.new (w.alloc (.cells #[.int .i64 a1, .int .i64 a2, .int .i64 a3, .int .i64 a4, v] 45)) 45 #[.int .i64 b1, .int .i64 b2, .int .i64 b3, .int .i64 b4, u]
  have e1 : (w.alloc (.cells #[.int .i64 a1, .int .i64 a2, .int .i64 a3, .int .i64 a4, v] 45)).heap.size = w.heap.size + 1 := by simp
  rw [e1] at hB
  obtain ⟨W, hW⟩ : ∃ W, W = ((w.alloc (.cells #[.int .i64 a1, .int .i64 a2, .int .i64 a3, .int .i64 a4, v] 45)).alloc (.cells #[.int .i64 b1, .int .i64 b2, .int .i64 b3, .int .i64 b4, u] 45)) := ⟨_, rfl⟩
  have HW := Lib.hid hW
  rw [← hW] at hA hB hbx
  clear hW
  have hla := hA.lt
  have hlb := hB.lt
  have p0 : ∀ d : Later W, d.now.cell? ⟨w.heap.size, 0, none⟩ = some (.int .i64 a1) := fun d => d.cell hla (hA.cell 0)
  have p1 : ∀ d : Later W, d.now.cell? ⟨w.heap.size, 1, none⟩ = some (.int .i64 a2) := fun d => d.cell hla (hA.cell 1)
  have p2 : ∀ d : Later W, d.now.cell? ⟨w.heap.size, 2, none⟩ = some (.int .i64 a3) := fun d => d.cell hla (hA.cell 2)
  have p3 : ∀ d : Later W, d.now.cell? ⟨w.heap.size, 3, none⟩ = some (.int .i64 a4) := fun d => d.cell hla (hA.cell 3)
  have q0 : ∀ d : Later W, d.now.cell? ⟨w.heap.size + 1, 0, none⟩ = some (.int .i64 b1) := fun d => d.cell hlb (hB.cell 0)
  have q1 : ∀ d : Later W, d.now.cell? ⟨w.heap.size + 1, 1, none⟩ = some (.int .i64 b2) := fun d => d.cell hlb (hB.cell 1)
  have q2 : ∀ d : Later W, d.now.cell? ⟨w.heap.size + 1, 2, none⟩ = some (.int .i64 b3) := fun d => d.cell hlb (hB.cell 2)
  have q3 : ∀ d : Later W, d.now.cell? ⟨w.heap.size + 1, 3, none⟩ = some (.int .i64 b4) := fun d => d.cell hlb (hB.cell 3)
  clear hA hB hb hla hlb
  go_enter Try.func30, Try.ntmps30
  go_wp2_with fail
  rw [← HW.out]
  refine wp_region_later (by kernel_rfl) (by kernel_rfl) ?_; (repeat (go_big_quiet_step (((go_at_call 47; exact Later.same _ (order_any _ _ _)))))); refine wpQuiet_nil ?_; rintro _ ⟨dq, rfl⟩
  have hbe := bel hbx dq.below
  clear hbx p0 p1 p2 p3 q0 q1 q2 q3
  generalize dq.now = wd at hbe ⊢
  go_wp2_with fail
  go_loopw [6, 28] (fun _ t wr => ∃ k : Nat, k ≤ 4 ∧ (∀ j, j < k → [cmpV a1 b1, cmpV a2 b2, cmpV a3 b3, cmpV a4 b4].getD j 0 = 0) ∧ t = .int .i64 k ∧ Below w.heap.size w wr) (fun _ t _ => 4 - (intOf t).toNat)
  case atStart => exact ⟨0, by omega, fun j h => by omega, rfl, hbe⟩
  case round =>
    clear hbe
    obtain ⟨k, hk, hno, rfl, hb⟩ := hrel
    have HN := Lib.hid hno
    clear hno
    by_cases hlt : k < 4
    · have hix := fun W => idx4 (cmpV a1 b1) (cmpV a2 b2) (cmpV a3 b3) (cmpV a4 b4) k hlt W
      obtain ⟨c, hc⟩ : ∃ c, c = [cmpV a1 b1, cmpV a2 b2, cmpV a3 b3, cmpV a4 b4].getD k 0 := ⟨_, rfl⟩
      rw [← hc] at hix
      have HX := Lib.hid hc
      clear hc
      by_cases h0 : c = 0
      · have hd : (c != 0) = false := by simp [h0]
        have H0 := Lib.hid h0
        clear h0
        go_wp2_with fail
        go_roundw
        case rel => exact ⟨k + 1, by omega, upto_succ HN.out (by rw [← HX.out]; exact H0.out), by go_num, hb⟩
        case measure => simp [intOf]; omega
      · have hd : (c != 0) = true := by simp [h0]
        have H0 := Lib.hid h0
        clear h0
        go_wp2_with fail
        go_ret
        refine ⟨ret_int ?_, hb⟩
        have hx := HX.out
        rw [getD_in_ _ _ (by simpa using hlt)] at hx
        unfold cmpH
        rw [HC.out, firstNZ_at _ k (by simpa using hlt) HN.out (by rw [← hx]; exact H0.out), hx]
    · have HE : Hid (cmpH ⟨a1, a2, a3, a4⟩ ⟨b1, b2, b3, b4⟩ = 0) := Lib.hid (by
        unfold cmpH
        rw [HC.out]
        refine firstNZ_none _ fun j hj => ?_
        have := HN.out j (by simp at hj; omega)
        rwa [getD_in_ _ _ hj] at this)
      go_wp2_with fail
      go_ret
      exact ⟨ret_int HE.out.symm, hb⟩
set_option maxRecDepth 100000 in
set_option maxHeartbeats 1000000 in
theorem requal_any (a b : Hd) (m n : List Bal) (A B : Option Addr) (c1 c2 : Nat) (w : World) (hr : Rd w w.heap.size 2 A m.length (cellsOf Bal.cells m)) (hq : Rd w w.heap.size 2 B n.length (cellsOf Bal.cells n)) (hn : m.length ≤ 1000000) (hn2 : n.length ≤ 1000000) :
    Calls Try.prog 32 #[.agg #[.int .i64 a.kind, .int .i64 a.entity, .int .i64 a.other, .int .i64 a.rule, .slice A m.length c1], .agg #[.int .i64 b.kind, .int .i64 b.entity, .int .i64 b.other, .int .i64 b.rule, .slice B n.length c2]] w
      (BoolPost (decide (cmpH a b = 0 ∧ m = n)) w) := by
  have hb := Below.refl w.heap.size w
  have HR := Lib.hid hr
  have HQ := Lib.hid hq
  clear hr hq
  have hbx : Below w.heap.size w ((w.alloc (.cells #[.int .i64 a.kind, .int .i64 a.entity, .int .i64 a.other, .int .i64 a.rule, .slice A m.length c1] 45)).alloc (.cells #[.int .i64 b.kind, .int .i64 b.entity, .int .i64 b.other, .int .i64 b.rule, .slice B n.length c2] 45)) := (by repeat (first | exact hb | refine Below.alloc ?_ (by have hbs := hb.size; first | omega | (simp; done) | (simp; omega)) _ | refine Below.drew ?_ | refine below_drewN_ ?_ _ | refine Below.setCell ?_ (by simp) _))
  have hA := (Blk.new w 45 #[.int .i64 a.kind, .int .i64 a.entity, .int .i64 a.other, .int .i64 a.rule, .slice A m.length c1]).alloc (.cells #[.int .i64 b.kind, .int .i64 b.entity, .int .i64 b.other, .int .i64 b.rule, .slice B n.length c2] 45)
  have hB := Blk.new (w.alloc (.cells #[.int .i64 a.kind, .int .i64 a.entity, .int .i64 a.other, .int .i64 a.rule, .slice A m.length c1] 45)) 45 #[.int .i64 b.kind, .int .i64 b.entity, .int .i64 b.other, .int .i64 b.rule, .slice B n.length c2]
  have e1 : (w.alloc (.cells #[.int .i64 a.kind, .int .i64 a.entity, .int .i64 a.other, .int .i64 a.rule, .slice A m.length c1] 45)).heap.size = w.heap.size + 1 := by simp
  rw [e1] at hB
  clear e1
  obtain ⟨W, hW⟩ : ∃ W, W = ((w.alloc (.cells #[.int .i64 a.kind, .int .i64 a.entity, .int .i64 a.other, .int .i64 a.rule, .slice A m.length c1] 45)).alloc (.cells #[.int .i64 b.kind, .int .i64 b.entity, .int .i64 b.other, .int .i64 b.rule, .slice B n.length c2] 45)) := ⟨_, rfl⟩
  have HW := Lib.hid hW
  rw [← hW] at hA hB hbx
  clear hW
  have HA := Lib.hid hA
  have HB := Lib.hid hB
  have hla := hA.lt
  have hlb := hB.lt
  have f0 : W.cell? ⟨w.heap.size, 0, none⟩ = some (.int .i64 a.kind) := hA.cell 0
  have f1 : W.cell? ⟨w.heap.size, 1, none⟩ = some (.int .i64 a.entity) := hA.cell 1
  have f2 : W.cell? ⟨w.heap.size, 2, none⟩ = some (.int .i64 a.other) := hA.cell 2
  have f3 : W.cell? ⟨w.heap.size, 3, none⟩ = some (.int .i64 a.rule) := hA.cell 3
  have f4 : W.cell? ⟨w.heap.size, 4, none⟩ = some (.slice A m.length c1) := hA.cell 4
  have g0 : W.cell? ⟨w.heap.size + 1, 0, none⟩ = some (.int .i64 b.kind) := hB.cell 0
  have g1 : W.cell? ⟨w.heap.size + 1, 1, none⟩ = some (.int .i64 b.entity) := hB.cell 1
  have g2 : W.cell? ⟨w.heap.size + 1, 2, none⟩ = some (.int .i64 b.other) := hB.cell 2
  have g3 : W.cell? ⟨w.heap.size + 1, 3, none⟩ = some (.int .i64 b.rule) := hB.cell 3
  have g4 : W.cell? ⟨w.heap.size + 1, 4, none⟩ = some (.slice B n.length c2) := hB.cell 4
  clear hA hB hb
  cases h0 : (cmpH a b != 0)
  · have H0 : Hid (cmpH a b = 0) := Lib.hid (by simpa using h0)
    cases hl : ((m.length : Int) != (n.length : Int))
    · have HL : Hid (m.length = n.length) := Lib.hid (by simp at hl; omega)
      go_enter Try.func32, Try.ntmps32
      go_wp2_with fail
      rw [← HW.out]
      go_wp2_with (go_at_call 30; refine (rcompare_any a b _ _ _).mono ?_; rintro e w2 ⟨rfl, hb2⟩; have k4 : w2.cell? ⟨w.heap.size, 4, none⟩ = some (.slice A m.length c1) := ((HA.out.below hb2 hla).cell 4); have l4 : w2.cell? ⟨w.heap.size + 1, 4, none⟩ = some (.slice B n.length c2) := ((HB.out.below hb2 hlb).cell 4))
      go_loopw [5] (fun t wr => ∃ k : Nat, k ≤ m.length ∧ (∀ j (h : j < k) (h1 : j < m.length) (h2 : j < n.length), m[j]'h1 = n[j]'h2) ∧ t = .int .i64 k ∧ Below W.heap.size W wr) (fun t _ => m.length - (intOf t).toNat)
      case atStart => exact ⟨0, by omega, fun j h => by omega, rfl, hb2⟩
      case round =>
        clear hb2 k4 l4
        obtain ⟨k, hk, hno, rfl, hb⟩ := hrel
        have HN := Lib.hid hno
        clear hno
        have hz := hb.size
        have k4 : wr.cell? ⟨w.heap.size, 4, none⟩ = some (.slice A m.length c1) := ((HA.out.below hb hla).cell 4)
        have l4 : wr.cell? ⟨w.heap.size + 1, 4, none⟩ = some (.slice B n.length c2) := ((HB.out.below hb hlb).cell 4)
        have hbw := bel hbx hb
        by_cases hlt : k < m.length
        · have hlt2 : k < n.length := by have := HL.out; omega
          obtain ⟨x, o, hA, hbo, f0, f1⟩ := Bal.at_ (Rd.now HR.out hbw) hlt
          obtain ⟨y, p, hB, hbp, g0, g1⟩ := Bal.at_ (Rd.now HQ.out hbw) hlt2
          subst hA hB
          have q0 : ∀ d : Later wr, d.now.cell? ⟨x, o + k * 2, none⟩ = some (.int .i64 m[k].account) := fun d => d.cell hbo f0
          have q1 : ∀ d : Later wr, d.now.cell? ⟨x, o + k * 2 + 1, none⟩ = some (.int .i64 m[k].amount) := fun d => d.cell hbo f1
          have q2 : ∀ d : Later wr, d.now.cell? ⟨y, p + k * 2, none⟩ = some (.int .i64 n[k].account) := fun d => d.cell hbp g0
          have q3 : ∀ d : Later wr, d.now.cell? ⟨y, p + k * 2 + 1, none⟩ = some (.int .i64 n[k].amount) := fun d => d.cell hbp g1
          have q4 : ∀ d : Later wr, d.now.cell? ⟨w.heap.size, 4, none⟩ = some (.slice (some ⟨x, o, none⟩) m.length c1) := fun d => d.cell (by omega) k4
          have q5 : ∀ d : Later wr, d.now.cell? ⟨w.heap.size + 1, 4, none⟩ = some (.slice (some ⟨y, p, none⟩) n.length c2) := fun d => d.cell (by omega) l4
          clear f0 f1 g0 g1
          have hcase : m[k] = n[k] ∨ ((m[k].account == n[k].account) = false ∧ m[k] ≠ n[k]) ∨ ((m[k].account == n[k].account) = true ∧ (m[k].amount == n[k].amount) = false ∧ m[k] ≠ n[k]) := by
            by_cases h1 : m[k].account = n[k].account
            · by_cases h2 : m[k].amount = n[k].amount
              · refine .inl ?_
                generalize m[k] = s at h1 h2 ⊢
                generalize n[k] = t at h1 h2 ⊢
                cases s; cases t; simp at h1 h2 ⊢; exact ⟨h1, h2⟩
              · exact .inr (.inr ⟨by simpa using h1, by simpa using h2, fun e => h2 (by rw [e])⟩)
            · exact .inr (.inl ⟨by simpa using h1, fun e => h1 (by rw [e])⟩)
          rcases hcase with hc | ⟨hc1, hc2⟩ | ⟨hc1, hc2, hc3⟩
          · have HC := Lib.hid hc
            rw [hc] at q0 q1
            clear hc
            go_wp2_with fail
            refine wp_region_later (by kernel_rfl) (by kernel_rfl) ?_; (repeat (go_big_quiet_step ((fail)))); refine wpQuiet_nil ?_; rintro _ ⟨dq, rfl⟩
            have hbe := bel hb dq.below
            go_wp2_with fail
            go_roundw
            case rel =>
              refine ⟨k + 1, by omega, fun j h h1 h2 => ?_, by go_num, hbe⟩
              by_cases hj : j = k
              · subst hj; exact HC.out
              · exact HN.out j (by omega) h1 h2
            case measure => simp [intOf]; omega
          · have HE : Hid (¬ m = n) := Lib.hid (fun e => hc2 (by subst e; rfl))
            clear hc2
            go_wp2_with fail
            refine wp_region_later (by kernel_rfl) (by kernel_rfl) ?_; (repeat (go_big_quiet_step ((fail)))); refine wpQuiet_nil ?_; rintro _ ⟨dq, rfl⟩
            have hbe := bel hbw dq.below
            go_wp2_with fail
            go_ret
            exact ⟨ret_bool (by simp [HE.out]), hbe⟩
          · have HE : Hid (¬ m = n) := Lib.hid (fun e => hc3 (by subst e; rfl))
            clear hc3
            go_wp2_with fail
            refine wp_region_later (by kernel_rfl) (by kernel_rfl) ?_; (repeat (go_big_quiet_step ((fail)))); refine wpQuiet_nil ?_; rintro _ ⟨dq, rfl⟩
            have hbe := bel hbw dq.below
            go_wp2_with fail
            go_ret
            exact ⟨ret_bool (by simp [HE.out]), hbe⟩
        · have HE : Hid (m = n) := Lib.hid (List.ext_getElem HL.out (fun j h1 h2 => HN.out j (by omega) h1 h2))
          go_wp2_with fail
          go_ret
          exact ⟨ret_bool (by simp [HE.out, H0.out]), hbw⟩
    · have HE : Hid (¬ m = n) := Lib.hid (fun e => by subst e; simp at hl)
      go_enter Try.func32, Try.ntmps32
      go_wp2_with fail
      rw [← HW.out]
      go_wp2_with (go_at_call 30; refine (rcompare_any a b _ _ _).mono ?_; rintro e w2 ⟨rfl, hb2⟩; have k4 : w2.cell? ⟨w.heap.size, 4, none⟩ = some (.slice A m.length c1) := ((HA.out.below hb2 hla).cell 4); have l4 : w2.cell? ⟨w.heap.size + 1, 4, none⟩ = some (.slice B n.length c2) := ((HB.out.below hb2 hlb).cell 4))
      go_ret
      exact ⟨ret_bool (by simp [HE.out]), bel hbx hb2⟩
  · have H0 : Hid (¬ cmpH a b = 0) := Lib.hid (by simpa using h0)
    go_enter Try.func32, Try.ntmps32
    go_wp2_with fail
    rw [← HW.out]
    go_wp2_with (go_at_call 30; refine (rcompare_any a b _ _ _).mono ?_; rintro e w2 ⟨rfl, hb2⟩)
    go_ret
    exact ⟨ret_bool (by simp [H0.out]), bel hbx hb2⟩
end Go.Proofs.Ythenamibehbdnaa
