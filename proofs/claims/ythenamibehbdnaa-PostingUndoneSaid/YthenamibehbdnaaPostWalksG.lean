/- The walks of Or, slices.Equal, posting.Compare and posting.Equal. -/
import Derived.Test.YthenamibehbdnaaPostWalksE
namespace Go.Proofs.Ythenamibehbdnaa
set_option linter.unusedVariables false
set_option linter.unusedSimpArgs false
open Go.RowKit

theorem or_any (l : List Int) (A : Option Addr) (cap : Nat) (w : World) (hr : Rd w w.heap.size 1 A l.length (intCells l)) (hn : l.length ≤ 1000000) :
    Calls Try.prog 45 #[.slice A l.length cap] w (fun e w' => e = .returned (.int .i64 (firstNZ l)) ∧ w = w') := by
  have HR := Lib.hid hr
  clear hr
  go_enter Try.func45, Try.ntmps45
  go_wp2_with fail
  go_loopw [5, 8] (fun _ t wr => ∃ k : Nat, k ≤ l.length ∧ (∀ j, j < k → l.getD j 0 = 0) ∧ t = .int .i64 k ∧ w = wr) (fun _ t _ => l.length - (intOf t).toNat)
  case atStart => exact ⟨0, by omega, fun j h => by omega, rfl, rfl⟩
  case round =>
    obtain ⟨k, hk, hno, rfl, rfl⟩ := hrel
    have HN := Lib.hid hno
    clear hno
    by_cases hlt : k < l.length
    · obtain ⟨b, o, hA, hbo, f0⟩ := int_at HR.out hlt
      subst hA
      by_cases h0 : l[k] = 0
      · have hd : (l[k] != 0) = false := by simp [h0]
        have H0 : Hid (l.getD k 0 = 0) := Lib.hid (by rw [getD_in_ l k hlt]; exact h0)
        clear h0
        go_wp2_with fail
        go_roundw
        case rel => exact ⟨k + 1, by omega, upto_succ HN.out H0.out, by go_num, trivial⟩
        case measure => simp [intOf]; omega
      · have hd : (l[k] != 0) = true := by simp [h0]
        have HE : Hid (firstNZ l = l[k]) := Lib.hid (firstNZ_at l k hlt HN.out h0)
        clear h0
        go_wp2_with fail
        go_ret
        exact ⟨ret_int HE.out.symm, rfl⟩
    · have HE : Hid (firstNZ l = 0) := Lib.hid (firstNZ_none _ fun j hj => by
        have := HN.out j (by omega)
        rwa [getD_in_ _ _ hj] at this)
      go_wp2_with fail
      go_ret
      exact ⟨ret_int HE.out.symm, rfl⟩
theorem bal_cases (s t : Bal) : s = t ∨ ((s.account == t.account) = false ∧ s ≠ t) ∨ ((s.account == t.account) = true ∧ (s.amount == t.amount) = false ∧ s ≠ t) := by
  by_cases h1 : s.account = t.account
  · by_cases h2 : s.amount = t.amount
    · refine .inl ?_
      cases s; cases t; simp at h1 h2 ⊢; exact ⟨h1, h2⟩
    · exact .inr (.inr ⟨by simpa using h1, by simpa using h2, fun e => h2 (by rw [e])⟩)
  · exact .inr (.inl ⟨by simpa using h1, fun e => h1 (by rw [e])⟩)
set_option maxHeartbeats 1000000 in
theorem sequal_any (m n : List Bal) (A B : Option Addr) (c1 c2 : Nat) (w : World) (hr : Rd w w.heap.size 2 A m.length (cellsOf Bal.cells m)) (hq : Rd w w.heap.size 2 B n.length (cellsOf Bal.cells n)) (hn : m.length ≤ 1000000) (hn2 : n.length ≤ 1000000) :
    Calls Try.prog 48 #[.slice A m.length c1, .slice B n.length c2] w (BoolPost (decide (m = n)) w) := by
  have hb := Below.refl w.heap.size w
  have HR := Lib.hid hr
  have HQ := Lib.hid hq
  clear hr hq
  cases hl : ((m.length : Int) != (n.length : Int))
  · have HL : Hid (m.length = n.length) := Lib.hid (by simp at hl; omega)
    go_enter Try.func48, Try.ntmps48
    go_wp2_with fail
    go_loopw [5, 13] (fun _ t wr => ∃ k : Nat, k ≤ m.length ∧ (∀ j (h : j < k) (h1 : j < m.length) (h2 : j < n.length), m[j]'h1 = n[j]'h2) ∧ t = .int .i64 k ∧ Below w.heap.size w wr) (fun _ t _ => m.length - (intOf t).toNat)
    case atStart => exact ⟨0, by omega, fun j h => by omega, rfl, hb⟩
    case round =>
      clear hb
      obtain ⟨k, hk, hno, rfl, hb⟩ := hrel
      have HN := Lib.hid hno
      clear hno
      by_cases hlt : k < m.length
      · have hlt2 : k < n.length := by have := HL.out; omega
        obtain ⟨x, o, hA, hbo, f0, f1⟩ := Bal.at_ (Rd.now HR.out hb) hlt
        obtain ⟨y, p, hB, hbp, g0, g1⟩ := Bal.at_ (Rd.now HQ.out hb) hlt2
        subst hA hB
        have q0 : ∀ d : Later wr, d.now.cell? ⟨x, o + k * 2, none⟩ = some (.int .i64 m[k].account) := fun d => d.cell hbo f0
        have q1 : ∀ d : Later wr, d.now.cell? ⟨x, o + k * 2 + 1, none⟩ = some (.int .i64 m[k].amount) := fun d => d.cell hbo f1
        have q2 : ∀ d : Later wr, d.now.cell? ⟨y, p + k * 2, none⟩ = some (.int .i64 n[k].account) := fun d => d.cell hbp g0
        have q3 : ∀ d : Later wr, d.now.cell? ⟨y, p + k * 2 + 1, none⟩ = some (.int .i64 n[k].amount) := fun d => d.cell hbp g1
        clear f0 f1 g0 g1
        rcases bal_cases m[k] n[k] with hc | ⟨hc1, hc2⟩ | ⟨hc1, hc2, hc3⟩
        · have HC := Lib.hid hc
          rw [hc] at q0 q1
          clear hc
          go_wp2_with fail
          refine wp_region_later (by kernel_rfl) (by kernel_rfl) ?_; (repeat (go_big_quiet_step ((fail)))); refine wpQuiet_nil ?_; rintro _ ⟨dq, rfl⟩
          have hbe := bel hb dq.below
          go_wp2_with fail
          go_roundw
          case rel =>
            refine ⟨k + 1, by omega, fun j h h1 h2 => ?_, by go_num, hbe⟩
            by_cases hj : j = k
            · subst hj; exact HC.out
            · exact HN.out j (by omega) h1 h2
          case measure => simp [intOf]; omega
        · have HE : Hid (¬ m = n) := Lib.hid (fun e => hc2 (by subst e; rfl))
          clear hc2
          go_wp2_with fail
          refine wp_region_later (by kernel_rfl) (by kernel_rfl) ?_; (repeat (go_big_quiet_step ((fail)))); refine wpQuiet_nil ?_; rintro _ ⟨dq, rfl⟩
          have hbe := bel hb dq.below
          go_wp2_with fail
          go_ret
          exact ⟨ret_bool (by simp [HE.out]), hbe⟩
        · have HE : Hid (¬ m = n) := Lib.hid (fun e => hc3 (by subst e; rfl))
          clear hc3
          go_wp2_with fail
          refine wp_region_later (by kernel_rfl) (by kernel_rfl) ?_; (repeat (go_big_quiet_step ((fail)))); refine wpQuiet_nil ?_; rintro _ ⟨dq, rfl⟩
          have hbe := bel hb dq.below
          go_wp2_with fail
          go_ret
          exact ⟨ret_bool (by simp [HE.out]), hbe⟩
      · have HE : Hid (m = n) := Lib.hid (List.ext_getElem HL.out (fun j h1 h2 => HN.out j (by omega) h1 h2))
        go_wp2_with fail
        go_ret
        exact ⟨ret_bool (by simp [HE.out]), hb⟩
  · have HE : Hid (¬ m = n) := Lib.hid (fun e => by subst e; simp at hl)
    go_enter Try.func48, Try.ntmps48
    go_wp2_with fail
    go_ret
    exact ⟨ret_bool (by simp [HE.out]), hb⟩
end Go.Proofs.Ythenamibehbdnaa
