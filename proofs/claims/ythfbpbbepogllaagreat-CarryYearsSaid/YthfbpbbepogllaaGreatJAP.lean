/- Texts of this claim, put together. -/
import Derived.Test.YthfbpbbepogllaaGreatJAH
import Derived.Test.YthfbpbbepogllaaGreatChecked
/- The walks of currency, letter, name, based, and of their references. -/
namespace Go.Proofs.YthfbpbbepogllaaGreat
set_option linter.unusedVariables false
set_option linter.unusedSimpArgs false
open Go.RowKit

theorem u8_le (c : UInt8) : 0 ≤ (c.toNat : Int) ∧ (c.toNat : Int) ≤ 255 := by have := c.toNat_lt; omega
set_option maxHeartbeats 1000000 in
theorem currency_any (s : ByteArray) (w : World) (hs : s.size ≤ maxLen) : Calls Tryz.prog 79 #[.string s] w fun e w' => e = .returned (.bool (Gr.curV s)) ∧ w = w' := by
  unfold maxLen at hs
  go_enter Tryz.func79, Tryz.ntmps79
  go_wp2_with fail
  go_loopw [3, 6] (fun _ t wr => ∃ k : Nat, k ≤ s.size ∧ (∀ j, j < k → Gr.upB (Gr.byte s j) = true) ∧ t = .int .i64 k ∧ w = wr) (fun _ t _ => s.size - (intOf t).toNat)
  case atStart => exact ⟨0, by omega, fun j h => by omega, rfl, rfl⟩
  case round =>
    obtain ⟨k, hk, hno, rfl, rfl⟩ := hrel
    have HN := Lib.hid hno
    clear hno
    by_cases hlt : k < s.size
    · have HB := Lib.hid (Gr.byte_at s k hlt)
      have h255 := u8_le s[k]
      by_cases h1 : 65 ≤ (s[k].toNat : Int)
      · by_cases h2 : (s[k].toNat : Int) ≤ 90
        · have HE : Hid (Gr.upB (Gr.byte s k) = true) := Lib.hid (by rw [HB.out]; unfold Gr.upB; simp [h1, h2])
          go_wp2_with fail
          go_roundw
          case rel =>
            refine ⟨k + 1, by omega, fun j h => ?_, by go_num, trivial⟩
            by_cases e : j = k
            · subst e; exact HE.out
            · exact HN.out j (by omega)
          case measure => simp [intOf]; omega
        · have HE : Hid (Gr.curV s = false) := Lib.hid (by unfold Gr.curV; rw [allAt_no hlt (by rw [HB.out]; unfold Gr.upB; simp [h2])]; rfl)
          go_wp2_with fail
          go_ret
          exact ⟨by rw [HE.out]; rfl, rfl⟩
      · have HE : Hid (Gr.curV s = false) := Lib.hid (by unfold Gr.curV; rw [allAt_no hlt (by rw [HB.out]; unfold Gr.upB; simp [h1])]; rfl)
        go_wp2_with fail
        go_ret
        exact ⟨by rw [HE.out]; rfl, rfl⟩
    · have HA : Hid (allAt s.size (fun k => Gr.upB (Gr.byte s k)) = true) := Lib.hid (allAt_yes fun j hj => HN.out j (by omega))
      cases h3 : ((s.size : Int) == 3)
      · have HE : Hid (Gr.curV s = false) := Lib.hid (by unfold Gr.curV; rw [HA.out]; simp at h3 ⊢; omega)
        go_wp2_with fail
        go_ret
        exact ⟨by rw [HE.out]; rfl, rfl⟩
      · have HE : Hid (Gr.curV s = true) := Lib.hid (by unfold Gr.curV; rw [HA.out]; simp at h3 ⊢; omega)
        go_wp2_with fail
        go_ret
        exact ⟨by rw [HE.out]; rfl, rfl⟩
set_option maxHeartbeats 1000000 in
theorem rcurrency_any (s : ByteArray) (w : World) (hs : s.size ≤ maxLen) : Calls Tryz.prog 95 #[.string s] w fun e w' => e = .returned (.bool (Gr.curV s)) ∧ w = w' := by
  unfold maxLen at hs
  go_enter Tryz.func95, Tryz.ntmps95
  go_wp2_with fail
  go_loopw [3] (fun t wr => ∃ k : Nat, k ≤ s.size ∧ (∀ j, j < k → Gr.upB (Gr.byte s j) = true) ∧ t = .int .i64 k ∧ w = wr) (fun t _ => s.size - (intOf t).toNat)
  case atStart => exact ⟨0, by omega, fun j h => by omega, rfl, rfl⟩
  case round =>
    obtain ⟨k, hk, hno, rfl, rfl⟩ := hrel
    have HN := Lib.hid hno
    clear hno
    by_cases hlt : k < s.size
    · have HB := Lib.hid (Gr.byte_at s k hlt)
      have h255 := u8_le s[k]
      by_cases h1 : 65 ≤ (s[k].toNat : Int)
      · by_cases h2 : (s[k].toNat : Int) ≤ 90
        · have HE : Hid (Gr.upB (Gr.byte s k) = true) := Lib.hid (by rw [HB.out]; unfold Gr.upB; simp [h1, h2])
          go_wp2_with fail
          go_roundw
          case rel =>
            refine ⟨k + 1, by omega, fun j h => ?_, by go_num, trivial⟩
            by_cases e : j = k
            · subst e; exact HE.out
            · exact HN.out j (by omega)
          case measure => simp [intOf]; omega
        · have HE : Hid (Gr.curV s = false) := Lib.hid (by unfold Gr.curV; rw [allAt_no hlt (by rw [HB.out]; unfold Gr.upB; simp [h2])]; rfl)
          go_wp2_with fail
          go_ret
          exact ⟨by rw [HE.out]; rfl, rfl⟩
      · have HE : Hid (Gr.curV s = false) := Lib.hid (by unfold Gr.curV; rw [allAt_no hlt (by rw [HB.out]; unfold Gr.upB; simp [h1])]; rfl)
        go_wp2_with fail
        go_ret
        exact ⟨by rw [HE.out]; rfl, rfl⟩
    · have HA : Hid (allAt s.size (fun k => Gr.upB (Gr.byte s k)) = true) := Lib.hid (allAt_yes fun j hj => HN.out j (by omega))
      cases h3 : ((s.size : Int) == 3)
      · have HE : Hid (Gr.curV s = false) := Lib.hid (by unfold Gr.curV; rw [HA.out]; simp at h3 ⊢; omega)
        go_wp2_with fail
        go_ret
        exact ⟨by rw [HE.out]; rfl, rfl⟩
      · have HE : Hid (Gr.curV s = true) := Lib.hid (by unfold Gr.curV; rw [HA.out]; simp at h3 ⊢; omega)
        go_wp2_with fail
        go_ret
        exact ⟨by rw [HE.out]; rfl, rfl⟩
set_option maxHeartbeats 1000000 in
theorem based_any (a : Acc) (w : World) : Calls Tryz.prog 112 #[.agg #[.int .i64 a.code, .int .i64 a.kind, .int .i64 a.basis, .int .i64 a.parent]] w (fun e w' => e = .returned (.bool (Gr.based a)) ∧ Below w.heap.size w w') := by
  have hb : Below w.heap.size w (w.alloc (.cells #[.int .i64 a.code, .int .i64 a.kind, .int .i64 a.basis, .int .i64 a.parent] 129)) := (Below.refl _ _).alloc (Nat.le_refl _) _
  have HB := Lib.hid hb
  have HD : Hid (Gr.based a = if a.kind = 1 ∨ a.kind = 2 then decide (a.basis = 1 ∨ a.basis = 3) else if a.kind = 3 then decide (a.basis = 3) else decide (a.basis = 2)) := Lib.hid rfl
  clear hb
  cases k1 : (a.kind == 1) <;> cases k2 : (a.kind == 2) <;> cases k3 : (a.kind == 3) <;> cases b1 : (a.basis == 1) <;> cases b2 : (a.basis == 2) <;> cases b3 : (a.basis == 3)
  all_goals first
    | (exfalso; simp at k1 k2 k3 b1 b2 b3; omega)
    | (have HE := HD
       go_enter Tryz.func112, Tryz.ntmps112
       go_wp2_with fail
       go_ret
       refine ⟨?_, HB.out⟩
       rw [HE.out]
       simp at k1 k2 k3 b1 b2 b3
       simp [k1, k2, k3, b1, b2, b3])
set_option maxHeartbeats 1000000 in
theorem rbased_any (a : Acc) (w : World) : Calls Tryz.prog 97 #[.agg #[.int .i64 a.code, .int .i64 a.kind, .int .i64 a.basis, .int .i64 a.parent]] w (fun e w' => e = .returned (.bool (Gr.based a)) ∧ Below w.heap.size w w') := by
  have hb : Below w.heap.size w (w.alloc (.cells #[.int .i64 a.code, .int .i64 a.kind, .int .i64 a.basis, .int .i64 a.parent] 129)) := (Below.refl _ _).alloc (Nat.le_refl _) _
  have HB := Lib.hid hb
  have HD : Hid (Gr.based a = if a.kind = 1 ∨ a.kind = 2 then decide (a.basis = 1 ∨ a.basis = 3) else if a.kind = 3 then decide (a.basis = 3) else decide (a.basis = 2)) := Lib.hid rfl
  clear hb
  cases k1 : (a.kind == 1) <;> cases k2 : (a.kind == 2) <;> cases k3 : (a.kind == 3) <;> cases b1 : (a.basis == 1) <;> cases b2 : (a.basis == 2) <;> cases b3 : (a.basis == 3)
  all_goals first
    | (exfalso; simp at k1 k2 k3 b1 b2 b3; omega)
    | (have HE := HD
       go_enter Tryz.func97, Tryz.ntmps97
       go_wp2_with fail
       go_ret
       refine ⟨?_, HB.out⟩
       rw [HE.out]
       simp at k1 k2 k3 b1 b2 b3
       simp [k1, k2, k3, b1, b2, b3])
end Go.Proofs.YthfbpbbepogllaaGreat
/- The walks of letter and name, and of their references. -/
namespace Go.Proofs.YthfbpbbepogllaaGreat
set_option linter.unusedVariables false
set_option linter.unusedSimpArgs false
open Go.RowKit

set_option maxHeartbeats 1000000 in
theorem letter_any (c : UInt8) (w : World) : Calls Tryz.prog 140 #[.int .u8 c.toNat] w fun e w' => e = .returned (.bool (Gr.letB c)) ∧ w = w' := by
  have h255 := u8_le c
  have HD : Hid (Gr.letB c = ((decide (97 ≤ (c.toNat : Int)) && decide ((c.toNat : Int) ≤ 122)) || (decide (65 ≤ (c.toNat : Int)) && decide ((c.toNat : Int) ≤ 90)))) := Lib.hid rfl
  generalize (c.toNat : Int) = n at *
  generalize Gr.letB c = b at *
  by_cases h1 : 97 ≤ n <;> by_cases h2 : n ≤ 122 <;> by_cases h3 : 65 ≤ n <;> by_cases h4 : n ≤ 90
  all_goals first
    | (exfalso; omega)
    | (go_enter Tryz.func140, Tryz.ntmps140
       go_wp2_with fail
       go_ret
       exact ⟨ret_bool (by rw [HD.out]; simp [h1, h2, h3, h4]), rfl⟩)
set_option maxHeartbeats 1000000 in
theorem rletter_any (c : UInt8) (w : World) : Calls Tryz.prog 129 #[.int .u8 c.toNat] w fun e w' => e = .returned (.bool (Gr.letB c)) ∧ w = w' := by
  have h255 := u8_le c
  have HD : Hid (Gr.letB c = ((decide (97 ≤ (c.toNat : Int)) && decide ((c.toNat : Int) ≤ 122)) || (decide (65 ≤ (c.toNat : Int)) && decide ((c.toNat : Int) ≤ 90)))) := Lib.hid rfl
  generalize (c.toNat : Int) = n at *
  generalize Gr.letB c = b at *
  by_cases h1 : 97 ≤ n <;> by_cases h2 : n ≤ 122 <;> by_cases h3 : 65 ≤ n <;> by_cases h4 : n ≤ 90
  all_goals first
    | (exfalso; omega)
    | (go_enter Tryz.func129, Tryz.ntmps129
       go_wp2_with fail
       go_ret
       exact ⟨ret_bool (by rw [HD.out]; simp [h1, h2, h3, h4]), rfl⟩)
set_option maxHeartbeats 4000000 in
theorem name_any (s : ByteArray) (w : World) (hs : s.size ≤ maxLen) : Calls Tryz.prog 115 #[.string s] w fun e w' => e = .returned (.bool (Gr.namV s)) ∧ w = w' := by
  unfold maxLen at hs
  go_enter Tryz.func115, Tryz.ntmps115
  go_wp2_with fail
  go_loopw [3, 4, 7] (fun _ _ t wr => ∃ k : Nat, k ≤ s.size ∧ (∀ j, j < k → Gr.namAt s j = true) ∧ t = .int .i64 k ∧ w = wr) (fun _ _ t _ => s.size - (intOf t).toNat)
  case atStart => exact ⟨0, by omega, fun j h => by omega, rfl, rfl⟩
  case round =>
    obtain ⟨k, hk, hno, rfl, rfl⟩ := hrel
    have HN := Lib.hid hno
    clear hno
    by_cases hlt : k < s.size
    · have HB := Lib.hid (Gr.byte_at s k hlt)
      have h255 := u8_le s[k]
      cases hl : Gr.letB s[k]
      · cases hk0 : ((k : Int) == 0)
        · cases h45 : ((s[k].toNat : Int) != 45)
          · have HE : Hid (Gr.namAt s k = true) := Lib.hid (by unfold Gr.namAt; rw [HB.out]; simp only [Bool.or_eq_true, Bool.and_eq_true, decide_eq_true_eq]; first | exact .inl hl | ((try simp at hk0); (try simp at h45); exact .inr ⟨by omega, by omega⟩))
            go_wp2_with (go_at_call 140; refine (letter_any _ _).mono ?_; rintro e w2 ⟨rfl, rfl⟩; rw [hl])
            go_roundw
            case rel =>
              refine ⟨k + 1, by omega, fun j h => ?_, by go_num, trivial⟩
              by_cases e : j = k
              · subst e; exact HE.out
              · exact HN.out j (by omega)
            case measure => simp [intOf]; omega
          · by_cases h1 : 48 ≤ (s[k].toNat : Int)
            · by_cases h2 : (s[k].toNat : Int) ≤ 57
              · have HE : Hid (Gr.namAt s k = true) := Lib.hid (by unfold Gr.namAt; rw [HB.out]; simp only [Bool.or_eq_true, Bool.and_eq_true, decide_eq_true_eq]; first | exact .inl hl | ((try simp at hk0); (try simp at h45); exact .inr ⟨by omega, by omega⟩))
                go_wp2_with (go_at_call 140; refine (letter_any _ _).mono ?_; rintro e w2 ⟨rfl, rfl⟩; rw [hl])
                go_roundw
                case rel =>
                  refine ⟨k + 1, by omega, fun j h => ?_, by go_num, trivial⟩
                  by_cases e : j = k
                  · subst e; exact HE.out
                  · exact HN.out j (by omega)
                case measure => simp [intOf]; omega
              · have HE0 : Hid (Gr.namAt s k = false) := Lib.hid (by unfold Gr.namAt; rw [HB.out, ← Bool.not_eq_true]; simp only [Bool.or_eq_true, Bool.and_eq_true, decide_eq_true_eq]; rintro (h | ⟨h8, h9⟩) <;> first | (rw [hl] at h; cases h; done) | ((try simp at hk0); (try simp at h45); omega))
                have HE : Hid (Gr.namV s = false) := Lib.hid (by unfold Gr.namV; rw [allAt_no hlt HE0.out]; rfl)
                go_wp2_with (go_at_call 140; refine (letter_any _ _).mono ?_; rintro e w2 ⟨rfl, rfl⟩; rw [hl])
                go_ret
                exact ⟨by rw [HE.out]; rfl, rfl⟩
            · have HE0 : Hid (Gr.namAt s k = false) := Lib.hid (by unfold Gr.namAt; rw [HB.out, ← Bool.not_eq_true]; simp only [Bool.or_eq_true, Bool.and_eq_true, decide_eq_true_eq]; rintro (h | ⟨h8, h9⟩) <;> first | (rw [hl] at h; cases h; done) | ((try simp at hk0); (try simp at h45); omega))
              have HE : Hid (Gr.namV s = false) := Lib.hid (by unfold Gr.namV; rw [allAt_no hlt HE0.out]; rfl)
              go_wp2_with (go_at_call 140; refine (letter_any _ _).mono ?_; rintro e w2 ⟨rfl, rfl⟩; rw [hl])
              go_ret
              exact ⟨by rw [HE.out]; rfl, rfl⟩
        · have h45 : (true : Bool) = true := rfl
          have HE0 : Hid (Gr.namAt s k = false) := Lib.hid (by unfold Gr.namAt; rw [HB.out, ← Bool.not_eq_true]; simp only [Bool.or_eq_true, Bool.and_eq_true, decide_eq_true_eq]; rintro (h | ⟨h8, h9⟩) <;> first | (rw [hl] at h; cases h; done) | ((try simp at hk0); (try simp at h45); omega))
          have HE : Hid (Gr.namV s = false) := Lib.hid (by unfold Gr.namV; rw [allAt_no hlt HE0.out]; rfl)
          go_wp2_with (go_at_call 140; refine (letter_any _ _).mono ?_; rintro e w2 ⟨rfl, rfl⟩; rw [hl])
          go_ret
          exact ⟨by rw [HE.out]; rfl, rfl⟩
      · have h45 : (1 : Nat) = 1 := rfl
        have hk0 : (1 : Nat) = 1 := rfl
        have HE : Hid (Gr.namAt s k = true) := Lib.hid (by unfold Gr.namAt; rw [HB.out]; simp only [Bool.or_eq_true, Bool.and_eq_true, decide_eq_true_eq]; first | exact .inl hl | ((try simp at hk0); (try simp at h45); exact .inr ⟨by omega, by omega⟩))
        go_wp2_with (go_at_call 140; refine (letter_any _ _).mono ?_; rintro e w2 ⟨rfl, rfl⟩; rw [hl])
        go_roundw
        case rel =>
          refine ⟨k + 1, by omega, fun j h => ?_, by go_num, trivial⟩
          by_cases e : j = k
          · subst e; exact HE.out
          · exact HN.out j (by omega)
        case measure => simp [intOf]; omega
    · have HA : Hid (allAt s.size (Gr.namAt s) = true) := Lib.hid (allAt_yes fun j hj => HN.out j (by omega))
      by_cases h1 : 1 ≤ s.size
      · by_cases h2 : s.size ≤ 16
        · have HE : Hid (Gr.namV s = true) := Lib.hid (by unfold Gr.namV; rw [HA.out]; simp [h1, h2])
          go_wp2_with fail
          go_ret
          exact ⟨ret_bool (by rw [HE.out]; simp; omega), rfl⟩
        · have HE : Hid (Gr.namV s = false) := Lib.hid (by unfold Gr.namV; rw [HA.out]; simp [h1, h2])
          go_wp2_with fail
          go_ret
          exact ⟨ret_bool (by rw [HE.out]; simp; omega), rfl⟩
      · have HE : Hid (Gr.namV s = false) := Lib.hid (by unfold Gr.namV; rw [HA.out]; simp [h1])
        go_wp2_with fail
        go_ret
        exact ⟨ret_bool (by rw [HE.out] <;> first | rfl | (simp; done) | (simp; omega)), rfl⟩
set_option maxHeartbeats 4000000 in
theorem rname_any (s : ByteArray) (w : World) (hs : s.size ≤ maxLen) : Calls Tryz.prog 99 #[.string s] w fun e w' => e = .returned (.bool (Gr.namV s)) ∧ w = w' := by
  unfold maxLen at hs
  go_enter Tryz.func99, Tryz.ntmps99
  go_wp2_with fail
  go_loopw [3] (fun t wr => ∃ k : Nat, k ≤ s.size ∧ (∀ j, j < k → Gr.namAt s j = true) ∧ t = .int .i64 k ∧ w = wr) (fun t _ => s.size - (intOf t).toNat)
  case atStart => exact ⟨0, by omega, fun j h => by omega, rfl, rfl⟩
  case round =>
    obtain ⟨k, hk, hno, rfl, rfl⟩ := hrel
    have HN := Lib.hid hno
    clear hno
    by_cases hlt : k < s.size
    · have HB := Lib.hid (Gr.byte_at s k hlt)
      have h255 := u8_le s[k]
      cases hl : Gr.letB s[k]
      · cases hk0 : ((k : Int) == 0)
        · cases h45 : ((s[k].toNat : Int) != 45)
          · have HE : Hid (Gr.namAt s k = true) := Lib.hid (by unfold Gr.namAt; rw [HB.out]; simp only [Bool.or_eq_true, Bool.and_eq_true, decide_eq_true_eq]; first | exact .inl hl | ((try simp at hk0); (try simp at h45); exact .inr ⟨by omega, by omega⟩))
            go_wp2_with (go_at_call 129; refine (rletter_any _ _).mono ?_; rintro e w2 ⟨rfl, rfl⟩; rw [hl])
            go_roundw
            case rel =>
              refine ⟨k + 1, by omega, fun j h => ?_, by go_num, trivial⟩
              by_cases e : j = k
              · subst e; exact HE.out
              · exact HN.out j (by omega)
            case measure => simp [intOf]; omega
          · by_cases h1 : 48 ≤ (s[k].toNat : Int)
            · by_cases h2 : (s[k].toNat : Int) ≤ 57
              · have HE : Hid (Gr.namAt s k = true) := Lib.hid (by unfold Gr.namAt; rw [HB.out]; simp only [Bool.or_eq_true, Bool.and_eq_true, decide_eq_true_eq]; first | exact .inl hl | ((try simp at hk0); (try simp at h45); exact .inr ⟨by omega, by omega⟩))
                go_wp2_with (go_at_call 129; refine (rletter_any _ _).mono ?_; rintro e w2 ⟨rfl, rfl⟩; rw [hl])
                go_roundw
                case rel =>
                  refine ⟨k + 1, by omega, fun j h => ?_, by go_num, trivial⟩
                  by_cases e : j = k
                  · subst e; exact HE.out
                  · exact HN.out j (by omega)
                case measure => simp [intOf]; omega
              · have HE0 : Hid (Gr.namAt s k = false) := Lib.hid (by unfold Gr.namAt; rw [HB.out, ← Bool.not_eq_true]; simp only [Bool.or_eq_true, Bool.and_eq_true, decide_eq_true_eq]; rintro (h | ⟨h8, h9⟩) <;> first | (rw [hl] at h; cases h; done) | ((try simp at hk0); (try simp at h45); omega))
                have HE : Hid (Gr.namV s = false) := Lib.hid (by unfold Gr.namV; rw [allAt_no hlt HE0.out]; rfl)
                go_wp2_with (go_at_call 129; refine (rletter_any _ _).mono ?_; rintro e w2 ⟨rfl, rfl⟩; rw [hl])
                go_ret
                exact ⟨by rw [HE.out]; rfl, rfl⟩
            · have HE0 : Hid (Gr.namAt s k = false) := Lib.hid (by unfold Gr.namAt; rw [HB.out, ← Bool.not_eq_true]; simp only [Bool.or_eq_true, Bool.and_eq_true, decide_eq_true_eq]; rintro (h | ⟨h8, h9⟩) <;> first | (rw [hl] at h; cases h; done) | ((try simp at hk0); (try simp at h45); omega))
              have HE : Hid (Gr.namV s = false) := Lib.hid (by unfold Gr.namV; rw [allAt_no hlt HE0.out]; rfl)
              go_wp2_with (go_at_call 129; refine (rletter_any _ _).mono ?_; rintro e w2 ⟨rfl, rfl⟩; rw [hl])
              go_ret
              exact ⟨by rw [HE.out]; rfl, rfl⟩
        · have h45 : (true : Bool) = true := rfl
          have HE0 : Hid (Gr.namAt s k = false) := Lib.hid (by unfold Gr.namAt; rw [HB.out, ← Bool.not_eq_true]; simp only [Bool.or_eq_true, Bool.and_eq_true, decide_eq_true_eq]; rintro (h | ⟨h8, h9⟩) <;> first | (rw [hl] at h; cases h; done) | ((try simp at hk0); (try simp at h45); omega))
          have HE : Hid (Gr.namV s = false) := Lib.hid (by unfold Gr.namV; rw [allAt_no hlt HE0.out]; rfl)
          go_wp2_with (go_at_call 129; refine (rletter_any _ _).mono ?_; rintro e w2 ⟨rfl, rfl⟩; rw [hl])
          go_ret
          exact ⟨by rw [HE.out]; rfl, rfl⟩
      · have h45 : (1 : Nat) = 1 := rfl
        have hk0 : (1 : Nat) = 1 := rfl
        have HE : Hid (Gr.namAt s k = true) := Lib.hid (by unfold Gr.namAt; rw [HB.out]; simp only [Bool.or_eq_true, Bool.and_eq_true, decide_eq_true_eq]; first | exact .inl hl | ((try simp at hk0); (try simp at h45); exact .inr ⟨by omega, by omega⟩))
        go_wp2_with (go_at_call 129; refine (rletter_any _ _).mono ?_; rintro e w2 ⟨rfl, rfl⟩; rw [hl])
        go_roundw
        case rel =>
          refine ⟨k + 1, by omega, fun j h => ?_, by go_num, trivial⟩
          by_cases e : j = k
          · subst e; exact HE.out
          · exact HN.out j (by omega)
        case measure => simp [intOf]; omega
    · have HA : Hid (allAt s.size (Gr.namAt s) = true) := Lib.hid (allAt_yes fun j hj => HN.out j (by omega))
      by_cases h1 : 1 ≤ s.size
      · by_cases h2 : s.size ≤ 16
        · have HE : Hid (Gr.namV s = true) := Lib.hid (by unfold Gr.namV; rw [HA.out]; simp [h1, h2])
          go_wp2_with fail
          go_ret
          exact ⟨ret_bool (by rw [HE.out]; simp; omega), rfl⟩
        · have HE : Hid (Gr.namV s = false) := Lib.hid (by unfold Gr.namV; rw [HA.out]; simp [h1, h2])
          go_wp2_with fail
          go_ret
          exact ⟨ret_bool (by rw [HE.out]; simp; omega), rfl⟩
      · have HE : Hid (Gr.namV s = false) := Lib.hid (by unfold Gr.namV; rw [HA.out]; simp [h1])
        go_wp2_with fail
        go_ret
        exact ⟨ret_bool (by rw [HE.out] <;> first | rfl | (simp; done) | (simp; omega)), rfl⟩
end Go.Proofs.YthfbpbbepogllaaGreat
