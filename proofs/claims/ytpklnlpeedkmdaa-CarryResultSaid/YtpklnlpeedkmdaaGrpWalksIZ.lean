/- Texts of this claim, put together. -/
import Derived.Test.YtpklnlpeedkmdaaGrpWalksHZ
/- The walks of letter and name, and of their references. -/
namespace Go.Proofs.Ytpklnlpeedkmdaa
set_option linter.unusedVariables false
set_option linter.unusedSimpArgs false
open Go.RowKit

set_option maxHeartbeats 1000000 in
theorem letter_any (c : UInt8) (w : World) : Calls Try.prog 106 #[.int .u8 c.toNat] w fun e w' => e = .returned (.bool (Gr.letB c)) ∧ w = w' := by
  have h255 := u8_le c
  have HD : Hid (Gr.letB c = ((decide (97 ≤ (c.toNat : Int)) && decide ((c.toNat : Int) ≤ 122)) || (decide (65 ≤ (c.toNat : Int)) && decide ((c.toNat : Int) ≤ 90)))) := Lib.hid rfl
  generalize (c.toNat : Int) = n at *
  generalize Gr.letB c = b at *
  by_cases h1 : 97 ≤ n <;> by_cases h2 : n ≤ 122 <;> by_cases h3 : 65 ≤ n <;> by_cases h4 : n ≤ 90
  all_goals first
    | (exfalso; omega)
    | (go_enter Try.func106, Try.ntmps106
       go_wp2_with fail
       go_ret
       exact ⟨ret_bool (by rw [HD.out]; simp [h1, h2, h3, h4]), rfl⟩)
set_option maxHeartbeats 1000000 in
theorem rletter_any (c : UInt8) (w : World) : Calls Try.prog 102 #[.int .u8 c.toNat] w fun e w' => e = .returned (.bool (Gr.letB c)) ∧ w = w' := by
  have h255 := u8_le c
  have HD : Hid (Gr.letB c = ((decide (97 ≤ (c.toNat : Int)) && decide ((c.toNat : Int) ≤ 122)) || (decide (65 ≤ (c.toNat : Int)) && decide ((c.toNat : Int) ≤ 90)))) := Lib.hid rfl
  generalize (c.toNat : Int) = n at *
  generalize Gr.letB c = b at *
  by_cases h1 : 97 ≤ n <;> by_cases h2 : n ≤ 122 <;> by_cases h3 : 65 ≤ n <;> by_cases h4 : n ≤ 90
  all_goals first
    | (exfalso; omega)
    | (go_enter Try.func102, Try.ntmps102
       go_wp2_with fail
       go_ret
       exact ⟨ret_bool (by rw [HD.out]; simp [h1, h2, h3, h4]), rfl⟩)
set_option maxHeartbeats 4000000 in
theorem name_any (s : ByteArray) (w : World) (hs : s.size ≤ maxLen) : Calls Try.prog 83 #[.string s] w fun e w' => e = .returned (.bool (Gr.namV s)) ∧ w = w' := by
  unfold maxLen at hs
  go_enter Try.func83, Try.ntmps83
  go_wp2_with fail
  go_loopw [3, 4, 7] (fun _ _ t wr => ∃ k : Nat, k ≤ s.size ∧ (∀ j, j < k → Gr.namAt s j = true) ∧ t = .int .i64 k ∧ w = wr) (fun _ _ t _ => s.size - (intOf t).toNat)
  case atStart => exact ⟨0, by omega, fun j h => by omega, rfl, rfl⟩
  case round =>
    obtain ⟨k, hk, hno, rfl, rfl⟩ := hrel
    have HN := Lib.hid hno
    clear hno
    by_cases hlt : k < s.size
    · have HB := Lib.hid (Gr.byte_at s k hlt)
      have h255 := u8_le s[k]
      cases hl : Gr.letB s[k]
      · cases hk0 : ((k : Int) == 0)
        · cases h45 : ((s[k].toNat : Int) != 45)
          · have HE : Hid (Gr.namAt s k = true) := Lib.hid (by unfold Gr.namAt; rw [HB.out]; simp only [Bool.or_eq_true, Bool.and_eq_true, decide_eq_true_eq]; first | exact .inl hl | ((try simp at hk0); (try simp at h45); exact .inr ⟨by omega, by omega⟩))
            go_wp2_with (go_at_call 106; refine (letter_any _ _).mono ?_; rintro e w2 ⟨rfl, rfl⟩; rw [hl])
            go_roundw
            case rel =>
              refine ⟨k + 1, by omega, fun j h => ?_, by go_num, trivial⟩
              by_cases e : j = k
              · subst e; exact HE.out
              · exact HN.out j (by omega)
            case measure => simp [intOf]; omega
          · by_cases h1 : 48 ≤ (s[k].toNat : Int)
            · by_cases h2 : (s[k].toNat : Int) ≤ 57
              · have HE : Hid (Gr.namAt s k = true) := Lib.hid (by unfold Gr.namAt; rw [HB.out]; simp only [Bool.or_eq_true, Bool.and_eq_true, decide_eq_true_eq]; first | exact .inl hl | ((try simp at hk0); (try simp at h45); exact .inr ⟨by omega, by omega⟩))
                go_wp2_with (go_at_call 106; refine (letter_any _ _).mono ?_; rintro e w2 ⟨rfl, rfl⟩; rw [hl])
                go_roundw
                case rel =>
                  refine ⟨k + 1, by omega, fun j h => ?_, by go_num, trivial⟩
                  by_cases e : j = k
                  · subst e; exact HE.out
                  · exact HN.out j (by omega)
                case measure => simp [intOf]; omega
              · have HE0 : Hid (Gr.namAt s k = false) := Lib.hid (by unfold Gr.namAt; rw [HB.out, ← Bool.not_eq_true]; simp only [Bool.or_eq_true, Bool.and_eq_true, decide_eq_true_eq]; rintro (h | ⟨h8, h9⟩) <;> first | (rw [hl] at h; cases h; done) | ((try simp at hk0); (try simp at h45); omega))
                have HE : Hid (Gr.namV s = false) := Lib.hid (by unfold Gr.namV; rw [allAt_no hlt HE0.out]; rfl)
                go_wp2_with (go_at_call 106; refine (letter_any _ _).mono ?_; rintro e w2 ⟨rfl, rfl⟩; rw [hl])
                go_ret
                exact ⟨by rw [HE.out]; rfl, rfl⟩
            · have HE0 : Hid (Gr.namAt s k = false) := Lib.hid (by unfold Gr.namAt; rw [HB.out, ← Bool.not_eq_true]; simp only [Bool.or_eq_true, Bool.and_eq_true, decide_eq_true_eq]; rintro (h | ⟨h8, h9⟩) <;> first | (rw [hl] at h; cases h; done) | ((try simp at hk0); (try simp at h45); omega))
              have HE : Hid (Gr.namV s = false) := Lib.hid (by unfold Gr.namV; rw [allAt_no hlt HE0.out]; rfl)
              go_wp2_with (go_at_call 106; refine (letter_any _ _).mono ?_; rintro e w2 ⟨rfl, rfl⟩; rw [hl])
              go_ret
              exact ⟨by rw [HE.out]; rfl, rfl⟩
        · have h45 : (true : Bool) = true := rfl
          have HE0 : Hid (Gr.namAt s k = false) := Lib.hid (by unfold Gr.namAt; rw [HB.out, ← Bool.not_eq_true]; simp only [Bool.or_eq_true, Bool.and_eq_true, decide_eq_true_eq]; rintro (h | ⟨h8, h9⟩) <;> first | (rw [hl] at h; cases h; done) | ((try simp at hk0); (try simp at h45); omega))
          have HE : Hid (Gr.namV s = false) := Lib.hid (by unfold Gr.namV; rw [allAt_no hlt HE0.out]; rfl)
          go_wp2_with (go_at_call 106; refine (letter_any _ _).mono ?_; rintro e w2 ⟨rfl, rfl⟩; rw [hl])
          go_ret
          exact ⟨by rw [HE.out]; rfl, rfl⟩
      · have h45 : (1 : Nat) = 1 := rfl
        have hk0 : (1 : Nat) = 1 := rfl
        have HE : Hid (Gr.namAt s k = true) := Lib.hid (by unfold Gr.namAt; rw [HB.out]; simp only [Bool.or_eq_true, Bool.and_eq_true, decide_eq_true_eq]; first | exact .inl hl | ((try simp at hk0); (try simp at h45); exact .inr ⟨by omega, by omega⟩))
        go_wp2_with (go_at_call 106; refine (letter_any _ _).mono ?_; rintro e w2 ⟨rfl, rfl⟩; rw [hl])
        go_roundw
        case rel =>
          refine ⟨k + 1, by omega, fun j h => ?_, by go_num, trivial⟩
          by_cases e : j = k
          · subst e; exact HE.out
          · exact HN.out j (by omega)
        case measure => simp [intOf]; omega
    · have HA : Hid (allAt s.size (Gr.namAt s) = true) := Lib.hid (allAt_yes fun j hj => HN.out j (by omega))
      by_cases h1 : 1 ≤ s.size
      · by_cases h2 : s.size ≤ 16
        · have HE : Hid (Gr.namV s = true) := Lib.hid (by unfold Gr.namV; rw [HA.out]; simp [h1, h2])
          go_wp2_with fail
          go_ret
          exact ⟨ret_bool (by rw [HE.out]; simp; omega), rfl⟩
        · have HE : Hid (Gr.namV s = false) := Lib.hid (by unfold Gr.namV; rw [HA.out]; simp [h1, h2])
          go_wp2_with fail
          go_ret
          exact ⟨ret_bool (by rw [HE.out]; simp; omega), rfl⟩
      · have HE : Hid (Gr.namV s = false) := Lib.hid (by unfold Gr.namV; rw [HA.out]; simp [h1])
        go_wp2_with fail
        go_ret
        exact ⟨ret_bool (by rw [HE.out] <;> first | rfl | (simp; done) | (simp; omega)), rfl⟩
set_option maxHeartbeats 4000000 in
theorem rname_any (s : ByteArray) (w : World) (hs : s.size ≤ maxLen) : Calls Try.prog 75 #[.string s] w fun e w' => e = .returned (.bool (Gr.namV s)) ∧ w = w' := by
  unfold maxLen at hs
  go_enter Try.func75, Try.ntmps75
  go_wp2_with fail
  go_loopw [3] (fun t wr => ∃ k : Nat, k ≤ s.size ∧ (∀ j, j < k → Gr.namAt s j = true) ∧ t = .int .i64 k ∧ w = wr) (fun t _ => s.size - (intOf t).toNat)
  case atStart => exact ⟨0, by omega, fun j h => by omega, rfl, rfl⟩
  case round =>
    obtain ⟨k, hk, hno, rfl, rfl⟩ := hrel
    have HN := Lib.hid hno
    clear hno
    by_cases hlt : k < s.size
    · have HB := Lib.hid (Gr.byte_at s k hlt)
      have h255 := u8_le s[k]
      cases hl : Gr.letB s[k]
      · cases hk0 : ((k : Int) == 0)
        · cases h45 : ((s[k].toNat : Int) != 45)
          · have HE : Hid (Gr.namAt s k = true) := Lib.hid (by unfold Gr.namAt; rw [HB.out]; simp only [Bool.or_eq_true, Bool.and_eq_true, decide_eq_true_eq]; first | exact .inl hl | ((try simp at hk0); (try simp at h45); exact .inr ⟨by omega, by omega⟩))
            go_wp2_with (go_at_call 102; refine (rletter_any _ _).mono ?_; rintro e w2 ⟨rfl, rfl⟩; rw [hl])
            go_roundw
            case rel =>
              refine ⟨k + 1, by omega, fun j h => ?_, by go_num, trivial⟩
              by_cases e : j = k
              · subst e; exact HE.out
              · exact HN.out j (by omega)
            case measure => simp [intOf]; omega
          · by_cases h1 : 48 ≤ (s[k].toNat : Int)
            · by_cases h2 : (s[k].toNat : Int) ≤ 57
              · have HE : Hid (Gr.namAt s k = true) := Lib.hid (by unfold Gr.namAt; rw [HB.out]; simp only [Bool.or_eq_true, Bool.and_eq_true, decide_eq_true_eq]; first | exact .inl hl | ((try simp at hk0); (try simp at h45); exact .inr ⟨by omega, by omega⟩))
                go_wp2_with (go_at_call 102; refine (rletter_any _ _).mono ?_; rintro e w2 ⟨rfl, rfl⟩; rw [hl])
                go_roundw
                case rel =>
                  refine ⟨k + 1, by omega, fun j h => ?_, by go_num, trivial⟩
                  by_cases e : j = k
                  · subst e; exact HE.out
                  · exact HN.out j (by omega)
                case measure => simp [intOf]; omega
              · have HE0 : Hid (Gr.namAt s k = false) := Lib.hid (by unfold Gr.namAt; rw [HB.out, ← Bool.not_eq_true]; simp only [Bool.or_eq_true, Bool.and_eq_true, decide_eq_true_eq]; rintro (h | ⟨h8, h9⟩) <;> first | (rw [hl] at h; cases h; done) | ((try simp at hk0); (try simp at h45); omega))
                have HE : Hid (Gr.namV s = false) := Lib.hid (by unfold Gr.namV; rw [allAt_no hlt HE0.out]; rfl)
                go_wp2_with (go_at_call 102; refine (rletter_any _ _).mono ?_; rintro e w2 ⟨rfl, rfl⟩; rw [hl])
                go_ret
                exact ⟨by rw [HE.out]; rfl, rfl⟩
            · have HE0 : Hid (Gr.namAt s k = false) := Lib.hid (by unfold Gr.namAt; rw [HB.out, ← Bool.not_eq_true]; simp only [Bool.or_eq_true, Bool.and_eq_true, decide_eq_true_eq]; rintro (h | ⟨h8, h9⟩) <;> first | (rw [hl] at h; cases h; done) | ((try simp at hk0); (try simp at h45); omega))
              have HE : Hid (Gr.namV s = false) := Lib.hid (by unfold Gr.namV; rw [allAt_no hlt HE0.out]; rfl)
              go_wp2_with (go_at_call 102; refine (rletter_any _ _).mono ?_; rintro e w2 ⟨rfl, rfl⟩; rw [hl])
              go_ret
              exact ⟨by rw [HE.out]; rfl, rfl⟩
        · have h45 : (true : Bool) = true := rfl
          have HE0 : Hid (Gr.namAt s k = false) := Lib.hid (by unfold Gr.namAt; rw [HB.out, ← Bool.not_eq_true]; simp only [Bool.or_eq_true, Bool.and_eq_true, decide_eq_true_eq]; rintro (h | ⟨h8, h9⟩) <;> first | (rw [hl] at h; cases h; done) | ((try simp at hk0); (try simp at h45); omega))
          have HE : Hid (Gr.namV s = false) := Lib.hid (by unfold Gr.namV; rw [allAt_no hlt HE0.out]; rfl)
          go_wp2_with (go_at_call 102; refine (rletter_any _ _).mono ?_; rintro e w2 ⟨rfl, rfl⟩; rw [hl])
          go_ret
          exact ⟨by rw [HE.out]; rfl, rfl⟩
      · have h45 : (1 : Nat) = 1 := rfl
        have hk0 : (1 : Nat) = 1 := rfl
        have HE : Hid (Gr.namAt s k = true) := Lib.hid (by unfold Gr.namAt; rw [HB.out]; simp only [Bool.or_eq_true, Bool.and_eq_true, decide_eq_true_eq]; first | exact .inl hl | ((try simp at hk0); (try simp at h45); exact .inr ⟨by omega, by omega⟩))
        go_wp2_with (go_at_call 102; refine (rletter_any _ _).mono ?_; rintro e w2 ⟨rfl, rfl⟩; rw [hl])
        go_roundw
        case rel =>
          refine ⟨k + 1, by omega, fun j h => ?_, by go_num, trivial⟩
          by_cases e : j = k
          · subst e; exact HE.out
          · exact HN.out j (by omega)
        case measure => simp [intOf]; omega
    · have HA : Hid (allAt s.size (Gr.namAt s) = true) := Lib.hid (allAt_yes fun j hj => HN.out j (by omega))
      by_cases h1 : 1 ≤ s.size
      · by_cases h2 : s.size ≤ 16
        · have HE : Hid (Gr.namV s = true) := Lib.hid (by unfold Gr.namV; rw [HA.out]; simp [h1, h2])
          go_wp2_with fail
          go_ret
          exact ⟨ret_bool (by rw [HE.out]; simp; omega), rfl⟩
        · have HE : Hid (Gr.namV s = false) := Lib.hid (by unfold Gr.namV; rw [HA.out]; simp [h1, h2])
          go_wp2_with fail
          go_ret
          exact ⟨ret_bool (by rw [HE.out]; simp; omega), rfl⟩
      · have HE : Hid (Gr.namV s = false) := Lib.hid (by unfold Gr.namV; rw [HA.out]; simp [h1])
        go_wp2_with fail
        go_ret
        exact ⟨ret_bool (by rw [HE.out] <;> first | rfl | (simp; done) | (simp; omega)), rfl⟩
end Go.Proofs.Ytpklnlpeedkmdaa
