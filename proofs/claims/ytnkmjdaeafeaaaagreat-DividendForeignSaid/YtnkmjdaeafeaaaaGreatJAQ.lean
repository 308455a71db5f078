/- Texts of this claim, put together. -/
import Derived.Test.YtnkmjdaeafeaaaaGreatJAP
import Derived.WalkKit
/- The walks of letter and name, and of their references. -/
namespace Go.Proofs.YtnkmjdaeafeaaaaGreat
set_option linter.unusedVariables false
set_option linter.unusedSimpArgs false
open Go.RowKit

set_option maxHeartbeats 1000000 in
theorem letter_any (c : UInt8) (w : World) : Calls Tryz.prog 112 #[.int .u8 c.toNat] w fun e w' => e = .returned (.bool (Gr.letB c)) ∧ w = w' := by
  have h255 := u8_le c
  have HD : Hid (Gr.letB c = ((decide (97 ≤ (c.toNat : Int)) && decide ((c.toNat : Int) ≤ 122)) || (decide (65 ≤ (c.toNat : Int)) && decide ((c.toNat : Int) ≤ 90)))) := Lib.hid rfl
  generalize (c.toNat : Int) = n at *
  generalize Gr.letB c = b at *
  by_cases h1 : 97 ≤ n <;> by_cases h2 : n ≤ 122 <;> by_cases h3 : 65 ≤ n <;> by_cases h4 : n ≤ 90
  all_goals first
    | (exfalso; omega)
    | (go_enter Tryz.func112, Tryz.ntmps112
       go_wp2_with fail
       go_ret
       exact ⟨ret_bool (by rw [HD.out]; simp [h1, h2, h3, h4]), rfl⟩)
set_option maxHeartbeats 1000000 in
theorem rletter_any (c : UInt8) (w : World) : Calls Tryz.prog 118 #[.int .u8 c.toNat] w fun e w' => e = .returned (.bool (Gr.letB c)) ∧ w = w' := by
  have h255 := u8_le c
  have HD : Hid (Gr.letB c = ((decide (97 ≤ (c.toNat : Int)) && decide ((c.toNat : Int) ≤ 122)) || (decide (65 ≤ (c.toNat : Int)) && decide ((c.toNat : Int) ≤ 90)))) := Lib.hid rfl
  generalize (c.toNat : Int) = n at *
  generalize Gr.letB c = b at *
  by_cases h1 : 97 ≤ n <;> by_cases h2 : n ≤ 122 <;> by_cases h3 : 65 ≤ n <;> by_cases h4 : n ≤ 90
  all_goals first
    | (exfalso; omega)
    | (go_enter Tryz.func118, Tryz.ntmps118
       go_wp2_with fail
       go_ret
       exact ⟨ret_bool (by rw [HD.out]; simp [h1, h2, h3, h4]), rfl⟩)
set_option maxHeartbeats 4000000 in
theorem name_any (s : ByteArray) (w : World) (hs : s.size ≤ maxLen) : Calls Tryz.prog 91 #[.string s] w fun e w' => e = .returned (.bool (Gr.namV s)) ∧ w = w' := by
  unfold maxLen at hs
  go_enter Tryz.func91, Tryz.ntmps91
  go_wp2_with fail
  go_loopw [3, 4, 7] (fun _ _ t wr => ∃ k : Nat, k ≤ s.size ∧ (∀ j, j < k → Gr.namAt s j = true) ∧ t = .int .i64 k ∧ w = wr) (fun _ _ t _ => s.size - (intOf t).toNat)
  case atStart => exact ⟨0, by omega, fun j h => by omega, rfl, rfl⟩
  case round =>
    obtain ⟨k, hk, hno, rfl, rfl⟩ := hrel
    have HN := Lib.hid hno
    clear hno
    by_cases hlt : k < s.size
    · have HB := Lib.hid (Gr.byte_at s k hlt)
      have h255 := u8_le s[k]
      cases hl : Gr.letB s[k]
      · cases hk0 : ((k : Int) == 0)
        · cases h45 : ((s[k].toNat : Int) != 45)
          · have HE : Hid (Gr.namAt s k = true) := Lib.hid (by unfold Gr.namAt; rw [HB.out]; simp only [Bool.or_eq_true, Bool.and_eq_true, decide_eq_true_eq]; first | exact .inl hl | ((try simp at hk0); (try simp at h45); exact .inr ⟨by omega, by omega⟩))
            go_wp2_with (go_at_call 112; refine (letter_any _ _).mono ?_; rintro e w2 ⟨rfl, rfl⟩; rw [hl])
            go_roundw
            case rel =>
              refine ⟨k + 1, by omega, fun j h => ?_, by go_num, trivial⟩
              by_cases e : j = k
              · subst e; exact HE.out
              · exact HN.out j (by omega)
            case measure => simp [intOf]; omega
          · by_cases h1 : 48 ≤ (s[k].toNat : Int)
            · by_cases h2 : (s[k].toNat : Int) ≤ 57
              · have HE : Hid (Gr.namAt s k = true) := Lib.hid (by unfold Gr.namAt; rw [HB.out]; simp only [Bool.or_eq_true, Bool.and_eq_true, decide_eq_true_eq]; first | exact .inl hl | ((try simp at hk0); (try simp at h45); exact .inr ⟨by omega, by omega⟩))
                go_wp2_with (go_at_call 112; refine (letter_any _ _).mono ?_; rintro e w2 ⟨rfl, rfl⟩; rw [hl])
                go_roundw
                case rel =>
                  refine ⟨k + 1, by omega, fun j h => ?_, by go_num, trivial⟩
                  by_cases e : j = k
                  · subst e; exact HE.out
                  · exact HN.out j (by omega)
                case measure => simp [intOf]; omega
              · have HE0 : Hid (Gr.namAt s k = false) := Lib.hid (by unfold Gr.namAt; rw [HB.out, ← Bool.not_eq_true]; simp only [Bool.or_eq_true, Bool.and_eq_true, decide_eq_true_eq]; rintro (h | ⟨h8, h9⟩) <;> first | (rw [hl] at h; cases h; done) | ((try simp at hk0); (try simp at h45); omega))
                have HE : Hid (Gr.namV s = false) := Lib.hid (by unfold Gr.namV; rw [allAt_no hlt HE0.out]; rfl)
                go_wp2_with (go_at_call 112; refine (letter_any _ _).mono ?_; rintro e w2 ⟨rfl, rfl⟩; rw [hl])
                go_ret
                exact ⟨by rw [HE.out]; rfl, rfl⟩
            · have HE0 : Hid (Gr.namAt s k = false) := Lib.hid (by unfold Gr.namAt; rw [HB.out, ← Bool.not_eq_true]; simp only [Bool.or_eq_true, Bool.and_eq_true, decide_eq_true_eq]; rintro (h | ⟨h8, h9⟩) <;> first | (rw [hl] at h; cases h; done) | ((try simp at hk0); (try simp at h45); omega))
              have HE : Hid (Gr.namV s = false) := Lib.hid (by unfold Gr.namV; rw [allAt_no hlt HE0.out]; rfl)
              go_wp2_with (go_at_call 112; refine (letter_any _ _).mono ?_; rintro e w2 ⟨rfl, rfl⟩; rw [hl])
              go_ret
              exact ⟨by rw [HE.out]; rfl, rfl⟩
        · have h45 : (true : Bool) = true := rfl
          have HE0 : Hid (Gr.namAt s k = false) := Lib.hid (by unfold Gr.namAt; rw [HB.out, ← Bool.not_eq_true]; simp only [Bool.or_eq_true, Bool.and_eq_true, decide_eq_true_eq]; rintro (h | ⟨h8, h9⟩) <;> first | (rw [hl] at h; cases h; done) | ((try simp at hk0); (try simp at h45); omega))
          have HE : Hid (Gr.namV s = false) := Lib.hid (by unfold Gr.namV; rw [allAt_no hlt HE0.out]; rfl)
          go_wp2_with (go_at_call 112; refine (letter_any _ _).mono ?_; rintro e w2 ⟨rfl, rfl⟩; rw [hl])
          go_ret
          exact ⟨by rw [HE.out]; rfl, rfl⟩
      · have h45 : (1 : Nat) = 1 := rfl
        have hk0 : (1 : Nat) = 1 := rfl
        have HE : Hid (Gr.namAt s k = true) := Lib.hid (by unfold Gr.namAt; rw [HB.out]; simp only [Bool.or_eq_true, Bool.and_eq_true, decide_eq_true_eq]; first | exact .inl hl | ((try simp at hk0); (try simp at h45); exact .inr ⟨by omega, by omega⟩))
        go_wp2_with (go_at_call 112; refine (letter_any _ _).mono ?_; rintro e w2 ⟨rfl, rfl⟩; rw [hl])
        go_roundw
        case rel =>
          refine ⟨k + 1, by omega, fun j h => ?_, by go_num, trivial⟩
          by_cases e : j = k
          · subst e; exact HE.out
          · exact HN.out j (by omega)
        case measure => simp [intOf]; omega
    · have HA : Hid (allAt s.size (Gr.namAt s) = true) := Lib.hid (allAt_yes fun j hj => HN.out j (by omega))
      by_cases h1 : 1 ≤ s.size
      · by_cases h2 : s.size ≤ 16
        · have HE : Hid (Gr.namV s = true) := Lib.hid (by unfold Gr.namV; rw [HA.out]; simp [h1, h2])
          go_wp2_with fail
          go_ret
          exact ⟨ret_bool (by rw [HE.out]; simp; omega), rfl⟩
        · have HE : Hid (Gr.namV s = false) := Lib.hid (by unfold Gr.namV; rw [HA.out]; simp [h1, h2])
          go_wp2_with fail
          go_ret
          exact ⟨ret_bool (by rw [HE.out]; simp; omega), rfl⟩
      · have HE : Hid (Gr.namV s = false) := Lib.hid (by unfold Gr.namV; rw [HA.out]; simp [h1])
        go_wp2_with fail
        go_ret
        exact ⟨ret_bool (by rw [HE.out] <;> first | rfl | (simp; done) | (simp; omega)), rfl⟩
set_option maxHeartbeats 4000000 in
theorem rname_any (s : ByteArray) (w : World) (hs : s.size ≤ maxLen) : Calls Tryz.prog 100 #[.string s] w fun e w' => e = .returned (.bool (Gr.namV s)) ∧ w = w' := by
  unfold maxLen at hs
  go_enter Tryz.func100, Tryz.ntmps100
  go_wp2_with fail
  go_loopw [3] (fun t wr => ∃ k : Nat, k ≤ s.size ∧ (∀ j, j < k → Gr.namAt s j = true) ∧ t = .int .i64 k ∧ w = wr) (fun t _ => s.size - (intOf t).toNat)
  case atStart => exact ⟨0, by omega, fun j h => by omega, rfl, rfl⟩
  case round =>
    obtain ⟨k, hk, hno, rfl, rfl⟩ := hrel
    have HN := Lib.hid hno
    clear hno
    by_cases hlt : k < s.size
    · have HB := Lib.hid (Gr.byte_at s k hlt)
      have h255 := u8_le s[k]
      cases hl : Gr.letB s[k]
      · cases hk0 : ((k : Int) == 0)
        · cases h45 : ((s[k].toNat : Int) != 45)
          · have HE : Hid (Gr.namAt s k = true) := Lib.hid (by unfold Gr.namAt; rw [HB.out]; simp only [Bool.or_eq_true, Bool.and_eq_true, decide_eq_true_eq]; first | exact .inl hl | ((try simp at hk0); (try simp at h45); exact .inr ⟨by omega, by omega⟩))
            go_wp2_with (go_at_call 118; refine (rletter_any _ _).mono ?_; rintro e w2 ⟨rfl, rfl⟩; rw [hl])
            go_roundw
            case rel =>
              refine ⟨k + 1, by omega, fun j h => ?_, by go_num, trivial⟩
              by_cases e : j = k
              · subst e; exact HE.out
              · exact HN.out j (by omega)
            case measure => simp [intOf]; omega
          · by_cases h1 : 48 ≤ (s[k].toNat : Int)
            · by_cases h2 : (s[k].toNat : Int) ≤ 57
              · have HE : Hid (Gr.namAt s k = true) := Lib.hid (by unfold Gr.namAt; rw [HB.out]; simp only [Bool.or_eq_true, Bool.and_eq_true, decide_eq_true_eq]; first | exact .inl hl | ((try simp at hk0); (try simp at h45); exact .inr ⟨by omega, by omega⟩))
                go_wp2_with (go_at_call 118; refine (rletter_any _ _).mono ?_; rintro e w2 ⟨rfl, rfl⟩; rw [hl])
                go_roundw
                case rel =>
                  refine ⟨k + 1, by omega, fun j h => ?_, by go_num, trivial⟩
                  by_cases e : j = k
                  · subst e; exact HE.out
                  · exact HN.out j (by omega)
                case measure => simp [intOf]; omega
              · have HE0 : Hid (Gr.namAt s k = false) := Lib.hid (by unfold Gr.namAt; rw [HB.out, ← Bool.not_eq_true]; simp only [Bool.or_eq_true, Bool.and_eq_true, decide_eq_true_eq]; rintro (h | ⟨h8, h9⟩) <;> first | (rw [hl] at h; cases h; done) | ((try simp at hk0); (try simp at h45); omega))
                have HE : Hid (Gr.namV s = false) := Lib.hid (by unfold Gr.namV; rw [allAt_no hlt HE0.out]; rfl)
                go_wp2_with (go_at_call 118; refine (rletter_any _ _).mono ?_; rintro e w2 ⟨rfl, rfl⟩; rw [hl])
                go_ret
                exact ⟨by rw [HE.out]; rfl, rfl⟩
            · have HE0 : Hid (Gr.namAt s k = false) := Lib.hid (by unfold Gr.namAt; rw [HB.out, ← Bool.not_eq_true]; simp only [Bool.or_eq_true, Bool.and_eq_true, decide_eq_true_eq]; rintro (h | ⟨h8, h9⟩) <;> first | (rw [hl] at h; cases h; done) | ((try simp at hk0); (try simp at h45); omega))
              have HE : Hid (Gr.namV s = false) := Lib.hid (by unfold Gr.namV; rw [allAt_no hlt HE0.out]; rfl)
              go_wp2_with (go_at_call 118; refine (rletter_any _ _).mono ?_; rintro e w2 ⟨rfl, rfl⟩; rw [hl])
              go_ret
              exact ⟨by rw [HE.out]; rfl, rfl⟩
        · have h45 : (true : Bool) = true := rfl
          have HE0 : Hid (Gr.namAt s k = false) := Lib.hid (by unfold Gr.namAt; rw [HB.out, ← Bool.not_eq_true]; simp only [Bool.or_eq_true, Bool.and_eq_true, decide_eq_true_eq]; rintro (h | ⟨h8, h9⟩) <;> first | (rw [hl] at h; cases h; done) | ((try simp at hk0); (try simp at h45); omega))
          have HE : Hid (Gr.namV s = false) := Lib.hid (by unfold Gr.namV; rw [allAt_no hlt HE0.out]; rfl)
          go_wp2_with (go_at_call 118; refine (rletter_any _ _).mono ?_; rintro e w2 ⟨rfl, rfl⟩; rw [hl])
          go_ret
          exact ⟨by rw [HE.out]; rfl, rfl⟩
      · have h45 : (1 : Nat) = 1 := rfl
        have hk0 : (1 : Nat) = 1 := rfl
        have HE : Hid (Gr.namAt s k = true) := Lib.hid (by unfold Gr.namAt; rw [HB.out]; simp only [Bool.or_eq_true, Bool.and_eq_true, decide_eq_true_eq]; first | exact .inl hl | ((try simp at hk0); (try simp at h45); exact .inr ⟨by omega, by omega⟩))
        go_wp2_with (go_at_call 118; refine (rletter_any _ _).mono ?_; rintro e w2 ⟨rfl, rfl⟩; rw [hl])
        go_roundw
        case rel =>
          refine ⟨k + 1, by omega, fun j h => ?_, by go_num, trivial⟩
          by_cases e : j = k
          · subst e; exact HE.out
          · exact HN.out j (by omega)
        case measure => simp [intOf]; omega
    · have HA : Hid (allAt s.size (Gr.namAt s) = true) := Lib.hid (allAt_yes fun j hj => HN.out j (by omega))
      by_cases h1 : 1 ≤ s.size
      · by_cases h2 : s.size ≤ 16
        · have HE : Hid (Gr.namV s = true) := Lib.hid (by unfold Gr.namV; rw [HA.out]; simp [h1, h2])
          go_wp2_with fail
          go_ret
          exact ⟨ret_bool (by rw [HE.out]; simp; omega), rfl⟩
        · have HE : Hid (Gr.namV s = false) := Lib.hid (by unfold Gr.namV; rw [HA.out]; simp [h1, h2])
          go_wp2_with fail
          go_ret
          exact ⟨ret_bool (by rw [HE.out]; simp; omega), rfl⟩
      · have HE : Hid (Gr.namV s = false) := Lib.hid (by unfold Gr.namV; rw [HA.out]; simp [h1])
        go_wp2_with fail
        go_ret
        exact ⟨ret_bool (by rw [HE.out] <;> first | rfl | (simp; done) | (simp; omega)), rfl⟩
end Go.Proofs.YtnkmjdaeafeaaaaGreat
/- Plain facts on dates: the lengths of months and years, and what they add up to. No Go and no program. -/
namespace Go.Proofs.YtnkmjdaeafeaaaaGreat.Dt
set_option linter.unusedVariables false
set_option linter.unusedSimpArgs false

def leapB (y : Int) : Bool := y % 4 == 0 && (!(y % 100 == 0) || y % 400 == 0)
def lp (y : Int) : Int := if leapB y then 1 else 0
/-- the days of month m of a year whose leap day counts l -/
def mlen (l m : Int) : Int :=
  if m = 1 then 31 else if m = 2 then 28 + l else if m = 3 then 31 else if m = 4 then 30 else if m = 5 then 31 else if m = 6 then 30
  else if m = 7 then 31 else if m = 8 then 31 else if m = 9 then 30 else if m = 10 then 31 else if m = 11 then 30 else if m = 12 then 31 else 0
/-- the days of the months before month m -/
def mcum (l m : Int) : Int :=
  if m = 1 then 0 else if m = 2 then 31 else if m = 3 then 59 + l else if m = 4 then 90 + l else if m = 5 then 120 + l else if m = 6 then 151 + l
  else if m = 7 then 181 + l else if m = 8 then 212 + l else if m = 9 then 243 + l else if m = 10 then 273 + l else if m = 11 then 304 + l else if m = 12 then 334 + l
  else if m = 13 then 365 + l else 0
def days (y m : Int) : Int := if y < 1900 ∨ 2199 < y ∨ m < 1 ∨ 12 < m then 0 else mlen (lp y) m
def dby (y : Int) : Int := 365 * (y - 1) + (y - 1) / 4 - (y - 1) / 100 + (y - 1) / 400 - 719162

theorem lp_01 (y : Int) : 0 ≤ lp y ∧ lp y ≤ 1 := by unfold lp; split <;> omega
theorem leapB_iff (y : Int) : leapB y = true ↔ (y % 4 = 0 ∧ (y % 100 ≠ 0 ∨ y % 400 = 0)) := by
  unfold leapB; simp
theorem lp_eq (y : Int) : lp y = if (y % 4 = 0 ∧ (y % 100 ≠ 0 ∨ y % 400 = 0)) then 1 else 0 := by
  unfold lp; by_cases h : leapB y = true
  · rw [if_pos h, if_pos ((leapB_iff y).1 h)]
  · rw [if_neg h, if_neg (fun k => h ((leapB_iff y).2 k))]
theorem dby_succ (y : Int) : dby (y + 1) = dby y + 365 + lp y := by
  rw [lp_eq]; unfold dby
  split <;> omega
theorem dby_bd (y : Int) (h : 1899 ≤ y) (k : y ≤ 2300) : -30000 ≤ dby y ∧ dby y ≤ 200000 := by unfold dby; omega
theorem dby_mono (a b : Int) (h : a ≤ b) : dby a ≤ dby b := by unfold dby; omega
theorem dby_lt (a b : Int) (h : a < b) : dby a < dby b := by
  have h1 := dby_mono (a + 1) b (by omega)
  have h2 := dby_succ a
  have h3 := lp_01 a
  omega
theorem dby_1900 : dby 1900 = -25567 := by unfold dby; omega
theorem dby_2200 : dby 2200 = 84006 := by unfold dby; omega
theorem mcum_succ (l m : Int) (h1 : 1 ≤ m) (h2 : m ≤ 12) : mcum l (m + 1) = mcum l m + mlen l m := by
  have : m = 1 ∨ m = 2 ∨ m = 3 ∨ m = 4 ∨ m = 5 ∨ m = 6 ∨ m = 7 ∨ m = 8 ∨ m = 9 ∨ m = 10 ∨ m = 11 ∨ m = 12 := by omega
  rcases this with rfl | rfl | rfl | rfl | rfl | rfl | rfl | rfl | rfl | rfl | rfl | rfl <;> simp [mcum, mlen] <;> omega
theorem mlen_bd (l m : Int) (h0 : 0 ≤ l) (hl : l ≤ 1) (h1 : 1 ≤ m) (h2 : m ≤ 12) : 28 ≤ mlen l m ∧ mlen l m ≤ 31 := by
  have : m = 1 ∨ m = 2 ∨ m = 3 ∨ m = 4 ∨ m = 5 ∨ m = 6 ∨ m = 7 ∨ m = 8 ∨ m = 9 ∨ m = 10 ∨ m = 11 ∨ m = 12 := by omega
  rcases this with rfl | rfl | rfl | rfl | rfl | rfl | rfl | rfl | rfl | rfl | rfl | rfl <;> simp [mlen] <;> omega
theorem mcum_bd (l m : Int) (h0 : 0 ≤ l) (hl : l ≤ 1) : 0 ≤ mcum l m ∧ mcum l m ≤ 366 := by
  unfold mcum; repeat' split
  all_goals omega
theorem mcum_13 (l : Int) : mcum l 13 = 365 + l := by simp [mcum]
theorem mcum_1 (l : Int) : mcum l 1 = 0 := by simp [mcum]
theorem days_bd (y m : Int) : 0 ≤ days y m ∧ days y m ≤ 31 := by
  unfold days; have := lp_01 y
  split
  · omega
  · have := mlen_bd (lp y) m (by omega) (by omega) (by omega) (by omega); omega
theorem days_in (y m : Int) (h1 : 1900 ≤ y) (h2 : y ≤ 2199) (h3 : 1 ≤ m) (h4 : m ≤ 12) : days y m = mlen (lp y) m := by
  unfold days; rw [if_neg (by omega)]
theorem days_pos (y m : Int) (h : 0 < days y m) : 1900 ≤ y ∧ y ≤ 2199 ∧ 1 ≤ m ∧ m ≤ 12 := by
  unfold days at h; split at h <;> omega
theorem days_lo (y m : Int) (h : 0 < days y m) : 28 ≤ days y m := by
  obtain ⟨h1, h2, h3, h4⟩ := days_pos y m h
  rw [days_in y m h1 h2 h3 h4]
  have := lp_01 y
  exact (mlen_bd (lp y) m (by omega) (by omega) h3 h4).1

/-- the number of a day -/
def num (y m d : Int) : Int := dby y + mcum (lp y) m + d - 1
/-- is there such a day -/
def vld (y m d : Int) : Bool := decide (1 ≤ d ∧ d ≤ days y m)
theorem vld_iff (y m d : Int) : vld y m d = true ↔ 1 ≤ d ∧ d ≤ days y m := by unfold vld; simp
theorem vld_pos (y m d : Int) (h : vld y m d = true) : 1900 ≤ y ∧ y ≤ 2199 ∧ 1 ≤ m ∧ m ≤ 12 ∧ 1 ≤ d ∧ d ≤ mlen (lp y) m ∧ d ≤ 31 := by
  rw [vld_iff] at h
  obtain ⟨h1, h2, h3, h4⟩ := days_pos y m (by omega)
  have := days_bd y m
  rw [days_in y m h1 h2 h3 h4] at h
  rw [days_in y m h1 h2 h3 h4] at this
  omega
theorem mcum_le (l m : Int) (h0 : 0 ≤ l) (hl : l ≤ 1) (h1 : 1 ≤ m) (h2 : m ≤ 12) : mcum l m + mlen l m ≤ 365 + l := by
  have : m = 1 ∨ m = 2 ∨ m = 3 ∨ m = 4 ∨ m = 5 ∨ m = 6 ∨ m = 7 ∨ m = 8 ∨ m = 9 ∨ m = 10 ∨ m = 11 ∨ m = 12 := by omega
  rcases this with rfl | rfl | rfl | rfl | rfl | rfl | rfl | rfl | rfl | rfl | rfl | rfl <;> simp [mcum, mlen] <;> omega
theorem mcum_lt (l m k : Int) (h0 : 0 ≤ l) (hl : l ≤ 1) (h1 : 1 ≤ m) (h2 : m < k) (h3 : k ≤ 12) : mcum l m + mlen l m ≤ mcum l k := by
  have : m = 1 ∨ m = 2 ∨ m = 3 ∨ m = 4 ∨ m = 5 ∨ m = 6 ∨ m = 7 ∨ m = 8 ∨ m = 9 ∨ m = 10 ∨ m = 11 ∨ m = 12 := by omega
  have hk : k = 1 ∨ k = 2 ∨ k = 3 ∨ k = 4 ∨ k = 5 ∨ k = 6 ∨ k = 7 ∨ k = 8 ∨ k = 9 ∨ k = 10 ∨ k = 11 ∨ k = 12 := by omega
  rcases this with rfl | rfl | rfl | rfl | rfl | rfl | rfl | rfl | rfl | rfl | rfl | rfl <;> rcases hk with rfl | rfl | rfl | rfl | rfl | rfl | rfl | rfl | rfl | rfl | rfl | rfl <;> first | omega | (simp [mcum, mlen]; try omega)
theorem num_range (y m d : Int) (h : vld y m d = true) : -25567 ≤ num y m d ∧ num y m d ≤ 84005 := by
  obtain ⟨h1, h2, h3, h4, h5, h6, h7⟩ := vld_pos y m d h
  have l := lp_01 y
  have c := mcum_le (lp y) m (by omega) (by omega) h3 h4
  have c0 := mcum_bd (lp y) m (by omega) (by omega)
  have a := dby_mono 1900 y h1
  have b := dby_mono (y + 1) 2200 (by omega)
  have s := dby_succ y
  rw [dby_1900] at a
  rw [dby_2200] at b
  unfold num
  omega
/-- two days with one number are one day -/
theorem num_inj (y m d y' m' d' : Int) (h : vld y m d = true) (h' : vld y' m' d' = true) (e : num y m d = num y' m' d') : y = y' ∧ m = m' ∧ d = d' := by
  obtain ⟨a1, a2, a3, a4, a5, a6, a7⟩ := vld_pos y m d h
  obtain ⟨b1, b2, b3, b4, b5, b6, b7⟩ := vld_pos y' m' d' h'
  have l := lp_01 y
  have l' := lp_01 y'
  have c := mcum_le (lp y) m (by omega) (by omega) a3 a4
  have c' := mcum_le (lp y') m' (by omega) (by omega) b3 b4
  have c0 := mcum_bd (lp y) m (by omega) (by omega)
  have c0' := mcum_bd (lp y') m' (by omega) (by omega)
  have s := dby_succ y
  have s' := dby_succ y'
  unfold num at e
  have hy : y = y' := by
    rcases Int.lt_trichotomy y y' with q | q | q
    · have := dby_mono (y + 1) y' (by omega); omega
    · exact q
    · have := dby_mono (y' + 1) y (by omega); omega
  subst hy
  have hm : m = m' := by
    rcases Int.lt_trichotomy m m' with q | q | q
    · have := mcum_lt (lp y) m m' (by omega) (by omega) a3 q b4; omega
    · exact q
    · have := mcum_lt (lp y) m' m (by omega) (by omega) b3 q a4; omega
  subst hm
  exact ⟨rfl, rfl, by omega⟩

def findY : Nat → Int → Int → Int
  | 0, y, _ => y
  | k + 1, y, n => if dby (y + 1) ≤ n then findY k (y + 1) n else y
def findM : Nat → Int → Int → Int → Int
  | 0, _, m, _ => m
  | k + 1, l, m, r => if mcum l (m + 1) ≤ r then findM k l (m + 1) r else m
def cY (n : Int) : Int := findY 299 1900 n
def cM (n : Int) : Int := findM 11 (lp (cY n)) 1 (n - dby (cY n))
def cD (n : Int) : Int := n - dby (cY n) - mcum (lp (cY n)) (cM n) + 1
theorem findY_ok (k : Nat) : ∀ (y n : Int), dby y ≤ n → n < dby (y + k + 1) → y ≤ findY k y n ∧ findY k y n ≤ y + k ∧ dby (findY k y n) ≤ n ∧ n < dby (findY k y n + 1) := by
  induction k with
  | zero => intro y n h1 h2; simp [findY] at *; exact ⟨h1, h2⟩
  | succ k ih =>
    intro y n h1 h2
    unfold findY
    split
    · rename_i h
      have := ih (y + 1) n h (by rw [show y + 1 + (k : Int) + 1 = y + ((k + 1 : Nat) : Int) + 1 from by omega]; exact h2)
      omega
    · exact ⟨by omega, by omega, h1, by omega⟩
theorem findM_ok (k : Nat) : ∀ (l m r : Int), mcum l m ≤ r → r < mcum l (m + k + 1) → m ≤ findM k l m r ∧ findM k l m r ≤ m + k ∧ mcum l (findM k l m r) ≤ r ∧ r < mcum l (findM k l m r + 1) := by
  induction k with
  | zero => intro l m r h1 h2; simp [findM] at *; exact ⟨h1, h2⟩
  | succ k ih =>
    intro l m r h1 h2
    unfold findM
    split
    · rename_i h
      have := ih l (m + 1) r h (by rw [show m + 1 + (k : Int) + 1 = m + ((k + 1 : Nat) : Int) + 1 from by omega]; exact h2)
      omega
    · exact ⟨by omega, by omega, h1, by omega⟩
theorem civ_ok (n : Int) (h1 : -25567 ≤ n) (h2 : n ≤ 84005) : vld (cY n) (cM n) (cD n) = true ∧ num (cY n) (cM n) (cD n) = n := by
  have hy := findY_ok 299 1900 n (by rw [dby_1900]; exact h1) (by show n < dby 2200; rw [dby_2200]; omega)
  change 1900 ≤ cY n ∧ cY n ≤ 1900 + 299 ∧ dby (cY n) ≤ n ∧ n < dby (cY n + 1) at hy
  have s := dby_succ (cY n)
  have hm := findM_ok 11 (lp (cY n)) 1 (n - dby (cY n)) (by rw [mcum_1]; omega) (by show _ < mcum _ 13; rw [mcum_13]; omega)
  change 1 ≤ cM n ∧ cM n ≤ 1 + 11 ∧ mcum (lp (cY n)) (cM n) ≤ n - dby (cY n) ∧ n - dby (cY n) < mcum (lp (cY n)) (cM n + 1) at hm
  have ms := mcum_succ (lp (cY n)) (cM n) (by omega) (by omega)
  refine ⟨?_, by unfold num cD; omega⟩
  rw [vld_iff, days_in _ _ (by omega) (by omega) (by omega) (by omega)]
  unfold cD
  omega
theorem civ_eq (n y m d : Int) (h : vld y m d = true) (e : num y m d = n) : cY n = y ∧ cM n = m ∧ cD n = d := by
  have r := num_range y m d h
  obtain ⟨a, b⟩ := civ_ok n (by omega) (by omega)
  exact num_inj _ _ _ _ _ _ a h (b.trans e.symm)

end Go.Proofs.YtnkmjdaeafeaaaaGreat.Dt
