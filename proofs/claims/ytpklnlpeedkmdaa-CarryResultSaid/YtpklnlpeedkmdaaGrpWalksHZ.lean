/- Texts of this claim, put together. -/
import Derived.Test.YtpklnlpeedkmdaaJAF
import Derived.Test.YtpklnlpeedkmdaaChecked
/- The walks of currency, letter, name, based, and of their references. -/
namespace Go.Proofs.Ytpklnlpeedkmdaa
set_option linter.unusedVariables false
set_option linter.unusedSimpArgs false
open Go.RowKit

theorem u8_le (c : UInt8) : 0 ≤ (c.toNat : Int) ∧ (c.toNat : Int) ≤ 255 := by have := c.toNat_lt; omega
set_option maxHeartbeats 1000000 in
theorem currency_any (s : ByteArray) (w : World) (hs : s.size ≤ maxLen) : Calls Try.prog 50 #[.string s] w fun e w' => e = .returned (.bool (Gr.curV s)) ∧ w = w' := by
  unfold maxLen at hs
  go_enter Try.func50, Try.ntmps50
  go_wp2_with fail
  go_loopw [3, 6] (fun _ t wr => ∃ k : Nat, k ≤ s.size ∧ (∀ j, j < k → Gr.upB (Gr.byte s j) = true) ∧ t = .int .i64 k ∧ w = wr) (fun _ t _ => s.size - (intOf t).toNat)
  case atStart => exact ⟨0, by omega, fun j h => by omega, rfl, rfl⟩
  case round =>
    obtain ⟨k, hk, hno, rfl, rfl⟩ := hrel
    have HN := Lib.hid hno
    clear hno
    by_cases hlt : k < s.size
    · have HB := Lib.hid (Gr.byte_at s k hlt)
      have h255 := u8_le s[k]
      by_cases h1 : 65 ≤ (s[k].toNat : Int)
      · by_cases h2 : (s[k].toNat : Int) ≤ 90
        · have HE : Hid (Gr.upB (Gr.byte s k) = true) := Lib.hid (by rw [HB.out]; unfold Gr.upB; simp [h1, h2])
          go_wp2_with fail
          go_roundw
          case rel =>
            refine ⟨k + 1, by omega, fun j h => ?_, by go_num, trivial⟩
            by_cases e : j = k
            · subst e; exact HE.out
            · exact HN.out j (by omega)
          case measure => simp [intOf]; omega
        · have HE : Hid (Gr.curV s = false) := Lib.hid (by unfold Gr.curV; rw [allAt_no hlt (by rw [HB.out]; unfold Gr.upB; simp [h2])]; rfl)
          go_wp2_with fail
          go_ret
          exact ⟨by rw [HE.out]; rfl, rfl⟩
      · have HE : Hid (Gr.curV s = false) := Lib.hid (by unfold Gr.curV; rw [allAt_no hlt (by rw [HB.out]; unfold Gr.upB; simp [h1])]; rfl)
        go_wp2_with fail
        go_ret
        exact ⟨by rw [HE.out]; rfl, rfl⟩
    · have HA : Hid (allAt s.size (fun k => Gr.upB (Gr.byte s k)) = true) := Lib.hid (allAt_yes fun j hj => HN.out j (by omega))
      cases h3 : ((s.size : Int) == 3)
      · have HE : Hid (Gr.curV s = false) := Lib.hid (by unfold Gr.curV; rw [HA.out]; simp at h3 ⊢; omega)
        go_wp2_with fail
        go_ret
        exact ⟨by rw [HE.out]; rfl, rfl⟩
      · have HE : Hid (Gr.curV s = true) := Lib.hid (by unfold Gr.curV; rw [HA.out]; simp at h3 ⊢; omega)
        go_wp2_with fail
        go_ret
        exact ⟨by rw [HE.out]; rfl, rfl⟩
set_option maxHeartbeats 1000000 in
theorem rcurrency_any (s : ByteArray) (w : World) (hs : s.size ≤ maxLen) : Calls Try.prog 71 #[.string s] w fun e w' => e = .returned (.bool (Gr.curV s)) ∧ w = w' := by
  unfold maxLen at hs
  go_enter Try.func71, Try.ntmps71
  go_wp2_with fail
  go_loopw [3] (fun t wr => ∃ k : Nat, k ≤ s.size ∧ (∀ j, j < k → Gr.upB (Gr.byte s j) = true) ∧ t = .int .i64 k ∧ w = wr) (fun t _ => s.size - (intOf t).toNat)
  case atStart => exact ⟨0, by omega, fun j h => by omega, rfl, rfl⟩
  case round =>
    obtain ⟨k, hk, hno, rfl, rfl⟩ := hrel
    have HN := Lib.hid hno
    clear hno
    by_cases hlt : k < s.size
    · have HB := Lib.hid (Gr.byte_at s k hlt)
      have h255 := u8_le s[k]
      by_cases h1 : 65 ≤ (s[k].toNat : Int)
      · by_cases h2 : (s[k].toNat : Int) ≤ 90
        · have HE : Hid (Gr.upB (Gr.byte s k) = true) := Lib.hid (by rw [HB.out]; unfold Gr.upB; simp [h1, h2])
          go_wp2_with fail
          go_roundw
          case rel =>
            refine ⟨k + 1, by omega, fun j h => ?_, by go_num, trivial⟩
            by_cases e : j = k
            · subst e; exact HE.out
            · exact HN.out j (by omega)
          case measure => simp [intOf]; omega
        · have HE : Hid (Gr.curV s = false) := Lib.hid (by unfold Gr.curV; rw [allAt_no hlt (by rw [HB.out]; unfold Gr.upB; simp [h2])]; rfl)
          go_wp2_with fail
          go_ret
          exact ⟨by rw [HE.out]; rfl, rfl⟩
      · have HE : Hid (Gr.curV s = false) := Lib.hid (by unfold Gr.curV; rw [allAt_no hlt (by rw [HB.out]; unfold Gr.upB; simp [h1])]; rfl)
        go_wp2_with fail
        go_ret
        exact ⟨by rw [HE.out]; rfl, rfl⟩
    · have HA : Hid (allAt s.size (fun k => Gr.upB (Gr.byte s k)) = true) := Lib.hid (allAt_yes fun j hj => HN.out j (by omega))
      cases h3 : ((s.size : Int) == 3)
      · have HE : Hid (Gr.curV s = false) := Lib.hid (by unfold Gr.curV; rw [HA.out]; simp at h3 ⊢; omega)
        go_wp2_with fail
        go_ret
        exact ⟨by rw [HE.out]; rfl, rfl⟩
      · have HE : Hid (Gr.curV s = true) := Lib.hid (by unfold Gr.curV; rw [HA.out]; simp at h3 ⊢; omega)
        go_wp2_with fail
        go_ret
        exact ⟨by rw [HE.out]; rfl, rfl⟩
set_option maxHeartbeats 1000000 in
theorem based_any (a : Acc) (w : World) : Calls Try.prog 81 #[.agg #[.int .i64 a.code, .int .i64 a.kind, .int .i64 a.basis, .int .i64 a.parent]] w (fun e w' => e = .returned (.bool (Gr.based a)) ∧ Below w.heap.size w w') := by
  have hb : Below w.heap.size w (w.alloc (.cells #[.int .i64 a.code, .int .i64 a.kind, .int .i64 a.basis, .int .i64 a.parent] 45)) := (Below.refl _ _).alloc (Nat.le_refl _) _
  have HB := Lib.hid hb
  have HD : Hid (Gr.based a = if a.kind = 1 ∨ a.kind = 2 then decide (a.basis = 1 ∨ a.basis = 3) else if a.kind = 3 then decide (a.basis = 3) else decide (a.basis = 2)) := Lib.hid rfl
  clear hb
  cases k1 : (a.kind == 1) <;> cases k2 : (a.kind == 2) <;> cases k3 : (a.kind == 3) <;> cases b1 : (a.basis == 1) <;> cases b2 : (a.basis == 2) <;> cases b3 : (a.basis == 3)
  all_goals first
    | (exfalso; simp at k1 k2 k3 b1 b2 b3; omega)
    | (have HE := HD
       go_enter Try.func81, Try.ntmps81
       go_wp2_with fail
       go_ret
       refine ⟨?_, HB.out⟩
       rw [HE.out]
       simp at k1 k2 k3 b1 b2 b3
       simp [k1, k2, k3, b1, b2, b3])
set_option maxHeartbeats 1000000 in
theorem rbased_any (a : Acc) (w : World) : Calls Try.prog 74 #[.agg #[.int .i64 a.code, .int .i64 a.kind, .int .i64 a.basis, .int .i64 a.parent]] w (fun e w' => e = .returned (.bool (Gr.based a)) ∧ Below w.heap.size w w') := by
  have hb : Below w.heap.size w (w.alloc (.cells #[.int .i64 a.code, .int .i64 a.kind, .int .i64 a.basis, .int .i64 a.parent] 45)) := (Below.refl _ _).alloc (Nat.le_refl _) _
  have HB := Lib.hid hb
  have HD : Hid (Gr.based a = if a.kind = 1 ∨ a.kind = 2 then decide (a.basis = 1 ∨ a.basis = 3) else if a.kind = 3 then decide (a.basis = 3) else decide (a.basis = 2)) := Lib.hid rfl
  clear hb
  cases k1 : (a.kind == 1) <;> cases k2 : (a.kind == 2) <;> cases k3 : (a.kind == 3) <;> cases b1 : (a.basis == 1) <;> cases b2 : (a.basis == 2) <;> cases b3 : (a.basis == 3)
  all_goals first
    | (exfalso; simp at k1 k2 k3 b1 b2 b3; omega)
    | (have HE := HD
       go_enter Try.func74, Try.ntmps74
       go_wp2_with fail
       go_ret
       refine ⟨?_, HB.out⟩
       rw [HE.out]
       simp at k1 k2 k3 b1 b2 b3
       simp [k1, k2, k3, b1, b2, b3])
end Go.Proofs.Ytpklnlpeedkmdaa
