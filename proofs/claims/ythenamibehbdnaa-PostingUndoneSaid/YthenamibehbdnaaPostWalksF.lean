/- The walks of Figure. -/
import Derived.Test.YthenamibehbdnaaPostWalksB
import Derived.Test.YthenamibehbdnaaPostMathD
namespace Go.Proofs.Ythenamibehbdnaa
set_option linter.unusedVariables false
set_option linter.unusedSimpArgs false
open Go.RowKit

set_option maxHeartbeats 2000000 in
theorem fig_any (m : List Bal) (f t : Int) (A : Option Addr) (cap : Nat) (w : World) (hr : Rd w w.heap.size 2 A m.length (cellsOf Bal.cells m)) (hn : m.length ≤ 1000000) :
    Calls Try.prog 18 #[.slice A m.length cap, .int .i64 f, .int .i64 t] w (fun e w' => e = .returned (.int .i64 (figW f t m)) ∧ Below w.heap.size w w') := by
  have hb := Below.refl w.heap.size w
  have HR := Lib.hid hr
  clear hr
  go_enter Try.func18, Try.ntmps18
  go_wp2_with fail
  go_loopw [7, 12] (fun s t' wr => ∃ k : Nat, k ≤ m.length ∧ s = .int .i64 (figW f t (m.take k)) ∧ t' = .int .i64 k ∧ Below w.heap.size w wr) (fun _ t' _ => m.length - (intOf t').toNat)
  case atStart => exact ⟨0, by omega, rfl, rfl, hb⟩
  case round =>
    clear hb
    obtain ⟨k, hk, rfl, rfl, hb⟩ := hrel
    have hz := hb.size
    by_cases hlt : k < m.length
    · obtain ⟨x, o, hA, hbo, f0, f1⟩ := Bal.at_ (HR.out.below hb (Nat.le_refl _)) hlt
      subst hA
      have HK := Lib.hid (figW_take f t m k hlt)
      by_cases h1 : f ≤ m[k].account
      · by_cases h2 : m[k].account ≤ t
        · have HE : Hid (figW f t (m.take (k + 1)) = wrap64 (figW f t (m.take k) + m[k].amount)) := Lib.hid (by rw [HK.out, if_pos (by simp [inR, h1, h2])])
          go_wp2_with fail
          go_roundw
          case rel => exact ⟨k + 1, by omega, by rw [HE.out], by go_num, (by repeat (first | exact hb | refine Below.alloc ?_ (by have hbs := hb.size; first | omega | (simp; done) | (simp; omega)) _ | refine Below.drew ?_ | refine below_drewN_ ?_ _ | refine Below.setCell ?_ (by simp) _))⟩
          case measure => simp [intOf]; omega
        · have HE : Hid (figW f t (m.take (k + 1)) = figW f t (m.take k)) := Lib.hid (by rw [HK.out, if_neg (by simp [inR, h1]; omega)])
          go_wp2_with fail
          go_roundw
          case rel => exact ⟨k + 1, by omega, by rw [HE.out], by go_num, (by repeat (first | exact hb | refine Below.alloc ?_ (by have hbs := hb.size; first | omega | (simp; done) | (simp; omega)) _ | refine Below.drew ?_ | refine below_drewN_ ?_ _ | refine Below.setCell ?_ (by simp) _))⟩
          case measure => simp [intOf]; omega
      · have HE : Hid (figW f t (m.take (k + 1)) = figW f t (m.take k)) := Lib.hid (by rw [HK.out, if_neg (by simp [inR, h1])])
        go_wp2_with fail
        go_roundw
        case rel => exact ⟨k + 1, by omega, by rw [HE.out], by go_num, (by repeat (first | exact hb | refine Below.alloc ?_ (by have hbs := hb.size; first | omega | (simp; done) | (simp; omega)) _ | refine Below.drew ?_ | refine below_drewN_ ?_ _ | refine Below.setCell ?_ (by simp) _))⟩
        case measure => simp [intOf]; omega
    · have HE : Hid (m.take k = m) := Lib.hid (List.take_of_length_le (by omega))
      go_wp2_with fail
      go_ret
      exact ⟨by rw [HE.out]; rfl, hb⟩
set_option maxHeartbeats 2000000 in
theorem rfig_any (m : List Bal) (f t : Int) (A : Option Addr) (cap : Nat) (w : World) (hr : Rd w w.heap.size 2 A m.length (cellsOf Bal.cells m)) (hn : m.length ≤ 1000000) :
    Calls Try.prog 28 #[.slice A m.length cap, .int .i64 f, .int .i64 t] w (fun e w' => e = .returned (.int .i64 (figW f t m)) ∧ Below w.heap.size w w') := by
  have hb := Below.refl w.heap.size w
  have HR := Lib.hid hr
  clear hr
  go_enter Try.func28, Try.ntmps28
  go_wp2_with fail
  go_loopw [7, 8] (fun s t' wr => ∃ k : Nat, k ≤ m.length ∧ s = .int .i64 (figW f t (m.take k)) ∧ t' = .int .i64 k ∧ Below w.heap.size w wr) (fun _ t' _ => m.length - (intOf t').toNat)
  case atStart => exact ⟨0, by omega, rfl, rfl, hb⟩
  case round =>
    clear hb
    obtain ⟨k, hk, rfl, rfl, hb⟩ := hrel
    have hz := hb.size
    by_cases hlt : k < m.length
    · obtain ⟨x, o, hA, hbo, f0, f1⟩ := Bal.at_ (HR.out.below hb (Nat.le_refl _)) hlt
      subst hA
      have HK := Lib.hid (figW_take f t m k hlt)
      by_cases h1 : f ≤ m[k].account
      · by_cases h2 : m[k].account ≤ t
        · have HE : Hid (figW f t (m.take (k + 1)) = wrap64 (figW f t (m.take k) + m[k].amount)) := Lib.hid (by rw [HK.out, if_pos (by simp [inR, h1, h2])])
          go_wp2_with fail
          go_roundw
          case rel => exact ⟨k + 1, by omega, by rw [HE.out], by go_num, (by repeat (first | exact hb | refine Below.alloc ?_ (by have hbs := hb.size; first | omega | (simp; done) | (simp; omega)) _ | refine Below.drew ?_ | refine below_drewN_ ?_ _ | refine Below.setCell ?_ (by simp) _))⟩
          case measure => simp [intOf]; omega
        · have HE : Hid (figW f t (m.take (k + 1)) = figW f t (m.take k)) := Lib.hid (by rw [HK.out, if_neg (by simp [inR, h1]; omega)])
          go_wp2_with fail
          go_roundw
          case rel => exact ⟨k + 1, by omega, by rw [HE.out], by go_num, (by repeat (first | exact hb | refine Below.alloc ?_ (by have hbs := hb.size; first | omega | (simp; done) | (simp; omega)) _ | refine Below.drew ?_ | refine below_drewN_ ?_ _ | refine Below.setCell ?_ (by simp) _))⟩
          case measure => simp [intOf]; omega
      · have HE : Hid (figW f t (m.take (k + 1)) = figW f t (m.take k)) := Lib.hid (by rw [HK.out, if_neg (by simp [inR, h1])])
        go_wp2_with fail
        go_roundw
        case rel => exact ⟨k + 1, by omega, by rw [HE.out], by go_num, (by repeat (first | exact hb | refine Below.alloc ?_ (by have hbs := hb.size; first | omega | (simp; done) | (simp; omega)) _ | refine Below.drew ?_ | refine below_drewN_ ?_ _ | refine Below.setCell ?_ (by simp) _))⟩
        case measure => simp [intOf]; omega
    · have HE : Hid (m.take k = m) := Lib.hid (List.take_of_length_le (by omega))
      go_wp2_with fail
      go_ret
      exact ⟨by rw [HE.out]; rfl, hb⟩
end Go.Proofs.Ythenamibehbdnaa
