/- The walks of the laws on dates that make no texts. -/
import Derived.Test.YtaglhkjfbdafjaaDateAwake
namespace Go.Proofs.Ytaglhkjfbdafjaa
open Go.RowKit

set_option maxHeartbeats 400000 in
theorem law_DateOf (y m d : Int) (w : World) (hd1 : -9223372036854775808 ≤ d) (hd2 : d ≤ 9223372036854775807) :
    Calls Try.prog 3 #[.int .i64 y, .int .i64 m, .int .i64 d] w fun e w' => e = .returned (.bool true) ∧ Below w.heap.size w w' := by
  go_enter Try.func3, Try.ntmps3
  go_wp2_with (first
    | (go_at_call 11; refine (awake_any _).mono ?_; rintro e w1 ⟨rfl, hb⟩)
    | (go_at_call 12; refine (of_any _ _ _ _ hd1 hd2).mono ?_; rintro e w2 ⟨rfl, hb2⟩; replace hb := bel hb hb2; clear hb2)
    | (go_at_call 13; refine (rof_any _ _ _ _).mono ?_; rintro e w2 ⟨rfl, rfl⟩)
    | (go_at_call 14; refine (days_any _ _ _).mono ?_; rintro e w2 ⟨rfl, hb2⟩; replace hb := bel hb hb2; clear hb2)
    | (go_at_call 15; refine (rdays_any _ _ _).mono ?_; rintro e w2 ⟨rfl, rfl⟩))
  go_ret
  exact ⟨rfl, hb⟩

set_option maxHeartbeats 400000 in
theorem law_DateAdd (n k : Int) (w : World) :
    Calls Try.prog 6 #[.int .i64 n, .int .i64 k] w fun e w' => e = .returned (.bool true) ∧ Below w.heap.size w w' := by
  go_enter Try.func6, Try.ntmps6
  go_wp2_with (first
    | (go_at_call 11; refine (awake_any _).mono ?_; rintro e w1 ⟨rfl, hb⟩)
    | (go_at_call 21; refine (add_any _ _ _).mono ?_; rintro e w2 ⟨rfl, hb2⟩; replace hb := bel hb hb2; clear hb2)
    | (go_at_call 22; refine (radd_any _ _ _).mono ?_; rintro e w2 ⟨rfl, rfl⟩)
    | (go_at_call 20; refine (wd_any _ _).mono ?_; rintro e w2 ⟨rfl, rfl⟩)
    | (go_at_call 23; refine (rwd_any _ _).mono ?_; rintro e w2 ⟨rfl, rfl⟩))
  go_ret
  exact ⟨rfl, hb⟩

set_option maxHeartbeats 400000 in
theorem law_DateCivil (n : Int) (w : World) :
    Calls Try.prog 4 #[.int .i64 n] w fun e w' => e = .returned (.bool true) ∧ Below w.heap.size w w' := by
  cases hD : Dt.isD n
  · have hY : Hid (Dt.cvY n = 0) := Lib.hid (by unfold Dt.cvY; rw [hD]; rfl)
    have hM : Hid (Dt.cvM n = 0) := Lib.hid (by unfold Dt.cvM; rw [hD]; rfl)
    have hDd : Hid (Dt.cvD n = 0) := Lib.hid (by unfold Dt.cvD; rw [hD]; rfl)
    have hE : Hid (Dt.cvE n = 2) := Lib.hid (by unfold Dt.cvE; rw [hD]; rfl)
    have HD := Lib.hid hD
    clear hD
    go_enter Try.func4, Try.ntmps4
    go_wp2_with (first
      | (go_at_call 11; refine (awake_any _).mono ?_; rintro e w1 ⟨rfl, hb⟩)
      | (go_at_call 16; refine (civil_any _ _).mono ?_; rw [hY.out, hM.out, hDd.out, hE.out]; rintro e w2 ⟨rfl, hb2⟩; replace hb := bel hb hb2; clear hb2)
      | (go_at_call 17; refine (rcivil_any _ _).mono ?_; rw [hY.out, hM.out, hDd.out, hE.out]; rintro e w2 ⟨rfl, rfl⟩)
      | (go_at_call 18; refine (isd_any _ _).mono ?_; rw [HD.out]; rintro e w2 ⟨rfl, rfl⟩)
      | (go_at_call 12; refine (of_any _ _ _ _ (by omega) (by omega)).mono ?_; rintro e w2 ⟨rfl, hb2⟩; replace hb := bel hb hb2; clear hb2))
    go_ret
    exact ⟨rfl, hb⟩
  · have hY : Hid (Dt.cvY n = Dt.cY n) := Lib.hid (by unfold Dt.cvY; rw [hD]; rfl)
    have hM : Hid (Dt.cvM n = Dt.cM n) := Lib.hid (by unfold Dt.cvM; rw [hD]; rfl)
    have hDd : Hid (Dt.cvD n = Dt.cD n) := Lib.hid (by unfold Dt.cvD; rw [hD]; rfl)
    have hE : Hid (Dt.cvE n = 0) := Lib.hid (by unfold Dt.cvE; rw [hD]; rfl)
    have c := Dt.of_civ n hD
    have hv : Hid (Dt.ofV (Dt.cY n) (Dt.cM n) (Dt.cD n) = n) := Lib.hid (by unfold Dt.ofV; rw [c.1]; exact c.2)
    have he : Hid (Dt.ofE (Dt.cY n) (Dt.cM n) (Dt.cD n) = 0) := Lib.hid (by unfold Dt.ofE; rw [c.1]; rfl)
    have b := Dt.cY_bd n hD
    have b1 : 1 ≤ Dt.cD n := by omega
    have b2 : Dt.cD n ≤ 31 := by omega
    have HD := Lib.hid hD
    clear hD c b
    go_enter Try.func4, Try.ntmps4
    go_wp2_with (first
      | (go_at_call 11; refine (awake_any _).mono ?_; rintro e w1 ⟨rfl, hb⟩)
      | (go_at_call 16; refine (civil_any _ _).mono ?_; rw [hY.out, hM.out, hDd.out, hE.out]; rintro e w2 ⟨rfl, hb2⟩; replace hb := bel hb hb2; clear hb2)
      | (go_at_call 17; refine (rcivil_any _ _).mono ?_; rw [hY.out, hM.out, hDd.out, hE.out]; rintro e w2 ⟨rfl, rfl⟩)
      | (go_at_call 18; refine (isd_any _ _).mono ?_; rw [HD.out]; rintro e w2 ⟨rfl, rfl⟩)
      | (go_at_call 12; refine (of_any _ _ _ _ (by omega) (by omega)).mono ?_; rw [hv.out, he.out]; rintro e w2 ⟨rfl, hb2⟩; replace hb := bel hb hb2; clear hb2))
    go_ret
    exact ⟨rfl, hb⟩
end Go.Proofs.Ytaglhkjfbdafjaa
