/- The walks of the laws DateNext and DateMonths. -/
import Derived.Test.YtaglhkjfbdafjaaDateLaws
namespace Go.Proofs.Ytaglhkjfbdafjaa
open Go.RowKit

theorem civil_is (n : Int) (w : World) (h : Hid (Dt.isD n = true)) :
    Calls Try.prog 16 #[.int .i64 n] w fun e w' => e = .returned (.tuple #[.int .i64 (Dt.cY n), .int .i64 (Dt.cM n), .int .i64 (Dt.cD n), .int .i64 0]) ∧ Below w.heap.size w w' :=
  civil_yes n w ((Dt.isD_iff n).1 h.out).1 ((Dt.isD_iff n).1 h.out).2
theorem risd_is (n : Int) (b : Bool) (w : World) (h : Hid (Dt.isD n = b)) : Calls Try.prog 19 #[.int .i64 n] w fun e w' => e = .returned (.bool b) ∧ w = w' := by
  have := risd_any n w
  rw [h.out] at this
  exact this
theorem wd_is (n : Int) (w : World) (h : Hid (Dt.isD n = true)) :
    Calls Try.prog 20 #[.int .i64 n] w fun e w' => e = .returned (.tuple #[.int .i64 (Dt.wd n), .int .i64 0]) ∧ w = w' :=
  wd_yes n w ((Dt.isD_iff n).1 h.out).1 ((Dt.isD_iff n).1 h.out).2

set_option maxHeartbeats 1000000 in
theorem law_DateNext (n : Int) (w : World) :
    Calls Try.prog 5 #[.int .i64 n] w fun e w' => e = .returned (.bool true) ∧ Below w.heap.size w w' := by
  cases hD : Dt.isD n
  · have HD := Lib.hid hD
    clear hD
    have hb := Below.refl w.heap.size w
    go_enter Try.func5, Try.ntmps5
    go_wp2_with (first
      | (go_at_call 11; refine (awake_any _).mono ?_; rintro e w2 ⟨rfl, hb2⟩; replace hb := bel hb hb2; clear hb2)
      | (go_at_call 19; refine (risd_is _ _ _ HD).mono ?_; rintro e w2 ⟨rfl, rfl⟩))
    go_ret
    exact ⟨rfl, hb⟩
  · have hr := (Dt.isD_iff n).1 hD
    have HD := Lib.hid hD
    by_cases h5 : n = 84005
    · subst h5
      clear hD hr
      have hb := Below.refl w.heap.size w
      go_enter Try.func5, Try.ntmps5
      go_wp2_with (first
        | (go_at_call 11; refine (awake_any _).mono ?_; rintro e w2 ⟨rfl, hb2⟩; replace hb := bel hb hb2; clear hb2)
        | (go_at_call 19; refine (risd_is _ _ _ HD).mono ?_; rintro e w2 ⟨rfl, rfl⟩))
      go_ret
      exact ⟨rfl, hb⟩
    · have hlt : n < 84005 := by omega
      have HD1 : Hid (Dt.isD (n + 1) = true) := Lib.hid ((Dt.isD_iff (n + 1)).2 (by omega))
      have hlo := hr.1
      have hnx := Dt.next_day n hr.1 hlt
      have bdY := Dt.cY_bd n hD
      have HW := Lib.hid (Dt.wd_next n)
      have bw := Dt.wd_bd n
      obtain ⟨c1, c2, c3, c4, c5, c6, c7⟩ := bdY
      clear hD hr c6
      rcases hnx with ⟨a1, a2, a3, a4⟩ | ⟨a1, a5, a2, a3, a4⟩ | ⟨a1, a5, a2, a3, a4⟩
      all_goals
        have A2 := Lib.hid a2
        have A3 := Lib.hid a3
        have A4 := Lib.hid a4
        clear a2 a3 a4
        have hb := Below.refl w.heap.size w
        go_enter Try.func5, Try.ntmps5
        go_wp2_with (first
          | (go_at_call 11; refine (awake_any _).mono ?_; rintro e w2 ⟨rfl, hb2⟩; replace hb := bel hb hb2; clear hb2)
          | (go_at_call 19; refine (risd_is _ _ _ HD).mono ?_; rintro e w2 ⟨rfl, rfl⟩))
        refine (civil_is n _ HD).mono ?_
        rintro e w2 ⟨rfl, hb2⟩
        replace hb := bel hb hb2
        clear hb2
        go_wp2_with (go_at_call 14; refine (days_any _ _ _).mono ?_; rintro e w2 ⟨rfl, hb2⟩; replace hb := bel hb hb2; clear hb2)
        refine (civil_is (n + 1) _ HD1).mono ?_
        rw [A2.out, A3.out, A4.out]
        rintro e w2 ⟨rfl, hb2⟩
        replace hb := bel hb hb2
        clear hb2
        go_wp2_with fail
        refine (wd_is n _ HD).mono ?_
        rintro e w2 ⟨rfl, rfl⟩
        go_wp2_with fail
        refine (wd_is (n + 1) _ HD1).mono ?_
        rw [HW.out]
        rintro e w2 ⟨rfl, rfl⟩
        go_wp2_with fail
        go_ret
        exact ⟨rfl, hb⟩

theorem of_is (y m d a e : Int) (w : World) (hd1 : -9223372036854775808 ≤ d) (hd2 : d ≤ 9223372036854775807) (h1 : Hid (Dt.ofV y m d = a)) (h2 : Hid (Dt.ofE y m d = e)) :
    Calls Try.prog 12 #[.int .i64 y, .int .i64 m, .int .i64 d] w fun r w' => r = .returned (.tuple #[.int .i64 a, .int .i64 e]) ∧ Below w.heap.size w w' := by
  have := of_any y m d w hd1 hd2
  rw [h1.out, h2.out] at this
  exact this
theorem add_is (n k a e : Int) (w : World) (h1 : Hid (Dt.addV n k = a)) (h2 : Hid (Dt.addE n k = e)) :
    Calls Try.prog 21 #[.int .i64 n, .int .i64 k] w fun r w' => r = .returned (.tuple #[.int .i64 a, .int .i64 e]) ∧ Below w.heap.size w w' := by
  have := add_any n k w
  rw [h1.out, h2.out] at this
  exact this
theorem Dt.addVE (n k : Int) (h : Dt.addOk n k = true) : Dt.addV n k = Dt.addN n k ∧ Dt.addE n k = 0 := by unfold Dt.addV Dt.addE; rw [h]; exact ⟨rfl, rfl⟩
theorem Dt.addVE_no (n k : Int) (h : Dt.addOk n k = false) : Dt.addV n k = 0 ∧ Dt.addE n k = 2 := by unfold Dt.addV Dt.addE; rw [h]; exact ⟨rfl, rfl⟩

set_option maxRecDepth 100000 in
set_option maxHeartbeats 2000000 in
theorem law_DateMonths (n a b : Int) (w : World) (ha1 : -128 ≤ a) (ha2 : a ≤ 127) (hb1 : -128 ≤ b) (hb2 : b ≤ 127) :
    Calls Try.prog 7 #[.int .i64 n, .int .i8 a, .int .i8 b] w fun e w' => e = .returned (.bool true) ∧ Below w.heap.size w w' := by
  cases hD : Dt.isD n
  · have HD := Lib.hid hD
    clear hD
    have hb := Below.refl w.heap.size w
    go_enter Try.func7, Try.ntmps7
    go_wp2_with (first
      | (go_at_call 11; refine (awake_any _).mono ?_; rintro e w2 ⟨rfl, hb2⟩; replace hb := bel hb hb2; clear hb2)
      | (go_at_call 19; refine (risd_is _ _ _ HD).mono ?_; rintro e w2 ⟨rfl, rfl⟩))
    go_ret
    exact ⟨rfl, hb⟩
  · have HD := Lib.hid hD
    have z := Dt.add_zero_ n hD
    have z' := Dt.addVE n 0 z.1
    have Z1 : Hid (Dt.addV n 0 = n) := Lib.hid (z'.1.trans z.2)
    have Z2 : Hid (Dt.addE n 0 = 0) := Lib.hid z'.2
    have bdY := Dt.cY_bd n hD
    obtain ⟨c1, c2, c3, c4, c5, c6, c7⟩ := bdY
    have hY := fun h28 => Dt.add_year n hD h28
    clear hD z z' c6
    cases hk : Dt.addOk n a
    · have A := Dt.addVE_no n a hk
      have A1 := Lib.hid A.1
      have A2 := Lib.hid A.2
      clear A hk hY
      have hb := Below.refl w.heap.size w
      go_enter Try.func7, Try.ntmps7
      go_wp2_with (first
        | (go_at_call 11; refine (awake_any _).mono ?_; rintro e w2 ⟨rfl, hb2⟩; replace hb := bel hb hb2; clear hb2)
        | (go_at_call 19; refine (risd_is _ _ _ HD).mono ?_; rintro e w2 ⟨rfl, rfl⟩))
      refine (civil_is n _ HD).mono ?_
      rintro e w2 ⟨rfl, hb2⟩
      replace hb := bel hb hb2
      clear hb2
      go_wp2_with fail
      refine (add_is n a _ _ _ A1 A2).mono ?_
      rintro e w2 ⟨rfl, hb2⟩
      replace hb := bel hb hb2
      clear hb2
      go_wp2_with fail
      refine (add_is n 0 _ _ _ Z1 Z2).mono ?_
      rintro e w2 ⟨rfl, hb2⟩
      replace hb := bel hb hb2
      clear hb2
      go_wp2_with fail
      all_goals
        go_ret
        exact ⟨rfl, hb⟩
    · have A := Dt.addVE n a hk
      have A1 := Lib.hid A.1
      have A2 := Lib.hid A.2
      by_cases h28 : Dt.cD n ≤ 28
      · have HX : Hid (Dt.isD (Dt.addN n a) = true) := Lib.hid (Dt.add_civ n a hk).1
        have HXD := Lib.hid (Dt.add_day n a hk h28)
        have bk := Dt.add_back n a hk h28
        have bk' := Dt.addVE _ _ bk.1
        have B1 : Hid (Dt.addV (Dt.addN n a) (-a) = n) := Lib.hid (bk'.1.trans bk.2)
        have B2 := Lib.hid bk'.2
        have ad := Dt.add_add n a b hk h28
        have T1 : Hid (Dt.addV (Dt.addN n a) b = Dt.addV n (a + b)) := Lib.hid (by unfold Dt.addV; rw [ad.1, ad.2])
        have T2 : Hid (Dt.addE (Dt.addN n a) b = Dt.addE n (a + b)) := Lib.hid (by unfold Dt.addE; rw [ad.1])
        have Y := hY h28
        have Y1 := Lib.hid Y.1
        have Y2 := Lib.hid Y.2
        clear A hk bk bk' ad Y hY
        have hb := Below.refl w.heap.size w
        go_enter Try.func7, Try.ntmps7
        go_wp2_with (first
          | (go_at_call 11; refine (awake_any _).mono ?_; rintro e w2 ⟨rfl, hb2⟩; replace hb := bel hb hb2; clear hb2)
          | (go_at_call 19; refine (risd_is _ _ _ HD).mono ?_; rintro e w2 ⟨rfl, rfl⟩))
        refine (civil_is n _ HD).mono ?_
        rintro e w2 ⟨rfl, hb2⟩
        replace hb := bel hb hb2
        clear hb2
        go_wp2_with fail
        refine (add_is n a _ _ _ A1 A2).mono ?_
        rintro e w2 ⟨rfl, hb2⟩
        replace hb := bel hb hb2
        clear hb2
        go_wp2_with fail
        refine (add_is n 0 _ _ _ Z1 Z2).mono ?_
        rintro e w2 ⟨rfl, hb2⟩
        replace hb := bel hb hb2
        clear hb2
        go_wp2_with fail
        refine (civil_is _ _ HX).mono ?_
        rw [HXD.out]
        rintro e w2 ⟨rfl, hb2⟩
        replace hb := bel hb hb2
        clear hb2
        go_wp2_with fail
        refine (add_is _ (-a) _ _ _ B1 B2).mono ?_
        rintro e w2 ⟨rfl, hb2⟩
        replace hb := bel hb hb2
        clear hb2
        go_wp2_with fail
        refine (add_is _ b _ _ _ T1 T2).mono ?_
        rintro e w2 ⟨rfl, hb2⟩
        replace hb := bel hb hb2
        clear hb2
        go_wp2_with fail
        refine (add_any _ _ _).mono ?_
        rintro e w2 ⟨rfl, hb2⟩
        replace hb := bel hb hb2
        clear hb2
        go_wp2_with fail
        refine (add_is _ 12 _ _ _ Y1 Y2).mono ?_
        rintro e w2 ⟨rfl, hb2⟩
        replace hb := bel hb hb2
        clear hb2
        go_wp2_with fail
        refine (of_any _ _ _ _ (by omega) (by omega)).mono ?_
        rintro e w2 ⟨rfl, hb2⟩
        replace hb := bel hb hb2
        clear hb2
        go_wp2_with fail
        go_ret
        exact ⟨rfl, hb⟩
      · have h28' : 28 < Dt.cD n := by omega
        clear A hk hY h28
        have hb := Below.refl w.heap.size w
        go_enter Try.func7, Try.ntmps7
        go_wp2_with (first
          | (go_at_call 11; refine (awake_any _).mono ?_; rintro e w2 ⟨rfl, hb2⟩; replace hb := bel hb hb2; clear hb2)
          | (go_at_call 19; refine (risd_is _ _ _ HD).mono ?_; rintro e w2 ⟨rfl, rfl⟩))
        refine (civil_is n _ HD).mono ?_
        rintro e w2 ⟨rfl, hb2⟩
        replace hb := bel hb hb2
        clear hb2
        go_wp2_with fail
        refine (add_is n a _ _ _ A1 A2).mono ?_
        rintro e w2 ⟨rfl, hb2⟩
        replace hb := bel hb hb2
        clear hb2
        go_wp2_with fail
        refine (add_is n 0 _ _ _ Z1 Z2).mono ?_
        rintro e w2 ⟨rfl, hb2⟩
        replace hb := bel hb hb2
        clear hb2
        go_wp2_with fail
        go_ret
        exact ⟨rfl, hb⟩
end Go.Proofs.Ytaglhkjfbdafjaa
