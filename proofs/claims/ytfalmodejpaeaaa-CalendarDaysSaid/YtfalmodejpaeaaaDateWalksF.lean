/- One contract for each date function of numbers: what it returns for any arguments. -/
import Derived.Test.YtfalmodejpaeaaaDateWalksE
namespace Go.Proofs.Ytfalmodejpaeaaa
open Go.RowKit

theorem of_any (y m d : Int) (w : World) (hd1 : -9223372036854775808 ≤ d) (hd2 : d ≤ 9223372036854775807) :
    Calls Try.prog 77 #[.int .i64 y, .int .i64 m, .int .i64 d] w fun e w' => e = .returned (.tuple #[.int .i64 (Dt.ofV y m d), .int .i64 (Dt.ofE y m d)]) ∧ Below w.heap.size w w' := by
  unfold Dt.ofV Dt.ofE
  cases h : Dt.vld y m d
  · exact of_no y m d w h hd1 hd2
  · exact of_yes y m d w h
theorem rof_any (y m d : Int) (w : World) :
    Calls Try.prog 78 #[.int .i64 y, .int .i64 m, .int .i64 d] w fun e w' => e = .returned (.tuple #[.int .i64 (Dt.ofV y m d), .int .i64 (Dt.ofE y m d)]) ∧ w = w' := by
  unfold Dt.ofV Dt.ofE
  cases h : Dt.vld y m d
  · exact rof_no y m d w h
  · exact rof_yes y m d w h
theorem civil_any (n : Int) (w : World) :
    Calls Try.prog 57 #[.int .i64 n] w fun e w' => e = .returned (.tuple #[.int .i64 (Dt.cvY n), .int .i64 (Dt.cvM n), .int .i64 (Dt.cvD n), .int .i64 (Dt.cvE n)]) ∧ Below w.heap.size w w' := by
  unfold Dt.cvY Dt.cvM Dt.cvD Dt.cvE
  cases h : Dt.isD n
  · exact (civil_no n w ((Dt.isD_not n).1 h)).mono fun _ _ ⟨a, b⟩ => ⟨a, by rw [← b]; exact Below.refl _ _⟩
  · exact civil_yes n w ((Dt.isD_iff n).1 h).1 ((Dt.isD_iff n).1 h).2
theorem rcivil_any (n : Int) (w : World) :
    Calls Try.prog 30 #[.int .i64 n] w fun e w' => e = .returned (.tuple #[.int .i64 (Dt.cvY n), .int .i64 (Dt.cvM n), .int .i64 (Dt.cvD n), .int .i64 (Dt.cvE n)]) ∧ w = w' := by
  unfold Dt.cvY Dt.cvM Dt.cvD Dt.cvE
  cases h : Dt.isD n
  · exact rcivil_no n w ((Dt.isD_not n).1 h)
  · exact rcivil_yes n w ((Dt.isD_iff n).1 h).1 ((Dt.isD_iff n).1 h).2
theorem isd_any (n : Int) (w : World) : Calls Try.prog 82 #[.int .i64 n] w fun e w' => e = .returned (.bool (Dt.isD n)) ∧ w = w' := valid_any n w
theorem risd_any (n : Int) (w : World) : Calls Try.prog 60 #[.int .i64 n] w fun e w' => e = .returned (.bool (Dt.isD n)) ∧ w = w' := rvalid_any n w

theorem Dt.add_far (n k : Int) (h : Dt.isD n = true) (hk : k < -3600 ∨ 3600 < k) : Dt.addOk n k = false := by
  have c := Dt.cY_bd n h
  rw [← Bool.not_eq_true]
  unfold Dt.addOk Dt.mon
  simp only [Bool.and_eq_true, decide_eq_true_eq]
  omega
theorem Dt.add_noD (n k : Int) (h : Dt.isD n = false) : Dt.addOk n k = false := by unfold Dt.addOk; rw [h]; rfl

theorem Dt.add_of (n k : Int) (h : Dt.isD n = true) (_k1 : -4800 ≤ k) (_k2 : k ≤ 4800) :
    Dt.ofV (Dt.mon n k / 12) (Dt.mon n k % 12 + 1) (min (Dt.cD n) (max 1 (Dt.days (Dt.mon n k / 12) (Dt.mon n k % 12 + 1)))) = Dt.addV n k ∧
    Dt.ofE (Dt.mon n k / 12) (Dt.mon n k % 12 + 1) (min (Dt.cD n) (max 1 (Dt.days (Dt.mon n k / 12) (Dt.mon n k % 12 + 1)))) = Dt.addE n k := by
  have c := Dt.cY_bd n h
  cases ha : Dt.addOk n k
  · have hy : Dt.mon n k < 22800 ∨ 26399 < Dt.mon n k := by
      rw [← Bool.not_eq_true] at ha
      unfold Dt.addOk at ha
      rw [h] at ha
      simp only [Bool.true_and, Bool.and_eq_true, decide_eq_true_eq] at ha
      omega
    have hz : Dt.days (Dt.mon n k / 12) (Dt.mon n k % 12 + 1) = 0 := by unfold Dt.days; rw [if_pos (by omega)]
    have v : Dt.vld (Dt.mon n k / 12) (Dt.mon n k % 12 + 1) (min (Dt.cD n) (max 1 (Dt.days (Dt.mon n k / 12) (Dt.mon n k % 12 + 1)))) = false := by
      rw [← Bool.not_eq_true, Dt.vld_iff, hz]; omega
    unfold Dt.ofV Dt.ofE Dt.addV Dt.addE
    rw [v, ha]
    exact ⟨rfl, rfl⟩
  · have v := Dt.add_vld n k ha
    have hp : 0 < Dt.days (Dt.mon n k / 12) (Dt.mon n k % 12 + 1) := by rw [Dt.vld_iff] at v; omega
    rw [show max 1 (Dt.days (Dt.mon n k / 12) (Dt.mon n k % 12 + 1)) = Dt.days (Dt.mon n k / 12) (Dt.mon n k % 12 + 1) from by omega]
    unfold Dt.ofV Dt.ofE Dt.addV Dt.addE
    rw [v, ha]
    exact ⟨rfl, rfl⟩

set_option maxHeartbeats 1000000 in
theorem radd_any (n k : Int) (w : World) :
    Calls Try.prog 79 #[.int .i64 n, .int .i64 k] w fun e w' => e = .returned (.tuple #[.int .i64 (Dt.addV n k), .int .i64 (Dt.addE n k)]) ∧ w = w' := by
  cases hD : Dt.isD n
  · have hr := (Dt.isD_not n).1 hD
    have e : Dt.addOk n k = false := Dt.add_noD n k hD
    unfold Dt.addV Dt.addE
    rw [e]
    have H := Lib.hid hr
    clear hr hD e
    go_enter Try.func79, Try.ntmps79
    go_wp2_with (go_at_call 30; refine (rcivil_no _ _ H.out).mono ?_; rintro e w' ⟨rfl, rfl⟩)
    go_ret2
    exact ⟨rfl, rfl⟩
  · have c := Dt.cY_bd n hD
    obtain ⟨r1, r2⟩ := (Dt.isD_iff n).1 hD
    by_cases hk : k < -3600 ∨ 3600 < k
    · have e : Dt.addOk n k = false := Dt.add_far n k hD (by omega)
      unfold Dt.addV Dt.addE
      rw [e]
      clear e hD
      rcases hk with hk | hk
      · go_enter Try.func79, Try.ntmps79
        go_wp2_with (go_at_call 30; refine (rcivil_yes _ _ r1 r2).mono ?_; rintro e w1 ⟨rfl, rfl⟩)
        go_ret2
        exact ⟨rfl, rfl⟩
      · have h2 : ¬ k < -3600 := by omega
        go_enter Try.func79, Try.ntmps79
        go_wp2_with (go_at_call 30; refine (rcivil_yes _ _ r1 r2).mono ?_; rintro e w1 ⟨rfl, rfl⟩)
        go_ret2
        exact ⟨rfl, rfl⟩
    · have k1 : -3600 ≤ k := by omega
      have k2 : k ≤ 3600 := by omega
      have hm : Dt.mon n k = 12 * Dt.cY n + Dt.cM n - 1 + k := rfl
      by_cases hy : 22800 ≤ 12 * Dt.cY n + Dt.cM n - 1 + k ∧ 12 * Dt.cY n + Dt.cM n - 1 + k ≤ 26399
      · have ha : Dt.addOk n k = true := by
          unfold Dt.addOk; rw [hD]; simp only [Bool.true_and, Bool.and_eq_true, decide_eq_true_eq]; rw [hm]; exact hy
        have v := Dt.add_vld n k ha
        unfold Dt.addV Dt.addE Dt.addN
        rw [ha]
        rw [hm] at v ⊢
        have H := Lib.hid (show ∀ x, x = min (Dt.cD n) (Dt.days ((12 * Dt.cY n + Dt.cM n - 1 + k) / 12) ((12 * Dt.cY n + Dt.cM n - 1 + k) % 12 + 1)) → Dt.vld ((12 * Dt.cY n + Dt.cM n - 1 + k) / 12) ((12 * Dt.cY n + Dt.cM n - 1 + k) % 12 + 1) x = true from fun x hx => by rw [hx]; exact v)
        obtain ⟨y1, y2⟩ := hy
        obtain ⟨c1, c2, c3, c4, c5, c6, c7⟩ := c
        clear c6 ha v hm hD hk
        go_enter Try.func79, Try.ntmps79
        go_wp2_with (first
          | (go_at_call 30; refine (rcivil_yes _ _ r1 r2).mono ?_; rintro e w1 ⟨rfl, rfl⟩)
          | (go_at_call 59; refine (rdays_any _ _ _).mono ?_; rintro e w2 ⟨rfl, rfl⟩)
          | (go_at_call 78; refine (rof_yes _ _ _ _ (H.out _ (by omega))).mono ?_; rintro e w3 ⟨rfl, rfl⟩))
        all_goals
          go_ret2
          exact ⟨ret_pair ⟨by congr 1; omega, rfl⟩, rfl⟩
      · have ha : Dt.addOk n k = false := by
          unfold Dt.addOk; rw [hD, ← Bool.not_eq_true]; simp only [Bool.true_and, Bool.and_eq_true, decide_eq_true_eq]; rw [hm]; exact hy
        unfold Dt.addV Dt.addE
        rw [ha]
        obtain ⟨c1, c2, c3, c4, c5, c6, c7⟩ := c
        clear c6 ha hm hD hk
        by_cases hy1 : 12 * Dt.cY n + Dt.cM n - 1 + k < 22800
        · clear hy
          go_enter Try.func79, Try.ntmps79
          go_wp2_with (go_at_call 30; refine (rcivil_yes _ _ r1 r2).mono ?_; rintro e w1 ⟨rfl, rfl⟩)
          go_ret2
          exact ⟨rfl, rfl⟩
        · have hy2 : 26399 < 12 * Dt.cY n + Dt.cM n - 1 + k := by omega
          clear hy
          go_enter Try.func79, Try.ntmps79
          go_wp2_with (go_at_call 30; refine (rcivil_yes _ _ r1 r2).mono ?_; rintro e w1 ⟨rfl, rfl⟩)
          go_ret2
          exact ⟨rfl, rfl⟩
theorem civil_is (n : Int) (w : World) (h : Hid (Dt.isD n = true)) :
    Calls Try.prog 57 #[.int .i64 n] w fun e w' => e = .returned (.tuple #[.int .i64 (Dt.cY n), .int .i64 (Dt.cM n), .int .i64 (Dt.cD n), .int .i64 0]) ∧ Below w.heap.size w w' :=
  civil_yes n w ((Dt.isD_iff n).1 h.out).1 ((Dt.isD_iff n).1 h.out).2
theorem risd_is (n : Int) (b : Bool) (w : World) (h : Hid (Dt.isD n = b)) : Calls Try.prog 60 #[.int .i64 n] w fun e w' => e = .returned (.bool b) ∧ w = w' := by
  have := risd_any n w
  rw [h.out] at this
  exact this
theorem of_is (y m d a e : Int) (w : World) (hd1 : -9223372036854775808 ≤ d) (hd2 : d ≤ 9223372036854775807) (h1 : Hid (Dt.ofV y m d = a)) (h2 : Hid (Dt.ofE y m d = e)) :
    Calls Try.prog 77 #[.int .i64 y, .int .i64 m, .int .i64 d] w fun r w' => r = .returned (.tuple #[.int .i64 a, .int .i64 e]) ∧ Below w.heap.size w w' := by
  have := of_any y m d w hd1 hd2
  rw [h1.out, h2.out] at this
  exact this
end Go.Proofs.Ytfalmodejpaeaaa
