/- The walks of either, amount, known, Path and their references. -/
import Derived.Test.YtjcapeieahffnaaChartWalksH
import Derived.Test.YtjcapeieahffnaaChartMathC
import Derived.Test.YtjcapeieahffnaaBalMath
namespace Go.Proofs.Ytjcapeieahffnaa
set_option linter.unusedVariables false
set_option linter.unusedSimpArgs false
open Go.RowKit

def BsPost (l : List Acc) (c : Int) (w : World) (e : Ending) (w' : World) : Prop := ∃ i : Int, e = .returned (.tuple #[.int .i64 i, .bool (Ch.fnB l c)]) ∧ Below w.heap.size w w'
theorem cmp_lt {a b : Int} (h : a < b) : decide (cmpV a b < 0) = true := by unfold cmpV; rw [if_pos h]; rfl
theorem cmp_ge {a b : Int} (h : b ≤ a) : decide (cmpV a b < 0) = false := by unfold cmpV; rw [if_neg (by omega)]; split <;> rfl
theorem cmp_zero (a b : Int) : (cmpV a b == 0) = (a == b) := by
  unfold cmpV
  by_cases h : a < b
  · rw [if_pos h]; have : ¬ a = b := by omega
    simp [this]
  · rw [if_neg h]
    by_cases h2 : b < a
    · rw [if_pos h2]; have : ¬ a = b := by omega
      simp [this]
    · rw [if_neg h2]; have : a = b := by omega
      simp [this]
/-- what a search has found out -/
theorem bs_end (l : List Acc) (c : Int) (i : Nat) (ha : ∀ i j (hj : j < l.length) (hij : i < j), (l[i]'(by omega)).code < l[j].code) (hlo : ∀ k (h : k < i) (h2 : k < l.length), (l[k]'h2).code < c)
    (hhi : ∀ k (h : i ≤ k) (h2 : k < l.length), c ≤ (l[k]'h2).code) : Ch.fnB l c = if h : i < l.length then (l[i].code == c) else false := by
  unfold Ch.fnB
  by_cases h : i < l.length
  · rw [dif_pos h]
    by_cases hc : l[i].code = c
    · rw [Ch.find_at l c i h hc (fun j hj => by have := hlo j hj (by omega); omega)]
      simp [hc]
    · rw [Ch.find_none l c (fun j hj e => by
        rcases Nat.lt_trichotomy j i with h1 | h1 | h1
        · have := hlo j h1 hj; omega
        · subst h1; exact hc e
        · have := ha i j hj h1
          have := hhi i (by omega) h
          omega)]
      simp [hc]
  · rw [dif_neg h, Ch.find_none l c (fun j hj e => by have := hlo j (by omega) hj; omega)]
    rfl
set_option maxHeartbeats 1000000 in
theorem bs_any (l : List Acc) (c : Int) (A : Option Addr) (cap : Nat) (w : World) (hr : Rd w w.heap.size 4 A l.length (Ch.cells l)) (hn : l.length ≤ 100000)
    (ha : ∀ i j (hj : j < l.length) (hij : i < j), (l[i]'(by omega)).code < l[j].code) :
    Calls Try.prog 41 #[.slice A l.length cap, .int .i64 c, .func (.func 42) #[] #[]] w (BsPost l c w) := by
  have hb := Below.refl w.heap.size w
  have HR := Lib.hid hr
  have HA := Lib.hid ha
  clear hr ha
  go_enter Try.func41, Try.ntmps41
  go_wp2_with fail
  go_loopw [9, 10] (fun t u wr => ∃ i j : Nat, i ≤ j ∧ j ≤ l.length ∧ (∀ k (h : k < i) (h2 : k < l.length), (l[k]'h2).code < c) ∧ (∀ k (h : j ≤ k) (h2 : k < l.length), c ≤ (l[k]'h2).code) ∧ t = .int .i64 i ∧ u = .int .i64 j ∧ Below w.heap.size w wr) (fun t u _ => (intOf u).toNat - (intOf t).toNat)
  case atStart => exact ⟨0, l.length, by omega, by omega, fun k h => by omega, fun k h h2 => by omega, rfl, rfl, hb⟩
  case round =>
    clear hb
    obtain ⟨i, j, hij, hj, hlo, hhi, rfl, rfl, hb⟩ := hrel
    have HLO := Lib.hid hlo
    have HHI := Lib.hid hhi
    clear hlo hhi
    by_cases hlt : i < j
    · have hh : (i + j) / 2 < l.length := by omega
      obtain ⟨b, o, hA, hbo, f0, f1, f2, f3⟩ := Ch.at_ (HR.out.below hb (Nat.le_refl _)) hh
      subst hA
      by_cases hc : l[(i + j) / 2].code < c
      · have hd := cmp_lt hc
        go_wp2_with (go_at_call 42; refine (known1_any l[(i + j) / 2] c _).mono ?_; rintro e w2 ⟨rfl, hb2⟩; replace hb := bel hb hb2; clear hb2)
        go_roundw
        case rel =>
          refine ⟨(i + j) / 2 + 1, j, by omega, by omega, fun k h h2 => ?_, HHI.out, by go_num, rfl, hb⟩
          by_cases e : k = (i + j) / 2
          · subst e; exact hc
          · have := HA.out k ((i + j) / 2) hh (by omega); omega
        case measure => simp [intOf]; omega
      · have hd := cmp_ge (a := l[(i + j) / 2].code) (b := c) (by omega)
        have HC := Lib.hid hc
        clear hc
        go_wp2_with (go_at_call 42; refine (known1_any l[(i + j) / 2] c _).mono ?_; rintro e w2 ⟨rfl, hb2⟩; replace hb := bel hb hb2; clear hb2)
        go_roundw
        case rel =>
          refine ⟨i, (i + j) / 2, by omega, by omega, HLO.out, fun k h h2 => ?_, rfl, by go_num, hb⟩
          have := HC.out
          by_cases e : k = (i + j) / 2
          · subst e; omega
          · have := HA.out ((i + j) / 2) k h2 (by omega); omega
        case measure => simp [intOf]; omega
    · obtain rfl : i = j := by omega
      have HE := Lib.hid (bs_end l c i HA.out HLO.out HHI.out)
      by_cases hi : i < l.length
      · obtain ⟨b, o, hA, hbo, f0, f1, f2, f3⟩ := Ch.at_ (HR.out.below hb (Nat.le_refl _)) hi
        subst hA
        have hz := cmp_zero l[i].code c
        go_wp2_with (go_at_call 42; refine (known1_any l[i] c _).mono ?_; rintro e w2 ⟨rfl, hb2⟩; replace hb := bel hb hb2; clear hb2)
        go_ret2
        exact ⟨i, by rw [HE.out, dif_pos hi]; rfl, hb⟩
      · go_wp2_with fail
        go_ret2
        exact ⟨i, by rw [HE.out, dif_neg hi]; rfl, hb⟩

set_option maxHeartbeats 1000000 in
theorem either_any (l : List Acc) (A : Option Addr) (cap : Nat) (w : World) (hr : Rd w w.heap.size 4 A l.length (Ch.cells l)) (hn : l.length ≤ 100000) (hwf : ∀ a ∈ l, (Lit.int .i64 a.code).wf = true) :
    Calls Try.prog 33 #[.slice A l.length cap] w (BoolPost (Ch.eitherV l) w) := by
  have hb := Below.refl w.heap.size w
  have HR := Lib.hid hr
  have HW := Lib.hid hwf
  have HE : Hid (Ch.eitherV l = (Ch.validV l true || Ch.validV l false)) := Lib.hid rfl
  clear hr hwf
  cases h1 : Ch.validV l true
  all_goals
    go_enter Try.func33, Try.ntmps33
    go_wp2_with (go_at_call 11; refine (valid_any l _ A cap _ (Rd.now HR.out hb) hn HW.out).mono ?_; rintro e w2 ⟨rfl, hb2⟩; replace hb := bel hb hb2; clear hb2)
    go_ret
    exact ⟨ret_bool (by rw [HE.out, h1]; simp), hb⟩
set_option maxHeartbeats 1000000 in
theorem reither_any (l : List Acc) (A : Option Addr) (cap : Nat) (w : World) (hr : Rd w w.heap.size 4 A l.length (Ch.cells l)) (hn : l.length ≤ 100000) :
    Calls Try.prog 27 #[.slice A l.length cap] w (BoolPost (Ch.eitherV l) w) := by
  have hb := Below.refl w.heap.size w
  have HR := Lib.hid hr
  have HE : Hid (Ch.eitherV l = (Ch.rvalidV l true || Ch.rvalidV l false)) := Lib.hid (by unfold Ch.eitherV; rw [Ch.valid_eq, Ch.valid_eq])
  clear hr
  cases h1 : Ch.rvalidV l true
  all_goals
    go_enter Try.func27, Try.ntmps27
    go_wp2_with (go_at_call 12; refine (rvalid_any l _ A cap _ (Rd.now HR.out hb) hn).mono ?_; rintro e w2 ⟨rfl, hb2⟩; replace hb := bel hb hb2; clear hb2)
    go_ret
    exact ⟨ret_bool (by rw [HE.out, h1]; simp), hb⟩
set_option maxHeartbeats 1000000 in
theorem known_any (l : List Acc) (c : Int) (A : Option Addr) (cap : Nat) (w : World) (hr : Rd w w.heap.size 4 A l.length (Ch.cells l)) (hn : l.length ≤ 100000) (hwf : ∀ a ∈ l, (Lit.int .i64 a.code).wf = true) (he : Ch.eitherV l = true) :
    Calls Try.prog 34 #[.slice A l.length cap, .int .i64 c] w (BoolPost (Ch.fnB l c) w) := by
  have hb := Below.refl w.heap.size w
  have HR := Lib.hid hr
  have HW := Lib.hid hwf
  have HA : Hid (∀ i j (hj : j < l.length) (hij : i < j), (l[i]'(by omega)).code < l[j].code) := Lib.hid (by obtain ⟨g, hg, _⟩ := Ch.either_base he; exact Ch.base_asc hg)
  clear hr hwf
  cases h1 : Ch.fnB l c
  all_goals
    go_enter Try.func34, Try.ntmps34
    go_wp2_with (first
      | (go_at_call 41; refine (bs_any l c A cap _ (Rd.now HR.out hb) hn HA.out).mono ?_; rintro e w2 ⟨i, rfl, hb2⟩; replace hb := bel hb hb2; clear hb2)
      | (go_at_call 33; refine (either_any l A cap _ (Rd.now HR.out hb) hn HW.out).mono ?_; rintro e w2 ⟨rfl, hb2⟩; replace hb := bel hb hb2; clear hb2))
    go_ret
    exact ⟨rfl, hb⟩

theorem amount_any (n : Int) (w : World) : Calls Try.prog 38 #[.int .i64 n] w (fun e w' => e = .returned (.bool (amV n)) ∧ w = w') := by
  have HE : Hid (amV n = (decide (-1000000000000 ≤ n) && decide (n ≤ 1000000000000))) := Lib.hid rfl
  by_cases h1 : -1000000000000 ≤ n
  · by_cases h2 : n ≤ 1000000000000
    all_goals
      go_enter Try.func38, Try.ntmps38
      go_wp2_with fail
      go_ret
      exact ⟨ret_bool (by rw [HE.out]; simp [h1, h2] <;> omega), rfl⟩
  · go_enter Try.func38, Try.ntmps38
    go_wp2_with fail
    go_ret
    exact ⟨ret_bool (by rw [HE.out]; simp [h1] <;> omega), rfl⟩
theorem ramount_any (n : Int) (w : World) : Calls Try.prog 40 #[.int .i64 n] w (fun e w' => e = .returned (.bool (amV n)) ∧ w = w') := by
  have HE : Hid (amV n = (decide (-1000000000000 ≤ n) && decide (n ≤ 1000000000000))) := Lib.hid rfl
  by_cases h1 : -1000000000000 ≤ n
  · by_cases h2 : n ≤ 1000000000000
    all_goals
      go_enter Try.func40, Try.ntmps40
      go_wp2_with fail
      go_ret
      exact ⟨ret_bool (by rw [HE.out]; simp [h1, h2] <;> omega), rfl⟩
  · go_enter Try.func40, Try.ntmps40
    go_wp2_with fail
    go_ret
    exact ⟨ret_bool (by rw [HE.out]; simp [h1] <;> omega), rfl⟩
end Go.Proofs.Ytjcapeieahffnaa
