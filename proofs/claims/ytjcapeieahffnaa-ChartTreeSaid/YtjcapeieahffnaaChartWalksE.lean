/- The walks of Compare, of known's own function, of SameCodes, Has, Index and Contains. -/
import Derived.Test.YtjcapeieahffnaaChartWalksD
import Derived.Deep.RegionHeld3
import Derived.Deep.QuietTactic
import Derived.BigQuiet
namespace Go.Proofs.Ytjcapeieahffnaa
set_option linter.unusedVariables false
set_option linter.unusedSimpArgs false
open Go.RowKit

def cmpV (a b : Int) : Int := if a < b then -1 else if b < a then 1 else 0
theorem isNaN_any (a : Int) (w : World) : Calls Try.prog 46 #[.int .i64 a] w (fun e w' => e = .returned (.bool false) ∧ w = w') := by
  have h : (a != a) = false := by simp
  go_enter Try.func46, Try.ntmps46
  go_wp2_with fail
  go_ret
  exact ⟨rfl, rfl⟩
theorem compare_any (a b : Int) (w : World) : Calls Try.prog 43 #[.int .i64 a, .int .i64 b] w (fun e w' => e = .returned (.int .i64 (cmpV a b)) ∧ w = w') := by
  by_cases h1 : a < b
  · have HE : Hid (cmpV a b = -1) := Lib.hid (by unfold cmpV; rw [if_pos h1])
    go_enter Try.func43, Try.ntmps43
    go_wp2_with (go_at_call 46; refine (isNaN_any _ _).mono ?_; rintro e w2 ⟨rfl, rfl⟩)
    go_ret
    exact ⟨ret_int HE.out.symm, rfl⟩
  by_cases h2 : b < a
  · have HE : Hid (cmpV a b = 1) := Lib.hid (by unfold cmpV; rw [if_neg h1, if_pos h2])
    go_enter Try.func43, Try.ntmps43
    go_wp2_with (go_at_call 46; refine (isNaN_any _ _).mono ?_; rintro e w2 ⟨rfl, rfl⟩)
    go_ret
    exact ⟨ret_int HE.out.symm, rfl⟩
  · have HE : Hid (cmpV a b = 0) := Lib.hid (by unfold cmpV; rw [if_neg h1, if_neg h2])
    go_enter Try.func43, Try.ntmps43
    go_wp2_with (go_at_call 46; refine (isNaN_any _ _).mono ?_; rintro e w2 ⟨rfl, rfl⟩)
    go_ret
    exact ⟨ret_int HE.out.symm, rfl⟩
theorem known1_any (a : Acc) (c : Int) (w : World) : Calls Try.prog 42 #[.agg #[.int .i64 a.code, .int .i64 a.kind, .int .i64 a.basis, .int .i64 a.parent], .int .i64 c] w (fun e w' => e = .returned (.int .i64 (cmpV a.code c)) ∧ Below w.heap.size w w') := by
  have hb := Below.refl w.heap.size w
  go_enter Try.func42, Try.ntmps42
  go_wp2_with (go_at_call 43; refine (compare_any _ _ _).mono ?_; rintro e w2 ⟨rfl, rfl⟩)
  go_ret
  exact ⟨rfl, (by repeat (first | exact hb | refine Below.alloc ?_ (by have hbs := hb.size; first | omega | (simp; done) | (simp; omega)) _ | refine Below.drew ?_ | refine below_drewN_ ?_ _ | refine Below.setCell ?_ (by simp) _))⟩

/-- the place of a number in a list from k on -/
theorem rhas_any (l : List Int) (c : Int) (A : Option Addr) (cap : Nat) (w : World) (hr : Rd w w.heap.size 1 A l.length (intCells l)) (hn : l.length ≤ 1000000) :
    Calls Try.prog 28 #[.slice A l.length cap, .int .i64 c] w (fun e w' => e = .returned (.bool (decide (c ∈ l))) ∧ w = w') := by
  have HR := Lib.hid hr
  clear hr
  go_enter Try.func28, Try.ntmps28
  go_wp2_with fail
  go_loopw [5] (fun t wr => ∃ k : Nat, k ≤ l.length ∧ (∀ j (h : j < k) (h2 : j < l.length), l[j]'h2 ≠ c) ∧ t = .int .i64 k ∧ w = wr) (fun t _ => l.length - (intOf t).toNat)
  case atStart => exact ⟨0, by omega, fun j h => by omega, rfl, rfl⟩
  case round =>
    obtain ⟨k, hk, hno, rfl, rfl⟩ := hrel
    have HN := Lib.hid hno
    clear hno
    by_cases hlt : k < l.length
    · obtain ⟨b, o, hA, hbo, f0⟩ := int_at HR.out hlt
      subst hA
      by_cases hc : l[k] = c
      · have hc' : (l[k] == c) = true := by simpa using hc
        have HE : Hid (c ∈ l) := Lib.hid (by rw [← hc]; exact List.getElem_mem hlt)
        clear hc
        go_wp2_with fail
        go_ret
        exact ⟨ret_bool (by simpa using HE.out), rfl⟩
      · have hc' : (l[k] == c) = false := by simpa using hc
        have HC := Lib.hid hc
        clear hc
        go_wp2_with fail
        go_roundw
        case rel =>
          refine ⟨k + 1, by omega, fun j h h2 => ?_, by go_num, trivial⟩
          by_cases hj : j = k
          · subst hj; exact HC.out
          · exact HN.out j (by omega) h2
        case measure => simp [intOf]; omega
    · have HE : Hid (¬ c ∈ l) := Lib.hid (fun hm => by
        obtain ⟨j, hj, e⟩ := List.mem_iff_getElem.1 hm
        exact HN.out j (by omega) hj e)
      go_wp2_with fail
      go_ret
      exact ⟨ret_bool (by simpa using HE.out), rfl⟩

theorem same_of (xs ys : List Int) (hl : xs.length = ys.length) (h : ∀ j (h : j < xs.length), xs[j] = ys[j]'(by omega)) : xs = ys := List.ext_getElem hl (fun j h1 _ => h j h1)

set_option maxHeartbeats 1000000 in
theorem samecodes_any (xs ys : List Int) (A B : Option Addr) (c1 c2 : Nat) (w : World) (hr : Rd w w.heap.size 1 A xs.length (intCells xs)) (hq : Rd w w.heap.size 1 B ys.length (intCells ys)) (hn : xs.length ≤ 1000000) (hm : ys.length ≤ 1000000) :
    Calls Try.prog 15 #[.slice A xs.length c1, .slice B ys.length c2] w (BoolPost (decide (xs = ys)) w) := by
  have hb := Below.refl w.heap.size w
  by_cases hl : xs.length = ys.length
  · have hl' : ((xs.length : Int) != (ys.length : Int)) = false := by simp [hl]
    have HL := Lib.hid hl
    have HR := Lib.hid hr
    have HQ := Lib.hid hq
    clear hl hr hq
    go_enter Try.func15, Try.ntmps15
    go_wp2_with fail
    go_loopw [5] (fun t wr => ∃ k : Nat, k ≤ xs.length ∧ (∀ j (h : j < k) (h1 : j < xs.length) (h2 : j < ys.length), xs[j]'h1 = ys[j]'h2) ∧ t = .int .i64 k ∧ Below w.heap.size w wr) (fun t _ => xs.length - (intOf t).toNat)
    case atStart => exact ⟨0, by omega, fun j h => by omega, rfl, (by repeat (first | exact hb | refine Below.alloc ?_ (by have hbs := hb.size; first | omega | (simp; done) | (simp; omega)) _ | refine Below.drew ?_ | refine below_drewN_ ?_ _ | refine Below.setCell ?_ (by simp) _))⟩
    case round =>
      clear hb
      obtain ⟨k, hk, hno, rfl, hb⟩ := hrel
      have HN := Lib.hid hno
      clear hno
      by_cases hlt : k < xs.length
      · have hlt2 : k < ys.length := by have := HL.out; omega
        obtain ⟨b, o, hA, hbo, f0⟩ := int_at (Rd.now HR.out hb) hlt
        obtain ⟨b', o', hB, hbo', f1⟩ := int_at (Rd.now HQ.out hb) hlt2
        subst hA hB
        by_cases hc : xs[k] = ys[k]
        · have hc' : (xs[k] != ys[k]) = false := by simpa using hc
          have HC := Lib.hid hc
          clear hc
          go_wp2_with fail
          go_quiet (fail)
          go_wp2_with fail
          go_roundw
          case rel =>
            refine ⟨k + 1, by omega, fun j h h1 h2 => ?_, by go_num, (by repeat (first | exact hb | refine Below.alloc ?_ (by have hbs := hb.size; first | omega | (simp; done) | (simp; omega)) _ | refine Below.drew ?_ | refine below_drewN_ ?_ _ | refine Below.setCell ?_ (by simp) _))⟩
            by_cases hj : j = k
            · subst hj; exact HC.out
            · exact HN.out j (by omega) h1 h2
          case measure => simp [intOf]; omega
        · have hc' : (xs[k] != ys[k]) = true := by simpa using hc
          have HE : Hid (¬ xs = ys) := Lib.hid (fun e => hc (by subst e; rfl))
          clear hc
          go_wp2_with fail
          go_quiet (fail)
          go_wp2_with fail
          go_ret
          exact ⟨ret_bool (by simpa using HE.out), (by repeat (first | exact hb | refine Below.alloc ?_ (by have hbs := hb.size; first | omega | (simp; done) | (simp; omega)) _ | refine Below.drew ?_ | refine below_drewN_ ?_ _ | refine Below.setCell ?_ (by simp) _))⟩
      · have HE : Hid (xs = ys) := Lib.hid (same_of xs ys HL.out (fun j h => HN.out j (by omega) h (by have := HL.out; omega)))
        go_wp2_with fail
        go_ret
        exact ⟨ret_bool (by simpa using HE.out), (by repeat (first | exact hb | refine Below.alloc ?_ (by have hbs := hb.size; first | omega | (simp; done) | (simp; omega)) _ | refine Below.drew ?_ | refine below_drewN_ ?_ _ | refine Below.setCell ?_ (by simp) _))⟩
  · have hl' : ((xs.length : Int) != (ys.length : Int)) = true := by simp; omega
    have HE : Hid (¬ xs = ys) := Lib.hid (fun e => hl (by rw [e]))
    clear hl
    go_enter Try.func15, Try.ntmps15
    go_wp2_with fail
    go_ret
    exact ⟨ret_bool (by simpa using HE.out), (by repeat (first | exact hb | refine Below.alloc ?_ (by have hbs := hb.size; first | omega | (simp; done) | (simp; omega)) _ | refine Below.drew ?_ | refine below_drewN_ ?_ _ | refine Below.setCell ?_ (by simp) _))⟩
end Go.Proofs.Ytjcapeieahffnaa
