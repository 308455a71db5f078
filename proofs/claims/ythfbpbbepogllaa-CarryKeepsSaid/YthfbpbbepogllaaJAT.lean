/- Texts of this claim, put together. -/
import Derived.Test.YthfbpbbepogllaaJAQ
/- What the date functions return, as plain functions: values and error numbers; and the law of adding months. No Go and no program. -/
namespace Go.Proofs.Ythfbpbbepogllaa.Dt
set_option linter.unusedVariables false
set_option linter.unusedSimpArgs false

def isD (n : Int) : Bool := decide (-25567 ≤ n) && decide (n ≤ 84005)
theorem isD_iff (n : Int) : isD n = true ↔ -25567 ≤ n ∧ n ≤ 84005 := by unfold isD; simp
theorem isD_not (n : Int) : isD n = false ↔ n < -25567 ∨ 84005 < n := by
  rw [← Bool.not_eq_true, isD_iff]; omega
def ofV (y m d : Int) : Int := if vld y m d then num y m d else 0
def ofE (y m d : Int) : Int := if vld y m d then 0 else 2
def cvY (n : Int) : Int := if isD n then cY n else 0
def cvM (n : Int) : Int := if isD n then cM n else 0
def cvD (n : Int) : Int := if isD n then cD n else 0
def cvE (n : Int) : Int := if isD n then 0 else 2
def wd (n : Int) : Int := (n + 25567) % 7
def wdV (n : Int) : Int := if isD n then wd n else 0
/-- the month, counted from year 0, that lies k months after that of a date -/
def mon (n k : Int) : Int := 12 * cY n + cM n - 1 + k
def addOk (n k : Int) : Bool := isD n && (decide (22800 ≤ mon n k) && decide (mon n k ≤ 26399))
def addN (n k : Int) : Int := num (mon n k / 12) (mon n k % 12 + 1) (min (cD n) (days (mon n k / 12) (mon n k % 12 + 1)))
def addV (n k : Int) : Int := if addOk n k then addN n k else 0
def addE (n k : Int) : Int := if addOk n k then 0 else 2

theorem ofE_01 (y m d : Int) : ofE y m d = 0 ∨ ofE y m d = 2 := by unfold ofE; split <;> simp
theorem addE_01 (n k : Int) : addE n k = 0 ∨ addE n k = 2 := by unfold addE; split <;> simp
theorem of_civ (n : Int) (h : isD n = true) : vld (cY n) (cM n) (cD n) = true ∧ num (cY n) (cM n) (cD n) = n := by
  rw [isD_iff] at h; exact civ_ok n h.1 h.2
theorem isD_num (y m d : Int) (h : vld y m d = true) : isD (num y m d) = true := by
  rw [isD_iff]; exact num_range y m d h
theorem cY_bd (n : Int) (h : isD n = true) : 1900 ≤ cY n ∧ cY n ≤ 2199 ∧ 1 ≤ cM n ∧ cM n ≤ 12 ∧ 1 ≤ cD n ∧ cD n ≤ days (cY n) (cM n) ∧ cD n ≤ 31 := by
  have k := vld_pos _ _ _ (of_civ n h).1
  have := (vld_iff _ _ _).1 (of_civ n h).1
  omega
theorem add_vld (n k : Int) (h : addOk n k = true) : vld (mon n k / 12) (mon n k % 12 + 1) (min (cD n) (days (mon n k / 12) (mon n k % 12 + 1))) = true := by
  unfold addOk at h
  simp only [Bool.and_eq_true, decide_eq_true_eq] at h
  have c := cY_bd n h.1
  have d0 : 0 < days (mon n k / 12) (mon n k % 12 + 1) := by
    rw [days_in _ _ (by omega) (by omega) (by omega) (by omega)]
    have l := lp_01 (mon n k / 12)
    have := mlen_bd (lp (mon n k / 12)) (mon n k % 12 + 1) (by omega) (by omega) (by omega) (by omega)
    omega
  rw [vld_iff]
  omega
/-- the civil day of the sum -/
theorem add_civ (n k : Int) (h : addOk n k = true) :
    isD (addN n k) = true ∧ cY (addN n k) = mon n k / 12 ∧ cM (addN n k) = mon n k % 12 + 1 ∧ cD (addN n k) = min (cD n) (days (mon n k / 12) (mon n k % 12 + 1)) := by
  have v := add_vld n k h
  exact ⟨isD_num _ _ _ v, civ_eq _ _ _ _ v rfl⟩
theorem add_zero_ (n : Int) (h : isD n = true) : addOk n 0 = true ∧ addN n 0 = n := by
  have c := cY_bd n h
  have m0 : mon n 0 = 12 * cY n + (cM n - 1) := by unfold mon; omega
  have e1 : mon n 0 / 12 = cY n := by omega
  have e2 : mon n 0 % 12 + 1 = cM n := by omega
  refine ⟨by unfold addOk; simp only [Bool.and_eq_true, decide_eq_true_eq]; exact ⟨h, by omega, by omega⟩, ?_⟩
  unfold addN
  rw [e1, e2, show min (cD n) (days (cY n) (cM n)) = cD n from by omega]
  exact (of_civ n h).2
/-- days up to 28 stand in every month -/
theorem add_day (n k : Int) (h : addOk n k = true) (hd : cD n ≤ 28) : cD (addN n k) = cD n := by
  rw [(add_civ n k h).2.2.2]
  have v := add_vld n k h
  rw [vld_iff] at v
  have := days_lo (mon n k / 12) (mon n k % 12 + 1) (by omega)
  omega
theorem mon_add (n k j : Int) (h : addOk n k = true) : mon (addN n k) j = mon n (k + j) := by
  obtain ⟨_, h2, h3, _⟩ := add_civ n k h
  have : mon (addN n k) j = 12 * (mon n k / 12) + (mon n k % 12 + 1) - 1 + j := by unfold mon at h2 h3 ⊢; rw [h2, h3]
  rw [this]
  unfold mon
  omega
theorem add_add (n k j : Int) (h : addOk n k = true) (hd : cD n ≤ 28) : addOk (addN n k) j = addOk n (k + j) ∧ addN (addN n k) j = addN n (k + j) := by
  have hm := mon_add n k j h
  have h0 := (add_civ n k h).1
  have hd' := add_day n k h hd
  have hn : isD n = true := by unfold addOk at h; simp only [Bool.and_eq_true] at h; exact h.1
  refine ⟨by unfold addOk; rw [hm, h0, hn], ?_⟩
  unfold addN at hd' ⊢
  rw [show mon (num (mon n k / 12) (mon n k % 12 + 1) (min (cD n) (days (mon n k / 12) (mon n k % 12 + 1)))) j = mon n (k + j) from hm, hd']
theorem add_back (n k : Int) (h : addOk n k = true) (hd : cD n ≤ 28) : addOk (addN n k) (-k) = true ∧ addN (addN n k) (-k) = n := by
  obtain ⟨a, b⟩ := add_add n k (-k) h hd
  have hn : isD n = true := by unfold addOk at h; simp only [Bool.and_eq_true] at h; exact h.1
  rw [a, b, show k + -k = 0 from by omega]
  exact add_zero_ n hn
theorem add_year (n : Int) (h : isD n = true) (hd : cD n ≤ 28) : addV n 12 = ofV (cY n + 1) (cM n) (cD n) ∧ addE n 12 = ofE (cY n + 1) (cM n) (cD n) := by
  have c := cY_bd n h
  have e1 : mon n 12 / 12 = cY n + 1 := by unfold mon; omega
  have e2 : mon n 12 % 12 + 1 = cM n := by unfold mon; omega
  by_cases hy : cY n + 1 ≤ 2199
  · have hk : addOk n 12 = true := by
      unfold addOk; simp only [Bool.and_eq_true, decide_eq_true_eq]; exact ⟨h, by unfold mon; omega, by unfold mon; omega⟩
    have v := add_vld n 12 hk
    have hmin : min (cD n) (days (mon n 12 / 12) (mon n 12 % 12 + 1)) = cD n := by
      rw [vld_iff] at v
      have := days_lo (mon n 12 / 12) (mon n 12 % 12 + 1) (by omega)
      omega
    rw [hmin, e1, e2] at v
    unfold addV addE ofV ofE
    rw [if_pos hk, if_pos hk, if_pos v, if_pos v]
    unfold addN
    rw [hmin, e1, e2]
    exact ⟨rfl, rfl⟩
  · have hk : addOk n 12 = false := by
      rw [← Bool.not_eq_true]; unfold addOk; simp only [Bool.and_eq_true, decide_eq_true_eq]; unfold mon; omega
    have v : vld (cY n + 1) (cM n) (cD n) = false := by
      rw [← Bool.not_eq_true, vld_iff]
      unfold days; rw [if_pos (by omega)]; omega
    unfold addV addE ofV ofE
    rw [hk, v]
    exact ⟨rfl, rfl⟩
/-- the next day -/
theorem next_day (n : Int) (h : -25567 ≤ n) (h2 : n < 84005) :
    (cD n + 1 ≤ days (cY n) (cM n) ∧ cY (n + 1) = cY n ∧ cM (n + 1) = cM n ∧ cD (n + 1) = cD n + 1) ∨
    (days (cY n) (cM n) < cD n + 1 ∧ cM n + 1 ≤ 12 ∧ cY (n + 1) = cY n ∧ cM (n + 1) = cM n + 1 ∧ cD (n + 1) = 1) ∨
    (days (cY n) (cM n) < cD n + 1 ∧ 12 < cM n + 1 ∧ cY (n + 1) = cY n + 1 ∧ cM (n + 1) = 1 ∧ cD (n + 1) = 1) := by
  have hD : isD n = true := (isD_iff n).2 ⟨h, by omega⟩
  have c := cY_bd n hD
  have hv := (of_civ n hD).1
  have hn := (of_civ n hD).2
  by_cases h3 : cD n + 1 ≤ days (cY n) (cM n)
  · exact Or.inl ⟨h3, civ_eq (n + 1) (cY n) (cM n) (cD n + 1) (by rw [vld_iff]; omega) (by unfold num at hn ⊢; omega)⟩
  · have hds : cD n = days (cY n) (cM n) := by omega
    rw [days_in _ _ (by omega) (by omega) (by omega) (by omega)] at hds
    have hms := mcum_succ (lp (cY n)) (cM n) (by omega) (by omega)
    by_cases h4 : cM n + 1 ≤ 12
    · refine Or.inr (Or.inl ⟨by omega, h4, civ_eq (n + 1) (cY n) (cM n + 1) 1 ?_ (by unfold num at hn ⊢; omega)⟩)
      rw [vld_iff, days_in _ _ (by omega) (by omega) (by omega) (by omega)]
      have l := lp_01 (cY n)
      have := mlen_bd (lp (cY n)) (cM n + 1) (by omega) (by omega) (by omega) (by omega)
      omega
    · have h12 : cM n = 12 := by omega
      have hd := dby_succ (cY n)
      rw [h12] at hms hds hn
      have h13 : mcum (lp (cY n)) 13 = 365 + lp (cY n) := mcum_13 _
      rw [show (12 : Int) + 1 = 13 from rfl] at hms
      have e : n + 1 = dby (cY n + 1) := by unfold num at hn; omega
      have hy : cY n + 1 ≤ 2199 := by
        rcases Int.lt_or_le 2199 (cY n + 1) with q | q
        · have := dby_mono 2200 (cY n + 1) (by omega)
          rw [dby_2200] at this
          omega
        · exact q
      refine Or.inr (Or.inr ⟨by omega, by omega, civ_eq (n + 1) (cY n + 1) 1 1 ?_ (by unfold num; rw [mcum_1]; omega)⟩)
      rw [vld_iff, days_in _ _ (by omega) (by omega) (by omega) (by omega)]
      simp [mlen]
theorem wd_next (n : Int) : wd (n + 1) = (wd n + 1) % 7 := by unfold wd; omega
theorem wd_bd (n : Int) : 0 ≤ wd n ∧ wd n ≤ 6 := by unfold wd; omega
end Go.Proofs.Ythfbpbbepogllaa.Dt
/- The walks of the reference's Civil and Of. -/
namespace Go.Proofs.Ythfbpbbepogllaa
set_option linter.unusedVariables false
set_option linter.unusedSimpArgs false
open Go.RowKit

theorem Dt.wd_eq (n : Int) (h1 : -25567 ≤ n) : ((n + 3).tmod 7 + 7) % 7 = Dt.wd n := by
  unfold Dt.wd
  have : (0 ≤ n + 3 ∧ (n + 3).tmod 7 = (n + 3) % 7) ∨ (n + 3 < 0 ∧ (n + 3).tmod 7 = -((-(n + 3)) % 7)) := by
    rcases Int.lt_or_le (n + 3) 0 with h | h
    · right
      refine ⟨h, ?_⟩
      have : (n + 3).tmod 7 = -((-(n + 3)).tmod 7) := by rw [Int.neg_tmod]; omega
      rw [this, Int.tmod_eq_emod_of_nonneg (by omega)]
    · exact Or.inl ⟨h, Int.tmod_eq_emod_of_nonneg h⟩
  omega
theorem Dt.tmod7 (a : Int) : -7 < a.tmod 7 ∧ a.tmod 7 < 7 := by
  have h1 := Int.tmod_lt_of_pos a (show (0 : Int) < 7 by omega)
  have h2 := Int.tmod_lt_of_pos (-a) (show (0 : Int) < 7 by omega)
  rw [Int.neg_tmod] at h2
  omega
end Go.Proofs.Ythfbpbbepogllaa
/- One contract for each date function of numbers: what it returns for any arguments. -/
namespace Go.Proofs.Ythfbpbbepogllaa
set_option linter.unusedVariables false
set_option linter.unusedSimpArgs false
open Go.RowKit

theorem dof_any (y m d : Int) (w : World) (hd1 : -9223372036854775808 ≤ d) (hd2 : d ≤ 9223372036854775807) :
    Calls Try.prog 101 #[.int .i64 y, .int .i64 m, .int .i64 d] w fun e w' => e = .returned (.tuple #[.int .i64 (Dt.ofV y m d), .int .i64 (Dt.ofE y m d)]) ∧ Below w.heap.size w w' := by
  unfold Dt.ofV Dt.ofE
  cases h : Dt.vld y m d
  · exact of_no y m d w h hd1 hd2
  · exact of_yes y m d w h
theorem isd_any (n : Int) (w : World) : Calls Try.prog 116 #[.int .i64 n] w fun e w' => e = .returned (.bool (Dt.isD n)) ∧ w = w' := dvalid_any n w
theorem Dt.add_far (n k : Int) (h : Dt.isD n = true) (hk : k < -3600 ∨ 3600 < k) : Dt.addOk n k = false := by
  have c := Dt.cY_bd n h
  rw [← Bool.not_eq_true]
  unfold Dt.addOk Dt.mon
  simp only [Bool.and_eq_true, decide_eq_true_eq]
  omega
theorem Dt.add_noD (n k : Int) (h : Dt.isD n = false) : Dt.addOk n k = false := by unfold Dt.addOk; rw [h]; rfl

theorem Dt.add_of (n k : Int) (h : Dt.isD n = true) (_k1 : -4800 ≤ k) (_k2 : k ≤ 4800) :
    Dt.ofV (Dt.mon n k / 12) (Dt.mon n k % 12 + 1) (min (Dt.cD n) (max 1 (Dt.days (Dt.mon n k / 12) (Dt.mon n k % 12 + 1)))) = Dt.addV n k ∧
    Dt.ofE (Dt.mon n k / 12) (Dt.mon n k % 12 + 1) (min (Dt.cD n) (max 1 (Dt.days (Dt.mon n k / 12) (Dt.mon n k % 12 + 1)))) = Dt.addE n k := by
  have c := Dt.cY_bd n h
  cases ha : Dt.addOk n k
  · have hy : Dt.mon n k < 22800 ∨ 26399 < Dt.mon n k := by
      rw [← Bool.not_eq_true] at ha
      unfold Dt.addOk at ha
      rw [h] at ha
      simp only [Bool.true_and, Bool.and_eq_true, decide_eq_true_eq] at ha
      omega
    have hz : Dt.days (Dt.mon n k / 12) (Dt.mon n k % 12 + 1) = 0 := by unfold Dt.days; rw [if_pos (by omega)]
    have v : Dt.vld (Dt.mon n k / 12) (Dt.mon n k % 12 + 1) (min (Dt.cD n) (max 1 (Dt.days (Dt.mon n k / 12) (Dt.mon n k % 12 + 1)))) = false := by
      rw [← Bool.not_eq_true, Dt.vld_iff, hz]; omega
    unfold Dt.ofV Dt.ofE Dt.addV Dt.addE
    rw [v, ha]
    exact ⟨rfl, rfl⟩
  · have v := Dt.add_vld n k ha
    have hp : 0 < Dt.days (Dt.mon n k / 12) (Dt.mon n k % 12 + 1) := by rw [Dt.vld_iff] at v; omega
    rw [show max 1 (Dt.days (Dt.mon n k / 12) (Dt.mon n k % 12 + 1)) = Dt.days (Dt.mon n k / 12) (Dt.mon n k % 12 + 1) from by omega]
    unfold Dt.ofV Dt.ofE Dt.addV Dt.addE
    rw [v, ha]
    exact ⟨rfl, rfl⟩

theorem of_is (y m d a e : Int) (w : World) (hd1 : -9223372036854775808 ≤ d) (hd2 : d ≤ 9223372036854775807) (h1 : Hid (Dt.ofV y m d = a)) (h2 : Hid (Dt.ofE y m d = e)) :
    Calls Try.prog 101 #[.int .i64 y, .int .i64 m, .int .i64 d] w fun r w' => r = .returned (.tuple #[.int .i64 a, .int .i64 e]) ∧ Below w.heap.size w w' := by
  have := dof_any y m d w hd1 hd2
  rw [h1.out, h2.out] at this
  exact this
end Go.Proofs.Ythfbpbbepogllaa
/- The texts of dates, as lists of bytes: digits, numbers, what Parse and Text return. No Go and no program. -/
namespace Go.Proofs.Ythfbpbbepogllaa.Dt
set_option linter.unusedVariables false
set_option linter.unusedSimpArgs false

def dg (c : UInt8) : Bool := decide (48 ≤ c.toNat) && decide (c.toNat ≤ 57)
theorem dg_iff (c : UInt8) : dg c = true ↔ 48 ≤ c.toNat ∧ c.toNat ≤ 57 := by unfold dg; simp
def numv (l : List UInt8) : Int := l.foldl (fun n c => 10 * n + ((c.toNat : Int) - 48)) 0
def okd (l : List UInt8) : Bool := l.all dg
/-- what 'number' returns beside the bool; what the reference's does -/
def nmV (l : List UInt8) : Int := if okd l then numv l else 0
def rnV (l : List UInt8) : Int := if okd l then numv l else -1
theorem nmV_no (l : List UInt8) (h : okd l = false) : nmV l = 0 := by unfold nmV; rw [h]; rfl
theorem nmV_yes (l : List UInt8) (h : okd l = true) : nmV l = numv l := by unfold nmV; rw [h]; rfl
theorem rnV_no (l : List UInt8) (h : okd l = false) : rnV l = -1 := by unfold rnV; rw [h]; rfl
theorem rnV_yes (l : List UInt8) (h : okd l = true) : rnV l = numv l := by unfold rnV; rw [h]; rfl
theorem numv_snoc (l : List UInt8) (c : UInt8) : numv (l ++ [c]) = 10 * numv l + ((c.toNat : Int) - 48) := by unfold numv; simp
theorem okd_snoc (l : List UInt8) (c : UInt8) : okd (l ++ [c]) = (okd l && dg c) := by unfold okd; simp
theorem numv_bd : ∀ (k : Nat) (l : List UInt8), l.length ≤ k → okd l = true → 0 ≤ numv l ∧ numv l < 10 ^ k := by
  intro k
  induction k with
  | zero => intro l h _; obtain rfl : l = [] := List.eq_nil_of_length_eq_zero (by omega); simp [numv]
  | succ k ih =>
    intro l h hd
    rcases List.eq_nil_or_concat l with rfl | ⟨m, c, rfl⟩
    · have : (0 : Int) < 10 ^ (k + 1) := Int.pow_pos (by omega)
      simp [numv]; omega
    · rw [List.concat_eq_append] at h hd ⊢
      rw [okd_snoc, Bool.and_eq_true, dg_iff] at hd
      have := ih m (by simp at h; omega) hd.1
      rw [numv_snoc, Int.pow_succ]
      omega
theorem numv_le (l : List UInt8) (h : l.length ≤ 10) (hd : okd l = true) : 0 ≤ numv l ∧ numv l ≤ 9999999999 := by
  have := numv_bd 10 l h hd
  have e : (10 : Int) ^ 10 = 10000000000 := by decide
  rw [e] at this
  omega

/-- is it four digits, a hyphen, two digits, a hyphen and two digits -/
def wellB (l : List UInt8) : Bool := l.length == 10 && l[4]? == some 45 && l[7]? == some 45 && okd (l.take 4) && okd ((l.drop 5).take 2) && okd (l.drop 8)
def prV (l : List UInt8) : Int := if wellB l then ofV (numv (l.take 4)) (numv ((l.drop 5).take 2)) (numv (l.drop 8)) else 0
def prE (l : List UInt8) : Int := if wellB l then ofE (numv (l.take 4)) (numv ((l.drop 5).take 2)) (numv (l.drop 8)) else 3

def chr (n : Int) : UInt8 := UInt8.ofNat (48 + n).toNat
theorem chr_toNat (n : Int) (h0 : 0 ≤ n) (h1 : n ≤ 9) : ((chr n).toNat : Int) = 48 + n := by
  unfold chr
  rw [UInt8.toNat_ofNat']
  omega
theorem dg_chr (n : Int) (h0 : 0 ≤ n) (h1 : n ≤ 9) : dg (chr n) = true := by
  have := chr_toNat n h0 h1
  rw [dg_iff]; omega
def tx2 (n : Int) : List UInt8 := [chr (n / 10), chr (n % 10)]
def txY (y : Int) : List UInt8 := tx2 (y / 100) ++ tx2 (y % 100)
def tx (y m d : Int) : List UInt8 := txY y ++ [45] ++ tx2 m ++ [45] ++ tx2 d
def txV (n : Int) : List UInt8 := if isD n then tx (cY n) (cM n) (cD n) else []
theorem numv_tx2 (n : Int) (h0 : 0 ≤ n) (h1 : n ≤ 99) : numv (tx2 n) = n ∧ okd (tx2 n) = true := by
  unfold tx2 numv okd
  have a := chr_toNat (n / 10) (by omega) (by omega)
  have b := chr_toNat (n % 10) (by omega) (by omega)
  have a' := dg_chr (n / 10) (by omega) (by omega)
  have b' := dg_chr (n % 10) (by omega) (by omega)
  simp [a', b']
  omega
theorem numv_txY (n : Int) (h0 : 0 ≤ n) (h1 : n ≤ 9999) : numv (txY n) = n ∧ okd (txY n) = true := by
  unfold txY tx2 numv okd
  have a := chr_toNat (n / 100 / 10) (by omega) (by omega)
  have b := chr_toNat (n / 100 % 10) (by omega) (by omega)
  have c := chr_toNat (n % 100 / 10) (by omega) (by omega)
  have d := chr_toNat (n % 100 % 10) (by omega) (by omega)
  have a' := dg_chr (n / 100 / 10) (by omega) (by omega)
  have b' := dg_chr (n / 100 % 10) (by omega) (by omega)
  have c' := dg_chr (n % 100 / 10) (by omega) (by omega)
  have d' := dg_chr (n % 100 % 10) (by omega) (by omega)
  simp only [List.all_cons, List.all_nil, List.cons_append, List.nil_append, List.foldl_cons, List.foldl_nil, a', b', c', d', Bool.and_self, and_true]
  omega
theorem tx_parts (y m d : Int) : (tx y m d).length = 10 ∧ (tx y m d)[4]? = some 45 ∧ (tx y m d)[7]? = some 45 ∧ (tx y m d).take 4 = txY y ∧ ((tx y m d).drop 5).take 2 = tx2 m ∧ (tx y m d).drop 8 = tx2 d := by
  unfold tx txY tx2
  simp
theorem pr_tx (y m d : Int) (h : vld y m d = true) : wellB (tx y m d) = true ∧ prV (tx y m d) = num y m d ∧ prE (tx y m d) = 0 := by
  obtain ⟨a1, a2, a3, a4, a5, a6, a7⟩ := vld_pos y m d h
  obtain ⟨p1, p2, p3, p4, p5, p6⟩ := tx_parts y m d
  have ny := numv_txY y (by omega) (by omega)
  have nm := numv_tx2 m (by omega) (by omega)
  have nd := numv_tx2 d (by omega) (by omega)
  have w : wellB (tx y m d) = true := by
    unfold wellB
    rw [p1, p2, p3, p4, p5, p6, ny.2, nm.2, nd.2]; rfl
  unfold prV prE
  rw [w, p4, p5, p6, ny.1, nm.1, nd.1]
  unfold ofV ofE
  rw [h]
  exact ⟨rfl, rfl, rfl⟩
theorem pr_txV (n : Int) (h : isD n = true) : prV (txV n) = n ∧ prE (txV n) = 0 := by
  have c := of_civ n h
  unfold txV
  rw [h]
  have := pr_tx _ _ _ c.1
  exact ⟨this.2.1.trans c.2, this.2.2⟩
theorem pr_nil : prV [] = 0 ∧ prE [] = 3 := by decide

theorem chr_of (c : UInt8) (h : dg c = true) : chr ((c.toNat : Int) - 48) = c := by
  rw [dg_iff] at h
  unfold chr
  apply UInt8.toNat_inj.1
  rw [UInt8.toNat_ofNat']
  omega
theorem tx2_numv (l : List UInt8) (hl : l.length = 2) (h : okd l = true) : tx2 (numv l) = l := by
  match l, hl with
  | [a, b], _ =>
    simp [okd] at h
    have a' := chr_of a h.1
    have b' := chr_of b h.2
    have := (dg_iff a).1 h.1
    have := (dg_iff b).1 h.2
    unfold tx2 numv
    simp only [List.foldl]
    rw [show (10 * (10 * 0 + ((a.toNat : Int) - 48)) + ((b.toNat : Int) - 48)) / 10 = (a.toNat : Int) - 48 from by omega, show (10 * (10 * 0 + ((a.toNat : Int) - 48)) + ((b.toNat : Int) - 48)) % 10 = (b.toNat : Int) - 48 from by omega, a', b']
theorem txY_numv (l : List UInt8) (hl : l.length = 4) (h : okd l = true) : txY (numv l) = l := by
  match l, hl with
  | [a, b, c, d], _ =>
    simp [okd] at h
    obtain ⟨ha, hb, hc, hd⟩ := h
    have a' := chr_of a ha
    have b' := chr_of b hb
    have c' := chr_of c hc
    have d' := chr_of d hd
    have := (dg_iff a).1 ha
    have := (dg_iff b).1 hb
    have := (dg_iff c).1 hc
    have := (dg_iff d).1 hd
    unfold txY tx2 numv
    simp only [List.foldl]
    generalize hN : 10 * (10 * (10 * (10 * 0 + ((a.toNat : Int) - 48)) + ((b.toNat : Int) - 48)) + ((c.toNat : Int) - 48)) + ((d.toNat : Int) - 48) = N
    rw [show N / 100 / 10 = (a.toNat : Int) - 48 from by omega, show N / 100 % 10 = (b.toNat : Int) - 48 from by omega, show N % 100 / 10 = (c.toNat : Int) - 48 from by omega, show N % 100 % 10 = (d.toNat : Int) - 48 from by omega, a', b', c', d']
    rfl
/-- a text that is parsed is the text of its date -/
theorem tx_pr (l : List UInt8) (h : prE l = 0) : isD (prV l) = true ∧ txV (prV l) = l := by
  unfold prE at h
  cases w : wellB l
  · rw [w] at h; simp at h
  · rw [w] at h
    unfold prV
    rw [w]
    simp only [if_true] at h ⊢
    unfold ofE at h
    unfold wellB at w
    simp only [Bool.and_eq_true, beq_iff_eq] at w
    obtain ⟨⟨⟨⟨⟨w1, w2⟩, w3⟩, w4⟩, w5⟩, w6⟩ := w
    generalize hy : numv (l.take 4) = y at *
    generalize hm : numv ((l.drop 5).take 2) = m at *
    generalize hd : numv (l.drop 8) = d at *
    cases v : vld y m d
    · rw [v] at h; simp at h
    · unfold ofV
      rw [v]
      simp only [if_true]
      have hD := isD_num y m d v
      obtain ⟨e1, e2, e3⟩ := civ_eq _ y m d v rfl
      refine ⟨hD, ?_⟩
      unfold txV
      rw [hD]
      simp only [if_true]
      rw [e1, e2, e3]
      unfold tx
      rw [← hy, ← hm, ← hd, txY_numv _ (by simp; omega) w4, tx2_numv _ (by simp; omega) w5, tx2_numv _ (by simp; omega) w6]
      match l, w1 with
      | [a0, a1, a2, a3, a4, a5, a6, a7, a8, a9], _ =>
        simp at w2 w3
        subst w2 w3
        simp
theorem isD_prV (l : List UInt8) (h : prE l ≠ 0) : prV l = 0 := by
  unfold prE at h
  unfold prV
  cases w : wellB l
  · rfl
  · rw [w] at h
    simp only [if_true] at h ⊢
    unfold ofE at h
    unfold ofV
    cases v : vld (numv (l.take 4)) (numv ((l.drop 5).take 2)) (numv (l.drop 8))
    · rfl
    · rw [v] at h; simp at h
theorem prE_cases (l : List UInt8) : prE l = 0 ∨ prE l = 2 ∨ prE l = 3 := by
  unfold prE; split
  · rcases ofE_01 (numv (l.take 4)) (numv ((l.drop 5).take 2)) (numv (l.drop 8)) with h | h <;> simp [h]
  · simp
end Go.Proofs.Ythfbpbbepogllaa.Dt
