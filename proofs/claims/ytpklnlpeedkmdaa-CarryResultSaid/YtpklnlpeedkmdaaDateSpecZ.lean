/- Texts of this claim, put together. -/
import Derived.Test.YtpklnlpeedkmdaaJAL
/- What the date functions return, as plain functions: values and error numbers; and the law of adding months. No Go and no program. -/
namespace Go.Proofs.Ytpklnlpeedkmdaa.Dt
set_option linter.unusedVariables false
set_option linter.unusedSimpArgs false

def isD (n : Int) : Bool := decide (-25567 ≤ n) && decide (n ≤ 84005)
theorem isD_iff (n : Int) : isD n = true ↔ -25567 ≤ n ∧ n ≤ 84005 := by unfold isD; simp
theorem isD_not (n : Int) : isD n = false ↔ n < -25567 ∨ 84005 < n := by
  rw [← Bool.not_eq_true, isD_iff]; omega
def ofV (y m d : Int) : Int := if vld y m d then num y m d else 0
def ofE (y m d : Int) : Int := if vld y m d then 0 else 2
def cvY (n : Int) : Int := if isD n then cY n else 0
def cvM (n : Int) : Int := if isD n then cM n else 0
def cvD (n : Int) : Int := if isD n then cD n else 0
def cvE (n : Int) : Int := if isD n then 0 else 2
def wd (n : Int) : Int := (n + 25567) % 7
def wdV (n : Int) : Int := if isD n then wd n else 0
/-- the month, counted from year 0, that lies k months after that of a date -/
def mon (n k : Int) : Int := 12 * cY n + cM n - 1 + k
def addOk (n k : Int) : Bool := isD n && (decide (22800 ≤ mon n k) && decide (mon n k ≤ 26399))
def addN (n k : Int) : Int := num (mon n k / 12) (mon n k % 12 + 1) (min (cD n) (days (mon n k / 12) (mon n k % 12 + 1)))
def addV (n k : Int) : Int := if addOk n k then addN n k else 0
def addE (n k : Int) : Int := if addOk n k then 0 else 2

theorem ofE_01 (y m d : Int) : ofE y m d = 0 ∨ ofE y m d = 2 := by unfold ofE; split <;> simp
theorem addE_01 (n k : Int) : addE n k = 0 ∨ addE n k = 2 := by unfold addE; split <;> simp
theorem of_civ (n : Int) (h : isD n = true) : vld (cY n) (cM n) (cD n) = true ∧ num (cY n) (cM n) (cD n) = n := by
  rw [isD_iff] at h; exact civ_ok n h.1 h.2
theorem isD_num (y m d : Int) (h : vld y m d = true) : isD (num y m d) = true := by
  rw [isD_iff]; exact num_range y m d h
theorem cY_bd (n : Int) (h : isD n = true) : 1900 ≤ cY n ∧ cY n ≤ 2199 ∧ 1 ≤ cM n ∧ cM n ≤ 12 ∧ 1 ≤ cD n ∧ cD n ≤ days (cY n) (cM n) ∧ cD n ≤ 31 := by
  have k := vld_pos _ _ _ (of_civ n h).1
  have := (vld_iff _ _ _).1 (of_civ n h).1
  omega
theorem add_vld (n k : Int) (h : addOk n k = true) : vld (mon n k / 12) (mon n k % 12 + 1) (min (cD n) (days (mon n k / 12) (mon n k % 12 + 1))) = true := by
  unfold addOk at h
  simp only [Bool.and_eq_true, decide_eq_true_eq] at h
  have c := cY_bd n h.1
  have d0 : 0 < days (mon n k / 12) (mon n k % 12 + 1) := by
    rw [days_in _ _ (by omega) (by omega) (by omega) (by omega)]
    have l := lp_01 (mon n k / 12)
    have := mlen_bd (lp (mon n k / 12)) (mon n k % 12 + 1) (by omega) (by omega) (by omega) (by omega)
    omega
  rw [vld_iff]
  omega
/-- the civil day of the sum -/
theorem add_civ (n k : Int) (h : addOk n k = true) :
    isD (addN n k) = true ∧ cY (addN n k) = mon n k / 12 ∧ cM (addN n k) = mon n k % 12 + 1 ∧ cD (addN n k) = min (cD n) (days (mon n k / 12) (mon n k % 12 + 1)) := by
  have v := add_vld n k h
  exact ⟨isD_num _ _ _ v, civ_eq _ _ _ _ v rfl⟩
theorem add_zero_ (n : Int) (h : isD n = true) : addOk n 0 = true ∧ addN n 0 = n := by
  have c := cY_bd n h
  have m0 : mon n 0 = 12 * cY n + (cM n - 1) := by unfold mon; omega
  have e1 : mon n 0 / 12 = cY n := by omega
  have e2 : mon n 0 % 12 + 1 = cM n := by omega
  refine ⟨by unfold addOk; simp only [Bool.and_eq_true, decide_eq_true_eq]; exact ⟨h, by omega, by omega⟩, ?_⟩
  unfold addN
  rw [e1, e2, show min (cD n) (days (cY n) (cM n)) = cD n from by omega]
  exact (of_civ n h).2
/-- days up to 28 stand in every month -/
theorem add_day (n k : Int) (h : addOk n k = true) (hd : cD n ≤ 28) : cD (addN n k) = cD n := by
  rw [(add_civ n k h).2.2.2]
  have v := add_vld n k h
  rw [vld_iff] at v
  have := days_lo (mon n k / 12) (mon n k % 12 + 1) (by omega)
  omega
theorem mon_add (n k j : Int) (h : addOk n k = true) : mon (addN n k) j = mon n (k + j) := by
  obtain ⟨_, h2, h3, _⟩ := add_civ n k h
  have : mon (addN n k) j = 12 * (mon n k / 12) + (mon n k % 12 + 1) - 1 + j := by unfold mon at h2 h3 ⊢; rw [h2, h3]
  rw [this]
  unfold mon
  omega
theorem add_add (n k j : Int) (h : addOk n k = true) (hd : cD n ≤ 28) : addOk (addN n k) j = addOk n (k + j) ∧ addN (addN n k) j = addN n (k + j) := by
  have hm := mon_add n k j h
  have h0 := (add_civ n k h).1
  have hd' := add_day n k h hd
  have hn : isD n = true := by unfold addOk at h; simp only [Bool.and_eq_true] at h; exact h.1
  refine ⟨by unfold addOk; rw [hm, h0, hn], ?_⟩
  unfold addN at hd' ⊢
  rw [show mon (num (mon n k / 12) (mon n k % 12 + 1) (min (cD n) (days (mon n k / 12) (mon n k % 12 + 1)))) j = mon n (k + j) from hm, hd']
theorem add_back (n k : Int) (h : addOk n k = true) (hd : cD n ≤ 28) : addOk (addN n k) (-k) = true ∧ addN (addN n k) (-k) = n := by
  obtain ⟨a, b⟩ := add_add n k (-k) h hd
  have hn : isD n = true := by unfold addOk at h; simp only [Bool.and_eq_true] at h; exact h.1
  rw [a, b, show k + -k = 0 from by omega]
  exact add_zero_ n hn
theorem add_year (n : Int) (h : isD n = true) (hd : cD n ≤ 28) : addV n 12 = ofV (cY n + 1) (cM n) (cD n) ∧ addE n 12 = ofE (cY n + 1) (cM n) (cD n) := by
  have c := cY_bd n h
  have e1 : mon n 12 / 12 = cY n + 1 := by unfold mon; omega
  have e2 : mon n 12 % 12 + 1 = cM n := by unfold mon; omega
  by_cases hy : cY n + 1 ≤ 2199
  · have hk : addOk n 12 = true := by
      unfold addOk; simp only [Bool.and_eq_true, decide_eq_true_eq]; exact ⟨h, by unfold mon; omega, by unfold mon; omega⟩
    have v := add_vld n 12 hk
    have hmin : min (cD n) (days (mon n 12 / 12) (mon n 12 % 12 + 1)) = cD n := by
      rw [vld_iff] at v
      have := days_lo (mon n 12 / 12) (mon n 12 % 12 + 1) (by omega)
      omega
    rw [hmin, e1, e2] at v
    unfold addV addE ofV ofE
    rw [if_pos hk, if_pos hk, if_pos v, if_pos v]
    unfold addN
    rw [hmin, e1, e2]
    exact ⟨rfl, rfl⟩
  · have hk : addOk n 12 = false := by
      rw [← Bool.not_eq_true]; unfold addOk; simp only [Bool.and_eq_true, decide_eq_true_eq]; unfold mon; omega
    have v : vld (cY n + 1) (cM n) (cD n) = false := by
      rw [← Bool.not_eq_true, vld_iff]
      unfold days; rw [if_pos (by omega)]; omega
    unfold addV addE ofV ofE
    rw [hk, v]
    exact ⟨rfl, rfl⟩
/-- the next day -/
theorem next_day (n : Int) (h : -25567 ≤ n) (h2 : n < 84005) :
    (cD n + 1 ≤ days (cY n) (cM n) ∧ cY (n + 1) = cY n ∧ cM (n + 1) = cM n ∧ cD (n + 1) = cD n + 1) ∨
    (days (cY n) (cM n) < cD n + 1 ∧ cM n + 1 ≤ 12 ∧ cY (n + 1) = cY n ∧ cM (n + 1) = cM n + 1 ∧ cD (n + 1) = 1) ∨
    (days (cY n) (cM n) < cD n + 1 ∧ 12 < cM n + 1 ∧ cY (n + 1) = cY n + 1 ∧ cM (n + 1) = 1 ∧ cD (n + 1) = 1) := by
  have hD : isD n = true := (isD_iff n).2 ⟨h, by omega⟩
  have c := cY_bd n hD
  have hv := (of_civ n hD).1
  have hn := (of_civ n hD).2
  by_cases h3 : cD n + 1 ≤ days (cY n) (cM n)
  · exact Or.inl ⟨h3, civ_eq (n + 1) (cY n) (cM n) (cD n + 1) (by rw [vld_iff]; omega) (by unfold num at hn ⊢; omega)⟩
  · have hds : cD n = days (cY n) (cM n) := by omega
    rw [days_in _ _ (by omega) (by omega) (by omega) (by omega)] at hds
    have hms := mcum_succ (lp (cY n)) (cM n) (by omega) (by omega)
    by_cases h4 : cM n + 1 ≤ 12
    · refine Or.inr (Or.inl ⟨by omega, h4, civ_eq (n + 1) (cY n) (cM n + 1) 1 ?_ (by unfold num at hn ⊢; omega)⟩)
      rw [vld_iff, days_in _ _ (by omega) (by omega) (by omega) (by omega)]
      have l := lp_01 (cY n)
      have := mlen_bd (lp (cY n)) (cM n + 1) (by omega) (by omega) (by omega) (by omega)
      omega
    · have h12 : cM n = 12 := by omega
      have hd := dby_succ (cY n)
      rw [h12] at hms hds hn
      have h13 : mcum (lp (cY n)) 13 = 365 + lp (cY n) := mcum_13 _
      rw [show (12 : Int) + 1 = 13 from rfl] at hms
      have e : n + 1 = dby (cY n + 1) := by unfold num at hn; omega
      have hy : cY n + 1 ≤ 2199 := by
        rcases Int.lt_or_le 2199 (cY n + 1) with q | q
        · have := dby_mono 2200 (cY n + 1) (by omega)
          rw [dby_2200] at this
          omega
        · exact q
      refine Or.inr (Or.inr ⟨by omega, by omega, civ_eq (n + 1) (cY n + 1) 1 1 ?_ (by unfold num; rw [mcum_1]; omega)⟩)
      rw [vld_iff, days_in _ _ (by omega) (by omega) (by omega) (by omega)]
      simp [mlen]
theorem wd_next (n : Int) : wd (n + 1) = (wd n + 1) % 7 := by unfold wd; omega
theorem wd_bd (n : Int) : 0 ≤ wd n ∧ wd n ≤ 6 := by unfold wd; omega
end Go.Proofs.Ytpklnlpeedkmdaa.Dt
