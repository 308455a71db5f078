/- Texts of this claim, put together. -/
import Derived.WalkKit
import Derived.Test.YtnddoehhcpejjaaGreatChecked
import Derived.Test.YtnddoehhcpejjaaGreatJAA
import Derived.Test.YtnddoehhcpejjaaGreatJAD
/- Plain facts on dates: the lengths of months and years, and what they add up to. No Go and no program. -/
namespace Go.Proofs.YtnddoehhcpejjaaGreat.Dt
set_option linter.unusedVariables false
set_option linter.unusedSimpArgs false

def leapB (y : Int) : Bool := y % 4 == 0 && (!(y % 100 == 0) || y % 400 == 0)
def lp (y : Int) : Int := if leapB y then 1 else 0
/-- the days of month m of a year whose leap day counts l -/
def mlen (l m : Int) : Int :=
  if m = 1 then 31 else if m = 2 then 28 + l else if m = 3 then 31 else if m = 4 then 30 else if m = 5 then 31 else if m = 6 then 30
  else if m = 7 then 31 else if m = 8 then 31 else if m = 9 then 30 else if m = 10 then 31 else if m = 11 then 30 else if m = 12 then 31 else 0
/-- the days of the months before month m -/
def mcum (l m : Int) : Int :=
  if m = 1 then 0 else if m = 2 then 31 else if m = 3 then 59 + l else if m = 4 then 90 + l else if m = 5 then 120 + l else if m = 6 then 151 + l
  else if m = 7 then 181 + l else if m = 8 then 212 + l else if m = 9 then 243 + l else if m = 10 then 273 + l else if m = 11 then 304 + l else if m = 12 then 334 + l
  else if m = 13 then 365 + l else 0
def days (y m : Int) : Int := if y < 1900 ∨ 2199 < y ∨ m < 1 ∨ 12 < m then 0 else mlen (lp y) m
def dby (y : Int) : Int := 365 * (y - 1) + (y - 1) / 4 - (y - 1) / 100 + (y - 1) / 400 - 719162

theorem lp_01 (y : Int) : 0 ≤ lp y ∧ lp y ≤ 1 := by unfold lp; split <;> omega
theorem leapB_iff (y : Int) : leapB y = true ↔ (y % 4 = 0 ∧ (y % 100 ≠ 0 ∨ y % 400 = 0)) := by
  unfold leapB; simp
theorem lp_eq (y : Int) : lp y = if (y % 4 = 0 ∧ (y % 100 ≠ 0 ∨ y % 400 = 0)) then 1 else 0 := by
  unfold lp; by_cases h : leapB y = true
  · rw [if_pos h, if_pos ((leapB_iff y).1 h)]
  · rw [if_neg h, if_neg (fun k => h ((leapB_iff y).2 k))]
theorem dby_succ (y : Int) : dby (y + 1) = dby y + 365 + lp y := by
  rw [lp_eq]; unfold dby
  split <;> omega
theorem dby_bd (y : Int) (h : 1899 ≤ y) (k : y ≤ 2300) : -30000 ≤ dby y ∧ dby y ≤ 200000 := by unfold dby; omega
theorem dby_mono (a b : Int) (h : a ≤ b) : dby a ≤ dby b := by unfold dby; omega
theorem dby_lt (a b : Int) (h : a < b) : dby a < dby b := by
  have h1 := dby_mono (a + 1) b (by omega)
  have h2 := dby_succ a
  have h3 := lp_01 a
  omega
theorem dby_1900 : dby 1900 = -25567 := by unfold dby; omega
theorem dby_2200 : dby 2200 = 84006 := by unfold dby; omega
theorem mcum_succ (l m : Int) (h1 : 1 ≤ m) (h2 : m ≤ 12) : mcum l (m + 1) = mcum l m + mlen l m := by
  have : m = 1 ∨ m = 2 ∨ m = 3 ∨ m = 4 ∨ m = 5 ∨ m = 6 ∨ m = 7 ∨ m = 8 ∨ m = 9 ∨ m = 10 ∨ m = 11 ∨ m = 12 := by omega
  rcases this with rfl | rfl | rfl | rfl | rfl | rfl | rfl | rfl | rfl | rfl | rfl | rfl <;> simp [mcum, mlen] <;> omega
theorem mlen_bd (l m : Int) (h0 : 0 ≤ l) (hl : l ≤ 1) (h1 : 1 ≤ m) (h2 : m ≤ 12) : 28 ≤ mlen l m ∧ mlen l m ≤ 31 := by
  have : m = 1 ∨ m = 2 ∨ m = 3 ∨ m = 4 ∨ m = 5 ∨ m = 6 ∨ m = 7 ∨ m = 8 ∨ m = 9 ∨ m = 10 ∨ m = 11 ∨ m = 12 := by omega
  rcases this with rfl | rfl | rfl | rfl | rfl | rfl | rfl | rfl | rfl | rfl | rfl | rfl <;> simp [mlen] <;> omega
theorem mcum_bd (l m : Int) (h0 : 0 ≤ l) (hl : l ≤ 1) : 0 ≤ mcum l m ∧ mcum l m ≤ 366 := by
  unfold mcum; repeat' split
  all_goals omega
theorem mcum_13 (l : Int) : mcum l 13 = 365 + l := by simp [mcum]
theorem mcum_1 (l : Int) : mcum l 1 = 0 := by simp [mcum]
theorem days_bd (y m : Int) : 0 ≤ days y m ∧ days y m ≤ 31 := by
  unfold days; have := lp_01 y
  split
  · omega
  · have := mlen_bd (lp y) m (by omega) (by omega) (by omega) (by omega); omega
theorem days_in (y m : Int) (h1 : 1900 ≤ y) (h2 : y ≤ 2199) (h3 : 1 ≤ m) (h4 : m ≤ 12) : days y m = mlen (lp y) m := by
  unfold days; rw [if_neg (by omega)]
theorem days_pos (y m : Int) (h : 0 < days y m) : 1900 ≤ y ∧ y ≤ 2199 ∧ 1 ≤ m ∧ m ≤ 12 := by
  unfold days at h; split at h <;> omega
theorem days_lo (y m : Int) (h : 0 < days y m) : 28 ≤ days y m := by
  obtain ⟨h1, h2, h3, h4⟩ := days_pos y m h
  rw [days_in y m h1 h2 h3 h4]
  have := lp_01 y
  exact (mlen_bd (lp y) m (by omega) (by omega) h3 h4).1

/-- the number of a day -/
def num (y m d : Int) : Int := dby y + mcum (lp y) m + d - 1
/-- is there such a day -/
def vld (y m d : Int) : Bool := decide (1 ≤ d ∧ d ≤ days y m)
theorem vld_iff (y m d : Int) : vld y m d = true ↔ 1 ≤ d ∧ d ≤ days y m := by unfold vld; simp
theorem vld_pos (y m d : Int) (h : vld y m d = true) : 1900 ≤ y ∧ y ≤ 2199 ∧ 1 ≤ m ∧ m ≤ 12 ∧ 1 ≤ d ∧ d ≤ mlen (lp y) m ∧ d ≤ 31 := by
  rw [vld_iff] at h
  obtain ⟨h1, h2, h3, h4⟩ := days_pos y m (by omega)
  have := days_bd y m
  rw [days_in y m h1 h2 h3 h4] at h
  rw [days_in y m h1 h2 h3 h4] at this
  omega
theorem mcum_le (l m : Int) (h0 : 0 ≤ l) (hl : l ≤ 1) (h1 : 1 ≤ m) (h2 : m ≤ 12) : mcum l m + mlen l m ≤ 365 + l := by
  have : m = 1 ∨ m = 2 ∨ m = 3 ∨ m = 4 ∨ m = 5 ∨ m = 6 ∨ m = 7 ∨ m = 8 ∨ m = 9 ∨ m = 10 ∨ m = 11 ∨ m = 12 := by omega
  rcases this with rfl | rfl | rfl | rfl | rfl | rfl | rfl | rfl | rfl | rfl | rfl | rfl <;> simp [mcum, mlen] <;> omega
theorem mcum_lt (l m k : Int) (h0 : 0 ≤ l) (hl : l ≤ 1) (h1 : 1 ≤ m) (h2 : m < k) (h3 : k ≤ 12) : mcum l m + mlen l m ≤ mcum l k := by
  have : m = 1 ∨ m = 2 ∨ m = 3 ∨ m = 4 ∨ m = 5 ∨ m = 6 ∨ m = 7 ∨ m = 8 ∨ m = 9 ∨ m = 10 ∨ m = 11 ∨ m = 12 := by omega
  have hk : k = 1 ∨ k = 2 ∨ k = 3 ∨ k = 4 ∨ k = 5 ∨ k = 6 ∨ k = 7 ∨ k = 8 ∨ k = 9 ∨ k = 10 ∨ k = 11 ∨ k = 12 := by omega
  rcases this with rfl | rfl | rfl | rfl | rfl | rfl | rfl | rfl | rfl | rfl | rfl | rfl <;> rcases hk with rfl | rfl | rfl | rfl | rfl | rfl | rfl | rfl | rfl | rfl | rfl | rfl <;> first | omega | (simp [mcum, mlen]; try omega)
theorem num_range (y m d : Int) (h : vld y m d = true) : -25567 ≤ num y m d ∧ num y m d ≤ 84005 := by
  obtain ⟨h1, h2, h3, h4, h5, h6, h7⟩ := vld_pos y m d h
  have l := lp_01 y
  have c := mcum_le (lp y) m (by omega) (by omega) h3 h4
  have c0 := mcum_bd (lp y) m (by omega) (by omega)
  have a := dby_mono 1900 y h1
  have b := dby_mono (y + 1) 2200 (by omega)
  have s := dby_succ y
  rw [dby_1900] at a
  rw [dby_2200] at b
  unfold num
  omega
/-- two days with one number are one day -/
theorem num_inj (y m d y' m' d' : Int) (h : vld y m d = true) (h' : vld y' m' d' = true) (e : num y m d = num y' m' d') : y = y' ∧ m = m' ∧ d = d' := by
  obtain ⟨a1, a2, a3, a4, a5, a6, a7⟩ := vld_pos y m d h
  obtain ⟨b1, b2, b3, b4, b5, b6, b7⟩ := vld_pos y' m' d' h'
  have l := lp_01 y
  have l' := lp_01 y'
  have c := mcum_le (lp y) m (by omega) (by omega) a3 a4
  have c' := mcum_le (lp y') m' (by omega) (by omega) b3 b4
  have c0 := mcum_bd (lp y) m (by omega) (by omega)
  have c0' := mcum_bd (lp y') m' (by omega) (by omega)
  have s := dby_succ y
  have s' := dby_succ y'
  unfold num at e
  have hy : y = y' := by
    rcases Int.lt_trichotomy y y' with q | q | q
    · have := dby_mono (y + 1) y' (by omega); omega
    · exact q
    · have := dby_mono (y' + 1) y (by omega); omega
  subst hy
  have hm : m = m' := by
    rcases Int.lt_trichotomy m m' with q | q | q
    · have := mcum_lt (lp y) m m' (by omega) (by omega) a3 q b4; omega
    · exact q
    · have := mcum_lt (lp y) m' m (by omega) (by omega) b3 q a4; omega
  subst hm
  exact ⟨rfl, rfl, by omega⟩

def findY : Nat → Int → Int → Int
  | 0, y, _ => y
  | k + 1, y, n => if dby (y + 1) ≤ n then findY k (y + 1) n else y
def findM : Nat → Int → Int → Int → Int
  | 0, _, m, _ => m
  | k + 1, l, m, r => if mcum l (m + 1) ≤ r then findM k l (m + 1) r else m
def cY (n : Int) : Int := findY 299 1900 n
def cM (n : Int) : Int := findM 11 (lp (cY n)) 1 (n - dby (cY n))
def cD (n : Int) : Int := n - dby (cY n) - mcum (lp (cY n)) (cM n) + 1
theorem findY_ok (k : Nat) : ∀ (y n : Int), dby y ≤ n → n < dby (y + k + 1) → y ≤ findY k y n ∧ findY k y n ≤ y + k ∧ dby (findY k y n) ≤ n ∧ n < dby (findY k y n + 1) := by
  induction k with
  | zero => intro y n h1 h2; simp [findY] at *; exact ⟨h1, h2⟩
  | succ k ih =>
    intro y n h1 h2
    unfold findY
    split
    · rename_i h
      have := ih (y + 1) n h (by rw [show y + 1 + (k : Int) + 1 = y + ((k + 1 : Nat) : Int) + 1 from by omega]; exact h2)
      omega
    · exact ⟨by omega, by omega, h1, by omega⟩
theorem findM_ok (k : Nat) : ∀ (l m r : Int), mcum l m ≤ r → r < mcum l (m + k + 1) → m ≤ findM k l m r ∧ findM k l m r ≤ m + k ∧ mcum l (findM k l m r) ≤ r ∧ r < mcum l (findM k l m r + 1) := by
  induction k with
  | zero => intro l m r h1 h2; simp [findM] at *; exact ⟨h1, h2⟩
  | succ k ih =>
    intro l m r h1 h2
    unfold findM
    split
    · rename_i h
      have := ih l (m + 1) r h (by rw [show m + 1 + (k : Int) + 1 = m + ((k + 1 : Nat) : Int) + 1 from by omega]; exact h2)
      omega
    · exact ⟨by omega, by omega, h1, by omega⟩
theorem civ_ok (n : Int) (h1 : -25567 ≤ n) (h2 : n ≤ 84005) : vld (cY n) (cM n) (cD n) = true ∧ num (cY n) (cM n) (cD n) = n := by
  have hy := findY_ok 299 1900 n (by rw [dby_1900]; exact h1) (by show n < dby 2200; rw [dby_2200]; omega)
  change 1900 ≤ cY n ∧ cY n ≤ 1900 + 299 ∧ dby (cY n) ≤ n ∧ n < dby (cY n + 1) at hy
  have s := dby_succ (cY n)
  have hm := findM_ok 11 (lp (cY n)) 1 (n - dby (cY n)) (by rw [mcum_1]; omega) (by show _ < mcum _ 13; rw [mcum_13]; omega)
  change 1 ≤ cM n ∧ cM n ≤ 1 + 11 ∧ mcum (lp (cY n)) (cM n) ≤ n - dby (cY n) ∧ n - dby (cY n) < mcum (lp (cY n)) (cM n + 1) at hm
  have ms := mcum_succ (lp (cY n)) (cM n) (by omega) (by omega)
  refine ⟨?_, by unfold num cD; omega⟩
  rw [vld_iff, days_in _ _ (by omega) (by omega) (by omega) (by omega)]
  unfold cD
  omega
theorem civ_eq (n y m d : Int) (h : vld y m d = true) (e : num y m d = n) : cY n = y ∧ cM n = m ∧ cD n = d := by
  have r := num_range y m d h
  obtain ⟨a, b⟩ := civ_ok n (by omega) (by omega)
  exact num_inj _ _ _ _ _ _ a h (b.trans e.symm)

end Go.Proofs.YtnddoehhcpejjaaGreat.Dt
/- The walks of the date functions: what each call returns, and that it changes nothing that was there. -/
namespace Go.Proofs.YtnddoehhcpejjaaGreat
set_option linter.unusedVariables false
set_option linter.unusedSimpArgs false
open Go.RowKit


set_option maxHeartbeats 400000 in
theorem leap_any (y : Int) (w : World) (h0 : 0 ≤ y) (h1 : y ≤ 100000) :
    Calls Tryz.prog 47 #[.int .i64 y] w fun e w' => e = .returned (.bool (Dt.leapB y)) ∧ w = w' := by
  by_cases h4 : y % 4 = 0
  · by_cases h100 : y % 100 = 0
    · by_cases h400 : y % 400 = 0
      · have hb : Dt.leapB y = true := by simp [Dt.leapB, h4, h100, h400]
        go_enter Tryz.func47, Tryz.ntmps47
        go_wp2
        go_ret
        exact ⟨ret_bool (by rw [hb]; try simp [*]), rfl⟩
      · have hb : Dt.leapB y = false := by simp [Dt.leapB, h4, h100, h400]
        go_enter Tryz.func47, Tryz.ntmps47
        go_wp2
        go_ret
        exact ⟨ret_bool (by rw [hb]; try simp [*]), rfl⟩
    · have hb : Dt.leapB y = true := by simp [Dt.leapB, h4, h100]
      go_enter Tryz.func47, Tryz.ntmps47
      go_wp2
      go_ret
      exact ⟨ret_bool (by rw [hb]; try simp [*]), rfl⟩
  · have hb : Dt.leapB y = false := by simp [Dt.leapB, h4]
    go_enter Tryz.func47, Tryz.ntmps47
    go_wp2
    go_ret
    exact ⟨ret_bool (by rw [hb]; try simp [*]), rfl⟩

set_option maxHeartbeats 400000 in
theorem begin_any (y : Int) (w : World) (h0 : 1 ≤ y) (h1 : y ≤ 100000) :
    Calls Tryz.prog 46 #[.int .i64 y] w fun e w' => e = .returned (.int .i64 (Dt.dby y)) ∧ w = w' := by
  go_enter Tryz.func46, Tryz.ntmps46
  go_wp2
  go_ret
  exact ⟨rfl, rfl⟩

set_option maxHeartbeats 1000000 in
theorem days_any (y m : Int) (w : World) :
    Calls Tryz.prog 29 #[.int .i64 y, .int .i64 m] w fun e w' => e = .returned (.int .i64 (Dt.days y m)) ∧ Below w.heap.size w w' := by
  by_cases hy1 : y < 1900
  · go_enter Tryz.func29, Tryz.ntmps29
    go_wp2
    go_ret
    exact ⟨ret_int (by unfold Dt.days; rw [if_pos (by omega)]), Below.refl _ _⟩
  by_cases hy2 : 2199 < y
  · go_enter Tryz.func29, Tryz.ntmps29
    go_wp2
    go_ret
    exact ⟨ret_int (by unfold Dt.days; rw [if_pos (by omega)]), Below.refl _ _⟩
  by_cases hm1 : m < 1
  · go_enter Tryz.func29, Tryz.ntmps29
    go_wp2
    go_ret
    exact ⟨ret_int (by unfold Dt.days; rw [if_pos (by omega)]), Below.refl _ _⟩
  by_cases hm2 : 12 < m
  · go_enter Tryz.func29, Tryz.ntmps29
    go_wp2
    go_ret
    exact ⟨ret_int (by unfold Dt.days; rw [if_pos (by omega)]), Below.refl _ _⟩
  have hd : Dt.days y m = Dt.mlen (Dt.lp y) m := Dt.days_in y m (by omega) (by omega) (by omega) (by omega)
  rw [hd]
  clear hd
  by_cases hm : m = 2
  · subst hm
    by_cases hl : Dt.leapB y = true
    · have hd : Dt.mlen (Dt.lp y) 2 = 29 := by simp [Dt.mlen, Dt.lp, hl]
      rw [hd]
      have HL := Lib.hid hl
      clear hl hd
      go_enter Tryz.func29, Tryz.ntmps29
      go_wp2_with (go_at_call 47; refine (leap_any _ _ (by omega) (by omega)).mono ?_; rintro e w' ⟨rfl, rfl⟩; rw [HL.out])
      go_ret
      exact ⟨rfl, (Below.refl _ _).alloc (Nat.le_refl _) _⟩
    · have hl' : Dt.leapB y = false := by simpa using hl
      have hd : Dt.mlen (Dt.lp y) 2 = 28 := by simp [Dt.mlen, Dt.lp, hl']
      rw [hd]
      have HL := Lib.hid hl'
      clear hl hl' hd
      go_enter Tryz.func29, Tryz.ntmps29
      go_wp2_with (go_at_call 47; refine (leap_any _ _ (by omega) (by omega)).mono ?_; rintro e w' ⟨rfl, rfl⟩; rw [HL.out])
      go_ret
      exact ⟨rfl, (Below.refl _ _).alloc (Nat.le_refl _) _⟩
  · have : m = 1 ∨ m = 3 ∨ m = 4 ∨ m = 5 ∨ m = 6 ∨ m = 7 ∨ m = 8 ∨ m = 9 ∨ m = 10 ∨ m = 11 ∨ m = 12 := by omega
    rcases this with rfl | rfl | rfl | rfl | rfl | rfl | rfl | rfl | rfl | rfl | rfl
    all_goals
      clear hm hm1 hm2
      go_enter Tryz.func29, Tryz.ntmps29
      go_wp2
      go_ret
      exact ⟨ret_int (by simp [Dt.mlen]), (Below.refl _ _).alloc (Nat.le_refl _) _⟩
end Go.Proofs.YtnddoehhcpejjaaGreat
/- The walks of the reference's leap and Days. -/
namespace Go.Proofs.YtnddoehhcpejjaaGreat
set_option linter.unusedVariables false
set_option linter.unusedSimpArgs false
open Go.RowKit

set_option maxHeartbeats 400000 in
theorem rleap_any (y : Int) (w : World) (h0 : 0 ≤ y) (h1 : y ≤ 100000) :
    Calls Tryz.prog 53 #[.int .i64 y] w fun e w' => e = .returned (.bool (Dt.leapB y)) ∧ w = w' := by
  by_cases h4 : y % 4 = 0
  · by_cases h100 : y % 100 = 0
    · by_cases h400 : y % 400 = 0
      · have hb : Dt.leapB y = true := by simp [Dt.leapB, h4, h100, h400]
        go_enter Tryz.func53, Tryz.ntmps53
        go_wp2
        go_ret
        exact ⟨ret_bool (by rw [hb]), rfl⟩
      · have hb : Dt.leapB y = false := by simp [Dt.leapB, h4, h100, h400]
        go_enter Tryz.func53, Tryz.ntmps53
        go_wp2
        go_ret
        exact ⟨ret_bool (by rw [hb]; try simp [*]), rfl⟩
    · have hb : Dt.leapB y = true := by simp [Dt.leapB, h4, h100]
      go_enter Tryz.func53, Tryz.ntmps53
      go_wp2
      go_ret
      exact ⟨ret_bool (by rw [hb]), rfl⟩
  · have hb : Dt.leapB y = false := by simp [Dt.leapB, h4]
    go_enter Tryz.func53, Tryz.ntmps53
    go_wp2
    go_ret
    exact ⟨ret_bool (by rw [hb]), rfl⟩


theorem rdays_idx (m l : Int) (h1 : 1 ≤ m) (h2 : m ≤ 12) (h3 : m ≠ 2 ∨ l = 0) (w : World) :
    (Instr.index 111 (.agg #[.int .i64 31, .int .i64 28, .int .i64 31, .int .i64 30, .int .i64 31, .int .i64 30, .int .i64 31, .int .i64 31, .int .i64 30, .int .i64 31, .int .i64 30, .int .i64 31]) (.int .i64 (m - 1))).run Tryz.prog w = .ok (.int .i64 (Dt.mlen l m)) w := by
  obtain ⟨i0, hi, hz0, hz1, hz2⟩ := info_parts int_info
  refine run_index_agg1 Tryz.underlying111 Tryz.underlying3 hi hz1 _ _ _ (by omega) (by omega) ?_ w
  have : m = 1 ∨ m = 2 ∨ m = 3 ∨ m = 4 ∨ m = 5 ∨ m = 6 ∨ m = 7 ∨ m = 8 ∨ m = 9 ∨ m = 10 ∨ m = 11 ∨ m = 12 := by omega
  rcases this with rfl | rfl | rfl | rfl | rfl | rfl | rfl | rfl | rfl | rfl | rfl | rfl
  case inr.inl =>
    obtain rfl : l = 0 := by omega
    rfl
  all_goals rfl

set_option maxHeartbeats 1000000 in
theorem rdays_any (y m : Int) (w : World) :
    Calls Tryz.prog 33 #[.int .i64 y, .int .i64 m] w fun e w' => e = .returned (.int .i64 (Dt.days y m)) ∧ w = w' := by
  by_cases hy : y < 1900 ∨ 2199 < y ∨ m < 1 ∨ 12 < m
  · have hd : Dt.days y m = 0 := by unfold Dt.days; rw [if_pos hy]
    rw [hd]
    clear hd
    by_cases hm1 : m < 1
    · clear hy
      go_enter Tryz.func33, Tryz.ntmps33
      go_wp2
      go_ret
      exact ⟨rfl, rfl⟩
    by_cases hm2 : 12 < m
    · clear hy
      go_enter Tryz.func33, Tryz.ntmps33
      go_wp2
      go_ret
      exact ⟨rfl, rfl⟩
    by_cases hy1 : y < 1900
    · clear hy
      go_enter Tryz.func33, Tryz.ntmps33
      go_wp2
      go_ret
      exact ⟨rfl, rfl⟩
    have hy2 : 2199 < y := by omega
    clear hy
    go_enter Tryz.func33, Tryz.ntmps33
    go_wp2
    go_ret
    exact ⟨rfl, rfl⟩
  have hd : Dt.days y m = Dt.mlen (Dt.lp y) m := Dt.days_in y m (by omega) (by omega) (by omega) (by omega)
  rw [hd]
  have b1 : 1900 ≤ y := by omega
  have b2 : y ≤ 2199 := by omega
  have b3 : 1 ≤ m := by omega
  have b4 : m ≤ 12 := by omega
  clear hd hy
  have l01 := Dt.lp_01 y
  by_cases hm : m = 2 ∧ Dt.leapB y = true
  · obtain ⟨rfl, hl⟩ := hm
    have hd : Dt.mlen (Dt.lp y) 2 = 29 := by simp [Dt.mlen, Dt.lp, hl]
    rw [hd]
    have HL := Lib.hid hl
    clear hl hd l01
    go_enter Tryz.func33, Tryz.ntmps33
    go_wp2_with (go_at_call 53; refine (rleap_any _ _ (by omega) (by omega)).mono ?_; rintro e w' ⟨rfl, rfl⟩; rw [HL.out])
    go_ret
    exact ⟨rfl, rfl⟩
  · have hidx := rdays_idx m (Dt.lp y) b3 b4 (by
      by_cases h2 : m = 2
      · exact Or.inr (by unfold Dt.lp; rw [if_neg (fun h => hm ⟨h2, h⟩)])
      · exact Or.inl h2)
    generalize Dt.mlen (Dt.lp y) m = v at *
    by_cases h2 : m = 2
    · have HL : Hid (Dt.leapB y = false) := by
        have : ¬ Dt.leapB y = true := fun h => hm ⟨h2, h⟩
        exact Lib.hid (by simpa using this)
      subst h2
      rw [show (2 : Int) - 1 = 1 from rfl] at hidx
      clear hm l01
      go_enter Tryz.func33, Tryz.ntmps33
      go_wp2_with (go_at_call 53; refine (rleap_any _ _ (by omega) (by omega)).mono ?_; rintro e w' ⟨rfl, rfl⟩; rw [HL.out])
      go_ret
      exact ⟨rfl, rfl⟩
    · clear hm l01
      go_enter Tryz.func33, Tryz.ntmps33
      go_wp2_with fail
      go_ret
      exact ⟨rfl, rfl⟩
end Go.Proofs.YtnddoehhcpejjaaGreat
/- The walks of Of, program's and reference's. -/
namespace Go.Proofs.YtnddoehhcpejjaaGreat
set_option linter.unusedVariables false
set_option linter.unusedSimpArgs false
open Go.RowKit

theorem Dt.num_first (y m d : Int) : Dt.dby y + d - 1 + Dt.mcum (Dt.lp y) m = Dt.num y m d := by unfold Dt.num; omega

set_option maxHeartbeats 1000000 in
theorem of_no (y m d : Int) (w : World) (h : Dt.vld y m d = false) (hd1 : -9223372036854775808 ≤ d) (hd2 : d ≤ 9223372036854775807) :
    Calls Tryz.prog 70 #[.int .i64 y, .int .i64 m, .int .i64 d] w fun e w' => e = .returned (.tuple #[.int .i64 0, .int .i64 2]) ∧ Below w.heap.size w w' := by
  have hv : ¬ (1 ≤ d ∧ d ≤ Dt.days y m) := by rw [← Dt.vld_iff, h]; simp
  clear h
  by_cases h1 : d < 1
  · clear hv
    go_enter Tryz.func70, Tryz.ntmps70
    go_wp2_with fail
    go_ret2
    exact ⟨rfl, Below.refl _ _⟩
  · have h2 : Dt.days y m < d := by omega
    clear hv
    go_enter Tryz.func70, Tryz.ntmps70
    go_wp2_with (go_at_call 29; refine (days_any _ _ _).mono ?_; rintro e w1 ⟨rfl, hb⟩)
    go_ret2
    exact ⟨rfl, hb⟩

set_option maxHeartbeats 1000000 in
theorem of_yes (y m d : Int) (w : World) (h : Dt.vld y m d = true) :
    Calls Tryz.prog 70 #[.int .i64 y, .int .i64 m, .int .i64 d] w fun e w' => e = .returned (.tuple #[.int .i64 (Dt.num y m d), .int .i64 0]) ∧ Below w.heap.size w w' := by
  have hv := (Dt.vld_iff y m d).1 h
  obtain ⟨a1, a2, a3, a4, a5, a6, a7⟩ := Dt.vld_pos y m d h
  obtain ⟨v1, v2⟩ := hv
  have v3 := Dt.days_bd y m
  have l := Dt.lp_01 y
  have db := Dt.dby_bd y (by omega) (by omega)
  clear h a6
  go_enter Tryz.func70, Tryz.ntmps70
  go_wp2_with (first
    | (go_at_call 29; refine (days_any _ _ _).mono ?_; rintro e w1 ⟨rfl, hb⟩)
    | (go_at_call 46; refine (begin_any _ _ (by omega) (by omega)).mono ?_; rintro e w' ⟨rfl, rfl⟩))
  go_loopw [8, 9] (fun n k wr => ∃ j : Int, 1 ≤ j ∧ j ≤ m ∧ k = .int .i64 j ∧ n = .int .i64 (Dt.dby y + d - 1 + Dt.mcum (Dt.lp y) j) ∧ Below w.heap.size w wr) (fun _ k _ => (m - intOf k).toNat)
  case atStart => exact ⟨1, by omega, by omega, rfl, by rw [Dt.mcum_1]; go_num, hb⟩
  case round =>
    obtain ⟨j, hj1, hj2, rfl, rfl, hbr⟩ := hrel
    have c := Dt.mcum_bd (Dt.lp y) j (by omega) (by omega)
    by_cases hlt : j < m
    · have cs := Lib.hid (Dt.mcum_succ (Dt.lp y) j (by omega) (by omega))
      have HD := Lib.hid (Dt.days_in y j (by omega) (by omega) (by omega) (by omega))
      have dj := Dt.days_bd y j
      go_wp2_with (go_at_call 29; refine (days_any _ _ _).mono ?_; rintro e w2 ⟨rfl, hb2⟩)
      go_roundw
      case rel => exact ⟨j + 1, by omega, by omega, by go_num, by rw [cs.out, ← HD.out]; go_num, hbr.trans (hb2.mono hbr.size)⟩
      case measure => simp [intOf]; omega
    · go_wp2_with fail
      go_ret2
      obtain rfl : j = m := by omega
      exact ⟨by rw [← Dt.num_first]; rfl, hbr⟩
end Go.Proofs.YtnddoehhcpejjaaGreat
/- The walks of Valid and Civil, program's and reference's. -/
namespace Go.Proofs.YtnddoehhcpejjaaGreat
set_option linter.unusedVariables false
set_option linter.unusedSimpArgs false
open Go.RowKit

set_option maxHeartbeats 400000 in
theorem dvalid_any (n : Int) (w : World) :
    Calls Tryz.prog 45 #[.int .i64 n] w fun e w' => e = .returned (.bool (decide (-25567 ≤ n) && decide (n ≤ 84005))) ∧ w = w' := by
  by_cases h1 : -25567 ≤ n
  · go_enter Tryz.func45, Tryz.ntmps45
    go_wp2_with fail
    go_ret
    exact ⟨ret_bool (by simp [h1]), rfl⟩
  · have h3 : decide (-25567 ≤ n) = false := by simpa using h1
    go_enter Tryz.func45, Tryz.ntmps45
    go_wp2_with fail
    go_ret
    exact ⟨ret_bool (by simp), rfl⟩
set_option maxHeartbeats 400000 in
theorem drvalid_any (n : Int) (w : World) :
    Calls Tryz.prog 52 #[.int .i64 n] w fun e w' => e = .returned (.bool (decide (-25567 ≤ n) && decide (n ≤ 84005))) ∧ w = w' := by
  by_cases h1 : -25567 ≤ n
  · go_enter Tryz.func52, Tryz.ntmps52
    go_wp2_with fail
    go_ret
    exact ⟨ret_bool (by simp [h1]), rfl⟩
  · have h3 : decide (-25567 ≤ n) = false := by simpa using h1
    go_enter Tryz.func52, Tryz.ntmps52
    go_wp2_with fail
    go_ret
    exact ⟨ret_bool (by simp), rfl⟩

theorem valid_yes (n : Int) (w : World) (h1 : -25567 ≤ n) (h2 : n ≤ 84005) : Calls Tryz.prog 45 #[.int .i64 n] w fun e w' => e = .returned (.bool true) ∧ w = w' :=
  (dvalid_any n w).mono fun _ _ h => by simpa [h1, h2] using h
theorem dvalid_no (n : Int) (w : World) (h : n < -25567 ∨ 84005 < n) : Calls Tryz.prog 45 #[.int .i64 n] w fun e w' => e = .returned (.bool false) ∧ w = w' :=
  (dvalid_any n w).mono fun _ _ k => by
    have : (decide (-25567 ≤ n) && decide (n ≤ 84005)) = false := by simp; omega
    rw [this] at k; exact k
theorem rvalid_yes (n : Int) (w : World) (h1 : -25567 ≤ n) (h2 : n ≤ 84005) : Calls Tryz.prog 52 #[.int .i64 n] w fun e w' => e = .returned (.bool true) ∧ w = w' :=
  (drvalid_any n w).mono fun _ _ h => by simpa [h1, h2] using h
theorem drvalid_no (n : Int) (w : World) (h : n < -25567 ∨ 84005 < n) : Calls Tryz.prog 52 #[.int .i64 n] w fun e w' => e = .returned (.bool false) ∧ w = w' :=
  (drvalid_any n w).mono fun _ _ k => by
    have : (decide (-25567 ≤ n) && decide (n ≤ 84005)) = false := by simp; omega
    rw [this] at k; exact k

set_option maxHeartbeats 400000 in
theorem civil_no (n : Int) (w : World) (h : n < -25567 ∨ 84005 < n) :
    Calls Tryz.prog 28 #[.int .i64 n] w fun e w' => e = .returned (.tuple #[.int .i64 0, .int .i64 0, .int .i64 0, .int .i64 2]) ∧ w = w' := by
  have H := Lib.hid h
  clear h
  go_enter Tryz.func28, Tryz.ntmps28
  go_wp2_with (go_at_call 45; refine (dvalid_no _ _ H.out).mono ?_; rintro e w' ⟨rfl, rfl⟩)
  refine bodyPost_ret (results_tmp4 rfl _ _ _) rfl ?_
  exact ⟨rfl, rfl⟩

set_option maxHeartbeats 400000 in
theorem rcivil_no (n : Int) (w : World) (h : n < -25567 ∨ 84005 < n) :
    Calls Tryz.prog 32 #[.int .i64 n] w fun e w' => e = .returned (.tuple #[.int .i64 0, .int .i64 0, .int .i64 0, .int .i64 2]) ∧ w = w' := by
  have H := Lib.hid h
  clear h
  go_enter Tryz.func32, Tryz.ntmps32
  go_wp2_with (go_at_call 52; refine (drvalid_no _ _ H.out).mono ?_; rintro e w' ⟨rfl, rfl⟩)
  refine bodyPost_ret (results_tmp4 rfl _ _ _) rfl ?_
  exact ⟨rfl, rfl⟩

theorem Dt.first_guess (n : Int) (h1 : -25567 ≤ n) (h2 : n ≤ 84005) : 1899 ≤ 1968 + n.tdiv 366 ∧ 1968 + n.tdiv 366 ≤ 2200 ∧ (1968 + n.tdiv 366 = 1899 ∨ Dt.dby (1968 + n.tdiv 366) ≤ n) := by
  have hq : (0 ≤ n ∧ n.tdiv 366 = n / 366) ∨ (n < 0 ∧ n.tdiv 366 = -(-n / 366)) := by
    rcases Int.lt_or_le n 0 with h | h
    · right
      refine ⟨h, ?_⟩
      have : n.tdiv 366 = -((-n).tdiv 366) := by rw [Int.neg_tdiv]; omega
      rw [this, Int.tdiv_eq_ediv_of_nonneg (by omega)]
    · exact Or.inl ⟨h, Int.tdiv_eq_ediv_of_nonneg h⟩
  generalize n.tdiv 366 = q at *
  unfold Dt.dby
  omega

/-- what is known of the year of a date -/
theorem Dt.cY_ok (n : Int) (h1 : -25567 ≤ n) (h2 : n ≤ 84005) : 1900 ≤ Dt.cY n ∧ Dt.cY n ≤ 2199 ∧ Dt.dby (Dt.cY n) ≤ n ∧ n < Dt.dby (Dt.cY n + 1) := by
  have hy := Dt.findY_ok 299 1900 n (by rw [Dt.dby_1900]; exact h1) (by show n < Dt.dby 2200; rw [Dt.dby_2200]; omega)
  change 1900 ≤ Dt.cY n ∧ Dt.cY n ≤ 1900 + 299 ∧ Dt.dby (Dt.cY n) ≤ n ∧ n < Dt.dby (Dt.cY n + 1) at hy
  omega
theorem Dt.cM_ok (n : Int) (h1 : -25567 ≤ n) (h2 : n ≤ 84005) : 1 ≤ Dt.cM n ∧ Dt.cM n ≤ 12 ∧ Dt.mcum (Dt.lp (Dt.cY n)) (Dt.cM n) ≤ n - Dt.dby (Dt.cY n) ∧ n - Dt.dby (Dt.cY n) < Dt.mcum (Dt.lp (Dt.cY n)) (Dt.cM n) + Dt.mlen (Dt.lp (Dt.cY n)) (Dt.cM n) := by
  have hy := Dt.cY_ok n h1 h2
  have s := Dt.dby_succ (Dt.cY n)
  have hm := Dt.findM_ok 11 (Dt.lp (Dt.cY n)) 1 (n - Dt.dby (Dt.cY n)) (by rw [Dt.mcum_1]; omega) (by show _ < Dt.mcum _ 13; rw [Dt.mcum_13]; omega)
  change 1 ≤ Dt.cM n ∧ Dt.cM n ≤ 1 + 11 ∧ Dt.mcum (Dt.lp (Dt.cY n)) (Dt.cM n) ≤ n - Dt.dby (Dt.cY n) ∧ n - Dt.dby (Dt.cY n) < Dt.mcum (Dt.lp (Dt.cY n)) (Dt.cM n + 1) at hm
  have ms := Dt.mcum_succ (Dt.lp (Dt.cY n)) (Dt.cM n) (by omega) (by omega)
  omega

set_option maxHeartbeats 1000000 in
theorem civil_yes (n : Int) (w : World) (h1 : -25567 ≤ n) (h2 : n ≤ 84005) :
    Calls Tryz.prog 28 #[.int .i64 n] w fun e w' => e = .returned (.tuple #[.int .i64 (Dt.cY n), .int .i64 (Dt.cM n), .int .i64 (Dt.cD n), .int .i64 0]) ∧ Below w.heap.size w w' := by
  obtain ⟨y1, y2, y3, y4⟩ := Dt.cY_ok n h1 h2
  obtain ⟨m1, m2, m3, m4⟩ := Dt.cM_ok n h1 h2
  have hD : Dt.cD n = n - Dt.dby (Dt.cY n) - Dt.mcum (Dt.lp (Dt.cY n)) (Dt.cM n) + 1 := rfl
  have hg := Dt.first_guess n h1 h2
  rw [hD]
  clear hD
  have l := Dt.lp_01 (Dt.cY n)
  have hq : 1968 + n.tdiv 366 ≤ Dt.cY n := by
    rcases hg.2.2 with h | h
    · omega
    · rcases Int.lt_or_le (Dt.cY n) (1968 + n.tdiv 366) with k | k
      · have := Dt.dby_mono (Dt.cY n + 1) (1968 + n.tdiv 366) (by omega); omega
      · exact k
  generalize Dt.cY n = Y at *
  generalize Dt.cM n = M at *
  have g1 : 1899 ≤ 1968 + n.tdiv 366 := hg.1
  clear hg
  have g2 : n.tdiv 366 ≤ 300 := by omega
  have g3 : -100 ≤ n.tdiv 366 := by omega
  go_enter Tryz.func28, Tryz.ntmps28
  go_wp2_with (go_at_call 45; refine (valid_yes _ _ h1 h2).mono ?_; rintro e w' ⟨rfl, rfl⟩)
  go_loopw [2] (fun t wr => ∃ y : Int, 1899 ≤ y ∧ y ≤ Y ∧ t = .int .i64 y ∧ Below w.heap.size w wr) (fun t _ => (Y - intOf t).toNat)
  case atStart => exact ⟨1968 + n.tdiv 366, g1, hq, by go_num, Below.refl _ _⟩
  case round =>
    obtain ⟨y, ya, yb, rfl, hbr⟩ := hrel
    clear g1 g2 g3 hq
    by_cases hlt : y < Y
    · have hm := Dt.dby_mono (y + 1) Y (by omega)
      have hle : Dt.dby (y + 1) ≤ n := by omega
      by_cases h19 : y < 1900
      · go_wp2_with fail
        go_roundw
        case rel => exact ⟨y + 1, by omega, by omega, by go_num, hbr⟩
        case measure => simp [intOf]; omega
      · go_wp2_with (go_at_call 46; refine (begin_any _ _ (by omega) (by omega)).mono ?_; rintro e w' ⟨rfl, rfl⟩)
        go_roundw
        case rel => exact ⟨y + 1, by omega, by omega, by go_num, hbr⟩
        case measure => simp [intOf]; omega
    · obtain rfl : y = Y := by omega
      have db := Dt.dby_bd y (by omega) (by omega)
      have mb := Dt.mcum_bd (Dt.lp y) M (by omega) (by omega)
      go_wp2_with (go_at_call 46; refine (begin_any _ _ (by omega) (by omega)).mono ?_; rintro e w' ⟨rfl, rfl⟩)
      obtain ⟨wo, rfl⟩ : ∃ wo : World, wo = wr := ⟨_, rfl⟩
      go_loopw [3, 4] (fun k r wr => ∃ m : Int, 1 ≤ m ∧ m ≤ M ∧ k = .int .i64 m ∧ r = .int .i64 (n - Dt.dby y - Dt.mcum (Dt.lp y) m) ∧ Below w.heap.size w wr) (fun k _ _ => (M - intOf k).toNat)
      case atStart => exact ⟨1, by omega, by omega, rfl, by rw [Dt.mcum_1]; go_num, hbr⟩
      case round =>
        obtain ⟨m, ma, mb', rfl, rfl, hbr2⟩ := hrel
        have c := Dt.mcum_bd (Dt.lp y) m (by omega) (by omega)
        have dj := Dt.days_bd y m
        have HD := Lib.hid (Dt.days_in y m (by omega) (by omega) (by omega) (by omega))
        by_cases hlt2 : m < M
        · have cs := Lib.hid (Dt.mcum_succ (Dt.lp y) m (by omega) (by omega))
          have hml := Dt.mcum_lt (Dt.lp y) m M (by omega) (by omega) (by omega) hlt2 (by omega)
          rw [← HD.out] at hml
          have hge : Dt.days y m ≤ n - Dt.dby y - Dt.mcum (Dt.lp y) m := by omega
          go_wp2_with (go_at_call 29; refine (days_any _ _ _).mono ?_; rintro e w2 ⟨rfl, hb2⟩; replace hbr2 := bel hbr2 hb2; clear hb2)
          go_roundw
          case rel => exact ⟨m + 1, by omega, by omega, by go_num, by rw [cs.out, ← HD.out]; go_num, hbr2⟩
          case measure => simp [intOf]; omega
        · obtain rfl : m = M := by omega
          rw [← HD.out] at m4
          have hlt3 : ¬ Dt.days y m ≤ n - Dt.dby y - Dt.mcum (Dt.lp y) m := by omega
          go_wp2_with (go_at_call 29; refine (days_any _ _ _).mono ?_; rintro e w2 ⟨rfl, hb2⟩; replace hbr2 := bel hbr2 hb2; clear hb2)
          refine bodyPost_ret (results_tmp4 rfl _ _ _) rfl ?_
          exact ⟨rfl, hbr2⟩
end Go.Proofs.YtnddoehhcpejjaaGreat
