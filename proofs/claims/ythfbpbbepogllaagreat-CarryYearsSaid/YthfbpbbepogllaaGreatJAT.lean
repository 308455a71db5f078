/- Texts of this claim, put together. -/
import Derived.Test.YthfbpbbepogllaaGreatJAS
import Derived.Laws.IdiomStrings
import Derived.Deep.RegionWith
/- The texts of dates, as lists of bytes: digits, numbers, what Parse and Text return. No Go and no program. -/
namespace Go.Proofs.YthfbpbbepogllaaGreat.Dt
set_option linter.unusedVariables false
set_option linter.unusedSimpArgs false

def dg (c : UInt8) : Bool := decide (48 ≤ c.toNat) && decide (c.toNat ≤ 57)
theorem dg_iff (c : UInt8) : dg c = true ↔ 48 ≤ c.toNat ∧ c.toNat ≤ 57 := by unfold dg; simp
def numv (l : List UInt8) : Int := l.foldl (fun n c => 10 * n + ((c.toNat : Int) - 48)) 0
def okd (l : List UInt8) : Bool := l.all dg
/-- what 'number' returns beside the bool; what the reference's does -/
def nmV (l : List UInt8) : Int := if okd l then numv l else 0
def rnV (l : List UInt8) : Int := if okd l then numv l else -1
theorem nmV_no (l : List UInt8) (h : okd l = false) : nmV l = 0 := by unfold nmV; rw [h]; rfl
theorem nmV_yes (l : List UInt8) (h : okd l = true) : nmV l = numv l := by unfold nmV; rw [h]; rfl
theorem rnV_no (l : List UInt8) (h : okd l = false) : rnV l = -1 := by unfold rnV; rw [h]; rfl
theorem rnV_yes (l : List UInt8) (h : okd l = true) : rnV l = numv l := by unfold rnV; rw [h]; rfl
theorem numv_snoc (l : List UInt8) (c : UInt8) : numv (l ++ [c]) = 10 * numv l + ((c.toNat : Int) - 48) := by unfold numv; simp
theorem okd_snoc (l : List UInt8) (c : UInt8) : okd (l ++ [c]) = (okd l && dg c) := by unfold okd; simp
theorem numv_bd : ∀ (k : Nat) (l : List UInt8), l.length ≤ k → okd l = true → 0 ≤ numv l ∧ numv l < 10 ^ k := by
  intro k
  induction k with
  | zero => intro l h _; obtain rfl : l = [] := List.eq_nil_of_length_eq_zero (by omega); simp [numv]
  | succ k ih =>
    intro l h hd
    rcases List.eq_nil_or_concat l with rfl | ⟨m, c, rfl⟩
    · have : (0 : Int) < 10 ^ (k + 1) := Int.pow_pos (by omega)
      simp [numv]; omega
    · rw [List.concat_eq_append] at h hd ⊢
      rw [okd_snoc, Bool.and_eq_true, dg_iff] at hd
      have := ih m (by simp at h; omega) hd.1
      rw [numv_snoc, Int.pow_succ]
      omega
theorem numv_le (l : List UInt8) (h : l.length ≤ 10) (hd : okd l = true) : 0 ≤ numv l ∧ numv l ≤ 9999999999 := by
  have := numv_bd 10 l h hd
  have e : (10 : Int) ^ 10 = 10000000000 := by decide
  rw [e] at this
  omega

/-- is it four digits, a hyphen, two digits, a hyphen and two digits -/
def wellB (l : List UInt8) : Bool := l.length == 10 && l[4]? == some 45 && l[7]? == some 45 && okd (l.take 4) && okd ((l.drop 5).take 2) && okd (l.drop 8)
def prV (l : List UInt8) : Int := if wellB l then ofV (numv (l.take 4)) (numv ((l.drop 5).take 2)) (numv (l.drop 8)) else 0
def prE (l : List UInt8) : Int := if wellB l then ofE (numv (l.take 4)) (numv ((l.drop 5).take 2)) (numv (l.drop 8)) else 3

def chr (n : Int) : UInt8 := UInt8.ofNat (48 + n).toNat
theorem chr_toNat (n : Int) (h0 : 0 ≤ n) (h1 : n ≤ 9) : ((chr n).toNat : Int) = 48 + n := by
  unfold chr
  rw [UInt8.toNat_ofNat']
  omega
theorem dg_chr (n : Int) (h0 : 0 ≤ n) (h1 : n ≤ 9) : dg (chr n) = true := by
  have := chr_toNat n h0 h1
  rw [dg_iff]; omega
def tx2 (n : Int) : List UInt8 := [chr (n / 10), chr (n % 10)]
def txY (y : Int) : List UInt8 := tx2 (y / 100) ++ tx2 (y % 100)
def tx (y m d : Int) : List UInt8 := txY y ++ [45] ++ tx2 m ++ [45] ++ tx2 d
def txV (n : Int) : List UInt8 := if isD n then tx (cY n) (cM n) (cD n) else []
theorem numv_tx2 (n : Int) (h0 : 0 ≤ n) (h1 : n ≤ 99) : numv (tx2 n) = n ∧ okd (tx2 n) = true := by
  unfold tx2 numv okd
  have a := chr_toNat (n / 10) (by omega) (by omega)
  have b := chr_toNat (n % 10) (by omega) (by omega)
  have a' := dg_chr (n / 10) (by omega) (by omega)
  have b' := dg_chr (n % 10) (by omega) (by omega)
  simp [a', b']
  omega
theorem numv_txY (n : Int) (h0 : 0 ≤ n) (h1 : n ≤ 9999) : numv (txY n) = n ∧ okd (txY n) = true := by
  unfold txY tx2 numv okd
  have a := chr_toNat (n / 100 / 10) (by omega) (by omega)
  have b := chr_toNat (n / 100 % 10) (by omega) (by omega)
  have c := chr_toNat (n % 100 / 10) (by omega) (by omega)
  have d := chr_toNat (n % 100 % 10) (by omega) (by omega)
  have a' := dg_chr (n / 100 / 10) (by omega) (by omega)
  have b' := dg_chr (n / 100 % 10) (by omega) (by omega)
  have c' := dg_chr (n % 100 / 10) (by omega) (by omega)
  have d' := dg_chr (n % 100 % 10) (by omega) (by omega)
  simp only [List.all_cons, List.all_nil, List.cons_append, List.nil_append, List.foldl_cons, List.foldl_nil, a', b', c', d', Bool.and_self, and_true]
  omega
theorem tx_parts (y m d : Int) : (tx y m d).length = 10 ∧ (tx y m d)[4]? = some 45 ∧ (tx y m d)[7]? = some 45 ∧ (tx y m d).take 4 = txY y ∧ ((tx y m d).drop 5).take 2 = tx2 m ∧ (tx y m d).drop 8 = tx2 d := by
  unfold tx txY tx2
  simp
theorem pr_tx (y m d : Int) (h : vld y m d = true) : wellB (tx y m d) = true ∧ prV (tx y m d) = num y m d ∧ prE (tx y m d) = 0 := by
  obtain ⟨a1, a2, a3, a4, a5, a6, a7⟩ := vld_pos y m d h
  obtain ⟨p1, p2, p3, p4, p5, p6⟩ := tx_parts y m d
  have ny := numv_txY y (by omega) (by omega)
  have nm := numv_tx2 m (by omega) (by omega)
  have nd := numv_tx2 d (by omega) (by omega)
  have w : wellB (tx y m d) = true := by
    unfold wellB
    rw [p1, p2, p3, p4, p5, p6, ny.2, nm.2, nd.2]; rfl
  unfold prV prE
  rw [w, p4, p5, p6, ny.1, nm.1, nd.1]
  unfold ofV ofE
  rw [h]
  exact ⟨rfl, rfl, rfl⟩
theorem pr_txV (n : Int) (h : isD n = true) : prV (txV n) = n ∧ prE (txV n) = 0 := by
  have c := of_civ n h
  unfold txV
  rw [h]
  have := pr_tx _ _ _ c.1
  exact ⟨this.2.1.trans c.2, this.2.2⟩
theorem pr_nil : prV [] = 0 ∧ prE [] = 3 := by decide

theorem chr_of (c : UInt8) (h : dg c = true) : chr ((c.toNat : Int) - 48) = c := by
  rw [dg_iff] at h
  unfold chr
  apply UInt8.toNat_inj.1
  rw [UInt8.toNat_ofNat']
  omega
theorem tx2_numv (l : List UInt8) (hl : l.length = 2) (h : okd l = true) : tx2 (numv l) = l := by
  match l, hl with
  | [a, b], _ =>
    simp [okd] at h
    have a' := chr_of a h.1
    have b' := chr_of b h.2
    have := (dg_iff a).1 h.1
    have := (dg_iff b).1 h.2
    unfold tx2 numv
    simp only [List.foldl]
    rw [show (10 * (10 * 0 + ((a.toNat : Int) - 48)) + ((b.toNat : Int) - 48)) / 10 = (a.toNat : Int) - 48 from by omega, show (10 * (10 * 0 + ((a.toNat : Int) - 48)) + ((b.toNat : Int) - 48)) % 10 = (b.toNat : Int) - 48 from by omega, a', b']
theorem txY_numv (l : List UInt8) (hl : l.length = 4) (h : okd l = true) : txY (numv l) = l := by
  match l, hl with
  | [a, b, c, d], _ =>
    simp [okd] at h
    obtain ⟨ha, hb, hc, hd⟩ := h
    have a' := chr_of a ha
    have b' := chr_of b hb
    have c' := chr_of c hc
    have d' := chr_of d hd
    have := (dg_iff a).1 ha
    have := (dg_iff b).1 hb
    have := (dg_iff c).1 hc
    have := (dg_iff d).1 hd
    unfold txY tx2 numv
    simp only [List.foldl]
    generalize hN : 10 * (10 * (10 * (10 * 0 + ((a.toNat : Int) - 48)) + ((b.toNat : Int) - 48)) + ((c.toNat : Int) - 48)) + ((d.toNat : Int) - 48) = N
    rw [show N / 100 / 10 = (a.toNat : Int) - 48 from by omega, show N / 100 % 10 = (b.toNat : Int) - 48 from by omega, show N % 100 / 10 = (c.toNat : Int) - 48 from by omega, show N % 100 % 10 = (d.toNat : Int) - 48 from by omega, a', b', c', d']
    rfl
/-- a text that is parsed is the text of its date -/
theorem tx_pr (l : List UInt8) (h : prE l = 0) : isD (prV l) = true ∧ txV (prV l) = l := by
  unfold prE at h
  cases w : wellB l
  · rw [w] at h; simp at h
  · rw [w] at h
    unfold prV
    rw [w]
    simp only [if_true] at h ⊢
    unfold ofE at h
    unfold wellB at w
    simp only [Bool.and_eq_true, beq_iff_eq] at w
    obtain ⟨⟨⟨⟨⟨w1, w2⟩, w3⟩, w4⟩, w5⟩, w6⟩ := w
    generalize hy : numv (l.take 4) = y at *
    generalize hm : numv ((l.drop 5).take 2) = m at *
    generalize hd : numv (l.drop 8) = d at *
    cases v : vld y m d
    · rw [v] at h; simp at h
    · unfold ofV
      rw [v]
      simp only [if_true]
      have hD := isD_num y m d v
      obtain ⟨e1, e2, e3⟩ := civ_eq _ y m d v rfl
      refine ⟨hD, ?_⟩
      unfold txV
      rw [hD]
      simp only [if_true]
      rw [e1, e2, e3]
      unfold tx
      rw [← hy, ← hm, ← hd, txY_numv _ (by simp; omega) w4, tx2_numv _ (by simp; omega) w5, tx2_numv _ (by simp; omega) w6]
      match l, w1 with
      | [a0, a1, a2, a3, a4, a5, a6, a7, a8, a9], _ =>
        simp at w2 w3
        subst w2 w3
        simp
theorem isD_prV (l : List UInt8) (h : prE l ≠ 0) : prV l = 0 := by
  unfold prE at h
  unfold prV
  cases w : wellB l
  · rfl
  · rw [w] at h
    simp only [if_true] at h ⊢
    unfold ofE at h
    unfold ofV
    cases v : vld (numv (l.take 4)) (numv ((l.drop 5).take 2)) (numv (l.drop 8))
    · rfl
    · rw [v] at h; simp at h
theorem prE_cases (l : List UInt8) : prE l = 0 ∨ prE l = 2 ∨ prE l = 3 := by
  unfold prE; split
  · rcases ofE_01 (numv (l.take 4)) (numv ((l.drop 5).take 2)) (numv (l.drop 8)) with h | h <;> simp [h]
  · simp
end Go.Proofs.YthfbpbbepogllaaGreat.Dt
/- The walks of two and Text. -/
namespace Go.Proofs.YthfbpbbepogllaaGreat
set_option linter.unusedVariables false
set_option linter.unusedSimpArgs false
open Go.RowKit

/-- bytes as cells -/
def byteCells (l : List UInt8) : List Value := l.map fun c => Value.int .u8 (c.toNat : Int)
theorem byteCells_app (a b : List UInt8) : byteCells (a ++ b) = byteCells a ++ byteCells b := by unfold byteCells; simp
theorem byteCells_len (a : List UInt8) : (byteCells a).length = a.length := by unfold byteCells; simp
theorem byteCells_tx2 (k : Int) (h0 : 0 ≤ k) (h1 : k ≤ 99) : byteCells (Dt.tx2 k) = [.int .u8 (48 + k / 10), .int .u8 (48 + k % 10)] := by
  unfold byteCells Dt.tx2
  simp only [List.map]
  rw [Dt.chr_toNat _ (by omega) (by omega), Dt.chr_toNat _ (by omega) (by omega)]
theorem byte_info : (Tryz.prog.info? 5).map (fun i => (i.zero, i.size, i.bytes)) = some (some (.int .u8 0), 1, 1) := by kernel_rfl

def TwoPost (base n : Nat) (v : Value) (l : List UInt8) (w : World) (e : Ending) (w' : World) : Prop :=
  ∃ v', e = .returned v' ∧ w'.ownsRow base 5 1 v' n (byteCells l) ∧ w.grownBy w' v.ownBlock ∧ w.heap.size < w'.heap.size

def TextPost (l : List UInt8) (w : World) (e : Ending) (w' : World) : Prop := e = .returned (.string ⟨l.toArray⟩) ∧ Below w.heap.size w w'

end Go.Proofs.YthfbpbbepogllaaGreat
/- The walks of the reference's Digits and Text. -/
namespace Go.Proofs.YthfbpbbepogllaaGreat
set_option linter.unusedVariables false
set_option linter.unusedSimpArgs false
open Go.RowKit

def Dt.dgs : Nat → Int → List UInt8
  | 0, _ => []
  | k + 1, n => Dt.dgs k (n / 10) ++ [Dt.chr (n % 10)]
theorem Dt.dgs_len (k : Nat) (n : Int) : (Dt.dgs k n).length = k := by
  induction k generalizing n with
  | zero => rfl
  | succ k ih => unfold Dt.dgs; simp [ih]
theorem Dt.dgs2 (n : Int) (h0 : 0 ≤ n) (h1 : n ≤ 99) : Dt.dgs 2 n = Dt.tx2 n := by
  unfold Dt.dgs Dt.dgs Dt.dgs Dt.tx2
  rw [show n / 10 % 10 = n / 10 from by omega]; rfl
theorem Dt.dgs4 (n : Int) (h0 : 0 ≤ n) (h1 : n ≤ 9999) : Dt.dgs 4 n = Dt.txY n := by
  unfold Dt.dgs Dt.dgs Dt.dgs Dt.dgs Dt.dgs Dt.txY Dt.tx2
  rw [show n / 10 / 10 / 10 % 10 = n / 100 / 10 from by omega, show n / 10 / 10 % 10 = n / 100 % 10 from by omega, show n / 10 % 10 = n % 100 / 10 from by omega, show n % 10 = n % 100 % 10 from by omega]; rfl

end Go.Proofs.YthfbpbbepogllaaGreat
/- Calendars: periods, fiscal years, their days. No Go and no program. -/
namespace Go.Proofs.YthfbpbbepogllaaGreat.Cal
set_option linter.unusedVariables false
set_option linter.unusedSimpArgs false
open Go.Proofs.YthfbpbbepogllaaGreat

/-- the month of a period, counted from year 0 -/
def tm (Y M p : Int) : Int := 12 * Y + M - 1 + p
/-- the first day of a month -/
def fd (t : Int) : Int := Dt.num (t / 12) (t % 12 + 1) 1
def okP (Y M P : Int) : Prop := 1 ≤ M ∧ M ≤ 12 ∧ 1 ≤ P ∧ P ≤ 120 ∧ 1900 ≤ Y ∧ Y ≤ 2199 ∧ tm Y M (P - 1) ≤ 26399
instance (Y M P : Int) : Decidable (okP Y M P) := by unfold okP; infer_instance
def ok (Y M P : Int) : Bool := decide (okP Y M P)
theorem ok_iff (Y M P : Int) : ok Y M P = true ↔ okP Y M P := by unfold ok; simp
theorem ok_no (Y M P : Int) : ok Y M P = false ↔ ¬ okP Y M P := by unfold ok; simp
def mok (t : Int) : Bool := decide (22800 ≤ t) && decide (t ≤ 26399)
theorem mok_iff (t : Int) : mok t = true ↔ 22800 ≤ t ∧ t ≤ 26399 := by unfold mok; simp
def fdV (t : Int) : Int := if mok t then fd t else 0
def fdE (t : Int) : Int := if mok t then 0 else 2
/-- the error of a calendar and a period -/
def ckE (Y M P p : Int) : Int := if ok Y M P then (if 0 ≤ p ∧ p < P then 0 else 2) else 1
def fiV (Y M P p : Int) : Int := if ckE Y M P p = 0 then fd (tm Y M p) else 0
def ld (t : Int) : Int := fd t + Dt.days (t / 12) (t % 12 + 1) - 1
def laV (Y M P p : Int) : Int := if ckE Y M P p = 0 then ld (tm Y M p) else 0
def yrV (Y M P p : Int) : Int := if ckE Y M P p = 0 then p / 12 else 0
def beV (Y M P p : Int) : Int := if ckE Y M P p = 0 then fd (tm Y M (p - p % 12)) else 0
def bfV (Y M P p : Int) : Int := if ckE Y M P p = 0 then (if p < 12 then 0 else p - p % 12 - 1) else 0
def bfE (Y M P p : Int) : Int := if ckE Y M P p = 0 then (if p < 12 then 8 else 0) else ckE Y M P p
/-- the period of a date -/
def pq (Y M d : Int) : Int := 12 * Dt.cY d + Dt.cM d - 12 * Y - M
def peB (Y M P d : Int) : Bool := Dt.isD d && (decide (0 ≤ pq Y M d) && decide (pq Y M d < P))
def peV (Y M P d : Int) : Int := if ok Y M P && peB Y M P d then pq Y M d else 0
def peE (Y M P d : Int) : Int := if ok Y M P then (if peB Y M P d then 0 else 2) else 1
def naV (Y M P p : Int) : List UInt8 := if ckE Y M P p = 0 then (Dt.txV (fd (tm Y M p))).take 7 else []

theorem ck_01 (Y M P p : Int) : ckE Y M P p = 0 ∨ ckE Y M P p = 1 ∨ ckE Y M P p = 2 := by
  unfold ckE; split
  · split <;> simp
  · simp
theorem ck_zero (Y M P p : Int) : ckE Y M P p = 0 ↔ okP Y M P ∧ 0 ≤ p ∧ p < P := by
  unfold ckE
  by_cases h : ok Y M P = true
  · rw [if_pos h]
    rw [ok_iff] at h
    split <;> simp_all
  · rw [if_neg h]
    rw [ok_iff] at h
    simp [h]
/-- the months of a calendar's periods lie in the table -/
theorem tm_in (Y M P p : Int) (h : okP Y M P) (h0 : 0 ≤ p) (h1 : p < P) : 22800 ≤ tm Y M p ∧ tm Y M p ≤ 26399 := by
  unfold okP at h
  unfold tm at h ⊢
  omega
theorem fd_vld (t : Int) (h0 : 22800 ≤ t) (h1 : t ≤ 26399) : Dt.vld (t / 12) (t % 12 + 1) 1 = true := by
  rw [Dt.vld_iff, Dt.days_in _ _ (by omega) (by omega) (by omega) (by omega)]
  have l := Dt.lp_01 (t / 12)
  have := Dt.mlen_bd (Dt.lp (t / 12)) (t % 12 + 1) (by omega) (by omega) (by omega) (by omega)
  omega
theorem of_fd (t : Int) (h : 18000 ≤ t) : Dt.ofV (t / 12) (t % 12 + 1) 1 = fdV t ∧ Dt.ofE (t / 12) (t % 12 + 1) 1 = fdE t := by
  unfold Dt.ofV Dt.ofE fdV fdE
  by_cases hm : mok t = true
  · rw [if_pos hm, if_pos hm]
    rw [mok_iff] at hm
    rw [fd_vld t hm.1 hm.2]
    exact ⟨rfl, rfl⟩
  · rw [if_neg hm, if_neg hm]
    rw [mok_iff] at hm
    have : Dt.vld (t / 12) (t % 12 + 1) 1 = false := by
      rw [← Bool.not_eq_true, Dt.vld_iff]
      unfold Dt.days
      rw [if_pos (by omega)]
      omega
    rw [this]
    exact ⟨rfl, rfl⟩
theorem civ_fd (t : Int) (h0 : 22800 ≤ t) (h1 : t ≤ 26399) : Dt.isD (fd t) = true ∧ Dt.cY (fd t) = t / 12 ∧ Dt.cM (fd t) = t % 12 + 1 ∧ Dt.cD (fd t) = 1 := by
  have v := fd_vld t h0 h1
  exact ⟨Dt.isD_num _ _ _ v, Dt.civ_eq _ _ _ _ v rfl⟩
theorem fd_of (Y M : Int) (h : 1 ≤ M) (h2 : M ≤ 12) : Dt.num Y M 1 = fd (tm Y M 0) := by
  unfold fd tm
  rw [show (12 * Y + M - 1 + 0) / 12 = Y from by omega, show (12 * Y + M - 1 + 0) % 12 + 1 = M from by omega]
/-- the first day of the next month is the day after the last one -/
theorem fd_next (t : Int) (h0 : 22800 ≤ t) (h1 : t ≤ 26398) : fd (t + 1) = ld t + 1 := by
  unfold ld fd
  have l := Dt.lp_01 (t / 12)
  have dd := Dt.days_in (t / 12) (t % 12 + 1) (by omega) (by omega) (by omega) (by omega)
  have ms := Dt.mcum_succ (Dt.lp (t / 12)) (t % 12 + 1) (by omega) (by omega)
  by_cases hm : t % 12 = 11
  · rw [show (t + 1) / 12 = t / 12 + 1 from by omega, show (t + 1) % 12 + 1 = 1 from by omega, dd]
    have s := Dt.dby_succ (t / 12)
    rw [show t % 12 + 1 = 12 from by omega] at *
    have h13 := Dt.mcum_13 (Dt.lp (t / 12))
    unfold Dt.num
    rw [Dt.mcum_1]
    rw [show (12 : Int) + 1 = 13 from rfl] at ms
    omega
  · rw [show (t + 1) / 12 = t / 12 from by omega, show (t + 1) % 12 + 1 = t % 12 + 1 + 1 from by omega, dd]
    unfold Dt.num
    omega
theorem fd_ld (t : Int) (h0 : 22800 ≤ t) (h1 : t ≤ 26399) : fd t + 27 ≤ ld t := by
  unfold ld
  have v := fd_vld t h0 h1
  rw [Dt.vld_iff] at v
  have := Dt.days_lo (t / 12) (t % 12 + 1) (by omega)
  omega
theorem fd_bd (t : Int) (h0 : 22800 ≤ t) (h1 : t ≤ 26399) : -25567 ≤ fd t ∧ fd t ≤ 84005 := Dt.num_range _ _ _ (fd_vld t h0 h1)
/-- the day d lies in the month t exactly if t is the month of d -/
theorem in_month (t d : Int) (h0 : 22800 ≤ t) (h1 : t ≤ 26399) : (fd t ≤ d ∧ d ≤ ld t) ↔ (Dt.isD d = true ∧ 12 * Dt.cY d + Dt.cM d - 1 = t) := by
  have v := fd_vld t h0 h1
  have d0 := Dt.days_bd (t / 12) (t % 12 + 1)
  constructor
  · intro ⟨ha, hb⟩
    have v2 : Dt.vld (t / 12) (t % 12 + 1) (d - fd t + 1) = true := by
      rw [Dt.vld_iff]; unfold ld at hb; omega
    have e : Dt.num (t / 12) (t % 12 + 1) (d - fd t + 1) = d := by
      unfold fd Dt.num; omega
    have r := Dt.num_range _ _ _ v2
    rw [e] at r
    obtain ⟨c1, c2, _⟩ := Dt.civ_eq d _ _ _ v2 e
    exact ⟨(Dt.isD_iff d).2 r, by rw [c1, c2]; omega⟩
  · intro ⟨hD, ht⟩
    have c := Dt.cY_bd d hD
    have e1 : t / 12 = Dt.cY d := by omega
    have e2 : t % 12 + 1 = Dt.cM d := by omega
    have n := (Dt.of_civ d hD).2
    unfold ld fd
    rw [e1, e2]
    unfold Dt.num at n ⊢
    omega
theorem fd_inj (s t : Int) (s0 : 22800 ≤ s) (s1 : s ≤ 26399) (t0 : 22800 ≤ t) (t1 : t ≤ 26399) (h : fd s = fd t) : s = t := by
  obtain ⟨_, a2, a3, _⟩ := civ_fd s s0 s1
  obtain ⟨_, b2, b3, _⟩ := civ_fd t t0 t1
  rw [h] at a2 a3
  omega
theorem fd_mono (n : Nat) : ∀ (s : Int), 22800 ≤ s → s + n ≤ 26399 → fd s ≤ fd (s + n) := by
  induction n with
  | zero => intro s _ _; simp
  | succ n ih =>
    intro s h0 h1
    have a := ih s h0 (by omega)
    have b := fd_next (s + n) (by omega) (by omega)
    have c := fd_ld (s + n) (by omega) (by omega)
    rw [show s + ((n + 1 : Nat) : Int) = s + n + 1 from by omega]
    omega
theorem fd_le (s t : Int) (h0 : 22800 ≤ s) (h : s ≤ t) (h1 : t ≤ 26399) : fd s ≤ fd t := by
  obtain ⟨n, hn⟩ := Int.eq_ofNat_of_zero_le (show 0 ≤ t - s by omega)
  have := fd_mono n s h0 (by omega)
  rwa [show s + (n : Int) = t from by omega] at this
end Go.Proofs.YthfbpbbepogllaaGreat.Cal
