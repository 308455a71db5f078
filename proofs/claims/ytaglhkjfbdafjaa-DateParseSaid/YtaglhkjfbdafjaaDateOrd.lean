/- Dates are in the order of their texts: the plain law. -/
import Derived.Test.YtaglhkjfbdafjaaDateText
namespace Go.Proofs.Ytaglhkjfbdafjaa.Dt

theorem bl_app (r s : List UInt8) : ∀ (p q : List UInt8), p.length = q.length → Op.bytesLess (p ++ r) (q ++ s) = (Op.bytesLess p q || (p == q && Op.bytesLess r s)) := by
  intro p
  induction p with
  | nil =>
    intro q h
    obtain rfl : q = [] := List.eq_nil_of_length_eq_zero (by simpa using h.symm)
    simp [Op.bytesLess]
  | cons a p ih =>
    intro q h
    cases q with
    | nil => simp at h
    | cons b q =>
      simp only [List.cons_append, Op.bytesLess]
      rw [ih q (by simpa using h)]
      by_cases hab : a = b
      · subst hab; simp
      · have : (a == b) = false := by simpa using hab
        simp [this]
theorem chr_lt (a b : Int) (a0 : 0 ≤ a) (a1 : a ≤ 9) (b0 : 0 ≤ b) (b1 : b ≤ 9) : decide (chr a < chr b) = decide (a < b) := by
  have ha := chr_toNat a a0 a1
  have hb := chr_toNat b b0 b1
  apply decide_eq_decide.2
  rw [UInt8.lt_iff_toNat_lt]
  omega
theorem chr_eq (a b : Int) (a0 : 0 ≤ a) (a1 : a ≤ 9) (b0 : 0 ≤ b) (b1 : b ≤ 9) : (chr a == chr b) = decide (a = b) := by
  have ha := chr_toNat a a0 a1
  have hb := chr_toNat b b0 b1
  by_cases h : a = b
  · subst h; simp
  · simp only [h, decide_false, beq_eq_false_iff_ne]
    intro e
    rw [e] at ha
    omega
theorem bl_tx2 (a b : Int) (a0 : 0 ≤ a) (a1 : a ≤ 99) (b0 : 0 ≤ b) (b1 : b ≤ 99) : Op.bytesLess (tx2 a) (tx2 b) = decide (a < b) ∧ (tx2 a == tx2 b) = decide (a = b) := by
  unfold tx2
  simp only [Op.bytesLess, List.cons_beq_cons, chr_lt _ _ (show 0 ≤ a / 10 by omega) (by omega) (show 0 ≤ b / 10 by omega) (by omega), chr_lt _ _ (show 0 ≤ a % 10 by omega) (by omega) (show 0 ≤ b % 10 by omega) (by omega),
    chr_eq _ _ (show 0 ≤ a / 10 by omega) (by omega) (show 0 ≤ b / 10 by omega) (by omega), chr_eq _ _ (show 0 ≤ a % 10 by omega) (by omega) (show 0 ≤ b % 10 by omega) (by omega)]
  constructor
  · rw [Bool.eq_iff_iff]; simp; omega
  · rw [Bool.eq_iff_iff]; simp; omega
theorem bl_txY (a b : Int) (a0 : 0 ≤ a) (a1 : a ≤ 9999) (b0 : 0 ≤ b) (b1 : b ≤ 9999) : Op.bytesLess (txY a) (txY b) = decide (a < b) ∧ (txY a == txY b) = decide (a = b) := by
  obtain ⟨h1, h2⟩ := bl_tx2 (a / 100) (b / 100) (by omega) (by omega) (by omega) (by omega)
  obtain ⟨h3, h4⟩ := bl_tx2 (a % 100) (b % 100) (by omega) (by omega) (by omega) (by omega)
  constructor
  · unfold txY
    rw [bl_app _ _ (tx2 (a / 100)) (tx2 (b / 100)) rfl, h1, h2, h3, Bool.eq_iff_iff]; simp; omega
  · have : (txY a == txY b) = ((tx2 (a / 100) == tx2 (b / 100)) && (tx2 (a % 100) == tx2 (b % 100))) := by
      unfold txY tx2
      simp only [List.cons_append, List.nil_append, List.cons_beq_cons, Bool.and_assoc]
      rfl
    rw [this, h2, h4, Bool.eq_iff_iff]; simp; omega
theorem bl_tx (y m d y' m' d' : Int) (h : vld y m d = true) (h' : vld y' m' d' = true) : Op.bytesLess (tx y m d) (tx y' m' d') = decide (num y m d < num y' m' d') := by
  obtain ⟨a1, a2, a3, a4, a5, a6, a7⟩ := vld_pos y m d h
  obtain ⟨b1, b2, b3, b4, b5, b6, b7⟩ := vld_pos y' m' d' h'
  obtain ⟨hy1, hy2⟩ := bl_txY y y' (by omega) (by omega) (by omega) (by omega)
  obtain ⟨hm1, hm2⟩ := bl_tx2 m m' (by omega) (by omega) (by omega) (by omega)
  obtain ⟨hd1, hd2⟩ := bl_tx2 d d' (by omega) (by omega) (by omega) (by omega)
  have e : Op.bytesLess (tx y m d) (tx y' m' d') = (decide (y < y') || (decide (y = y') && (decide (m < m') || (decide (m = m') && decide (d < d'))))) := by
    unfold tx
    rw [List.append_assoc, List.append_assoc, List.append_assoc, List.append_assoc, List.append_assoc, List.append_assoc, bl_app _ _ (txY y) (txY y') rfl, hy1, hy2, bl_app _ _ [45] [45] rfl, bl_app _ _ (tx2 m) (tx2 m') rfl, hm1, hm2, bl_app _ _ [45] [45] rfl, hd1]
    simp [Op.bytesLess]
  have l := lp_01 y
  have l' := lp_01 y'
  have c := mcum_le (lp y) m (by omega) (by omega) a3 a4
  have c' := mcum_le (lp y') m' (by omega) (by omega) b3 b4
  have c0 := mcum_bd (lp y) m (by omega) (by omega)
  have c0' := mcum_bd (lp y') m' (by omega) (by omega)
  have s := dby_succ y
  have s' := dby_succ y'
  rw [e, Bool.eq_iff_iff]
  simp only [Bool.or_eq_true, Bool.and_eq_true, decide_eq_true_eq]
  unfold num
  rcases Int.lt_trichotomy y y' with q | q | q
  · have := dby_mono (y + 1) y' (by omega); omega
  · subst q
    rcases Int.lt_trichotomy m m' with q | q | q
    · have := mcum_lt (lp y) m m' (by omega) (by omega) a3 q b4; omega
    · subst q; omega
    · have := mcum_lt (lp y) m' m (by omega) (by omega) b3 q a4; omega
  · have := dby_mono (y' + 1) y (by omega); omega
theorem bl_txV (a b : Int) (ha : isD a = true) (hb : isD b = true) : Op.bytesLess (txV a) (txV b) = decide (a < b) := by
  have ca := of_civ a ha
  have cb := of_civ b hb
  unfold txV
  rw [ha, hb]
  simp only [if_true]
  rw [bl_tx _ _ _ _ _ _ ca.1 cb.1, ca.2, cb.2]
end Go.Proofs.Ytaglhkjfbdafjaa.Dt
