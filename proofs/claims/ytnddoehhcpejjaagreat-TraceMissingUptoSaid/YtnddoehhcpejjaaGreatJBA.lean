/- Texts of this claim, put together. -/
import Derived.Test.YtnddoehhcpejjaaGreatJBI
import Derived.Test.YtnddoehhcpejjaaGreatApiZ
import Derived.Test.YtnddoehhcpejjaaGreatJAD
import Derived.Laws.StructEq
/- What lists of sums add up to. No program. -/
namespace Go.Proofs.YtnddoehhcpejjaaGreat
set_option linter.unusedVariables false
set_option linter.unusedSimpArgs false
open Go.RowKit

def sumV (m : List Bal) : Int := sm m Bal.amount
/-- amounts within M in number and size -/
def within (M : Int) (m : List Bal) : Prop := ∀ x ∈ m, -M ≤ x.amount ∧ x.amount ≤ M
theorem wrap_in {n : Int} (h0 : -9223372036854775808 ≤ n) (h1 : n ≤ 9223372036854775807) : wrap64 n = n := IntWalk.wrap64_in n ⟨h0, h1⟩
theorem sumW_eq {M : Int} (m : List Bal) (h : within M m) (h0 : 0 ≤ M) (hl : M * m.length ≤ 4000000000000000000) : sumW m = sumV m := by
  have : ∀ k, k ≤ m.length → sumW (m.take k) = sumV (m.take k) := by
    intro k
    induction k with
    | zero => intro _; rfl
    | succ k ih =>
      intro hk
      have hk' : k < m.length := by omega
      rw [sumW_take m k hk', ih (by omega)]
      have e : sumV (m.take (k + 1)) = sumV (m.take k) + m[k].amount := sm_take m k hk' _
      rw [e]
      have hb := sm_bd (m.take k) Bal.amount M (fun x hx => h x (List.mem_of_mem_take hx))
      have hx := h _ (List.getElem_mem hk')
      rw [List.length_take, Nat.min_eq_left (by omega)] at hb
      have h2 : M * (k : Int) ≤ M * (m.length : Int) := Int.mul_le_mul_of_nonneg_left (by omega) h0
      have h3 : M * 1 ≤ M * (m.length : Int) := Int.mul_le_mul_of_nonneg_left (by omega) h0
      show wrap64 (sumV (m.take k) + m[k].amount) = _
      unfold sumV
      rw [wrap_in (by omega) (by omega)]
  have := this m.length (Nat.le_refl _)
  rwa [List.take_length] at this
theorem ofW_eq' {M : Int} (m : List Bal) (c : Int) (h : within M m) (h0 : 0 ≤ M) (hl : M * m.length ≤ 4000000000000000000) : ofW m c = ofV m c := by
  have : ∀ k, k ≤ m.length → ofW (m.take k) c = ofV (m.take k) c := by
    intro k
    induction k with
    | zero => intro _; rfl
    | succ k ih =>
      intro hk
      have hk' : k < m.length := by omega
      rw [ofW_take m k hk', ih (by omega)]
      have e : ofV (m.take (k + 1)) c = ofV (m.take k) c + if m[k].account = c then m[k].amount else 0 := sm_take m k hk' _
      rw [e]
      have hb := sm_bd (m.take k) (fun x => if x.account = c then x.amount else 0) M (fun x hx => by
        have := h x (List.mem_of_mem_take hx)
        show -M ≤ (if x.account = c then x.amount else 0) ∧ (if x.account = c then x.amount else 0) ≤ M
        split <;> omega)
      have hx := h _ (List.getElem_mem hk')
      rw [List.length_take, Nat.min_eq_left (by omega)] at hb
      have h2 : M * (k : Int) ≤ M * (m.length : Int) := Int.mul_le_mul_of_nonneg_left (by omega) h0
      have h3 : M * 1 ≤ M * (m.length : Int) := Int.mul_le_mul_of_nonneg_left (by omega) h0
      by_cases hc : m[k].account = c
      · rw [if_pos hc, if_pos hc]
        unfold ofV
        rw [wrap_in (by omega) (by omega)]
      · rw [if_neg hc, if_neg hc]; omega
  have := this m.length (Nat.le_refl _)
  rwa [List.take_length] at this
/-- each once -/
def dd : List Int → List Int
  | [] => []
  | a :: l => if a ∈ dd l then dd l else a :: dd l
theorem dd_mem (l : List Int) (c : Int) : c ∈ dd l ↔ c ∈ l := by
  induction l with
  | nil => simp [dd]
  | cons a l ih =>
    unfold dd
    by_cases h : a ∈ dd l
    · rw [if_pos h, ih, List.mem_cons]
      constructor
      · exact .inr
      · rintro (rfl | h2)
        · exact ih.1 h
        · exact h2
    · rw [if_neg h, List.mem_cons, ih, List.mem_cons]
theorem dd_nodup (l : List Int) : (dd l).Nodup := by
  induction l with
  | nil => exact List.nodup_nil
  | cons a l ih =>
    unfold dd
    by_cases h : a ∈ dd l
    · rw [if_pos h]; exact ih
    · rw [if_neg h, List.nodup_cons]; exact ⟨h, ih⟩
theorem sm_perm {l m : List Int} (h : l.Perm m) (f : Int → Int) : sm l f = sm m f := by
  induction h with
  | nil => rfl
  | cons a _ ih => rw [sm_cons, sm_cons, ih]
  | swap a b l => rw [sm_cons, sm_cons, sm_cons, sm_cons]; omega
  | trans _ _ h1 h2 => rw [h1, h2]
theorem sm_same {l m : List Int} (hl : l.Nodup) (hm : m.Nodup) (h : ∀ c, c ∈ l ↔ c ∈ m) (f : Int → Int) : sm l f = sm m f := sm_perm ((List.perm_ext_iff_of_nodup hl hm).2 h) f
theorem sm_single {l : List Int} (hl : l.Nodup) {c : Int} (hc : c ∈ l) (g : Int) : sm l (fun a => if c = a then g else 0) = g := by
  have := sm_one (fun a : Int => a) (by simpa using hl) hc (fun _ => g)
  refine Eq.trans (sm_congr fun a _ => ?_) this
  by_cases h : a = c
  · rw [if_pos h, if_pos h.symm]
  · have h' : ¬ c = a := fun e => h e.symm
    rw [if_neg h, if_neg h']
/-- all amounts, by accounts -/
theorem sumV_by (m : List Bal) (D : List Int) (hD : D.Nodup) (h : ∀ x ∈ m, x.account ∈ D) : sumV m = sm D (ofV m) := by
  induction m with
  | nil => unfold sumV; rw [sm_nil, sm_zero]; intro c _; rfl
  | cons x m ih =>
    have e : sm D (ofV (x :: m)) = sm D (fun c => (if x.account = c then x.amount else 0) + ofV m c) := sm_congr fun c _ => sm_cons _ _ _
    rw [e, sm_add, sm_single hD (h x (by simp)), ← ih (fun y hy => h y (by simp [hy]))]
    exact sm_cons _ _ _
theorem sm_drop0 (l : List Int) (f : Int → Int) : sm (l.filter fun c => f c != 0) f = sm l f := by
  rw [sm_filter]
  refine sm_congr fun c _ => ?_
  by_cases h : f c = 0 <;> simp [h]
theorem isC_nodup {f : Int → Int} {L : List Bal} (h : IsC f L) : (L.map Bal.account).Nodup := h.1.imp fun {a b} hab => by omega
theorem isC_sum {f : Int → Int} {L : List Bal} (h : IsC f L) : sumV L = sm (L.map Bal.account) f := by
  unfold sumV
  rw [sm_map]
  exact sm_congr fun x hx => ((h.2 x).1 hx).1.symm
/-- the list of sums adds up to the same -/
theorem clean_sum {m : List Bal} {f : Int → Int} {L : List Bal} (h : IsC f L) (hf : ∀ c, f c = ofV m c) : sumV L = sumV m := by
  have e : f = ofV m := funext hf
  subst e
  rw [isC_sum h, sumV_by m (dd (m.map Bal.account)) (dd_nodup _) (fun x hx => (dd_mem _ _).2 (List.mem_map.2 ⟨x, hx, rfl⟩)), ← sm_drop0 (dd (m.map Bal.account))]
  refine sm_same (isC_nodup h) ((dd_nodup _).filter _) (fun c => ?_) _
  rw [isC_codes h, List.mem_filter, dd_mem]
  constructor
  · intro hc
    refine ⟨?_, by simpa using hc⟩
    by_cases hm : c ∈ m.map Bal.account
    · exact hm
    · exact absurd (sm_zero (fun x hx => if_neg (fun e => hm (List.mem_map.2 ⟨x, hx, e⟩)))) hc
  · intro hc
    simpa using hc.2
/-- a list of sums is its own list of sums -/
theorem clean_again {f : Int → Int} {L : List Bal} (h : IsC f L) (c : Int) : ofV L c = f c := by
  unfold ofV
  by_cases hc : f c = 0
  · rw [hc]
    refine sm_zero fun x hx => ?_
    by_cases e : x.account = c
    · have := (h.2 x).1 hx
      rw [e, hc] at this
      exact absurd this.1.symm this.2
    · rw [if_neg e]
  · have hx : (⟨c, f c⟩ : Bal) ∈ L := (h.2 _).2 ⟨rfl, hc⟩
    exact sm_one Bal.account (isC_nodup h) hx Bal.amount
theorem clean_amount {f : Int → Int} {L : List Bal} (h : IsC f L) (ha : ∀ c, amV (f c) = true) : within 1000000000000 L := by
  intro x hx
  have := amV_is (ha x.account)
  rw [((h.2 x).1 hx).1] at this
  exact this
theorem clean_len {m : List Bal} {L : List Bal} (h : IsC (ofW m) L) : L.length ≤ m.length := by
  have := nodup_len_ (L.map Bal.account) (m.map Bal.account) (isC_nodup h) (fun c hc => by
    have h1 := (isC_codes h c).1 hc
    by_cases hm : c ∈ m.map Bal.account
    · exact hm
    · refine absurd ?_ h1
      unfold ofW
      have : ∀ (l : List Bal) (n : Int), (∀ x ∈ l, x.account ≠ c) → l.foldl (fun n x => if x.account = c then wrap64 (n + x.amount) else n) n = n := by
        intro l
        induction l with
        | nil => intro n _; rfl
        | cons a l ih => intro n hl; rw [List.foldl_cons, if_neg (hl a (by simp)), ih n (fun x hx => hl x (by simp [hx]))]
      exact this m 0 (fun x hx e => hm (List.mem_map.2 ⟨x, hx, e⟩)))
  simpa using this
theorem clean_in {m : List Bal} {L : List Bal} (h : IsC (ofW m) L) {x : Bal} (hx : x ∈ L) : ∃ y ∈ m, y.account = x.account := by
  have h1 := (isC_codes h x.account).1 (List.mem_map.2 ⟨x, hx, rfl⟩)
  by_cases hm : x.account ∈ m.map Bal.account
  · obtain ⟨y, hy, e⟩ := List.mem_map.1 hm
    exact ⟨y, hy, e⟩
  · refine absurd ?_ h1
    unfold ofW
    have : ∀ (l : List Bal) (n : Int), (∀ y ∈ l, y.account ≠ x.account) → l.foldl (fun n y => if y.account = x.account then wrap64 (n + y.amount) else n) n = n := by
      intro l
      induction l with
      | nil => intro n _; rfl
      | cons a l ih => intro n hl; rw [List.foldl_cons, if_neg (hl a (by simp)), ih n (fun y hy => hl y (by simp [hy]))]
    exact this m 0 (fun y hy e => hm (List.mem_map.2 ⟨y, hy, e⟩))
/-- both ways of collecting end alike -/
theorem col_same {f e : Int → Int} {L M : List Bal} {E G : Int} (h1 : (E = 0 ∧ IsC f L ∧ ∀ c, amV (f c) = true) ∨ (E = 2 ∧ L = [] ∧ ∃ c, amV (f c) = false)) (h2 : (G = 0 ∧ IsC e M ∧ ∀ c, amV (e c) = true) ∨ (G = 2 ∧ M = [] ∧ ∃ c, amV (e c) = false)) (h : ∀ c, f c = e c) : E = G ∧ L = M := by
  rcases h1 with ⟨e1, c1, a1⟩ | ⟨e1, l1, c, a1⟩ <;> rcases h2 with ⟨e2, c2, a2⟩ | ⟨e2, l2, d, a2⟩
  · exact ⟨by rw [e1, e2], isC_unique c1 c2 h⟩
  · rw [← h, a1 d] at a2; cases a2
  · rw [h, a2 c] at a1; cases a1
  · exact ⟨by rw [e1, e2], by rw [l1, l2]⟩
/-- sums do not hang on the order -/
theorem ofV_perm {l m : List Bal} (h : l.Perm m) (c : Int) : ofV l c = ofV m c := by
  unfold ofV
  induction h with
  | nil => rfl
  | cons a _ ih => rw [sm_cons, sm_cons, ih]
  | swap a b l => rw [sm_cons, sm_cons, sm_cons, sm_cons]; omega
  | trans _ _ h1 h2 => rw [h1, h2]
/-- amounts of at most 2^50, at most 200 -/
def smallAt (m : List Bal) (j : Nat) : Bool := decide ((m.getD j Bal.zero).amount ≤ 1125899906842624) && decide (-1125899906842624 ≤ (m.getD j Bal.zero).amount)
def smallV (m : List Bal) : Bool := allAt m.length (smallAt m) && decide (m.length ≤ 200)
theorem small_is {m : List Bal} (h : smallV m = true) : within 1125899906842624 m ∧ m.length ≤ 200 := by
  unfold smallV at h
  simp only [Bool.and_eq_true, decide_eq_true_eq] at h
  refine ⟨fun x hx => ?_, h.2⟩
  obtain ⟨j, hj, rfl⟩ := List.mem_iff_getElem.1 hx
  have := allAt_at h.1 hj
  unfold smallAt at this
  rw [Bal.getD_at m j hj] at this
  simp only [Bool.and_eq_true, decide_eq_true_eq] at this
  exact ⟨this.2, this.1⟩
end Go.Proofs.YtnddoehhcpejjaaGreat
/- All items and parts as pairs. No program. -/
namespace Go.Proofs.YtnddoehhcpejjaaGreat
set_option linter.unusedVariables false
set_option linter.unusedSimpArgs false
open Go.RowKit

theorem ofW_snoc (l : List Bal) (x : Bal) : (fun d => if d = x.account then wrap64 (ofW l x.account + x.amount) else ofW l d) = ofW (l ++ [x]) := by
  have h := ofW_put (l ++ [x]) l.length (by simp)
  have e1 : (l ++ [x])[l.length]'(by simp) = x := by simp
  have e2 : (l ++ [x]).take l.length = l := by simp
  have e3 : (l ++ [x]).take (l.length + 1) = l ++ [x] := List.take_of_length_le (by simp)
  rwa [e1, e2, e3] at h
def itBal (i : ItemR) : Bal := ⟨i.account, i.amount⟩
def itBals (I : List ItemR) : List Bal := I.map itBal
def poBals (P : List PostR) : List Bal := P.flatMap fun p => p.parts.l
def allB (I : List ItemR) (P : List PostR) : List Bal := itBals I ++ poBals P
theorem itBals_len (I : List ItemR) : (itBals I).length = I.length := by unfold itBals; rw [List.length_map]
theorem itBals_take (I : List ItemR) (k : Nat) (h : k < I.length) : itBals (I.take (k + 1)) = itBals (I.take k) ++ [itBal I[k]] := by
  unfold itBals
  rw [List.take_succ_eq_append_getElem h, List.map_append]; rfl
theorem poBals_take (P : List PostR) (k : Nat) (h : k < P.length) : poBals (P.take (k + 1)) = poBals (P.take k) ++ P[k].parts.l := by
  unfold poBals
  rw [List.take_succ_eq_append_getElem h, List.flatMap_append]; simp
theorem take_snoc' {α : Type} (l : List α) (k : Nat) (h : k < l.length) : l.take (k + 1) = l.take k ++ [l[k]] := List.take_succ_eq_append_getElem h
theorem poBals_le (P : List PostR) (k : Nat) : (poBals (P.take k)).length ≤ (poBals P).length := by
  unfold poBals
  conv => rhs; rw [← List.take_append_drop k P, List.flatMap_append, List.length_append]
  omega
theorem poBals_len (P : List PostR) (k : Nat) (h : k < P.length) : (poBals (P.take k)).length + P[k].parts.l.length ≤ (poBals P).length := by
  have := poBals_le P (k + 1)
  rw [poBals_take P k h, List.length_append] at this
  exact this
theorem po_mem {P : List PostR} {k : Nat} (h : k < P.length) {x : Bal} (hx : x ∈ P[k].parts.l) : x ∈ poBals P := by
  unfold poBals
  exact List.mem_flatMap.2 ⟨P[k], List.getElem_mem h, hx⟩
end Go.Proofs.YtnddoehhcpejjaaGreat
/- Sums of some of a list. No program. -/
namespace Go.Proofs.YtnddoehhcpejjaaGreat
set_option linter.unusedVariables false
set_option linter.unusedSimpArgs false
open Go.RowKit

def condW (p : Bal → Bool) (m : List Bal) : Int := m.foldl (fun n x => if p x = true then wrap64 (n + x.amount) else n) 0
def condV (p : Bal → Bool) (m : List Bal) : Int := sm m fun x => if p x = true then x.amount else 0
theorem condW_take (p : Bal → Bool) (m : List Bal) (k : Nat) (h : k < m.length) : condW p (m.take (k + 1)) = if p m[k] = true then wrap64 (condW p (m.take k) + m[k].amount) else condW p (m.take k) := by
  unfold condW
  rw [List.take_succ_eq_append_getElem h, List.foldl_append]
  rfl
theorem condW_eq {M : Int} (p : Bal → Bool) (m : List Bal) (h : within M m) (h0 : 0 ≤ M) (hl : M * m.length ≤ 4000000000000000000) : condW p m = condV p m := by
  have : ∀ k, k ≤ m.length → condW p (m.take k) = condV p (m.take k) := by
    intro k
    induction k with
    | zero => intro _; rfl
    | succ k ih =>
      intro hk
      have hk' : k < m.length := by omega
      rw [condW_take p m k hk', ih (by omega)]
      have e : condV p (m.take (k + 1)) = condV p (m.take k) + if p m[k] = true then m[k].amount else 0 := sm_take m k hk' _
      rw [e]
      have hb := sm_bd (m.take k) (fun x => if p x = true then x.amount else 0) M (fun x hx => by
        have := h x (List.mem_of_mem_take hx)
        show -M ≤ (if p x = true then x.amount else 0) ∧ (if p x = true then x.amount else 0) ≤ M
        split <;> omega)
      have hx := h _ (List.getElem_mem hk')
      rw [List.length_take, Nat.min_eq_left (by omega)] at hb
      have h2 : M * (k : Int) ≤ M * (m.length : Int) := Int.mul_le_mul_of_nonneg_left (by omega) h0
      have h3 : M * 1 ≤ M * (m.length : Int) := Int.mul_le_mul_of_nonneg_left (by omega) h0
      by_cases hc : p m[k] = true
      · rw [if_pos hc, if_pos hc]
        unfold condV
        rw [wrap_in (by omega) (by omega)]
      · rw [if_neg hc, if_neg hc]; omega
  have := this m.length (Nat.le_refl _)
  rwa [List.take_length] at this
/-- the accounts of a range -/
def inR (f t : Int) (x : Bal) : Bool := decide (f ≤ x.account) && decide (x.account ≤ t)
def figW (f t : Int) (m : List Bal) : Int := condW (inR f t) m
theorem figW_take (f t : Int) (m : List Bal) (k : Nat) (h : k < m.length) : figW f t (m.take (k + 1)) = if inR f t m[k] = true then wrap64 (figW f t (m.take k) + m[k].amount) else figW f t (m.take k) := condW_take _ m k h
theorem figV_split (m : List Bal) {a b c : Int} (h1 : a ≤ b) (h2 : b ≤ c) : condV (inR a c) m = condV (inR a b) m + condV (inR (b + 1) c) m := by
  unfold condV
  rw [← sm_add]
  refine sm_congr fun x _ => ?_
  unfold inR
  by_cases c1 : a ≤ x.account <;> by_cases c2 : x.account ≤ b <;> by_cases c3 : x.account ≤ c <;> by_cases c4 : b + 1 ≤ x.account <;> simp [c1, c2, c3, c4] <;> omega
theorem figV_all (m : List Bal) (h : ∀ x ∈ m, (Lit.int .i64 x.account).wf = true) : condV (inR (-9223372036854775808) 9223372036854775807) m = sumV m := by
  unfold condV sumV
  refine sm_congr fun x hx => ?_
  have := bounds_i64 (h x hx)
  unfold inR
  simp [this.1, this.2]
end Go.Proofs.YtnddoehhcpejjaaGreat
/- The walk of the reference's Clean. -/
namespace Go.Proofs.YtnddoehhcpejjaaGreat
set_option linter.unusedVariables false
set_option linter.unusedSimpArgs false
open Go.RowKit

end Go.Proofs.YtnddoehhcpejjaaGreat
/- The walks of the reference's Compare, Equal and SameParts. -/
namespace Go.Proofs.YtnddoehhcpejjaaGreat
set_option linter.unusedVariables false
set_option linter.unusedSimpArgs false
open Go.RowKit

instance instDecBal : DecidableEq Bal := fun a b => decidable_of_iff (a.account = b.account ∧ a.amount = b.amount) (by cases a; cases b; simp)
/-- a posting without its parts -/
structure Hd where
  kind : Int
  entity : Int
  other : Int
  rule : Int
  deriving DecidableEq
def firstNZ : List Int → Int
  | [] => 0
  | x :: l => if x = 0 then firstNZ l else x
theorem firstNZ_none (l : List Int) (h : ∀ j (h : j < l.length), l[j] = 0) : firstNZ l = 0 := by
  induction l with
  | nil => rfl
  | cons x l ih =>
    unfold firstNZ
    have h0 := h 0 (by simp)
    rw [if_pos (by simpa using h0)]
    exact ih (fun j hj => h (j + 1) (by simp; omega))
theorem firstNZ_at (l : List Int) (k : Nat) (hk : k < l.length) (h : ∀ j, j < k → l.getD j 0 = 0) (h0 : l[k] ≠ 0) : firstNZ l = l[k] := by
  induction l generalizing k with
  | nil => simp at hk
  | cons x l ih =>
    unfold firstNZ
    cases k with
    | zero => simp at h0 ⊢; exact fun e => absurd e h0
    | succ k =>
      have := h 0 (by omega)
      simp at this
      rw [if_pos this]
      exact ih k (by simpa using hk) (fun j hj => by have := h (j + 1) (by omega); simpa using this) (by simpa using h0)
def cmps (a b : Hd) : List Int := [cmpV a.kind b.kind, cmpV a.entity b.entity, cmpV a.other b.other, cmpV a.rule b.rule]
def cmpH (a b : Hd) : Int := firstNZ (cmps a b)
theorem getD_in_ (l : List Int) (k : Nat) (h : k < l.length) : l.getD k 0 = l[k] := by simp [h]
end Go.Proofs.YtnddoehhcpejjaaGreat
/- The sources of a result; what makes a result consistent. No program. -/
namespace Go.Proofs.YtnddoehhcpejjaaGreat
set_option linter.unusedVariables false
set_option linter.unusedSimpArgs false
open Go.RowKit

instance instDecRef : DecidableEq RefR := fun a b => decidable_of_iff (a.entry = b.entry ∧ a.line = b.line) (by cases a; cases b; simp)
structure SrcR where
  ref : RefR
  posting : Int
  index : Int
  account : Int
  amount : Int
instance inhSrcR : Inhabited SrcR := ⟨⟨default, 0, 0, 0, 0⟩⟩
instance instDecSrc : DecidableEq SrcR := fun a b => decidable_of_iff (a.ref = b.ref ∧ a.posting = b.posting ∧ a.index = b.index ∧ a.account = b.account ∧ a.amount = b.amount) (by cases a; cases b; simp)
def SrcR.cells (x : SrcR) : List Value := [.int .i64 x.ref.entry, .int .i64 x.ref.line, .int .i64 x.posting, .int .i64 x.index, .int .i64 x.account, .int .i64 x.amount]
theorem SrcR.len (x : SrcR) : x.cells.length = 6 := rfl
theorem SrcR.one (x : SrcR) : ∀ u ∈ x.cells, u.oneCell' = true := by
  intro u hu
  simp only [SrcR.cells, List.mem_cons, List.not_mem_nil, or_false] at hu
  rcases hu with rfl | rfl | rfl | rfl | rfl | rfl
  all_goals rfl
theorem SrcR.at_ {w : World} {B : Nat} {A : Option Addr} {l : List SrcR} (h : Rd w B 6 A l.length (cellsOf SrcR.cells l)) {k : Nat} (hk : k < l.length) :
    ∃ b o, A = some ⟨b, o, none⟩ ∧ b < B ∧ w.cell? ⟨b, o + k * 6, none⟩ = some (.int .i64 l[k].ref.entry) ∧ w.cell? ⟨b, o + k * 6 + 1, none⟩ = some (.int .i64 l[k].ref.line) ∧ w.cell? ⟨b, o + k * 6 + 2, none⟩ = some (.int .i64 l[k].posting) ∧ w.cell? ⟨b, o + k * 6 + 3, none⟩ = some (.int .i64 l[k].index) ∧ w.cell? ⟨b, o + k * 6 + 4, none⟩ = some (.int .i64 l[k].account) ∧ w.cell? ⟨b, o + k * 6 + 5, none⟩ = some (.int .i64 l[k].amount) := by
  obtain ⟨b, o, e, hb, hc⟩ := rd_at (f := SrcR.cells) (sz := 6) (fun _ => rfl) h hk
  exact ⟨b, o, e, hb, hc 0 _ rfl, hc 1 _ rfl, hc 2 _ rfl, hc 3 _ rfl, hc 4 _ rfl, hc 5 _ rfl⟩
def SrcR.bal (x : SrcR) : Bal := ⟨x.account, x.amount⟩
def itS (n : Nat) : List ItemR → List SrcR
  | [] => []
  | x :: l => ⟨x.ref, -1, n, x.account, x.amount⟩ :: itS (n + 1) l
def paS (k : Nat) (n : Nat) : List Bal → List SrcR
  | [] => []
  | x :: l => ⟨⟨0, 0⟩, k, n, x.account, x.amount⟩ :: paS k (n + 1) l
def poS (n : Nat) : List PostR → List SrcR
  | [] => []
  | p :: l => paS n 0 p.parts.l ++ poS (n + 1) l
theorem itS_app (l m : List ItemR) : ∀ n, itS n (l ++ m) = itS n l ++ itS (n + l.length) m := by
  induction l with
  | nil => intro n; simp [itS]
  | cons x l ih => intro n; simp only [List.cons_append, itS, ih, List.length_cons]; rw [show n + 1 + l.length = n + (l.length + 1) by omega]
theorem paS_app (k : Nat) (l m : List Bal) : ∀ n, paS k n (l ++ m) = paS k n l ++ paS k (n + l.length) m := by
  induction l with
  | nil => intro n; simp [paS]
  | cons x l ih => intro n; simp only [List.cons_append, paS, ih, List.length_cons]; rw [show n + 1 + l.length = n + (l.length + 1) by omega]
theorem poS_app (l m : List PostR) : ∀ n, poS n (l ++ m) = poS n l ++ poS (n + l.length) m := by
  induction l with
  | nil => intro n; simp [poS]
  | cons x l ih => intro n; simp only [List.cons_append, poS, ih, List.length_cons, List.append_assoc]; rw [show n + 1 + l.length = n + (l.length + 1) by omega]
theorem itS_len (l : List ItemR) : ∀ n, (itS n l).length = l.length := by
  induction l with
  | nil => intro n; rfl
  | cons x l ih => intro n; simp [itS, ih]
theorem paS_len (k : Nat) (l : List Bal) : ∀ n, (paS k n l).length = l.length := by
  induction l with
  | nil => intro n; rfl
  | cons x l ih => intro n; simp [paS, ih]
theorem itS_take (I : List ItemR) (k : Nat) (h : k < I.length) : itS 0 (I.take (k + 1)) = itS 0 (I.take k) ++ [⟨I[k].ref, -1, k, I[k].account, I[k].amount⟩] := by
  rw [List.take_succ_eq_append_getElem h, itS_app]
  simp [itS, Nat.min_eq_left (Nat.le_of_lt h)]
theorem paS_take (n : Nat) (I : List Bal) (k : Nat) (h : k < I.length) : paS n 0 (I.take (k + 1)) = paS n 0 (I.take k) ++ [⟨⟨0, 0⟩, n, k, I[k].account, I[k].amount⟩] := by
  rw [List.take_succ_eq_append_getElem h, paS_app]
  simp [paS, Nat.min_eq_left (Nat.le_of_lt h)]
theorem poS_take (P : List PostR) (k : Nat) (h : k < P.length) : poS 0 (P.take (k + 1)) = poS 0 (P.take k) ++ paS k 0 P[k].parts.l := by
  rw [List.take_succ_eq_append_getElem h, poS_app]
  simp [poS, Nat.min_eq_left (Nat.le_of_lt h)]
def srcs (I : List ItemR) (P : List PostR) : List SrcR := itS 0 I ++ poS 0 P
theorem itS_bal (l : List ItemR) : ∀ n, (itS n l).map SrcR.bal = itBals l := by
  induction l with
  | nil => intro n; rfl
  | cons x l ih => intro n; show _ :: _ = _ :: _; rw [ih]; rfl
theorem paS_bal (k : Nat) (l : List Bal) : ∀ n, (paS k n l).map SrcR.bal = l := by
  induction l with
  | nil => intro n; rfl
  | cons x l ih => intro n; show _ :: _ = _ :: _; rw [ih]; rfl
theorem poS_bal (l : List PostR) : ∀ n, (poS n l).map SrcR.bal = poBals l := by
  induction l with
  | nil => intro n; rfl
  | cons x l ih => intro n; simp only [poS, List.map_append, paS_bal, ih]; simp [poBals]
theorem srcs_bal (I : List ItemR) (P : List PostR) : (srcs I P).map SrcR.bal = allB I P := by unfold srcs allB; rw [List.map_append, itS_bal, poS_bal]
theorem srcs_len (I : List ItemR) (P : List PostR) : (srcs I P).length = (allB I P).length := by rw [← srcs_bal, List.length_map]
def inS (f t : Int) (s : SrcR) : Bool := decide (f ≤ s.account) && decide (s.account ≤ t)
theorem inS_yes {f t : Int} {s : SrcR} (h1 : f ≤ s.account) (h2 : s.account ≤ t) : inS f t s = true := by unfold inS; simp [h1, h2]
theorem inS_no1 {f t : Int} {s : SrcR} (h1 : ¬ f ≤ s.account) : inS f t s = false := by unfold inS; simp [h1]
theorem inS_no2 {f t : Int} {s : SrcR} (h1 : ¬ s.account ≤ t) : inS f t s = false := by unfold inS; simp [h1]
/-- the sources of a range -/
def pick (f t : Int) (l : List SrcR) : List SrcR := l.filter (inS f t)
theorem pick_yes {f t : Int} (l : List SrcR) {s : SrcR} (h : inS f t s = true) : pick f t (l ++ [s]) = pick f t l ++ [s] := by unfold pick; simp [h]
theorem pick_no {f t : Int} (l : List SrcR) {s : SrcR} (h : inS f t s = false) : pick f t (l ++ [s]) = pick f t l := by unfold pick; simp [h]
theorem pick_le (f t : Int) (l : List SrcR) : (pick f t l).length ≤ l.length := List.length_filter_le _ _
def linesV (f t : Int) (I : List ItemR) (P : List PostR) : List SrcR := pick f t (srcs I P)
theorem lines_len (f t : Int) (I : List ItemR) (P : List PostR) : (linesV f t I P).length ≤ (allB I P).length := by
  have := pick_le f t (srcs I P)
  rw [srcs_len] at this
  exact this
theorem lines_sum (f t : Int) (I : List ItemR) (P : List PostR) : sumV ((linesV f t I P).map SrcR.bal) = condV (inR f t) (allB I P) := by
  unfold sumV condV linesV pick
  rw [← srcs_bal, sm_map, sm_map, sm_filter]
  rfl
theorem lines_within {M : Int} {f t : Int} {I : List ItemR} {P : List PostR} (h : within M (allB I P)) : within M ((linesV f t I P).map SrcR.bal) := by
  intro x hx
  obtain ⟨s, hs, rfl⟩ := List.mem_map.1 hx
  refine h _ ?_
  rw [← srcs_bal]
  exact List.mem_map.2 ⟨s, (List.mem_filter.1 hs).1, rfl⟩
/-- two ranges side by side -/
theorem pick_pick {a b c : Int} (h1 : a ≤ b) (h2 : b ≤ c) (l : List SrcR) : pick a b l = (pick a c l).filter (fun s => decide (s.account ≤ b)) ∧ pick (b + 1) c l = (pick a c l).filter (fun s => !decide (s.account ≤ b)) := by
  unfold pick
  rw [List.filter_filter, List.filter_filter]
  refine ⟨List.filter_congr fun s _ => ?_, List.filter_congr fun s _ => ?_⟩
  all_goals
    unfold inS
    by_cases c1 : a ≤ s.account <;> by_cases c2 : s.account ≤ b <;> by_cases c3 : s.account ≤ c <;> by_cases c4 : b + 1 ≤ s.account <;> simp [c1, c2, c3, c4] <;> omega
theorem filter_at {α : Type} (p : α → Bool) (l : List α) (n : Nat) (hn : n < l.length) (h : p l[n] = true) : ((l.take n).filter p).length < (l.filter p).length ∧ (l.filter p)[((l.take n).filter p).length]? = some l[n] := by
  have e : l.filter p = (l.take n).filter p ++ l[n] :: (l.drop (n + 1)).filter p := by
    conv => lhs; rw [← List.take_append_drop n l, List.filter_append, List.drop_eq_getElem_cons hn, List.filter_cons, if_pos h]
  constructor
  · rw [e]; simp
  · rw [e]; simp
theorem filter_step {α : Type} (p : α → Bool) (l : List α) (n : Nat) (hn : n < l.length) : ((l.take (n + 1)).filter p).length = ((l.take n).filter p).length + if p l[n] = true then 1 else 0 := by
  rw [List.take_succ_eq_append_getElem hn, List.filter_append, List.length_append]
  cases h : p l[n] <;> simp [h]

/-- the order of items -/
def cmpI (x y : ItemR) : Int := firstNZ [cmpV x.entity y.entity, cmpV x.date y.date, cmpV x.ref.entry y.ref.entry, cmpV x.ref.line y.ref.line]
def itemAt (I : List ItemR) (j : Nat) : Bool := (j == 0 || decide (cmpI (I.getD (j - 1) default) (I.getD j default) < 0)) && !((I.take j).map ItemR.ref).contains (I.getD j default).ref
def itemsV (I : List ItemR) : Bool := allAt I.length (itemAt I)
theorem refs_nodup {I : List ItemR} (h : itemsV I = true) : (I.map ItemR.ref).Nodup := by
  rw [List.nodup_iff_pairwise_ne, List.pairwise_iff_getElem]
  intro i j hi hj hij e
  rw [List.length_map] at hi hj
  have := allAt_at h hj
  unfold itemAt at this
  simp only [Bool.and_eq_true, Bool.not_eq_true'] at this
  have h2 := this.2
  rw [List.contains_eq_mem, decide_eq_false_iff_not] at h2
  refine h2 ?_
  rw [show I.getD j default = I[j] by simp [hj]]
  rw [List.getElem_map, List.getElem_map] at e
  rw [← e]
  exact List.mem_map.2 ⟨I[i], by rw [List.mem_take_iff_getElem]; exact ⟨i, by omega, rfl⟩, rfl⟩
theorem items_twice (I : List ItemR) (i : Nat) (hi : i < I.length) : itemsV (I ++ [I[i]]) = false := by
  cases h : itemsV (I ++ [I[i]])
  · rfl
  · have := refs_nodup h
    rw [List.map_append, List.nodup_append] at this
    exact absurd rfl (this.2.2 I[i].ref (List.mem_map.2 ⟨_, List.getElem_mem hi, rfl⟩) I[i].ref (by simp))
/-- the items among all sources: their references differ -/
theorem srcs_refs {I : List ItemR} (P : List PostR) (h : itemsV I = true) : ∀ i k (hi : i < (srcs I P).length) (hk : k < i), ((srcs I P)[i]).posting = -1 → ((srcs I P)[k]'(by omega)).posting = -1 → ((srcs I P)[i]).ref ≠ ((srcs I P)[k]'(by omega)).ref := by
  have hpo : ∀ (l : List Bal) (k n : Nat), ∀ s ∈ paS k n l, s.posting ≠ -1 := by
    intro l k
    induction l with
    | nil => intro n s hs; simp [paS] at hs
    | cons x l ih =>
      intro n s hs
      simp only [paS, List.mem_cons] at hs
      rcases hs with rfl | hs
      · show (k : Int) ≠ -1; omega
      · exact ih _ s hs
  have hpp : ∀ (l : List PostR) (n : Nat), ∀ s ∈ poS n l, s.posting ≠ -1 := by
    intro l
    induction l with
    | nil => intro n s hs; simp [poS] at hs
    | cons x l ih =>
      intro n s hs
      simp only [poS, List.mem_append] at hs
      rcases hs with hs | hs
      · exact hpo _ _ _ s hs
      · exact ih _ s hs
  have hit : ∀ (l : List ItemR) (n : Nat), (itS n l).map SrcR.ref = l.map ItemR.ref := by
    intro l
    induction l with
    | nil => intro n; rfl
    | cons x l ih => intro n; simp [itS, ih]
  have hlt : ∀ j (hj : j < (srcs I P).length), ((srcs I P)[j]).posting = -1 → j < I.length := by
    intro j hj e
    by_cases hc : j < I.length
    · exact hc
    · refine absurd e (hpp P 0 _ ?_)
      unfold srcs at hj ⊢
      rw [List.getElem_append_right (by rw [itS_len]; omega)]
      exact List.getElem_mem _
  intro i k hi hk e1 e2 e
  have h1 := hlt i hi e1
  have h2 := hlt k (by omega) e2
  have hn := refs_nodup h
  rw [← hit I 0, List.nodup_iff_pairwise_ne, List.pairwise_iff_getElem] at hn
  have := hn k i (by rw [List.length_map, itS_len]; omega) (by rw [List.length_map, itS_len]; omega) hk
  refine this ?_
  rw [List.getElem_map, List.getElem_map]
  have g : ∀ j (hj : j < I.length) (hj2 : j < (srcs I P).length), (srcs I P)[j] = (itS 0 I)[j]'(by rw [itS_len]; exact hj) := by
    intro j hj hj2
    exact List.getElem_append_left (bs := poS 0 P) (by rw [itS_len]; exact hj)
  rw [← g i h1 hi, ← g k h2 (by omega)]
  exact e.symm

/-- a result is consistent -/
def CheckOk (I : List ItemR) (P : List PostR) (T : List Bal) : Prop := itemsV I = true ∧ IsC (ofW (allB I P)) T ∧ ∀ c, amV (ofW (allB I P) c) = true
open Classical in
noncomputable def checkV (I : List ItemR) (P : List PostR) (T : List Bal) : Bool := decide (CheckOk I P T)
open Classical in
theorem check_ok {I : List ItemR} {P : List PostR} {T : List Bal} (h : checkV I P T = true) : CheckOk I P T := by unfold checkV at h; exact of_decide_eq_true h
open Classical in
theorem check_yes {I : List ItemR} {P : List PostR} {T : List Bal} (h : CheckOk I P T) : checkV I P T = true := by unfold checkV; exact decide_eq_true h
open Classical in
theorem check_no {I : List ItemR} {P : List PostR} {T : List Bal} (h : ¬ CheckOk I P T) : checkV I P T = false := by unfold checkV; exact decide_eq_false h
theorem isC_same {f g : Int → Int} {T : List Bal} (h1 : IsC f T) (h2 : IsC g T) (c : Int) : f c = g c := by
  by_cases h : f c = 0
  · by_cases h' : g c = 0
    · rw [h, h']
    · have := (h1.2 ⟨c, g c⟩).1 ((h2.2 ⟨c, g c⟩).2 ⟨rfl, h'⟩)
      exact this.1
  · have := (h2.2 ⟨c, f c⟩).1 ((h1.2 ⟨c, f c⟩).2 ⟨rfl, h⟩)
    exact this.1.symm
/-- the amounts of a range in a consistent result -/
theorem check_sum {I : List ItemR} {P : List PostR} {T : List Bal} (h : CheckOk I P T) (hw : within 1125899906842624 (allB I P)) (hl : (allB I P).length ≤ 3000) (f t : Int) : condV (inR f t) (allB I P) = condV (inR f t) T := by
  obtain ⟨_, hC, _⟩ := h
  have hf : ∀ c, ofW (allB I P) c = ofV (allB I P) c := fun c => ofW_eq' _ c hw (by omega) (by omega)
  have key : ∀ m : List Bal, condV (inR f t) m = sumV (m.filter (inR f t)) := by
    intro m
    unfold condV sumV
    rw [sm_filter]
  have hofV : ∀ (m : List Bal) (c : Int), ofV (m.filter (inR f t)) c = if inR f t ⟨c, 0⟩ = true then ofV m c else 0 := by
    intro m c
    unfold ofV
    rw [sm_filter]
    by_cases hc : inR f t ⟨c, 0⟩ = true
    · rw [if_pos hc]
      refine sm_congr fun x _ => ?_
      by_cases e : x.account = c
      · rw [if_pos e, if_pos (by unfold inR at hc ⊢; rw [e]; exact hc)]
      · rw [if_neg e]; split <;> rfl
    · rw [if_neg hc]
      refine sm_zero fun x _ => ?_
      by_cases e : x.account = c
      · rw [if_neg (by unfold inR at hc ⊢; rw [e]; exact hc)]
      · rw [if_neg e]; split <;> rfl
  rw [key, key]
  let g : Int → Int := fun c => if inR f t ⟨c, 0⟩ = true then ofW (allB I P) c else 0
  have hg : IsC g (T.filter (inR f t)) := by
    refine ⟨List.Pairwise.sublist (List.Sublist.map _ List.filter_sublist) hC.1, fun x => ?_⟩
    rw [List.mem_filter, hC.2 x]
    show _ ↔ (if inR f t ⟨x.account, 0⟩ = true then ofW (allB I P) x.account else 0) = x.amount ∧ x.amount ≠ 0
    have e : inR f t x = inR f t ⟨x.account, 0⟩ := rfl
    rw [e]
    by_cases hc : inR f t ⟨x.account, 0⟩ = true
    · rw [if_pos hc]; simp [hc]
    · rw [if_neg hc]
      constructor
      · rintro ⟨_, h⟩; exact absurd h hc
      · rintro ⟨h, h0⟩; exact absurd h.symm h0
  refine (clean_sum hg fun c => ?_).symm
  rw [hofV]
  show (if inR f t ⟨c, 0⟩ = true then ofW (allB I P) c else 0) = _
  rw [hf]
theorem sm_set {α : Type} (l : List α) (y : α) (f : α → Int) : ∀ (i : Nat) (hi : i < l.length), sm (l.set i y) f = sm l f + f y - f l[i] := by
  induction l with
  | nil => intro i hi; simp at hi
  | cons x l ih =>
    intro i hi
    cases i with
    | zero => simp only [List.set_cons_zero, sm_cons, List.getElem_cons_zero]; omega
    | succ i =>
      simp only [List.set_cons_succ, sm_cons, List.getElem_cons_succ]
      rw [ih i (by simpa using hi)]
      omega
/-- other amounts, the same totals: not both consistent -/
theorem check_spoiled {I J : List ItemR} {P Q : List PostR} {T : List Bal} (h : CheckOk I P T) (h2 : CheckOk J Q T) {M N : Int} (hw : within M (allB I P)) (hM : 0 ≤ M) (hl : M * (allB I P).length ≤ 4000000000000000000) (hw2 : within N (allB J Q)) (hN : 0 ≤ N) (hl2 : N * (allB J Q).length ≤ 4000000000000000000) (c : Int) : ofV (allB I P) c = ofV (allB J Q) c := by
  rw [← ofW_eq' _ c hw hM hl, ← ofW_eq' _ c hw2 hN hl2]
  exact isC_same h.2.1 h2.2.1 c
end Go.Proofs.YtnddoehhcpejjaaGreat
