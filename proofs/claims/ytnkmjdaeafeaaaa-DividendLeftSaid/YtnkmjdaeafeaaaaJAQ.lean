/- Texts of this claim, put together. -/
import Derived.Test.YtnkmjdaeafeaaaaJAD
import Derived.Test.YtnkmjdaeafeaaaaJAC
import Derived.Laws.StructEq
import Derived.Test.YtnkmjdaeafeaaaaChartWalksHZ
import Derived.Test.YtnkmjdaeafeaaaaLibRZ
/- What lists of sums add up to. No program. -/
namespace Go.Proofs.Ytnkmjdaeafeaaaa
set_option linter.unusedVariables false
set_option linter.unusedSimpArgs false
open Go.RowKit

def sumV (m : List Bal) : Int := sm m Bal.amount
/-- amounts within M in number and size -/
def within (M : Int) (m : List Bal) : Prop := ∀ x ∈ m, -M ≤ x.amount ∧ x.amount ≤ M
theorem wrap_in {n : Int} (h0 : -9223372036854775808 ≤ n) (h1 : n ≤ 9223372036854775807) : wrap64 n = n := IntWalk.wrap64_in n ⟨h0, h1⟩
theorem sumW_eq {M : Int} (m : List Bal) (h : within M m) (h0 : 0 ≤ M) (hl : M * m.length ≤ 4000000000000000000) : sumW m = sumV m := by
  have : ∀ k, k ≤ m.length → sumW (m.take k) = sumV (m.take k) := by
    intro k
    induction k with
    | zero => intro _; rfl
    | succ k ih =>
      intro hk
      have hk' : k < m.length := by omega
      rw [sumW_take m k hk', ih (by omega)]
      have e : sumV (m.take (k + 1)) = sumV (m.take k) + m[k].amount := sm_take m k hk' _
      rw [e]
      have hb := sm_bd (m.take k) Bal.amount M (fun x hx => h x (List.mem_of_mem_take hx))
      have hx := h _ (List.getElem_mem hk')
      rw [List.length_take, Nat.min_eq_left (by omega)] at hb
      have h2 : M * (k : Int) ≤ M * (m.length : Int) := Int.mul_le_mul_of_nonneg_left (by omega) h0
      have h3 : M * 1 ≤ M * (m.length : Int) := Int.mul_le_mul_of_nonneg_left (by omega) h0
      show wrap64 (sumV (m.take k) + m[k].amount) = _
      unfold sumV
      rw [wrap_in (by omega) (by omega)]
  have := this m.length (Nat.le_refl _)
  rwa [List.take_length] at this
theorem ofW_eq' {M : Int} (m : List Bal) (c : Int) (h : within M m) (h0 : 0 ≤ M) (hl : M * m.length ≤ 4000000000000000000) : ofW m c = ofV m c := by
  have : ∀ k, k ≤ m.length → ofW (m.take k) c = ofV (m.take k) c := by
    intro k
    induction k with
    | zero => intro _; rfl
    | succ k ih =>
      intro hk
      have hk' : k < m.length := by omega
      rw [ofW_take m k hk', ih (by omega)]
      have e : ofV (m.take (k + 1)) c = ofV (m.take k) c + if m[k].account = c then m[k].amount else 0 := sm_take m k hk' _
      rw [e]
      have hb := sm_bd (m.take k) (fun x => if x.account = c then x.amount else 0) M (fun x hx => by
        have := h x (List.mem_of_mem_take hx)
        show -M ≤ (if x.account = c then x.amount else 0) ∧ (if x.account = c then x.amount else 0) ≤ M
        split <;> omega)
      have hx := h _ (List.getElem_mem hk')
      rw [List.length_take, Nat.min_eq_left (by omega)] at hb
      have h2 : M * (k : Int) ≤ M * (m.length : Int) := Int.mul_le_mul_of_nonneg_left (by omega) h0
      have h3 : M * 1 ≤ M * (m.length : Int) := Int.mul_le_mul_of_nonneg_left (by omega) h0
      by_cases hc : m[k].account = c
      · rw [if_pos hc, if_pos hc]
        unfold ofV
        rw [wrap_in (by omega) (by omega)]
      · rw [if_neg hc, if_neg hc]; omega
  have := this m.length (Nat.le_refl _)
  rwa [List.take_length] at this
/-- each once -/
def dd : List Int → List Int
  | [] => []
  | a :: l => if a ∈ dd l then dd l else a :: dd l
theorem dd_mem (l : List Int) (c : Int) : c ∈ dd l ↔ c ∈ l := by
  induction l with
  | nil => simp [dd]
  | cons a l ih =>
    unfold dd
    by_cases h : a ∈ dd l
    · rw [if_pos h, ih, List.mem_cons]
      constructor
      · exact .inr
      · rintro (rfl | h2)
        · exact ih.1 h
        · exact h2
    · rw [if_neg h, List.mem_cons, ih, List.mem_cons]
theorem dd_nodup (l : List Int) : (dd l).Nodup := by
  induction l with
  | nil => exact List.nodup_nil
  | cons a l ih =>
    unfold dd
    by_cases h : a ∈ dd l
    · rw [if_pos h]; exact ih
    · rw [if_neg h, List.nodup_cons]; exact ⟨h, ih⟩
theorem sm_perm {l m : List Int} (h : l.Perm m) (f : Int → Int) : sm l f = sm m f := by
  induction h with
  | nil => rfl
  | cons a _ ih => rw [sm_cons, sm_cons, ih]
  | swap a b l => rw [sm_cons, sm_cons, sm_cons, sm_cons]; omega
  | trans _ _ h1 h2 => rw [h1, h2]
theorem sm_same {l m : List Int} (hl : l.Nodup) (hm : m.Nodup) (h : ∀ c, c ∈ l ↔ c ∈ m) (f : Int → Int) : sm l f = sm m f := sm_perm ((List.perm_ext_iff_of_nodup hl hm).2 h) f
theorem sm_single {l : List Int} (hl : l.Nodup) {c : Int} (hc : c ∈ l) (g : Int) : sm l (fun a => if c = a then g else 0) = g := by
  have := sm_one (fun a : Int => a) (by simpa using hl) hc (fun _ => g)
  refine Eq.trans (sm_congr fun a _ => ?_) this
  by_cases h : a = c
  · rw [if_pos h, if_pos h.symm]
  · have h' : ¬ c = a := fun e => h e.symm
    rw [if_neg h, if_neg h']
/-- all amounts, by accounts -/
theorem sumV_by (m : List Bal) (D : List Int) (hD : D.Nodup) (h : ∀ x ∈ m, x.account ∈ D) : sumV m = sm D (ofV m) := by
  induction m with
  | nil => unfold sumV; rw [sm_nil, sm_zero]; intro c _; rfl
  | cons x m ih =>
    have e : sm D (ofV (x :: m)) = sm D (fun c => (if x.account = c then x.amount else 0) + ofV m c) := sm_congr fun c _ => sm_cons _ _ _
    rw [e, sm_add, sm_single hD (h x (by simp)), ← ih (fun y hy => h y (by simp [hy]))]
    exact sm_cons _ _ _
theorem sm_drop0 (l : List Int) (f : Int → Int) : sm (l.filter fun c => f c != 0) f = sm l f := by
  rw [sm_filter]
  refine sm_congr fun c _ => ?_
  by_cases h : f c = 0 <;> simp [h]
theorem isC_nodup {f : Int → Int} {L : List Bal} (h : IsC f L) : (L.map Bal.account).Nodup := h.1.imp fun {a b} hab => by omega
theorem isC_sum {f : Int → Int} {L : List Bal} (h : IsC f L) : sumV L = sm (L.map Bal.account) f := by
  unfold sumV
  rw [sm_map]
  exact sm_congr fun x hx => ((h.2 x).1 hx).1.symm
/-- the list of sums adds up to the same -/
theorem clean_sum {m : List Bal} {f : Int → Int} {L : List Bal} (h : IsC f L) (hf : ∀ c, f c = ofV m c) : sumV L = sumV m := by
  have e : f = ofV m := funext hf
  subst e
  rw [isC_sum h, sumV_by m (dd (m.map Bal.account)) (dd_nodup _) (fun x hx => (dd_mem _ _).2 (List.mem_map.2 ⟨x, hx, rfl⟩)), ← sm_drop0 (dd (m.map Bal.account))]
  refine sm_same (isC_nodup h) ((dd_nodup _).filter _) (fun c => ?_) _
  rw [isC_codes h, List.mem_filter, dd_mem]
  constructor
  · intro hc
    refine ⟨?_, by simpa using hc⟩
    by_cases hm : c ∈ m.map Bal.account
    · exact hm
    · exact absurd (sm_zero (fun x hx => if_neg (fun e => hm (List.mem_map.2 ⟨x, hx, e⟩)))) hc
  · intro hc
    simpa using hc.2
/-- a list of sums is its own list of sums -/
theorem clean_again {f : Int → Int} {L : List Bal} (h : IsC f L) (c : Int) : ofV L c = f c := by
  unfold ofV
  by_cases hc : f c = 0
  · rw [hc]
    refine sm_zero fun x hx => ?_
    by_cases e : x.account = c
    · have := (h.2 x).1 hx
      rw [e, hc] at this
      exact absurd this.1.symm this.2
    · rw [if_neg e]
  · have hx : (⟨c, f c⟩ : Bal) ∈ L := (h.2 _).2 ⟨rfl, hc⟩
    exact sm_one Bal.account (isC_nodup h) hx Bal.amount
theorem clean_amount {f : Int → Int} {L : List Bal} (h : IsC f L) (ha : ∀ c, amV (f c) = true) : within 1000000000000 L := by
  intro x hx
  have := amV_is (ha x.account)
  rw [((h.2 x).1 hx).1] at this
  exact this
theorem clean_len {m : List Bal} {L : List Bal} (h : IsC (ofW m) L) : L.length ≤ m.length := by
  have := nodup_len_ (L.map Bal.account) (m.map Bal.account) (isC_nodup h) (fun c hc => by
    have h1 := (isC_codes h c).1 hc
    by_cases hm : c ∈ m.map Bal.account
    · exact hm
    · refine absurd ?_ h1
      unfold ofW
      have : ∀ (l : List Bal) (n : Int), (∀ x ∈ l, x.account ≠ c) → l.foldl (fun n x => if x.account = c then wrap64 (n + x.amount) else n) n = n := by
        intro l
        induction l with
        | nil => intro n _; rfl
        | cons a l ih => intro n hl; rw [List.foldl_cons, if_neg (hl a (by simp)), ih n (fun x hx => hl x (by simp [hx]))]
      exact this m 0 (fun x hx e => hm (List.mem_map.2 ⟨x, hx, e⟩)))
  simpa using this
theorem clean_in {m : List Bal} {L : List Bal} (h : IsC (ofW m) L) {x : Bal} (hx : x ∈ L) : ∃ y ∈ m, y.account = x.account := by
  have h1 := (isC_codes h x.account).1 (List.mem_map.2 ⟨x, hx, rfl⟩)
  by_cases hm : x.account ∈ m.map Bal.account
  · obtain ⟨y, hy, e⟩ := List.mem_map.1 hm
    exact ⟨y, hy, e⟩
  · refine absurd ?_ h1
    unfold ofW
    have : ∀ (l : List Bal) (n : Int), (∀ y ∈ l, y.account ≠ x.account) → l.foldl (fun n y => if y.account = x.account then wrap64 (n + y.amount) else n) n = n := by
      intro l
      induction l with
      | nil => intro n _; rfl
      | cons a l ih => intro n hl; rw [List.foldl_cons, if_neg (hl a (by simp)), ih n (fun y hy => hl y (by simp [hy]))]
    exact this m 0 (fun y hy e => hm (List.mem_map.2 ⟨y, hy, e⟩))
/-- both ways of collecting end alike -/
theorem col_same {f e : Int → Int} {L M : List Bal} {E G : Int} (h1 : (E = 0 ∧ IsC f L ∧ ∀ c, amV (f c) = true) ∨ (E = 2 ∧ L = [] ∧ ∃ c, amV (f c) = false)) (h2 : (G = 0 ∧ IsC e M ∧ ∀ c, amV (e c) = true) ∨ (G = 2 ∧ M = [] ∧ ∃ c, amV (e c) = false)) (h : ∀ c, f c = e c) : E = G ∧ L = M := by
  rcases h1 with ⟨e1, c1, a1⟩ | ⟨e1, l1, c, a1⟩ <;> rcases h2 with ⟨e2, c2, a2⟩ | ⟨e2, l2, d, a2⟩
  · exact ⟨by rw [e1, e2], isC_unique c1 c2 h⟩
  · rw [← h, a1 d] at a2; cases a2
  · rw [h, a2 c] at a1; cases a1
  · exact ⟨by rw [e1, e2], by rw [l1, l2]⟩
/-- sums do not hang on the order -/
theorem ofV_perm {l m : List Bal} (h : l.Perm m) (c : Int) : ofV l c = ofV m c := by
  unfold ofV
  induction h with
  | nil => rfl
  | cons a _ ih => rw [sm_cons, sm_cons, ih]
  | swap a b l => rw [sm_cons, sm_cons, sm_cons, sm_cons]; omega
  | trans _ _ h1 h2 => rw [h1, h2]
/-- amounts of at most 2^50, at most 200 -/
def smallAt (m : List Bal) (j : Nat) : Bool := decide ((m.getD j Bal.zero).amount ≤ 1125899906842624) && decide (-1125899906842624 ≤ (m.getD j Bal.zero).amount)
def smallV (m : List Bal) : Bool := allAt m.length (smallAt m) && decide (m.length ≤ 200)
theorem small_is {m : List Bal} (h : smallV m = true) : within 1125899906842624 m ∧ m.length ≤ 200 := by
  unfold smallV at h
  simp only [Bool.and_eq_true, decide_eq_true_eq] at h
  refine ⟨fun x hx => ?_, h.2⟩
  obtain ⟨j, hj, rfl⟩ := List.mem_iff_getElem.1 hx
  have := allAt_at h.1 hj
  unfold smallAt at this
  rw [Bal.getD_at m j hj] at this
  simp only [Bool.and_eq_true, decide_eq_true_eq] at this
  exact ⟨this.2, this.1⟩
end Go.Proofs.Ytnkmjdaeafeaaaa
/- The walks of the reference's Compare, Equal and SameParts. -/
namespace Go.Proofs.Ytnkmjdaeafeaaaa
set_option linter.unusedVariables false
set_option linter.unusedSimpArgs false
open Go.RowKit

instance instDecBal : DecidableEq Bal := fun a b => decidable_of_iff (a.account = b.account ∧ a.amount = b.amount) (by cases a; cases b; simp)
/-- a posting without its parts -/
structure Hd where
  kind : Int
  entity : Int
  other : Int
  rule : Int
  deriving DecidableEq
def firstNZ : List Int → Int
  | [] => 0
  | x :: l => if x = 0 then firstNZ l else x
theorem firstNZ_none (l : List Int) (h : ∀ j (h : j < l.length), l[j] = 0) : firstNZ l = 0 := by
  induction l with
  | nil => rfl
  | cons x l ih =>
    unfold firstNZ
    have h0 := h 0 (by simp)
    rw [if_pos (by simpa using h0)]
    exact ih (fun j hj => h (j + 1) (by simp; omega))
theorem firstNZ_at (l : List Int) (k : Nat) (hk : k < l.length) (h : ∀ j, j < k → l.getD j 0 = 0) (h0 : l[k] ≠ 0) : firstNZ l = l[k] := by
  induction l generalizing k with
  | nil => simp at hk
  | cons x l ih =>
    unfold firstNZ
    cases k with
    | zero => simp at h0 ⊢; exact fun e => absurd e h0
    | succ k =>
      have := h 0 (by omega)
      simp at this
      rw [if_pos this]
      exact ih k (by simpa using hk) (fun j hj => by have := h (j + 1) (by omega); simpa using this) (by simpa using h0)
def cmps (a b : Hd) : List Int := [cmpV a.kind b.kind, cmpV a.entity b.entity, cmpV a.other b.other, cmpV a.rule b.rule]
def cmpH (a b : Hd) : Int := firstNZ (cmps a b)
theorem order_any (a b : Int) (w : World) : Calls Try.prog 165 #[.int .i64 a, .int .i64 b] w (fun e w' => e = .returned (.int .i64 (cmpV a b)) ∧ w = w') := by
  by_cases h1 : a < b
  · have HE : Hid (cmpV a b = -1) := Lib.hid (by unfold cmpV; rw [if_pos h1])
    go_enter Try.func165, Try.ntmps165
    go_wp2_with fail
    go_ret
    exact ⟨ret_int HE.out.symm, rfl⟩
  by_cases h2 : b < a
  · have HE : Hid (cmpV a b = 1) := Lib.hid (by unfold cmpV; rw [if_neg h1, if_pos h2])
    go_enter Try.func165, Try.ntmps165
    go_wp2_with fail
    go_ret
    exact ⟨ret_int HE.out.symm, rfl⟩
  · have HE : Hid (cmpV a b = 0) := Lib.hid (by unfold cmpV; rw [if_neg h1, if_neg h2])
    go_enter Try.func165, Try.ntmps165
    go_wp2_with fail
    go_ret
    exact ⟨ret_int HE.out.symm, rfl⟩
theorem getD_in_ (l : List Int) (k : Nat) (h : k < l.length) : l.getD k 0 = l[k] := by simp [h]
theorem idx4 (x1 x2 x3 x4 : Int) (k : Nat) (hk : k < 4) (w : World) : (Instr.index 228 (.agg #[.int .i64 x1, .int .i64 x2, .int .i64 x3, .int .i64 x4]) (.int .i64 k)).run Try.prog w = .ok (.int .i64 ([x1, x2, x3, x4].getD k 0)) w := by
  obtain ⟨i0, hi, hz0, hz1, hz2⟩ := info_parts int_info
  refine run_index_agg1 Try.underlying228 Try.underlying3 hi hz1 _ _ _ (by omega) (by omega) ?_ w
  have : k = 0 ∨ k = 1 ∨ k = 2 ∨ k = 3 := by omega
  rcases this with rfl | rfl | rfl | rfl
  all_goals rfl
set_option maxRecDepth 100000 in
set_option maxHeartbeats 1000000 in
theorem rcompare_any (a b : Hd) (v u : Value) (w : World) :
    Calls Try.prog 139 #[.agg #[.int .i64 a.kind, .int .i64 a.entity, .int .i64 a.other, .int .i64 a.rule, v], .agg #[.int .i64 b.kind, .int .i64 b.entity, .int .i64 b.other, .int .i64 b.rule, u]] w
      (fun e w' => e = .returned (.int .i64 (cmpH a b)) ∧ Below w.heap.size w w') := by
  have hb := Below.refl w.heap.size w
  obtain ⟨a1, a2, a3, a4⟩ := a
  obtain ⟨b1, b2, b3, b4⟩ := b
  dsimp only
  have HC : Hid (cmps ⟨a1, a2, a3, a4⟩ ⟨b1, b2, b3, b4⟩ = [cmpV a1 b1, cmpV a2 b2, cmpV a3 b3, cmpV a4 b4]) := Lib.hid rfl
  obtain ⟨i0, hi, hz0, hz1, hz2⟩ := info_parts int_info
  have hbx : Below w.heap.size w ((w.alloc (.cells #[.int .i64 a1, .int .i64 a2, .int .i64 a3, .int .i64 a4, v] 55)).alloc (.cells #[.int .i64 b1, .int .i64 b2, .int .i64 b3, .int .i64 b4, u] 55)) := (by repeat (first | exact hb | refine Below.alloc ?_ (by have hbs := hb.size; first | omega | (simp; done) | (simp; omega)) _ | refine Below.drew ?_ | refine below_drewN_ ?_ _ | refine Below.setCell ?_ (by simp) _))
  have hA := (Blk.new w 55 #[.int .i64 a1, .int .i64 a2, .int .i64 a3, .int .i64 a4, v]).alloc (.cells #[.int .i64 b1, .int .i64 b2, .int .i64 b3, .int .i64 b4, u] 55)
  have hB := Blk.new (w.alloc (.cells #[.int .i64 a1, .int .i64 a2, .int .i64 a3, .int .i64 a4, v] 55)) 55 #[.int .i64 b1, .int .i64 b2, .int .i64 b3, .int .i64 b4, u]
  have e1 : (w.alloc (.cells #[.int .i64 a1, .int .i64 a2, .int .i64 a3, .int .i64 a4, v] 55)).heap.size = w.heap.size + 1 := by simp
  rw [e1] at hB
  obtain ⟨W, hW⟩ : ∃ W, W = ((w.alloc (.cells #[.int .i64 a1, .int .i64 a2, .int .i64 a3, .int .i64 a4, v] 55)).alloc (.cells #[.int .i64 b1, .int .i64 b2, .int .i64 b3, .int .i64 b4, u] 55)) := ⟨_, rfl⟩
  have HW := Lib.hid hW
  rw [← hW] at hA hB hbx
  clear hW
  have hla := hA.lt
  have hlb := hB.lt
  have p0 : ∀ d : Later W, d.now.cell? ⟨w.heap.size, 0, none⟩ = some (.int .i64 a1) := fun d => d.cell hla (hA.cell 0)
  have p1 : ∀ d : Later W, d.now.cell? ⟨w.heap.size, 1, none⟩ = some (.int .i64 a2) := fun d => d.cell hla (hA.cell 1)
  have p2 : ∀ d : Later W, d.now.cell? ⟨w.heap.size, 2, none⟩ = some (.int .i64 a3) := fun d => d.cell hla (hA.cell 2)
  have p3 : ∀ d : Later W, d.now.cell? ⟨w.heap.size, 3, none⟩ = some (.int .i64 a4) := fun d => d.cell hla (hA.cell 3)
  have q0 : ∀ d : Later W, d.now.cell? ⟨w.heap.size + 1, 0, none⟩ = some (.int .i64 b1) := fun d => d.cell hlb (hB.cell 0)
  have q1 : ∀ d : Later W, d.now.cell? ⟨w.heap.size + 1, 1, none⟩ = some (.int .i64 b2) := fun d => d.cell hlb (hB.cell 1)
  have q2 : ∀ d : Later W, d.now.cell? ⟨w.heap.size + 1, 2, none⟩ = some (.int .i64 b3) := fun d => d.cell hlb (hB.cell 2)
  have q3 : ∀ d : Later W, d.now.cell? ⟨w.heap.size + 1, 3, none⟩ = some (.int .i64 b4) := fun d => d.cell hlb (hB.cell 3)
  clear hA hB hb hla hlb
  go_enter Try.func139, Try.ntmps139
  go_wp2_with fail
  rw [← HW.out]
  refine wp_region_later (by kernel_rfl) (by kernel_rfl) ?_; (repeat (go_big_quiet_step (((go_at_call 165; exact Later.same _ (order_any _ _ _)))))); refine wpQuiet_nil ?_; rintro _ ⟨dq, rfl⟩
  have hbe := bel hbx dq.below
  clear hbx p0 p1 p2 p3 q0 q1 q2 q3
  generalize dq.now = wd at hbe ⊢
  go_wp2_with fail
  go_loopw [6, 28] (fun _ t wr => ∃ k : Nat, k ≤ 4 ∧ (∀ j, j < k → [cmpV a1 b1, cmpV a2 b2, cmpV a3 b3, cmpV a4 b4].getD j 0 = 0) ∧ t = .int .i64 k ∧ Below w.heap.size w wr) (fun _ t _ => 4 - (intOf t).toNat)
  case atStart => exact ⟨0, by omega, fun j h => by omega, rfl, hbe⟩
  case round =>
    clear hbe
    obtain ⟨k, hk, hno, rfl, hb⟩ := hrel
    have HN := Lib.hid hno
    clear hno
    by_cases hlt : k < 4
    · have hix := fun W => idx4 (cmpV a1 b1) (cmpV a2 b2) (cmpV a3 b3) (cmpV a4 b4) k hlt W
      obtain ⟨c, hc⟩ : ∃ c, c = [cmpV a1 b1, cmpV a2 b2, cmpV a3 b3, cmpV a4 b4].getD k 0 := ⟨_, rfl⟩
      rw [← hc] at hix
      have HX := Lib.hid hc
      clear hc
      by_cases h0 : c = 0
      · have hd : (c != 0) = false := by simp [h0]
        have H0 := Lib.hid h0
        clear h0
        go_wp2_with fail
        go_roundw
        case rel => exact ⟨k + 1, by omega, upto_succ HN.out (by rw [← HX.out]; exact H0.out), by go_num, hb⟩
        case measure => simp [intOf]; omega
      · have hd : (c != 0) = true := by simp [h0]
        have H0 := Lib.hid h0
        clear h0
        go_wp2_with fail
        go_ret
        refine ⟨ret_int ?_, hb⟩
        have hx := HX.out
        rw [getD_in_ _ _ (by simpa using hlt)] at hx
        unfold cmpH
        rw [HC.out, firstNZ_at _ k (by simpa using hlt) HN.out (by rw [← hx]; exact H0.out), hx]
    · have HE : Hid (cmpH ⟨a1, a2, a3, a4⟩ ⟨b1, b2, b3, b4⟩ = 0) := Lib.hid (by
        unfold cmpH
        rw [HC.out]
        refine firstNZ_none _ fun j hj => ?_
        have := HN.out j (by simp at hj; omega)
        rwa [getD_in_ _ _ hj] at this)
      go_wp2_with fail
      go_ret
      exact ⟨ret_int HE.out.symm, hb⟩
set_option maxRecDepth 100000 in
set_option maxHeartbeats 1000000 in
theorem requal_any (a b : Hd) (m n : List Bal) (A B : Option Addr) (c1 c2 : Nat) (w : World) (hr : Rd w w.heap.size 2 A m.length (cellsOf Bal.cells m)) (hq : Rd w w.heap.size 2 B n.length (cellsOf Bal.cells n)) (hn : m.length ≤ 1000000) (hn2 : n.length ≤ 1000000) :
    Calls Try.prog 112 #[.agg #[.int .i64 a.kind, .int .i64 a.entity, .int .i64 a.other, .int .i64 a.rule, .slice A m.length c1], .agg #[.int .i64 b.kind, .int .i64 b.entity, .int .i64 b.other, .int .i64 b.rule, .slice B n.length c2]] w
      (BoolPost (decide (cmpH a b = 0 ∧ m = n)) w) := by
  have hb := Below.refl w.heap.size w
  have HR := Lib.hid hr
  have HQ := Lib.hid hq
  clear hr hq
  have hbx : Below w.heap.size w ((w.alloc (.cells #[.int .i64 a.kind, .int .i64 a.entity, .int .i64 a.other, .int .i64 a.rule, .slice A m.length c1] 55)).alloc (.cells #[.int .i64 b.kind, .int .i64 b.entity, .int .i64 b.other, .int .i64 b.rule, .slice B n.length c2] 55)) := (by repeat (first | exact hb | refine Below.alloc ?_ (by have hbs := hb.size; first | omega | (simp; done) | (simp; omega)) _ | refine Below.drew ?_ | refine below_drewN_ ?_ _ | refine Below.setCell ?_ (by simp) _))
  have hA := (Blk.new w 55 #[.int .i64 a.kind, .int .i64 a.entity, .int .i64 a.other, .int .i64 a.rule, .slice A m.length c1]).alloc (.cells #[.int .i64 b.kind, .int .i64 b.entity, .int .i64 b.other, .int .i64 b.rule, .slice B n.length c2] 55)
  have hB := Blk.new (w.alloc (.cells #[.int .i64 a.kind, .int .i64 a.entity, .int .i64 a.other, .int .i64 a.rule, .slice A m.length c1] 55)) 55 #[.int .i64 b.kind, .int .i64 b.entity, .int .i64 b.other, .int .i64 b.rule, .slice B n.length c2]
  have e1 : (w.alloc (.cells #[.int .i64 a.kind, .int .i64 a.entity, .int .i64 a.other, .int .i64 a.rule, .slice A m.length c1] 55)).heap.size = w.heap.size + 1 := by simp
  rw [e1] at hB
  clear e1
  obtain ⟨W, hW⟩ : ∃ W, W = ((w.alloc (.cells #[.int .i64 a.kind, .int .i64 a.entity, .int .i64 a.other, .int .i64 a.rule, .slice A m.length c1] 55)).alloc (.cells #[.int .i64 b.kind, .int .i64 b.entity, .int .i64 b.other, .int .i64 b.rule, .slice B n.length c2] 55)) := ⟨_, rfl⟩
  have HW := Lib.hid hW
  rw [← hW] at hA hB hbx
  clear hW
  have HA := Lib.hid hA
  have HB := Lib.hid hB
  have hla := hA.lt
  have hlb := hB.lt
  have f0 : W.cell? ⟨w.heap.size, 0, none⟩ = some (.int .i64 a.kind) := hA.cell 0
  have f1 : W.cell? ⟨w.heap.size, 1, none⟩ = some (.int .i64 a.entity) := hA.cell 1
  have f2 : W.cell? ⟨w.heap.size, 2, none⟩ = some (.int .i64 a.other) := hA.cell 2
  have f3 : W.cell? ⟨w.heap.size, 3, none⟩ = some (.int .i64 a.rule) := hA.cell 3
  have f4 : W.cell? ⟨w.heap.size, 4, none⟩ = some (.slice A m.length c1) := hA.cell 4
  have g0 : W.cell? ⟨w.heap.size + 1, 0, none⟩ = some (.int .i64 b.kind) := hB.cell 0
  have g1 : W.cell? ⟨w.heap.size + 1, 1, none⟩ = some (.int .i64 b.entity) := hB.cell 1
  have g2 : W.cell? ⟨w.heap.size + 1, 2, none⟩ = some (.int .i64 b.other) := hB.cell 2
  have g3 : W.cell? ⟨w.heap.size + 1, 3, none⟩ = some (.int .i64 b.rule) := hB.cell 3
  have g4 : W.cell? ⟨w.heap.size + 1, 4, none⟩ = some (.slice B n.length c2) := hB.cell 4
  clear hA hB hb
  cases h0 : (cmpH a b != 0)
  · have H0 : Hid (cmpH a b = 0) := Lib.hid (by simpa using h0)
    cases hl : ((m.length : Int) != (n.length : Int))
    · have HL : Hid (m.length = n.length) := Lib.hid (by simp at hl; omega)
      go_enter Try.func112, Try.ntmps112
      go_wp2_with fail
      rw [← HW.out]
      go_wp2_with (go_at_call 139; refine (rcompare_any a b _ _ _).mono ?_; rintro e w2 ⟨rfl, hb2⟩; have k4 : w2.cell? ⟨w.heap.size, 4, none⟩ = some (.slice A m.length c1) := ((HA.out.below hb2 hla).cell 4); have l4 : w2.cell? ⟨w.heap.size + 1, 4, none⟩ = some (.slice B n.length c2) := ((HB.out.below hb2 hlb).cell 4))
      go_loopw [5] (fun t wr => ∃ k : Nat, k ≤ m.length ∧ (∀ j (h : j < k) (h1 : j < m.length) (h2 : j < n.length), m[j]'h1 = n[j]'h2) ∧ t = .int .i64 k ∧ Below W.heap.size W wr) (fun t _ => m.length - (intOf t).toNat)
      case atStart => exact ⟨0, by omega, fun j h => by omega, rfl, hb2⟩
      case round =>
        clear hb2 k4 l4
        obtain ⟨k, hk, hno, rfl, hb⟩ := hrel
        have HN := Lib.hid hno
        clear hno
        have hz := hb.size
        have k4 : wr.cell? ⟨w.heap.size, 4, none⟩ = some (.slice A m.length c1) := ((HA.out.below hb hla).cell 4)
        have l4 : wr.cell? ⟨w.heap.size + 1, 4, none⟩ = some (.slice B n.length c2) := ((HB.out.below hb hlb).cell 4)
        have hbw := bel hbx hb
        by_cases hlt : k < m.length
        · have hlt2 : k < n.length := by have := HL.out; omega
          obtain ⟨x, o, hA, hbo, f0, f1⟩ := Bal.at_ (Rd.now HR.out hbw) hlt
          obtain ⟨y, p, hB, hbp, g0, g1⟩ := Bal.at_ (Rd.now HQ.out hbw) hlt2
          subst hA hB
          have q0 : ∀ d : Later wr, d.now.cell? ⟨x, o + k * 2, none⟩ = some (.int .i64 m[k].account) := fun d => d.cell hbo f0
          have q1 : ∀ d : Later wr, d.now.cell? ⟨x, o + k * 2 + 1, none⟩ = some (.int .i64 m[k].amount) := fun d => d.cell hbo f1
          have q2 : ∀ d : Later wr, d.now.cell? ⟨y, p + k * 2, none⟩ = some (.int .i64 n[k].account) := fun d => d.cell hbp g0
          have q3 : ∀ d : Later wr, d.now.cell? ⟨y, p + k * 2 + 1, none⟩ = some (.int .i64 n[k].amount) := fun d => d.cell hbp g1
          have q4 : ∀ d : Later wr, d.now.cell? ⟨w.heap.size, 4, none⟩ = some (.slice (some ⟨x, o, none⟩) m.length c1) := fun d => d.cell (by omega) k4
          have q5 : ∀ d : Later wr, d.now.cell? ⟨w.heap.size + 1, 4, none⟩ = some (.slice (some ⟨y, p, none⟩) n.length c2) := fun d => d.cell (by omega) l4
          clear f0 f1 g0 g1
          have hcase : m[k] = n[k] ∨ ((m[k].account == n[k].account) = false ∧ m[k] ≠ n[k]) ∨ ((m[k].account == n[k].account) = true ∧ (m[k].amount == n[k].amount) = false ∧ m[k] ≠ n[k]) := by
            by_cases h1 : m[k].account = n[k].account
            · by_cases h2 : m[k].amount = n[k].amount
              · refine .inl ?_
                generalize m[k] = s at h1 h2 ⊢
                generalize n[k] = t at h1 h2 ⊢
                cases s; cases t; simp at h1 h2 ⊢; exact ⟨h1, h2⟩
              · exact .inr (.inr ⟨by simpa using h1, by simpa using h2, fun e => h2 (by rw [e])⟩)
            · exact .inr (.inl ⟨by simpa using h1, fun e => h1 (by rw [e])⟩)
          rcases hcase with hc | ⟨hc1, hc2⟩ | ⟨hc1, hc2, hc3⟩
          · have HC := Lib.hid hc
            rw [hc] at q0 q1
            clear hc
            go_wp2_with fail
            refine wp_region_later (by kernel_rfl) (by kernel_rfl) ?_; (repeat (go_big_quiet_step ((fail)))); refine wpQuiet_nil ?_; rintro _ ⟨dq, rfl⟩
            have hbe := bel hb dq.below
            go_wp2_with fail
            go_roundw
            case rel =>
              refine ⟨k + 1, by omega, fun j h h1 h2 => ?_, by go_num, hbe⟩
              by_cases hj : j = k
              · subst hj; exact HC.out
              · exact HN.out j (by omega) h1 h2
            case measure => simp [intOf]; omega
          · have HE : Hid (¬ m = n) := Lib.hid (fun e => hc2 (by subst e; rfl))
            clear hc2
            go_wp2_with fail
            refine wp_region_later (by kernel_rfl) (by kernel_rfl) ?_; (repeat (go_big_quiet_step ((fail)))); refine wpQuiet_nil ?_; rintro _ ⟨dq, rfl⟩
            have hbe := bel hbw dq.below
            go_wp2_with fail
            go_ret
            exact ⟨ret_bool (by simp [HE.out]), hbe⟩
          · have HE : Hid (¬ m = n) := Lib.hid (fun e => hc3 (by subst e; rfl))
            clear hc3
            go_wp2_with fail
            refine wp_region_later (by kernel_rfl) (by kernel_rfl) ?_; (repeat (go_big_quiet_step ((fail)))); refine wpQuiet_nil ?_; rintro _ ⟨dq, rfl⟩
            have hbe := bel hbw dq.below
            go_wp2_with fail
            go_ret
            exact ⟨ret_bool (by simp [HE.out]), hbe⟩
        · have HE : Hid (m = n) := Lib.hid (List.ext_getElem HL.out (fun j h1 h2 => HN.out j (by omega) h1 h2))
          go_wp2_with fail
          go_ret
          exact ⟨ret_bool (by simp [HE.out, H0.out]), hbw⟩
    · have HE : Hid (¬ m = n) := Lib.hid (fun e => by subst e; simp at hl)
      go_enter Try.func112, Try.ntmps112
      go_wp2_with fail
      rw [← HW.out]
      go_wp2_with (go_at_call 139; refine (rcompare_any a b _ _ _).mono ?_; rintro e w2 ⟨rfl, hb2⟩; have k4 : w2.cell? ⟨w.heap.size, 4, none⟩ = some (.slice A m.length c1) := ((HA.out.below hb2 hla).cell 4); have l4 : w2.cell? ⟨w.heap.size + 1, 4, none⟩ = some (.slice B n.length c2) := ((HB.out.below hb2 hlb).cell 4))
      go_ret
      exact ⟨ret_bool (by simp [HE.out]), bel hbx hb2⟩
  · have H0 : Hid (¬ cmpH a b = 0) := Lib.hid (by simpa using h0)
    go_enter Try.func112, Try.ntmps112
    go_wp2_with fail
    rw [← HW.out]
    go_wp2_with (go_at_call 139; refine (rcompare_any a b _ _ _).mono ?_; rintro e w2 ⟨rfl, hb2⟩)
    go_ret
    exact ⟨ret_bool (by simp [H0.out]), bel hbx hb2⟩
end Go.Proofs.Ytnkmjdaeafeaaaa
/- The walks of SameParts, small and awake. -/
namespace Go.Proofs.Ytnkmjdaeafeaaaa
set_option linter.unusedVariables false
set_option linter.unusedSimpArgs false
open Go.RowKit

theorem sameparts_any (m n : List Bal) (A B : Option Addr) (c1 c2 : Nat) (w : World) (hr : Rd w w.heap.size 2 A m.length (cellsOf Bal.cells m)) (hq : Rd w w.heap.size 2 B n.length (cellsOf Bal.cells n)) (hn : m.length ≤ 1000000) (hn2 : n.length ≤ 1000000) :
    Calls Try.prog 62 #[.slice A m.length c1, .slice B n.length c2] w (BoolPost (decide (m = n)) w) := by
  have H0 : Hid (cmpH ⟨0, 0, 0, 0⟩ ⟨0, 0, 0, 0⟩ = 0) := Lib.hid (by decide)
  go_enter Try.func62, Try.ntmps62
  go_wp2_with (go_at_call 112; refine (requal_any ⟨0, 0, 0, 0⟩ ⟨0, 0, 0, 0⟩ m n A B c1 c2 _ hr hq hn hn2).mono ?_; rintro e w2 ⟨rfl, hb2⟩)
  go_ret
  exact ⟨ret_bool (by simp [H0.out]), hb2⟩
set_option maxHeartbeats 1000000 in
theorem small_any (m : List Bal) (A : Option Addr) (cap : Nat) (w : World) (hr : Rd w w.heap.size 2 A m.length (cellsOf Bal.cells m)) (hn : m.length ≤ maxLen) :
    Calls Try.prog 21 #[.slice A m.length cap] w (fun e w' => e = .returned (.bool (smallV m)) ∧ w = w') := by
  have HR := Lib.hid hr
  unfold maxLen at hn
  clear hr
  go_enter Try.func21, Try.ntmps21
  go_wp2_with fail
  go_loopw [3] (fun t wr => ∃ k : Nat, k ≤ m.length ∧ (∀ j, j < k → smallAt m j = true) ∧ t = .int .i64 k ∧ w = wr) (fun t _ => m.length - (intOf t).toNat)
  case atStart => exact ⟨0, by omega, fun j h => by omega, rfl, rfl⟩
  case round =>
    obtain ⟨k, hk, hno, rfl, rfl⟩ := hrel
    have HN := Lib.hid hno
    clear hno
    by_cases hlt : k < m.length
    · obtain ⟨x, o, hA, hbo, f0, f1⟩ := Bal.at_ HR.out hlt
      subst hA
      have HS : Hid (smallAt m k = (decide (m[k].amount ≤ 1125899906842624) && decide (-1125899906842624 ≤ m[k].amount))) := Lib.hid (by unfold smallAt; rw [Bal.getD_at m k hlt])
      by_cases h1 : m[k].amount ≤ 1125899906842624
      · by_cases h2 : -1125899906842624 ≤ m[k].amount
        · have HE : Hid (smallAt m k = true) := Lib.hid (by rw [HS.out]; simp [h1, h2])
          go_wp2_with fail
          go_roundw
          case rel => exact ⟨k + 1, by omega, upto_succ HN.out HE.out, by go_num, trivial⟩
          case measure => simp [intOf]; omega
        · have HE : Hid (smallAt m k = false) := Lib.hid (by rw [HS.out]; simp [h1]; omega)
          have HF : Hid (smallV m = false) := Lib.hid (by unfold smallV; rw [allAt_no hlt HE.out]; rfl)
          go_wp2_with fail
          go_ret
          exact ⟨by rw [HF.out]; rfl, rfl⟩
      · have HE : Hid (smallAt m k = false) := Lib.hid (by rw [HS.out]; simp [h1])
        have HF : Hid (smallV m = false) := Lib.hid (by unfold smallV; rw [allAt_no hlt HE.out]; rfl)
        go_wp2_with fail
        go_ret
        exact ⟨by rw [HF.out]; rfl, rfl⟩
    · have HA : Hid (allAt m.length (smallAt m) = true) := Lib.hid (allAt_yes fun j hj => HN.out j (by omega))
      by_cases hl : m.length ≤ 200
      · have HE : Hid (smallV m = true) := Lib.hid (by unfold smallV; rw [HA.out]; simpa using hl)
        go_wp2_with fail
        go_ret
        exact ⟨ret_bool (by rw [HE.out]; simp; omega), rfl⟩
      · have HE : Hid (smallV m = false) := Lib.hid (by unfold smallV; rw [HA.out]; simp; omega)
        go_wp2_with fail
        go_ret
        exact ⟨ret_bool (by rw [HE.out]; simp; omega), rfl⟩
def sample : List Bal := [⟨3000, 5⟩, ⟨1000, 2⟩, ⟨3000, -5⟩, ⟨2000, -2⟩]
def sampleL : List Bal := [⟨1000, 2⟩, ⟨2000, -2⟩]
theorem sample_of (c : Int) : ofW sample c = if c = 1000 then 2 else if c = 2000 then -2 else 0 := by
  rw [ofW_eq' (M := 10) sample c (by unfold within sample; decide) (by decide) (by decide)]
  unfold ofV sample
  by_cases h1 : c = 1000
  · subst h1; decide
  by_cases h2 : c = 2000
  · subst h2; decide
  by_cases h3 : c = 3000
  · subst h3; decide
  rw [if_neg h1, if_neg h2]
  simp only [sm_cons, sm_nil]
  rw [if_neg (fun e => h3 e.symm), if_neg (fun e => h1 e.symm), if_neg (fun e => h3 e.symm), if_neg (fun e => h2 e.symm)]
  rfl
theorem sample_is : IsC (ofW sample) sampleL := by
  refine ⟨by decide, fun x => ?_⟩
  rw [sample_of]
  obtain ⟨a, n⟩ := x
  simp only [sampleL, List.mem_cons, List.not_mem_nil, or_false, Bal.mk.injEq]
  by_cases h1 : a = 1000
  · subst h1; simp; omega
  by_cases h2 : a = 2000
  · subst h2; simp; omega
  simp [h1, h2]
  omega
theorem sample_am (c : Int) : amV (ofW sample c) = true := by
  rw [sample_of]
  by_cases h1 : c = 1000
  · rw [if_pos h1]; decide
  by_cases h2 : c = 2000
  · rw [if_neg h1, if_pos h2]; decide
  · rw [if_neg h1, if_neg h2]; decide
theorem sample_wf : ∀ x ∈ sample, (Lit.int .i64 x.account).wf = true := by unfold sample; decide
set_option maxRecDepth 100000 in
set_option maxHeartbeats 1000000 in
theorem post_awake (w : World) : Calls Try.prog 20 #[] w (BoolPost true w) := by
  have hb := Below.refl w.heap.size w
  go_enter Try.func20, Try.ntmps20
  go_wp2_with fail
  have HR : Hid (Rd (w.alloc (.cells #[.int .i64 3000, .int .i64 5, .int .i64 1000, .int .i64 2, .int .i64 3000, .int .i64 (-5), .int .i64 2000, .int .i64 (-2)] 129)) (w.alloc (.cells #[.int .i64 3000, .int .i64 5, .int .i64 1000, .int .i64 2, .int .i64 3000, .int .i64 (-5), .int .i64 2000, .int .i64 (-2)] 129)).heap.size 2 (some ⟨w.heap.size, 0, none⟩) 4 (cellsOf Bal.cells sample)) := Lib.hid (Rd.of_blk (Blk.new w 129 #[.int .i64 3000, .int .i64 5, .int .i64 1000, .int .i64 2, .int .i64 3000, .int .i64 (-5), .int .i64 2000, .int .i64 (-2)]) rfl rfl)
  have hb1 : Below w.heap.size w (w.alloc (.cells #[.int .i64 3000, .int .i64 5, .int .i64 1000, .int .i64 2, .int .i64 3000, .int .i64 (-5), .int .i64 2000, .int .i64 (-2)] 129)) := (Below.refl _ _).alloc (Nat.le_refl _) _
  generalize w.alloc (.cells #[.int .i64 3000, .int .i64 5, .int .i64 1000, .int .i64 2, .int .i64 3000, .int .i64 (-5), .int .i64 2000, .int .i64 (-2)] 129) = W at HR hb1 ⊢
  refine (clean_any sample _ 4 W HR.out (by decide) sample_wf).mono ?_
  rintro e w2 ⟨v2, L, E, rfl, ho2, hb2, hc2⟩
  have hx : E = 0 ∧ L = sampleL := by
    rcases hc2 with ⟨e1, h1, _⟩ | ⟨_, _, c, h1⟩
    · exact ⟨e1, isC_unique h1 sample_is fun _ => rfl⟩
    · rw [sample_am c] at h1; cases h1
  obtain ⟨rfl, rfl⟩ := hx
  obtain ⟨A2, c2, rfl, hr2⟩ := Rd.of_own ho2
  have HR2 := Lib.hid hr2
  have hb0 := bel hb1 hb2
  clear hr2 ho2 hb2 HR hc2
  go_wp2_with (go_at_call 62; refine (sameparts_any sampleL sampleL A2 _ c2 2 _ ((HR2.out.alloc (Nat.le_refl _) _).more (by simp)) (Rd.of_blk (Blk.new w2 129 #[.int .i64 1000, .int .i64 2, .int .i64 2000, .int .i64 (-2)]) rfl rfl) (by decide) (by decide)).mono ?_; rintro e w3 ⟨rfl, hb3⟩; have hb4 : Below w2.heap.size w2 w3 := bel' (w := w2) hb3 ((Below.refl _ _).alloc (Nat.le_refl _) _))
  go_ret
  exact ⟨ret_bool (by simp), bel hb0 hb4⟩
end Go.Proofs.Ytnkmjdaeafeaaaa
/- What a valid posting is; the walks of the reference's has and of Valid of a posting. -/
namespace Go.Proofs.Ytnkmjdaeafeaaaa
set_option linter.unusedVariables false
set_option linter.unusedSimpArgs false
open Go.RowKit

def pvPart (cl : List Acc) (m : List Bal) (i : Nat) : Bool := Ch.fnB cl (m.getD i default).account && (!((m.getD i default).amount == 0) && (amV (m.getD i default).amount && (decide (i = 0) || decide ((m.getD (i - 1) default).account < (m.getD i default).account))))
def pvHead (kd en ru : Int) (n : Nat) : Bool := decide (1 ≤ kd) && (decide (kd ≤ 10) && (decide (-1 ≤ en) && (decide (en ≤ 11) && (decide (0 ≤ ru) && decide (0 < n)))))
def pvOther (kd ot : Int) : Bool := if kd = 3 then decide (1 ≤ ot) else decide (-1 ≤ ot) && decide (ot ≤ 11)
def pvLast (kd : Int) (m : List Bal) : Bool := if kd = 1 ∨ kd = 2 then decide (m.length = 1) else decide (sumW m = 0)
def pv (V : Bool) (cl : List Acc) (kd en ot ru : Int) (m : List Bal) : Bool := V && (pvHead kd en ru m.length && (pvOther kd ot && (allAt m.length (pvPart cl m) && pvLast kd m)))
set_option maxHeartbeats 1000000 in
theorem has_any (l : List Acc) (c : Int) (A : Option Addr) (cap : Nat) (w : World) (hr : Rd w w.heap.size 4 A l.length (Ch.cells l)) (hn : l.length ≤ 300000) :
    Calls Try.prog 66 #[.slice A l.length cap, .int .i64 c] w (BoolPost (Ch.fnB l c) w) := by
  have hb := Below.refl w.heap.size w
  have HR := Lib.hid hr
  clear hr
  go_enter Try.func66, Try.ntmps66
  go_wp2_with fail
  go_loopw [5] (fun t wr => ∃ k : Nat, k ≤ l.length ∧ (∀ j (h : j < k) (h2 : j < l.length), (l[j]'h2).code ≠ c) ∧ t = .int .i64 k ∧ Below w.heap.size w wr) (fun t _ => l.length - (intOf t).toNat)
  case atStart => exact ⟨0, by omega, fun j h => by omega, rfl, hb⟩
  case round =>
    clear hb
    obtain ⟨k, hk, hno, rfl, hb⟩ := hrel
    have HN := Lib.hid hno
    have hz := hb.size
    clear hno
    by_cases hlt : k < l.length
    · obtain ⟨b, o, hA, hbo, f0, f1, f2, f3⟩ := Ch.at_ (HR.out.below hb (Nat.le_refl _)) hlt
      subst hA
      by_cases hc : l[k].code = c
      · have hc' : (l[k].code == c) = true := by simpa using hc
        have HF := Lib.hid (Ch.find_at l c k hlt hc (fun j h => HN.out j h (by omega)))
        clear hc
        go_wp2_with fail
        go_ret
        exact ⟨by rw [show Ch.fnB l c = true from by unfold Ch.fnB; rw [HF.out]; rfl]; rfl, hb⟩
      · have hc' : (l[k].code == c) = false := by simpa using hc
        have HC := Lib.hid hc
        clear hc
        go_wp2_with fail
        go_roundw
        case rel =>
          refine ⟨k + 1, by omega, fun j h h2 => ?_, by go_num, hb⟩
          by_cases hj : j = k
          · subst hj; exact HC.out
          · exact HN.out j (by omega) h2
        case measure => simp [intOf]; omega
    · have HF := Lib.hid (Ch.find_none l c (fun j h => HN.out j (by omega) h))
      go_wp2_with fail
      go_ret
      exact ⟨by rw [show Ch.fnB l c = false from by unfold Ch.fnB; rw [HF.out]; rfl]; rfl, hb⟩
end Go.Proofs.Ytnkmjdaeafeaaaa
