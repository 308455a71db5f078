/- Texts of this claim, put together. -/
import Derived.Test.YtnddoehhcpejjaaGreatApiZ
import Derived.Test.YtnddoehhcpejjaaGreatJAD
import Derived.Test.YtnddoehhcpejjaaGreatJAO
import Derived.Test.YtnddoehhcpejjaaGreatJAI
/- The journal of a group: the error of an entry, of posting it, and of posting a list. No walk. -/
namespace Go.Proofs.YtnddoehhcpejjaaGreat
set_option linter.unusedVariables false
set_option linter.unusedSimpArgs false
open Go.RowKit

namespace Jn
/-- a text is short and printable -/
def plainAt (s : ByteArray) (k : Nat) : Bool := decide (32 ≤ ((Gr.byte s k).toNat : Int)) && decide (((Gr.byte s k).toNat : Int) ≤ 126)
def plainB (s : ByteArray) : Bool := allAt s.size (plainAt s) && decide (s.size ≤ 80)
/-- an amount and a partner of a line of an entity, of n -/
def lineB (n e : Int) (l : LineR) : Bool := !(l.amount == 0) && amV l.amount && (decide (l.partner = -1) || decide (0 ≤ l.partner) && decide (l.partner < n) && !(l.partner == e))
/-- an entry's head -/
def headB (V : Bool) (n : Int) (x : EntryR) : Bool :=
  V && decide (1 ≤ x.id) && decide (0 ≤ x.entity) && decide (x.entity < n) && decide (1 ≤ x.kind) && decide (x.kind ≤ 3) &&
    (if x.kind = 3 then decide (1 ≤ x.of) else decide (x.of = 0)) && plainB x.text && decide (2 ≤ x.lines.l.length) && decide (x.lines.l.length ≤ 40)
def formB (V : Bool) (n : Int) (x : EntryR) : Bool := headB V n x && x.lines.l.all (lineB n x.entity)
/-- the sum of lines -/
def sumL (l : List LineR) : Int := (l.map LineR.amount).sum
theorem sumL_take (l : List LineR) (k : Nat) (h : k < l.length) : sumL (l.take (k + 1)) = sumL (l.take k) + l[k].amount := by
  unfold sumL
  rw [List.take_succ_eq_append_getElem h, List.map_append, List.sum_append]
  simp
theorem sumL_bd (l : List LineR) (h : ∀ x ∈ l, -1000000000000 ≤ x.amount ∧ x.amount ≤ 1000000000000) : ∀ k, k ≤ l.length → -(1000000000000 * (k : Int)) ≤ sumL (l.take k) ∧ sumL (l.take k) ≤ 1000000000000 * k := by
  intro k
  induction k with
  | zero => intro _; simp [sumL]
  | succ k ih =>
    intro hk
    have h1 := ih (by omega)
    rw [sumL_take l k (by omega)]
    have h2 := h (l[k]'(by omega)) (List.getElem_mem _)
    omega
/-- the error of an entry; K: an account is in the chart of an entity; D: a date is in the calendar -/
def ckE (V : Bool) (n : Int) (K : Int → Int → Bool) (D : Int → Bool) (x : EntryR) : Int :=
  if formB V n x then (if x.lines.l.all (fun l => K x.entity l.account) then (if D x.date then (if sumL x.lines.l = 0 then 0 else 11) else 2) else 17) else 1
/-- the index of the entry with a number -/
def get (es : List EntryR) (id : Int) : Option Nat := es.findIdx? (fun x => x.id == id)
/-- the number of the reversal of an entry -/
def rev (es : List EntryR) (id : Int) : Option Int := (es.find? (fun x => x.kind == 3 && x.of == id)).map EntryR.id
theorem get_lt {es : List EntryR} {id : Int} {k : Nat} (h : get es id = some k) : k < es.length ∧ ∀ h : k < es.length, es[k].id = id := by
  unfold get at h
  obtain ⟨h1, h2, _⟩ := List.findIdx?_eq_some_iff_getElem.1 h
  exact ⟨h1, fun _ => by simpa using h2⟩
theorem get_more (es : List EntryR) (x : EntryR) (id : Int) : get (es ++ [x]) id = if (get es id).isSome then get es id else if x.id = id then some es.length else none := by
  unfold get
  rw [List.findIdx?_append]
  cases h : List.findIdx? (fun x => x.id == id) es
  · by_cases h2 : x.id = id
    · simp [h2, List.findIdx?_cons]
    · simp [h2, List.findIdx?_cons]
  · simp
theorem rev_more (es : List EntryR) (x : EntryR) (id : Int) : rev (es ++ [x]) id = if (rev es id).isSome then rev es id else if x.kind = 3 ∧ x.of = id then some x.id else none := by
  unfold rev
  rw [List.find?_append]
  cases h : es.find? (fun x => x.kind == 3 && x.of == id)
  · by_cases h2 : x.kind = 3 ∧ x.of = id
    · simp [h2, List.find?_cons]
    · have h3 : (x.kind == 3 && x.of == id) = false := by
        cases hb : (x.kind == 3 && x.of == id)
        · rfl
        · exact absurd (by simpa using hb) h2
      simp [h2, h3, List.find?_cons]
  · simp
/-- lines are opposite -/
def oppB (a b : List LineR) : Bool := a.length == b.length && (a.zip b).all (fun q => q.1.account == q.2.account && q.1.partner == q.2.partner && q.1.amount == -q.2.amount)
/-- the error of a reversal -/
def rvE (es : List EntryR) (x : EntryR) : Int :=
  match get es x.of with
  | none => 8
  | some k =>
    let o := es.getD k default
    if decide (o.kind = 3) || (rev es x.of).isSome then 7
    else if decide (o.entity = x.entity) && decide (o.date ≤ x.date) && oppB x.lines.l o.lines.l then 0 else 18
/-- the error of posting an entry -/
def poE (C : EntryR → Int) (es : List EntryR) (x : EntryR) : Int :=
  if C x = 0 then (if (get es x.id).isSome then 9 else if x.kind = 3 then (if rvE es x = 0 then (if 2000 ≤ es.length then 6 else 0) else rvE es x) else if 2000 ≤ es.length then 6 else 0) else C x
/-- the first k entries can be posted one after the other -/
def okTo (C : EntryR → Int) (es : List EntryR) (k : Nat) : Prop := ∀ j (h : j < es.length), j < k → poE C (es.take j) es[j] = 0
/-- all can -/
def allB (C : EntryR → Int) (es : List EntryR) : Bool := (List.range es.length).all (fun j => decide (poE C (es.take j) (es.getD j default) = 0))
theorem allB_is {C : EntryR → Int} {es : List EntryR} : allB C es = true ↔ okTo C es es.length := by
  unfold allB okTo
  rw [List.all_eq_true]
  constructor
  · intro h j hj _
    have := h j (List.mem_range.2 hj)
    rw [List.getD_eq_getElem?_getD, List.getElem?_eq_getElem hj] at this
    simpa using this
  · intro h j hj
    have hj2 := List.mem_range.1 hj
    have := h j hj2 hj2
    rw [List.getD_eq_getElem?_getD, List.getElem?_eq_getElem hj2]
    simpa using this
/-- behind posted entries: numbers are of 1 and above -/
theorem id_pos {V : Bool} {n : Int} {K : Int → Int → Bool} {D : Int → Bool} {x : EntryR} (h : ckE V n K D x = 0) : 1 ≤ x.id := by
  cases hf : formB V n x
  · unfold ckE at h
    rw [hf] at h
    simp at h
  · unfold formB headB at hf
    simp only [Bool.and_eq_true, decide_eq_true_eq] at hf
    omega
/-- the reversal's number is not 0 exactly where there is one -/
theorem rev_pos {V : Bool} {n : Int} {K : Int → Int → Bool} {D : Int → Bool} {es : List EntryR} (h : ∀ x ∈ es, ckE V n K D x = 0) (id : Int) : (rev es id).isSome = true ↔ (rev es id).getD 0 ≠ 0 := by
  unfold rev
  cases h2 : es.find? (fun x => x.kind == 3 && x.of == id) with
  | none => simp
  | some y =>
    have := id_pos (h y (List.mem_of_find?_eq_some h2))
    simp
    omega
end Jn
end Go.Proofs.YtnddoehhcpejjaaGreat
/- The journal: a date lies in the calendar exactly where it has a period; lines and opposite lines, as either text asks. No walk. -/
namespace Go.Proofs.YtnddoehhcpejjaaGreat
set_option linter.unusedVariables false
set_option linter.unusedSimpArgs false
open Go.RowKit

namespace Jn
/-- a date is between the first and the last day of a calendar -/
def inCal (Y M P d : Int) : Bool := decide (Cal.fiV Y M P 0 ≤ d) && decide (d ≤ Cal.laV Y M P (P - 1))
theorem some_period (Y M P d : Int) (h : Cal.okP Y M P) (h0 : Cal.fd (Cal.tm Y M 0) ≤ d) : ∀ k : Nat, (k : Int) < P → d ≤ Cal.ld (Cal.tm Y M k) → ∃ p : Int, 0 ≤ p ∧ p < P ∧ Cal.fd (Cal.tm Y M p) ≤ d ∧ d ≤ Cal.ld (Cal.tm Y M p) := by
  intro k
  induction k with
  | zero => intro hk hd; exact ⟨0, by omega, by omega, h0, by simpa using hd⟩
  | succ k ih =>
    intro hk hd
    by_cases hq : d ≤ Cal.ld (Cal.tm Y M k)
    · exact ih (by omega) hq
    · have t1 := Cal.tm_in Y M P (k + 1 : Int) h (by omega) (by omega)
      have e : Cal.tm Y M (k + 1 : Int) = Cal.tm Y M k + 1 := by unfold Cal.tm; omega
      have t0 := Cal.tm_in Y M P (k : Int) h (by omega) (by omega)
      have hn := Cal.fd_next (Cal.tm Y M k) t0.1 (by omega)
      refine ⟨(k + 1 : Int), by omega, by omega, ?_, ?_⟩
      · rw [e, hn]; omega
      · push_cast at hd; exact hd
theorem inCal_is (Y M P d : Int) (h : Cal.ok Y M P = true) : inCal Y M P d = true ↔ Cal.peE Y M P d = 0 := by
  have hp := (Cal.ok_iff Y M P).1 h
  have hP : 1 ≤ P := hp.2.2.1
  have c0 : Cal.fiV Y M P 0 = Cal.fd (Cal.tm Y M 0) := by
    unfold Cal.fiV Cal.ckE
    rw [if_pos h, if_pos (show (0 : Int) ≤ 0 ∧ (0 : Int) < P from ⟨by omega, by omega⟩)]
    simp
  have c1 : Cal.laV Y M P (P - 1) = Cal.ld (Cal.tm Y M (P - 1)) := by
    unfold Cal.laV Cal.ckE
    rw [if_pos h, if_pos (show (0 : Int) ≤ P - 1 ∧ P - 1 < P from ⟨by omega, by omega⟩)]
    simp
  unfold inCal
  rw [c0, c1]
  simp only [Bool.and_eq_true, decide_eq_true_eq]
  have hpe : Cal.peE Y M P d = 0 ↔ Cal.peB Y M P d = true := by
    unfold Cal.peE
    rw [if_pos h]
    cases Cal.peB Y M P d <;> simp
  rw [hpe]
  have hpb : Cal.peB Y M P d = true ↔ Dt.isD d = true ∧ 0 ≤ Cal.pq Y M d ∧ Cal.pq Y M d < P := by
    unfold Cal.peB
    simp [and_assoc]
  rw [hpb]
  constructor
  · rintro ⟨a, b⟩
    obtain ⟨p, p0, p1, q0, q1⟩ := some_period Y M P d hp a (P - 1).toNat (by omega) (by rw [Int.toNat_of_nonneg (by omega)]; exact b)
    obtain ⟨e1, e2⟩ := (Cal.in_period Y M P d p hp p0 p1).1 ⟨q0, q1⟩
    exact ⟨e1, by omega, by omega⟩
  · rintro ⟨a, b0, b1⟩
    obtain ⟨e1, e2⟩ := (Cal.in_period Y M P d (Cal.pq Y M d) hp b0 b1).2 ⟨a, rfl⟩
    have t := Cal.tm_in Y M P (Cal.pq Y M d) hp b0 b1
    have t0 := Cal.tm_in Y M P 0 hp (by omega) (by omega)
    have t9 := Cal.tm_in Y M P (P - 1) hp (by omega) (by omega)
    refine ⟨?_, ?_⟩
    · have := Cal.fd_le (Cal.tm Y M 0) (Cal.tm Y M (Cal.pq Y M d)) t0.1 (by unfold Cal.tm; omega) t.2
      omega
    · by_cases hl : Cal.pq Y M d = P - 1
      · rw [← hl]; exact e2
      · have e : Cal.tm Y M (Cal.pq Y M d) + 1 ≤ Cal.tm Y M (P - 1) := by unfold Cal.tm; omega
        have h1 := Cal.fd_next (Cal.tm Y M (Cal.pq Y M d)) t.1 (by omega)
        have h2 := Cal.fd_le (Cal.tm Y M (Cal.pq Y M d) + 1) (Cal.tm Y M (P - 1)) (by omega) e t9.2
        have h3 := Cal.fd_ld (Cal.tm Y M (P - 1)) t9.1 t9.2
        omega
/-- the program's question about a line -/
theorem line_prog (n e : Int) (l : LineR) (h : 0 ≤ e) : lineB n e l = !(decide (l.amount = 0) || !amV l.amount || decide (l.partner < -1) || decide (n ≤ l.partner) || decide (l.partner = e)) ∨ n < 0 := by
  by_cases hn : n < 0
  · exact Or.inr hn
  · left
    unfold lineB
    cases amV l.amount
    · simp
    · rw [Bool.eq_iff_iff]
      simp only [Bool.and_eq_true, Bool.or_eq_true, Bool.not_eq_true', Bool.or_eq_false_iff, decide_eq_true_eq, decide_eq_false_iff_not, beq_eq_false_iff_ne, Bool.not_true, and_true, ne_eq]
      omega
/-- the reference's list of the opposite lines, compared one by one -/
def neg (l : LineR) : LineR := ⟨l.account, -l.amount, l.partner⟩
theorem opp_is (a b : List LineR) : oppB a b = true ↔ a.length = b.length ∧ ∀ k (h : k < a.length) (h2 : k < b.length), a[k].account = b[k].account ∧ a[k].partner = b[k].partner ∧ a[k].amount = -b[k].amount := by
  unfold oppB
  simp only [Bool.and_eq_true, beq_iff_eq, List.all_eq_true]
  constructor
  · rintro ⟨h1, h2⟩
    refine ⟨h1, fun k h h3 => ?_⟩
    have := h2 (a[k], b[k]) (by
      rw [List.mem_iff_getElem]
      exact ⟨k, by rw [List.length_zip]; omega, by rw [List.getElem_zip]⟩)
    exact ⟨this.1.1, this.1.2, this.2⟩
  · rintro ⟨h1, h2⟩
    refine ⟨h1, fun q hq => ?_⟩
    obtain ⟨k, hk, rfl⟩ := List.mem_iff_getElem.1 hq
    rw [List.length_zip] at hk
    rw [List.getElem_zip]
    obtain ⟨x, y, z⟩ := h2 k (by omega) (by omega)
    exact ⟨⟨x, y⟩, z⟩
end Jn
end Go.Proofs.YtnddoehhcpejjaaGreat
/- The journal's state behind the first entries: what its two maps hold. No walk. -/
namespace Go.Proofs.YtnddoehhcpejjaaGreat
set_option linter.unusedVariables false
set_option linter.unusedSimpArgs false
open Go.RowKit

namespace Jn
theorem okTo_zero (C : EntryR → Int) (es : List EntryR) : okTo C es 0 := fun _ _ h => by omega
theorem okTo_step {C : EntryR → Int} {es : List EntryR} {k : Nat} (hk : k < es.length) (h : okTo C es k) (h2 : poE C (es.take k) es[k] = 0) : okTo C es (k + 1) := fun j hj hl => by
  by_cases e : j < k
  · exact h j hj e
  · have : j = k := by omega
    subst this
    exact h2
theorem okTo_all {C : EntryR → Int} {es : List EntryR} {k : Nat} (hk : es.length ≤ k) (h : okTo C es k) : allB C es = true := allB_is.2 (fun j hj _ => h j hj (by omega))
theorem okTo_no {C : EntryR → Int} {es : List EntryR} {k : Nat} (hk : k < es.length) (h2 : poE C (es.take k) es[k] ≠ 0) : allB C es = false := by
  cases h : allB C es
  · rfl
  · exact absurd (allB_is.1 h k hk hk) h2
theorem po_zero {C : EntryR → Int} {es : List EntryR} {x : EntryR} (h : poE C es x = 0) : C x = 0 ∧ get es x.id = none ∧ (x.kind = 3 → rvE es x = 0) ∧ es.length < 2000 := by
  unfold poE at h
  by_cases h1 : C x = 0
  · rw [if_pos h1] at h
    cases h2 : get es x.id with
    | some k => rw [h2] at h; simp at h
    | none =>
      rw [h2] at h
      simp only [Option.isSome_none, Bool.false_eq_true, if_false] at h
      refine ⟨h1, rfl, ?_, ?_⟩
      · intro h3
        rw [if_pos h3] at h
        by_cases h4 : rvE es x = 0
        · exact h4
        · rw [if_neg h4] at h; exact absurd h h4
      · by_cases h3 : x.kind = 3
        · rw [if_pos h3] at h
          by_cases h4 : rvE es x = 0
          · rw [if_pos h4] at h
            by_cases h5 : 2000 ≤ es.length
            · rw [if_pos h5] at h; omega
            · omega
          · rw [if_neg h4] at h; exact absurd h h4
        · rw [if_neg h3] at h
          by_cases h5 : 2000 ≤ es.length
          · rw [if_pos h5] at h; omega
          · omega
  · rw [if_neg h1] at h; exact absurd h h1
theorem rv_zero {es : List EntryR} {x : EntryR} (h : rvE es x = 0) : rev es x.of = none := by
  unfold rvE at h
  cases h1 : get es x.of with
  | none => rw [h1] at h; simp at h
  | some k =>
    rw [h1] at h
    cases h2 : rev es x.of with
    | none => rfl
    | some y => rw [h2] at h; simp at h
theorem take_more (es : List EntryR) (k : Nat) (h : k < es.length) : es.take (k + 1) = es.take k ++ [es[k]] := List.take_succ_eq_append_getElem h
/-- the map of numbers behind one more entry -/
theorem get_put {C : EntryR → Int} {es : List EntryR} {k : Nat} (hk : k < es.length) (h : poE C (es.take k) es[k] = 0) (id : Int) :
    get (es.take (k + 1)) id = if id = es[k].id then some k else get (es.take k) id := by
  obtain ⟨_, h2, _, _⟩ := po_zero h
  rw [take_more es k hk, get_more]
  have hl : (es.take k).length = k := by rw [List.length_take]; omega
  by_cases e : id = es[k].id
  · rw [if_pos e, e, h2, hl]
    simp
  · rw [if_neg e]
    cases h3 : get (es.take k) id with
    | some j => simp
    | none => simp; exact fun h4 => absurd h4.symm e
/-- the map of reversals behind one more entry -/
theorem rev_put {C : EntryR → Int} {es : List EntryR} {k : Nat} (hk : k < es.length) (h : poE C (es.take k) es[k] = 0) (h3 : es[k].kind = 3) (id : Int) :
    rev (es.take (k + 1)) id = if id = es[k].of then some es[k].id else rev (es.take k) id := by
  obtain ⟨_, _, h2, _⟩ := po_zero h
  have hr := rv_zero (h2 h3)
  rw [take_more es k hk, rev_more]
  by_cases e : id = es[k].of
  · rw [if_pos e, e, hr]
    simp [h3]
  · rw [if_neg e]
    cases h4 : rev (es.take k) id with
    | some j => simp
    | none => simp; exact fun _ h5 => absurd h5.symm e
theorem rev_keep {es : List EntryR} {k : Nat} (hk : k < es.length) (h3 : es[k].kind ≠ 3) (id : Int) : rev (es.take (k + 1)) id = rev (es.take k) id := by
  rw [take_more es k hk, rev_more]
  cases h4 : rev (es.take k) id with
  | some j => simp
  | none => simp [h3]
theorem ok_each {C : EntryR → Int} {es : List EntryR} {k : Nat} (h : okTo C es k) : ∀ x ∈ es.take k, C x = 0 := by
  intro x hx
  obtain ⟨j, hj, rfl⟩ := List.mem_iff_getElem.1 hx
  rw [List.length_take] at hj
  rw [List.getElem_take]
  exact (po_zero (h j (by omega) (by omega))).1
end Jn
end Go.Proofs.YtnddoehhcpejjaaGreat
/- The walks of entry.plain and Sum, and of their references; of Get and Reversal. -/
namespace Go.Proofs.YtnddoehhcpejjaaGreat
set_option linter.unusedVariables false
set_option linter.unusedSimpArgs false
open Go.RowKit

set_option maxHeartbeats 4000000 in
theorem plain_any (s : ByteArray) (w : World) (hs : s.size ≤ maxLen) : Calls Tryz.prog 93 #[.string s] w fun e w' => e = .returned (.bool (Jn.plainB s)) ∧ w = w' := by
  unfold maxLen at hs
  go_enter Tryz.func93, Tryz.ntmps93
  go_wp2_with fail
  go_loopw [3, 6] (fun _ t wr => ∃ k : Nat, k ≤ s.size ∧ (∀ j, j < k → Jn.plainAt s j = true) ∧ t = .int .i64 k ∧ w = wr) (fun _ t _ => s.size - (intOf t).toNat)
  case atStart => exact ⟨0, by omega, fun j h => by omega, rfl, rfl⟩
  case round =>
    obtain ⟨k, hk, hno, rfl, rfl⟩ := hrel
    have HN := Lib.hid hno
    clear hno
    by_cases hlt : k < s.size
    · have HB := Lib.hid (Gr.byte_at s k hlt)
      have h255 := u8_le s[k]
      by_cases h1 : 32 ≤ (s[k].toNat : Int)
      · by_cases h2 : (s[k].toNat : Int) ≤ 126
        · have HE : Hid (Jn.plainAt s k = true) := Lib.hid (by unfold Jn.plainAt; rw [HB.out]; simp only [Bool.and_eq_true, decide_eq_true_eq]; exact ⟨h1, h2⟩)
          go_wp2_with fail
          go_roundw
          case rel =>
            refine ⟨k + 1, by omega, fun j h => ?_, by go_num, trivial⟩
            by_cases e : j = k
            · subst e; exact HE.out
            · exact HN.out j (by omega)
          case measure => simp [intOf]; omega
        · have HE0 : Hid (Jn.plainAt s k = false) := Lib.hid (by unfold Jn.plainAt; rw [HB.out, ← Bool.not_eq_true]; simp only [Bool.and_eq_true, decide_eq_true_eq]; omega)
          have HE : Hid (Jn.plainB s = false) := Lib.hid (by unfold Jn.plainB; rw [allAt_no hlt HE0.out]; rfl)
          go_wp2_with fail
          go_ret
          exact ⟨by rw [HE.out]; rfl, rfl⟩
      · have HE0 : Hid (Jn.plainAt s k = false) := Lib.hid (by unfold Jn.plainAt; rw [HB.out, ← Bool.not_eq_true]; simp only [Bool.and_eq_true, decide_eq_true_eq]; omega)
        have HE : Hid (Jn.plainB s = false) := Lib.hid (by unfold Jn.plainB; rw [allAt_no hlt HE0.out]; rfl)
        go_wp2_with fail
        go_ret
        exact ⟨by rw [HE.out]; rfl, rfl⟩
    · have HA : Hid (allAt s.size (Jn.plainAt s) = true) := Lib.hid (allAt_yes fun j hj => HN.out j (by omega))
      have HE : Hid (Jn.plainB s = decide (s.size ≤ 80)) := Lib.hid (by unfold Jn.plainB; rw [HA.out]; rfl)
      go_wp2_with fail
      go_ret
      exact ⟨ret_bool (by rw [HE.out] <;> first | rfl | (simp; done) | (simp; omega)), rfl⟩
set_option maxHeartbeats 4000000 in
theorem rplain_any (s : ByteArray) (w : World) (hs : s.size ≤ maxLen) : Calls Tryz.prog 129 #[.string s] w fun e w' => e = .returned (.bool (Jn.plainB s)) ∧ w = w' := by
  unfold maxLen at hs
  go_enter Tryz.func129, Tryz.ntmps129
  go_wp2_with fail
  go_loopw [3] (fun t wr => ∃ k : Nat, k ≤ s.size ∧ (∀ j, j < k → Jn.plainAt s j = true) ∧ t = .int .i64 k ∧ w = wr) (fun t _ => s.size - (intOf t).toNat)
  case atStart => exact ⟨0, by omega, fun j h => by omega, rfl, rfl⟩
  case round =>
    obtain ⟨k, hk, hno, rfl, rfl⟩ := hrel
    have HN := Lib.hid hno
    clear hno
    by_cases hlt : k < s.size
    · have HB := Lib.hid (Gr.byte_at s k hlt)
      have h255 := u8_le s[k]
      by_cases h1 : 32 ≤ (s[k].toNat : Int)
      · by_cases h2 : (s[k].toNat : Int) ≤ 126
        · have HE : Hid (Jn.plainAt s k = true) := Lib.hid (by unfold Jn.plainAt; rw [HB.out]; simp only [Bool.and_eq_true, decide_eq_true_eq]; exact ⟨h1, h2⟩)
          go_wp2_with fail
          go_roundw
          case rel =>
            refine ⟨k + 1, by omega, fun j h => ?_, by go_num, trivial⟩
            by_cases e : j = k
            · subst e; exact HE.out
            · exact HN.out j (by omega)
          case measure => simp [intOf]; omega
        · have HE0 : Hid (Jn.plainAt s k = false) := Lib.hid (by unfold Jn.plainAt; rw [HB.out, ← Bool.not_eq_true]; simp only [Bool.and_eq_true, decide_eq_true_eq]; omega)
          have HE : Hid (Jn.plainB s = false) := Lib.hid (by unfold Jn.plainB; rw [allAt_no hlt HE0.out]; rfl)
          go_wp2_with fail
          go_ret
          exact ⟨by rw [HE.out]; rfl, rfl⟩
      · have HE0 : Hid (Jn.plainAt s k = false) := Lib.hid (by unfold Jn.plainAt; rw [HB.out, ← Bool.not_eq_true]; simp only [Bool.and_eq_true, decide_eq_true_eq]; omega)
        have HE : Hid (Jn.plainB s = false) := Lib.hid (by unfold Jn.plainB; rw [allAt_no hlt HE0.out]; rfl)
        go_wp2_with fail
        go_ret
        exact ⟨by rw [HE.out]; rfl, rfl⟩
    · have HA : Hid (allAt s.size (Jn.plainAt s) = true) := Lib.hid (allAt_yes fun j hj => HN.out j (by omega))
      have HE : Hid (Jn.plainB s = decide (s.size ≤ 80)) := Lib.hid (by unfold Jn.plainB; rw [HA.out]; rfl)
      go_wp2_with fail
      go_ret
      exact ⟨ret_bool (by rw [HE.out] <;> first | rfl | (simp; done) | (simp; omega)), rfl⟩

set_option maxHeartbeats 4000000 in
theorem lsum_any (l : List LineR) (A : Option Addr) (cap : Nat) (w : World) (hr : Rd w w.heap.size 3 A l.length (cellsOf LineR.cells l)) (hn : l.length ≤ 1000) (hm : ∀ x ∈ l, -1000000000000 ≤ x.amount ∧ x.amount ≤ 1000000000000) :
    Calls Tryz.prog 95 #[.slice A l.length cap] w fun e w' => e = .returned (.int .i64 (Jn.sumL l)) ∧ Below w.heap.size w w' := by
  have hb := Below.refl w.heap.size w
  have HM := Lib.hid hm
  have HR := Lib.hid hr
  clear hm hr
  go_enter Tryz.func95, Tryz.ntmps95
  go_wp2_with fail
  go_loopw [3, 8] (fun s t wr => ∃ k : Nat, k ≤ l.length ∧ s = .int .i64 (Jn.sumL (l.take k)) ∧ t = .int .i64 k ∧ Below w.heap.size w wr) (fun _ t _ => l.length - (intOf t).toNat)
  case atStart => exact ⟨0, by omega, rfl, rfl, hb⟩
  case round =>
    clear hb
    obtain ⟨k, hk, rfl, rfl, hb⟩ := hrel
    have hbd := Jn.sumL_bd l HM.out k hk
    have hz := hb.size
    by_cases hlt : k < l.length
    · obtain ⟨b0, o, hA, hbo, f0, f1, f2⟩ := LineR.at_ (Rd.now HR.out hb) hlt
      subst hA
      have HT := Lib.hid (Jn.sumL_take l k hlt)
      obtain ⟨a0, a1⟩ := HM.out l[k] (List.getElem_mem hlt)
      obtain ⟨d0, d1⟩ := hbd
      generalize Jn.sumL (l.take k) = s at *
      generalize l[k] = x at *
      obtain ⟨xa, xm, xp⟩ := x
      dsimp only at *
      have hws : IntKind.i64.wrap (s + xm) = s + xm := IntWalk.i64_in _ (by omega)
      go_wp2_with fail
      go_roundw
      case rel => exact ⟨k + 1, by omega, by rw [HT.out], by go_num, (by repeat (first | exact hb | refine Below.alloc ?_ (by have hbs := hb.size; first | omega | (simp; done) | (simp; omega)) _ | refine Below.drew ?_ | refine below_drewN_ ?_ _ | refine Below.setCell ?_ (by simp) _))⟩
      case measure => simp [intOf]; omega
    · have hke : l.take k = l := List.take_of_length_le (by omega)
      rw [hke]
      go_wp2_with fail
      go_ret
      exact ⟨rfl, hb⟩
set_option maxHeartbeats 4000000 in
theorem rlsum_any (l : List LineR) (A : Option Addr) (cap : Nat) (w : World) (hr : Rd w w.heap.size 3 A l.length (cellsOf LineR.cells l)) (hn : l.length ≤ 1000) (hm : ∀ x ∈ l, -1000000000000 ≤ x.amount ∧ x.amount ≤ 1000000000000) :
    Calls Tryz.prog 108 #[.slice A l.length cap] w fun e w' => e = .returned (.int .i64 (Jn.sumL l)) ∧ Below w.heap.size w w' := by
  have hb := Below.refl w.heap.size w
  have HM := Lib.hid hm
  have HR := Lib.hid hr
  clear hm hr
  go_enter Tryz.func108, Tryz.ntmps108
  go_wp2_with fail
  go_loopw [3, 4] (fun s t wr => ∃ k : Nat, k ≤ l.length ∧ s = .int .i64 (Jn.sumL (l.take k)) ∧ t = .int .i64 k ∧ Below w.heap.size w wr) (fun _ t _ => l.length - (intOf t).toNat)
  case atStart => exact ⟨0, by omega, rfl, rfl, hb⟩
  case round =>
    clear hb
    obtain ⟨k, hk, rfl, rfl, hb⟩ := hrel
    have hbd := Jn.sumL_bd l HM.out k hk
    have hz := hb.size
    by_cases hlt : k < l.length
    · obtain ⟨b0, o, hA, hbo, f0, f1, f2⟩ := LineR.at_ (Rd.now HR.out hb) hlt
      subst hA
      have HT := Lib.hid (Jn.sumL_take l k hlt)
      obtain ⟨a0, a1⟩ := HM.out l[k] (List.getElem_mem hlt)
      obtain ⟨d0, d1⟩ := hbd
      generalize Jn.sumL (l.take k) = s at *
      generalize l[k] = x at *
      obtain ⟨xa, xm, xp⟩ := x
      dsimp only at *
      have hws : IntKind.i64.wrap (s + xm) = s + xm := IntWalk.i64_in _ (by omega)
      go_wp2_with fail
      go_roundw
      case rel => exact ⟨k + 1, by omega, by rw [HT.out], by go_num, (by repeat (first | exact hb | refine Below.alloc ?_ (by have hbs := hb.size; first | omega | (simp; done) | (simp; omega)) _ | refine Below.drew ?_ | refine below_drewN_ ?_ _ | refine Below.setCell ?_ (by simp) _))⟩
      case measure => simp [intOf]; omega
    · have hke : l.take k = l := List.take_of_length_le (by omega)
      rw [hke]
      go_wp2_with fail
      go_ret
      exact ⟨rfl, hb⟩

namespace Jn
def getI (es : List EntryR) (id : Int) : Int := match get es id with | some k => (k : Int) | none => -1
theorem getI_hit {es : List EntryR} {id : Int} {k : Nat} (hk : k < es.length) (h : ∀ j (hj : j < k), (es[j]'(by omega)).id ≠ id) (hq : es[k].id = id) : getI es id = k := by
  unfold getI get
  have : es.findIdx? (fun x => x.id == id) = some k := by
    rw [List.findIdx?_eq_some_iff_getElem]
    exact ⟨hk, by simpa using hq, fun j hj => by simpa using h j hj⟩
  rw [this]
theorem getI_miss {es : List EntryR} {id : Int} (h : ∀ j (hj : j < es.length), es[j].id ≠ id) : getI es id = -1 := by
  unfold getI get
  have : es.findIdx? (fun x => x.id == id) = none := by
    rw [List.findIdx?_eq_none_iff]
    intro x hx
    obtain ⟨j, hj, rfl⟩ := List.mem_iff_getElem.1 hx
    simpa using h j hj
  rw [this]
def revI (es : List EntryR) (id : Int) : Int := (rev es id).getD 0
def isRv (id : Int) (x : EntryR) : Bool := x.kind == 3 && x.of == id
theorem revI_hit {es : List EntryR} {id : Int} {k : Nat} (hk : k < es.length) (h : ∀ j (hj : j < k), isRv id (es[j]'(by omega)) = false) (hq : isRv id es[k] = true) : revI es id = es[k].id := by
  unfold revI rev
  have : es.find? (fun x => x.kind == 3 && x.of == id) = some es[k] := by
    rw [List.find?_eq_some_iff_getElem]
    refine ⟨hq, k, hk, rfl, fun j hj => ?_⟩
    have := h j hj
    unfold isRv at this
    rw [this]
    rfl
  rw [this]
  rfl
theorem revI_miss {es : List EntryR} {id : Int} (h : ∀ j (hj : j < es.length), isRv id es[j] = false) : revI es id = 0 := by
  unfold revI rev
  have : es.find? (fun x => x.kind == 3 && x.of == id) = none := by
    rw [List.find?_eq_none]
    intro x hx
    obtain ⟨j, hj, rfl⟩ := List.mem_iff_getElem.1 hx
    have := h j hj
    unfold isRv at this
    simp only [this]
    decide
  rw [this]
  rfl
end Jn
set_option maxHeartbeats 4000000 in
theorem rget_any (es : List EntryR) (id : Int) (A : Option Addr) (cap : Nat) (w : World) (hr : Rd w w.heap.size 7 A es.length (cellsOf EntryR.cells es)) (hn : es.length ≤ 1000) :
    Calls Tryz.prog 75 #[.slice A es.length cap, .int .i64 id] w fun e w' => e = .returned (.int .i64 (Jn.getI es id)) ∧ w = w' := by
  have HR := Lib.hid hr
  clear hr
  go_enter Tryz.func75, Tryz.ntmps75
  go_wp2_with fail
  go_loopw [5] (fun t wr => ∃ k : Nat, k ≤ es.length ∧ (∀ j (h : j < k) (h2 : j < es.length), (es[j]'h2).id ≠ id) ∧ t = .int .i64 k ∧ w = wr) (fun t _ => es.length - (intOf t).toNat)
  case atStart => exact ⟨0, by omega, fun j h => by omega, rfl, rfl⟩
  case round =>
    obtain ⟨k, hk, hno, rfl, rfl⟩ := hrel
    have HN := Lib.hid hno
    clear hno
    by_cases hlt : k < es.length
    · obtain ⟨b, o, hA, hbo, f0, f1, f2, f3, f4, f5, f6⟩ := EntryR.at_ HR.out hlt
      subst hA
      cases hq : (es[k].id == id)
      · have HQ : Hid (es[k].id ≠ id) := Lib.hid (by simpa using hq)
        go_wp2_with fail
        go_roundw
        case rel =>
          refine ⟨k + 1, by omega, fun j h h1 => ?_, by go_num, trivial⟩
          by_cases e : j = k
          · subst e; exact HQ.out
          · exact HN.out j (by omega) h1
        case measure => simp [intOf]; omega
      · have HE : Hid (Jn.getI es id = k) := Lib.hid (Jn.getI_hit hlt (fun j hj => HN.out j hj (by omega)) (by simpa using hq))
        go_wp2_with fail
        go_ret
        exact ⟨ret_int HE.out.symm, rfl⟩
    · have HE : Hid (Jn.getI es id = -1) := Lib.hid (Jn.getI_miss fun j hj => HN.out j (by omega) hj)
      go_wp2_with fail
      go_ret
      exact ⟨ret_int HE.out.symm, rfl⟩
set_option maxHeartbeats 4000000 in
theorem rrev_any (es : List EntryR) (id : Int) (A : Option Addr) (cap : Nat) (w : World) (hr : Rd w w.heap.size 7 A es.length (cellsOf EntryR.cells es)) (hn : es.length ≤ 1000) :
    Calls Tryz.prog 76 #[.slice A es.length cap, .int .i64 id] w fun e w' => e = .returned (.int .i64 (Jn.revI es id)) ∧ w = w' := by
  have HR := Lib.hid hr
  clear hr
  go_enter Tryz.func76, Tryz.ntmps76
  go_wp2_with fail
  go_loopw [5] (fun t wr => ∃ k : Nat, k ≤ es.length ∧ (∀ j (h : j < k) (h2 : j < es.length), Jn.isRv id (es[j]'h2) = false) ∧ t = .int .i64 k ∧ w = wr) (fun t _ => es.length - (intOf t).toNat)
  case atStart => exact ⟨0, by omega, fun j h => by omega, rfl, rfl⟩
  case round =>
    obtain ⟨k, hk, hno, rfl, rfl⟩ := hrel
    have HN := Lib.hid hno
    clear hno
    by_cases hlt : k < es.length
    · obtain ⟨b, o, hA, hbo, f0, f1, f2, f3, f4, f5, f6⟩ := EntryR.at_ HR.out hlt
      subst hA
      have HD : Hid (Jn.isRv id es[k] = (es[k].kind == 3 && es[k].of == id)) := Lib.hid rfl
      have HST : Hid (Jn.isRv id es[k] = false → ∀ j (h : j < k + 1) (h2 : j < es.length), Jn.isRv id (es[j]'h2) = false) := Lib.hid (fun hq j h h1 => by
        by_cases e : j = k
        · subst e; exact hq
        · exact HN.out j (by omega) h1)
      cases h3 : (es[k].kind == 3)
      · have HQ := Lib.hid (HST.out (by rw [HD.out, h3]; rfl))
        go_wp2_with fail
        go_roundw
        case rel => exact ⟨k + 1, by omega, HQ.out, by go_num, trivial⟩
        case measure => simp [intOf]; omega
      · cases hq : (es[k].of == id)
        · have HQ := Lib.hid (HST.out (by rw [HD.out, h3, hq]; rfl))
          go_wp2_with fail
          go_roundw
          case rel => exact ⟨k + 1, by omega, HQ.out, by go_num, trivial⟩
          case measure => simp [intOf]; omega
        · have HE : Hid (Jn.revI es id = es[k].id) := Lib.hid (Jn.revI_hit hlt (fun j hj => HN.out j hj (by omega)) (by rw [HD.out, h3, hq]; rfl))
          go_wp2_with fail
          go_ret
          exact ⟨ret_int HE.out.symm, rfl⟩
    · have HE : Hid (Jn.revI es id = 0) := Lib.hid (Jn.revI_miss fun j hj => HN.out j (by omega) hj)
      go_wp2_with fail
      go_ret
      exact ⟨ret_int HE.out.symm, rfl⟩
end Go.Proofs.YtnddoehhcpejjaaGreat
