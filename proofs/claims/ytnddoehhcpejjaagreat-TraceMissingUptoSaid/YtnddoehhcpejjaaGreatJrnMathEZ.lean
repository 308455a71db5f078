/- Texts of this claim, put together. -/
import Derived.Test.YtnddoehhcpejjaaGreatJAQ
/- An entry's head and lines, as the walks ask for them. No walk. -/
namespace Go.Proofs.YtnddoehhcpejjaaGreat
set_option linter.unusedVariables false
set_option linter.unusedSimpArgs false
open Go.RowKit

namespace Jn
/-- the error of an entry's form -/
def fmE (V : Bool) (n : Int) (x : EntryR) : Int := if formB V n x then 0 else 1
structure HeadOk (V : Bool) (n : Int) (x : EntryR) : Prop where
  v : V = true
  id : 1 ≤ x.id
  e0 : 0 ≤ x.entity
  e1 : x.entity < n
  k0 : 1 ≤ x.kind
  k1 : x.kind ≤ 3
  of3 : x.kind = 3 → 1 ≤ x.of
  of0 : x.kind ≠ 3 → x.of = 0
  pl : plainB x.text = true
  l0 : 2 ≤ x.lines.l.length
  l1 : x.lines.l.length ≤ 40
theorem head_iff {V : Bool} {n : Int} {x : EntryR} : headB V n x = true ↔ HeadOk V n x := by
  unfold headB
  simp only [Bool.and_eq_true, decide_eq_true_eq]
  constructor
  · rintro ⟨⟨⟨⟨⟨⟨⟨⟨⟨a, b⟩, c⟩, d⟩, e⟩, f⟩, g⟩, h⟩, i⟩, j⟩
    refine ⟨a, b, c, d, e, f, fun h3 => ?_, fun h3 => ?_, h, i, j⟩
    · rw [if_pos h3] at g; simpa using g
    · rw [if_neg h3] at g; simpa using g
  · intro h
    refine ⟨⟨⟨⟨⟨⟨⟨⟨⟨h.v, h.id⟩, h.e0⟩, h.e1⟩, h.k0⟩, h.k1⟩, ?_⟩, h.pl⟩, h.l0⟩, h.l1⟩
    by_cases h3 : x.kind = 3
    · rw [if_pos h3]; simpa using h.of3 h3
    · rw [if_neg h3]; simpa using h.of0 h3
theorem fm_no {V : Bool} {n : Int} {x : EntryR} (h : ¬ HeadOk V n x) : fmE V n x = 1 := by
  unfold fmE formB
  have : headB V n x = false := by
    cases h2 : headB V n x
    · rfl
    · exact absurd (head_iff.1 h2) h
  rw [this]
  rfl
theorem fm_line {V : Bool} {n : Int} {x : EntryR} {k : Nat} (hk : k < x.lines.l.length) (h : lineB n x.entity x.lines.l[k] = false) : fmE V n x = 1 := by
  unfold fmE formB
  have : x.lines.l.all (lineB n x.entity) = false := by
    cases h2 : x.lines.l.all (lineB n x.entity)
    · rfl
    · rw [List.all_eq_true] at h2
      rw [h2 _ (List.getElem_mem hk)] at h
      cases h
  rw [this, Bool.and_false]
  rfl
theorem fm_yes {V : Bool} {n : Int} {x : EntryR} (h : HeadOk V n x) (h2 : ∀ k (hk : k < x.lines.l.length), lineB n x.entity x.lines.l[k] = true) : fmE V n x = 0 := by
  unfold fmE formB
  have : x.lines.l.all (lineB n x.entity) = true := by
    rw [List.all_eq_true]
    intro y hy
    obtain ⟨k, hk, rfl⟩ := List.mem_iff_getElem.1 hy
    exact h2 k hk
  rw [this, head_iff.2 h]
  rfl
theorem fm_ok {V : Bool} {n : Int} {x : EntryR} (h : fmE V n x = 0) : HeadOk V n x ∧ ∀ l ∈ x.lines.l, lineB n x.entity l = true := by
  unfold fmE at h
  cases hf : formB V n x
  · rw [hf] at h; simp at h
  · unfold formB at hf
    rw [Bool.and_eq_true, List.all_eq_true] at hf
    exact ⟨head_iff.1 hf.1, hf.2⟩
structure LineOk (n e : Int) (l : LineR) : Prop where
  nz : l.amount ≠ 0
  am : amV l.amount = true
  p0 : -1 ≤ l.partner
  p1 : l.partner < n
  pe : l.partner ≠ e
theorem line_iff {n e : Int} {l : LineR} (hn : 0 ≤ n) (he : 0 ≤ e) : lineB n e l = true ↔ LineOk n e l := by
  unfold lineB
  simp only [Bool.and_eq_true, Bool.or_eq_true, Bool.not_eq_true', decide_eq_true_eq, beq_eq_false_iff_ne, ne_eq]
  constructor
  · rintro ⟨⟨a, b⟩, c | ⟨⟨c, d⟩, f⟩⟩
    · exact ⟨a, b, by omega, by omega, by omega⟩
    · exact ⟨a, b, by omega, d, f⟩
  · intro h
    refine ⟨⟨h.nz, h.am⟩, ?_⟩
    by_cases h1 : l.partner = -1
    · exact .inl h1
    · exact .inr ⟨⟨by have := h.p0; omega, h.p1⟩, h.pe⟩
theorem line_no {n e : Int} {l : LineR} (hn : 0 ≤ n) (he : 0 ≤ e) (h : ¬ LineOk n e l) : lineB n e l = false := by
  cases h2 : lineB n e l
  · rfl
  · exact absurd ((line_iff hn he).1 h2) h
/-- an entry's error, in four steps -/
theorem ck_form {V : Bool} {n : Int} {K : Int → Int → Bool} {D : Int → Bool} {x : EntryR} (h : fmE V n x = 1) : ckE V n K D x = 1 := by
  unfold fmE at h
  unfold ckE
  cases hf : formB V n x
  · rfl
  · rw [hf] at h; simp at h
/-- the error of an entry's accounts -/
def chE (K : Int → Int → Bool) (x : EntryR) : Int := if x.lines.l.all (fun l => K x.entity l.account) then 0 else 17
def daE (D : Int → Bool) (x : EntryR) : Int := if D x.date then 0 else 2
def baE (x : EntryR) : Int := if sumL x.lines.l = 0 then 0 else 11
theorem ch_no {K : Int → Int → Bool} {x : EntryR} {k : Nat} (hk : k < x.lines.l.length) (h : K x.entity x.lines.l[k].account = false) : chE K x = 17 := by
  unfold chE
  have : (x.lines.l.all fun l => K x.entity l.account) = false := by
    cases h2 : x.lines.l.all (fun l => K x.entity l.account)
    · rfl
    · rw [List.all_eq_true] at h2
      rw [h2 _ (List.getElem_mem hk)] at h
      cases h
  rw [this]
  rfl
theorem ch_yes {K : Int → Int → Bool} {x : EntryR} (h2 : ∀ k (hk : k < x.lines.l.length), K x.entity x.lines.l[k].account = true) : chE K x = 0 := by
  unfold chE
  have : (x.lines.l.all fun l => K x.entity l.account) = true := by
    rw [List.all_eq_true]
    intro y hy
    obtain ⟨k, hk, rfl⟩ := List.mem_iff_getElem.1 hy
    exact h2 k hk
  rw [this]
  rfl
theorem ck_steps (V : Bool) (n : Int) (K : Int → Int → Bool) (D : Int → Bool) (x : EntryR) :
    ckE V n K D x = if fmE V n x = 0 then (if chE K x = 0 then (if daE D x = 0 then baE x else daE D x) else chE K x) else fmE V n x := by
  unfold ckE fmE chE daE baE
  cases formB V n x <;> cases x.lines.l.all (fun l => K x.entity l.account) <;> cases D x.date <;> simp
theorem ck_zero {V : Bool} {n : Int} {K : Int → Int → Bool} {D : Int → Bool} {x : EntryR} (h : ckE V n K D x = 0) : fmE V n x = 0 := by
  rw [ck_steps] at h
  by_cases h1 : fmE V n x = 0
  · exact h1
  · rw [if_neg h1] at h; exact absurd h h1
/-- the lines of a checked entry -/
theorem ck_lines {V : Bool} {n : Int} {K : Int → Int → Bool} {D : Int → Bool} {x : EntryR} (h : ckE V n K D x = 0) : 2 ≤ x.lines.l.length ∧ x.lines.l.length ≤ 40 ∧ ∀ l ∈ x.lines.l, -1000000000000 ≤ l.amount ∧ l.amount ≤ 1000000000000 := by
  obtain ⟨h1, h2⟩ := fm_ok (ck_zero h)
  refine ⟨h1.l0, h1.l1, fun l hl => ?_⟩
  have := h2 l hl
  unfold lineB at this
  simp only [Bool.and_eq_true] at this
  exact amV_is this.1.2
end Jn
end Go.Proofs.YtnddoehhcpejjaaGreat
