/- Texts of this claim, put together. -/
import Derived.Test.YtnddoehhcpejjaaGreatJAA
import Derived.Test.YtnddoehhcpejjaaGreatJAB
/- Charts of accounts: accounts found, ways to the top, validity. No Go and no program. -/
namespace Go.Proofs.YtnddoehhcpejjaaGreat
set_option linter.unusedVariables false
set_option linter.unusedSimpArgs false
open Go.RowKit

structure Acc where
  code : Int
  kind : Int
  basis : Int
  parent : Int
namespace Ch
def zero : Acc := ⟨0, 0, 0, 0⟩
def cells1 (a : Acc) : List Value := [.int .i64 a.code, .int .i64 a.kind, .int .i64 a.basis, .int .i64 a.parent]
def val (a : Acc) : Value := .agg #[.int .i64 a.code, .int .i64 a.kind, .int .i64 a.basis, .int .i64 a.parent]
def cells : List Acc → List Value
  | [] => []
  | a :: l => cells1 a ++ cells l
theorem cells_len (l : List Acc) : (cells l).length = l.length * 4 := by
  induction l with
  | nil => rfl
  | cons a l ih => simp [cells, cells1, ih]; omega
theorem cells_at (l : List Acc) (k j : Nat) (hk : k < l.length) (hj : j < 4) : (cells l)[k * 4 + j]? = (cells1 l[k])[j]? := by
  induction l generalizing k with
  | nil => simp at hk
  | cons a l ih =>
    cases k with
    | zero =>
      simp only [cells, Nat.zero_mul, Nat.zero_add, List.getElem_cons_zero]
      rw [List.getElem?_append_left (by simp [cells1]; omega)]
    | succ k =>
      simp only [cells, List.getElem_cons_succ]
      rw [List.getElem?_append_right (by simp [cells1]; omega), ← ih k (by simpa using hk)]
      congr 1
      simp [cells1]; omega
/-- where the accounts of a list lie -/
theorem at_ {w : World} {B : Nat} {A : Option Addr} {l : List Acc} (h : Rd w B 4 A l.length (cells l)) {k : Nat} (hk : k < l.length) :
    ∃ b o, A = some ⟨b, o, none⟩ ∧ b < B ∧ w.cell? ⟨b, o + k * 4, none⟩ = some (.int .i64 l[k].code) ∧ w.cell? ⟨b, o + k * 4 + 1, none⟩ = some (.int .i64 l[k].kind) ∧
      w.cell? ⟨b, o + k * 4 + 2, none⟩ = some (.int .i64 l[k].basis) ∧ w.cell? ⟨b, o + k * 4 + 3, none⟩ = some (.int .i64 l[k].parent) := by
  obtain ⟨b, o, e, hb, hc⟩ := h.2 (by omega)
  have c0 := hc (k * 4 + 0) (.int .i64 l[k].code) (by rw [cells_at l k 0 hk (by omega)]; rfl)
  have c1 := hc (k * 4 + 1) (.int .i64 l[k].kind) (by rw [cells_at l k 1 hk (by omega)]; rfl)
  have c2 := hc (k * 4 + 2) (.int .i64 l[k].basis) (by rw [cells_at l k 2 hk (by omega)]; rfl)
  have c3 := hc (k * 4 + 3) (.int .i64 l[k].parent) (by rw [cells_at l k 3 hk (by omega)]; rfl)
  exact ⟨b, o, e, hb, c0, c1, c2, c3⟩

/-- the first account with a code -/
def find (l : List Acc) (c : Int) : Option Acc := l.find? fun a => a.code == c
def fnV (l : List Acc) (c : Int) : Acc := (find l c).getD zero
def fnB (l : List Acc) (c : Int) : Bool := (find l c).isSome
theorem find_at (l : List Acc) (c : Int) (k : Nat) (hk : k < l.length) (hc : l[k].code = c) (hn : ∀ j (h : j < k), (l[j]'(by omega)).code ≠ c) : find l c = some l[k] := by
  unfold find
  rw [List.find?_eq_some_iff_getElem]
  refine ⟨by simpa using hc, k, hk, rfl, fun j hj => ?_⟩
  simpa using hn j hj
theorem find_none (l : List Acc) (c : Int) (hn : ∀ j (h : j < l.length), l[j].code ≠ c) : find l c = none := by
  unfold find
  rw [List.find?_eq_none]
  intro a ha
  obtain ⟨j, hj, rfl⟩ := List.mem_iff_getElem.1 ha
  simpa using hn j hj
theorem find_some (l : List Acc) (c : Int) (a : Acc) (h : find l c = some a) : a ∈ l ∧ a.code = c := by
  unfold find at h
  exact ⟨List.mem_of_find?_eq_some h, by simpa using List.find?_some h⟩
theorem find_mem (l : List Acc) (c : Int) (a : Acc) (h : find l c = some a) : c ∈ l.map Acc.code := by
  obtain ⟨h1, h2⟩ := find_some l c a h
  exact List.mem_map.2 ⟨a, h1, h2⟩

/-- the way up, without a code twice -/
def up (l : List Acc) : Nat → List Int → Int → List Int
  | 0, s, _ => s
  | n + 1, s, c => match find l c with
    | none => s
    | some a => if c ∈ s then s else up l n (s ++ [c]) a.parent
def pcl (l : List Acc) (c : Int) : List Int := up l (l.length + 1) [] c
theorem up_none (l : List Acc) (n : Nat) (s : List Int) (c : Int) (h : find l c = none) : up l (n + 1) s c = s := by unfold up; rw [h]
theorem up_seen (l : List Acc) (n : Nat) (s : List Int) (c : Int) (h : c ∈ s) : up l (n + 1) s c = s := by
  unfold up
  cases find l c
  · rfl
  · simp [h]
theorem up_on (l : List Acc) (n : Nat) (s : List Int) (c : Int) (a : Acc) (h : find l c = some a) (hs : c ∉ s) : up l (n + 1) s c = up l n (s ++ [c]) a.parent := by
  rw [up]; simp [h, hs]
theorem nodup_len (s t : List Int) (hd : s.Nodup) (hs : ∀ x ∈ s, x ∈ t) : s.length ≤ t.length := by
  induction s generalizing t with
  | nil => simp
  | cons a s ih =>
    have ha := hs a (by simp)
    have hn := List.nodup_cons.1 hd
    have := ih (t.erase a) hn.2 (fun x hx => by
      refine (List.mem_erase_of_ne ?_).2 (hs x (by simp [hx]))
      rintro rfl
      exact hn.1 hx)
    rw [List.length_erase_of_mem ha] at this
    have := List.length_pos_of_mem ha
    simp only [List.length_cons]
    omega
/-- a way: codes of the chart, none twice -/
def way (l : List Acc) (s : List Int) : Prop := s.Nodup ∧ ∀ x ∈ s, x ∈ l.map Acc.code
theorem way_nil (l : List Acc) : way l [] := ⟨List.nodup_nil, by simp⟩
theorem way_len {l : List Acc} {s : List Int} (h : way l s) : s.length ≤ l.length := by
  have := nodup_len s _ h.1 h.2
  simpa using this
theorem way_on {l : List Acc} {s : List Int} {c : Int} {a : Acc} (h : way l s) (hf : find l c = some a) (hs : c ∉ s) : way l (s ++ [c]) := by
  refine ⟨?_, fun x hx => ?_⟩
  · rw [List.nodup_append]
    refine ⟨h.1, by simp, ?_⟩
    intro a ha b hb
    simp only [List.mem_singleton] at hb
    subst hb
    rintro rfl
    exact hs ha
  · rcases List.mem_append.1 hx with hx | hx
    · exact h.2 x hx
    · simp only [List.mem_singleton] at hx
      subst hx
      exact find_mem l _ a hf
/-- the way up, by so many steps -/
def ru (l : List Acc) : Nat → List Int → Int → List Int
  | 0, s, _ => s
  | n + 1, s, c => match find l c with
    | none => s
    | some a => ru l n (s ++ [c]) a.parent
def rcl (l : List Acc) (c : Int) : List Int := ru l (l.length + 1) [] c
theorem ru_none (l : List Acc) (n : Nat) (s : List Int) (c : Int) (h : find l c = none) : ru l n s c = s := by
  cases n with
  | zero => rfl
  | succ n => unfold ru; rw [h]
theorem ru_on (l : List Acc) (n : Nat) (s : List Int) (c : Int) (a : Acc) (h : find l c = some a) : ru l (n + 1) s c = ru l n (s ++ [c]) a.parent := by
  rw [ru]; simp [h]
/-- the codes of the accounts with a parent -/
def kids (l : List Acc) (c : Int) : List Int := (l.filter fun a => a.parent == c).map Acc.code
theorem kids_take (l : List Acc) (c : Int) (k : Nat) (h : k < l.length) : kids (l.take (k + 1)) c = if l[k].parent = c then kids (l.take k) c ++ [l[k].code] else kids (l.take k) c := by
  unfold kids
  rw [List.take_succ_eq_append_getElem h, List.filter_append]
  by_cases hp : l[k].parent = c
  · simp [hp]
  · simp [hp]
theorem kids_len (l : List Acc) (c : Int) : (kids l c).length ≤ l.length := by
  unfold kids
  rw [List.length_map]
  exact List.length_filter_le _ _
theorem up_way (l : List Acc) (n : Nat) (s : List Int) (c : Int) (h : way l s) : way l (up l n s c) := by
  induction n generalizing s c with
  | zero => exact h
  | succ n ih =>
    cases hf : find l c with
    | none => rw [up_none l n s c hf]; exact h
    | some a =>
      by_cases hs : c ∈ s
      · rw [up_seen l n s c hs]; exact h
      · rw [up_on l n s c a hf hs]; exact ih _ _ (way_on h hf hs)
theorem pcl_len (l : List Acc) (c : Int) : (pcl l c).length ≤ l.length := way_len (up_way l _ _ c (way_nil l))
/-- the parent of the account at the top of a way -/
def top (l : List Acc) (c : Int) : Int := (fnV l ((pcl l c).getLast?.getD 0)).parent
def fieldsV (a : Acc) (g : Bool) : Bool := decide (1 ≤ a.code) && decide (a.code ≤ 99999) && decide (1 ≤ a.kind) && decide (a.kind ≤ 5) && (if g then decide (1 ≤ a.basis) && decide (a.basis ≤ 3) else a.basis == 0)
def restV (l : List Acc) (a : Acc) : Bool := match find l a.parent with
  | none => false
  | some p => p.code != a.code && p.kind == a.kind && top l a.code == 0
def properV (l : List Acc) (a : Acc) (g : Bool) : Bool := fieldsV a g && (a.parent == 0 || restV l a)
def rrestV (l : List Acc) (a : Acc) : Bool := match find l a.parent with
  | none => false
  | some p => p.code != a.code && p.kind == a.kind
def rproperV (l : List Acc) (a : Acc) (g : Bool) : Bool := fieldsV a g && (a.parent == 0 || rrestV l a)
def rokAt (l : List Acc) (g : Bool) (j : Nat) : Bool := rproperV l (l.getD j zero) g && (j == 0 || decide ((l.getD (j - 1) zero).code < (l.getD j zero).code)) && decide ((rcl l (l.getD j zero).code).length ≤ l.length)
def rvalidV (l : List Acc) (g : Bool) : Bool := decide (l.length ≤ 200) && (List.range l.length).all (rokAt l g)
/-- the account at a place is as it must be -/
def okAt (l : List Acc) (g : Bool) (j : Nat) : Bool := (j == 0 || decide ((l.getD (j - 1) zero).code < (l.getD j zero).code)) && properV l (l.getD j zero) g
def validV (l : List Acc) (g : Bool) : Bool := (List.range l.length).all (okAt l g) && decide (l.length ≤ 200)
theorem valid_no (l : List Acc) (g : Bool) (k : Nat) (hk : k < l.length) (h : okAt l g k = false) : validV l g = false := by
  unfold validV
  have : (List.range l.length).all (okAt l g) = false := by
    rw [List.all_eq_false]
    exact ⟨k, by simpa using hk, by simp [h]⟩
  rw [this]; rfl
theorem valid_end (l : List Acc) (g : Bool) (h : ∀ j, j < l.length → okAt l g j = true) : validV l g = decide (l.length ≤ 200) := by
  unfold validV
  have : (List.range l.length).all (okAt l g) = true := by
    rw [List.all_eq_true]
    intro j hj
    exact h j (by simpa using hj)
  rw [this]; rfl
theorem getD_at (l : List Acc) (k : Nat) (hk : k < l.length) : l.getD k zero = l[k] := by simp [List.getD, hk]
theorem pcl_ne (l : List Acc) (k : Nat) (hk : k < l.length) : pcl l l[k].code ≠ [] := by
  have : ∃ a, find l l[k].code = some a := by
    cases h : find l l[k].code with
    | some a => exact ⟨a, rfl⟩
    | none =>
      unfold find at h
      rw [List.find?_eq_none] at h
      exact absurd (by simp) (h l[k] (List.getElem_mem hk))
  obtain ⟨a, ha⟩ := this
  unfold pcl
  rw [up_on l l.length [] l[k].code a ha (by simp)]
  have hkeep : ∀ (n : Nat) (s : List Int) (c : Int), s ≠ [] → up l n s c ≠ [] := by
    intro n
    induction n with
    | zero => intro s c hs; exact hs
    | succ n ih =>
      intro s c hs
      unfold up
      cases find l c with
      | none => exact hs
      | some x =>
        show (if c ∈ s then s else up l n (s ++ [c]) x.parent) ≠ []
        split
        · exact hs
        · exact ih _ _ (by simp)
  exact hkeep _ _ _ (by simp)
end Ch
end Go.Proofs.YtnddoehhcpejjaaGreat
/- Lists of accounts as lists of records. No program. -/
namespace Go.Proofs.YtnddoehhcpejjaaGreat
set_option linter.unusedVariables false
set_option linter.unusedSimpArgs false
open Go.RowKit

theorem cells_gen (l : List Acc) : Ch.cells l = cellsOf Ch.cells1 l := by
  induction l with
  | nil => rfl
  | cons a l ih => simp [Ch.cells, cellsOf, ih]
instance accInh : Inhabited Acc := ⟨Ch.zero⟩
theorem acc_mk (r : List Int) (h : r.length = 4) : ∃ a : Acc, Ch.cells1 a = r.map (Value.int .i64) := by
  match r, h with
  | [a, b, c, d], _ => exact ⟨⟨a, b, c, d⟩, rfl⟩
abbrev Acc.cells (a : Acc) : List Value := Ch.cells1 a
theorem Acc.len (a : Acc) : a.cells.length = 4 := rfl
theorem acc_gen (l : List Acc) : cellsOf Acc.cells l = Ch.cells l := (cells_gen l).symm
end Go.Proofs.YtnddoehhcpejjaaGreat
