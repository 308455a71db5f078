/- Sums by accounts, in order and without noughts. No program. -/
import Derived.Test.YthenamibehbdnaaSumMath
import Derived.Test.YthenamibehbdnaaLibH
import Derived.Maps.RangeWalk
namespace Go.Proofs.Ythenamibehbdnaa
set_option linter.unusedVariables false
set_option linter.unusedSimpArgs false
open Go.RowKit

/-- L are the accounts on which f is not 0, in order, with f -/
def IsC (f : Int → Int) (L : List Bal) : Prop := (L.map Bal.account).Pairwise (· < ·) ∧ ∀ x : Bal, x ∈ L ↔ (f x.account = x.amount ∧ x.amount ≠ 0)
theorem asc_unique {l m : List Int} (hl : l.Pairwise (· < ·)) (hm : m.Pairwise (· < ·)) (h : ∀ c, c ∈ l ↔ c ∈ m) : l = m := by
  induction l generalizing m with
  | nil =>
    cases m with
    | nil => rfl
    | cons b m => exact absurd ((h b).2 (by simp)) (by simp)
  | cons a l ih =>
    cases m with
    | nil => exact absurd ((h a).1 (by simp)) (by simp)
    | cons b m =>
      rw [List.pairwise_cons] at hl hm
      have e : a = b := by
        have h1 := (h a).1 (by simp)
        have h2 := (h b).2 (by simp)
        simp only [List.mem_cons] at h1 h2
        rcases h1 with h1 | h1
        · exact h1
        · rcases h2 with h2 | h2
          · exact h2.symm
          · have := hm.1 a h1
            have := hl.1 b h2
            omega
      subst e
      rw [ih hl.2 hm.2]
      intro c
      constructor
      · intro hc
        have h1 := (h c).1 (by simp [hc])
        simp only [List.mem_cons] at h1
        rcases h1 with h1 | h1
        · have := hl.1 c hc; omega
        · exact h1
      · intro hc
        have h1 := (h c).2 (by simp [hc])
        simp only [List.mem_cons] at h1
        rcases h1 with h1 | h1
        · have := hm.1 c hc; omega
        · exact h1
theorem isC_codes {f : Int → Int} {L : List Bal} (h : IsC f L) (c : Int) : c ∈ L.map Bal.account ↔ f c ≠ 0 := by
  constructor
  · intro hc
    obtain ⟨x, hx, rfl⟩ := List.mem_map.1 hc
    obtain ⟨h1, h2⟩ := (h.2 x).1 hx
    rw [h1]; exact h2
  · intro hc
    exact List.mem_map.2 ⟨⟨c, f c⟩, (h.2 _).2 ⟨rfl, hc⟩, rfl⟩
theorem isC_is {f : Int → Int} {L : List Bal} (h : IsC f L) : L = (L.map Bal.account).map fun c => ⟨c, f c⟩ := by
  rw [List.map_map]
  have e : L.map ((fun c => (⟨c, f c⟩ : Bal)) ∘ Bal.account) = L.map id := by
    refine List.map_congr_left fun x hx => ?_
    have := ((h.2 x).1 hx).1
    simp [this]
  rw [e, List.map_id]
theorem isC_unique {f e : Int → Int} {L M : List Bal} (hL : IsC f L) (hM : IsC e M) (h : ∀ c, f c = e c) : L = M := by
  have : f = e := funext h
  subst this
  rw [isC_is hL, isC_is hM, asc_unique hL.1 hM.1 (fun c => by rw [isC_codes hL, isC_codes hM])]
theorem isC_of {f : Int → Int} {l : List Int} (h : l.Pairwise (· < ·)) (hm : ∀ c, c ∈ l ↔ f c ≠ 0) : IsC f (l.map fun c => ⟨c, f c⟩) := by
  constructor
  · rw [List.map_map]
    have : (Bal.account ∘ fun c => (⟨c, f c⟩ : Bal)) = id := rfl
    rw [this, List.map_id]; exact h
  · intro x
    rw [List.mem_map]
    constructor
    · rintro ⟨c, hc, rfl⟩
      exact ⟨rfl, (hm c).1 hc⟩
    · rintro ⟨h1, h2⟩
      exact ⟨x.account, (hm _).2 (by rw [h1]; exact h2), by rw [h1]⟩

/-- accounts with f -/
def balsOf (f : Int → Int) (l : List Int) : List Bal := l.map fun c => ⟨c, f c⟩
theorem balsOf_len (f : Int → Int) (l : List Int) : (balsOf f l).length = l.length := by unfold balsOf; rw [List.length_map]
theorem balsOf_take (f : Int → Int) (l : List Int) (j : Nat) (hj : j < l.length) : balsOf f (l.take (j + 1)) = balsOf f (l.take j) ++ [⟨l[j], f l[j]⟩] := by unfold balsOf; rw [List.take_succ_eq_append_getElem hj, List.map_append]; rfl
/-- what a round over a map has gathered: the keys met, on which f is not 0 -/
def Gath (f : Int → Int) (D : DataW Unit) (left : Lit → Bool) (L : List Int) : Prop :=
  L.Nodup ∧ (∀ c, c ∈ L ↔ (Maps.has D (.int .i64 c) = true ∧ left (.int .i64 c) = false ∧ f c ≠ 0)) ∧ (∀ c, Maps.has D (.int .i64 c) = true → left (.int .i64 c) = false → amV (f c) = true)
theorem gath_start (f : Int → Int) (D : DataW Unit) : Gath f D (Maps.has D) [] := by
  refine ⟨List.nodup_nil, fun c => ?_, fun c h1 h2 => ?_⟩
  · constructor
    · intro h; simp at h
    · rintro ⟨h1, h2, _⟩; rw [h1] at h2; cases h2
  · rw [h1] at h2; cases h2
/-- what is left behind a step -/
def strike (left : Lit → Bool) (x : Int) : Lit → Bool := fun z => left z && !z.sameKey (.int .i64 x)
theorem strike_at (left : Lit → Bool) (x c : Int) : strike left x (.int .i64 c) = (if c = x then false else left (.int .i64 c)) := by
  unfold strike
  by_cases h : c = x
  · subst h
    rw [if_pos rfl, WideAt.sameKey_self (show WideAt.IsKeyLit (.int .i64 c) from trivial)]
    simp
  · rw [if_neg h, Maps.sameKey_ne (fun e => h (by injection e))]
    simp
theorem gath_skip {f : Int → Int} {D : DataW Unit} {left : Lit → Bool} {L : List Int} {x : Int} (h : Gath f D left L) (h0 : f x = 0) : Gath f D (strike left x) L := by
  refine ⟨h.1, fun c => ?_, fun c h1 h2 => ?_⟩
  · rw [h.2.1 c, strike_at]
    by_cases e : c = x
    · subst e; simp [h0]
    · rw [if_neg e]
  · rw [strike_at] at h2
    by_cases e : c = x
    · subst e; rw [h0]; rfl
    · rw [if_neg e] at h2; exact h.2.2 c h1 h2
theorem gath_take {f : Int → Int} {D : DataW Unit} {left : Lit → Bool} {L : List Int} {x : Int} (h : Gath f D left L) (hl : left (.int .i64 x) = true) (hD : Maps.has D (.int .i64 x) = true) (h0 : f x ≠ 0) (hx : amV (f x) = true) :
    Gath f D (strike left x) (L ++ [x]) := by
  have hn : x ∉ L := fun hx => by have := ((h.2.1 x).1 hx).2.1; rw [hl] at this; cases this
  refine ⟨?_, fun c => ?_, fun c h1 h2 => ?_⟩
  · rw [List.nodup_append]
    refine ⟨h.1, by simp, ?_⟩
    intro a ha b hb
    simp only [List.mem_singleton] at hb
    subst hb
    rintro rfl
    exact hn ha
  · rw [strike_at, List.mem_append, List.mem_singleton, h.2.1 c]
    by_cases e : c = x
    · subst e; simp [hD, h0]
    · rw [if_neg e]; simp [e]
  · rw [strike_at] at h2
    by_cases e : c = x
    · subst e; exact hx
    · rw [if_neg e] at h2; exact h.2.2 c h1 h2
theorem gath_end {f : Int → Int} {D : DataW Unit} {left : Lit → Bool} {L : List Int} (h : Gath f D left L) (hl : ∀ kl, left kl = false) (hD : ∀ c, D.atKey (.int .i64 c) (.lit (.int .i64 0)) = .lit (.int .i64 (f c))) :
    (∀ c, c ∈ L ↔ f c ≠ 0) ∧ ∀ c, amV (f c) = true := by
  have hk : ∀ c, f c ≠ 0 → Maps.has D (.int .i64 c) = true := by
    intro c hc
    cases hh : Maps.has D (.int .i64 c) with
    | true => rfl
    | false =>
      have := hD c
      rw [Maps.atKey_of_not_has hh] at this
      injection this with this
      injection this with _ this
      exact absurd this.symm hc
  refine ⟨fun c => ?_, fun c => ?_⟩
  · rw [h.2.1 c]
    exact ⟨fun hh => hh.2.2, fun hh => ⟨hk c hh, hl _, hh⟩⟩
  · by_cases hc : f c = 0
    · rw [hc]; rfl
    · exact h.2.2 c (hk c hc) (hl _)
/-- the gathered numbers in order -/
def srt (l : List Int) : List Int := l.mergeSort fun x y => decide (x ≤ y)
theorem srt_len (l : List Int) : (srt l).length = l.length := (List.mergeSort_perm l _).length_eq
theorem srt_mem (l : List Int) (c : Int) : c ∈ srt l ↔ c ∈ l := (List.mergeSort_perm l _).mem_iff
theorem srt_asc {l : List Int} (h : l.Nodup) : (srt l).Pairwise (· < ·) := by
  have h1 : (srt l).Pairwise (fun x y => decide (x ≤ y) = true) := List.pairwise_mergeSort (fun a b c h1 h2 => by simp at h1 h2 ⊢; omega) (fun a b => by simp; omega) l
  have h2 : (srt l).Nodup := (List.mergeSort_perm l _).nodup_iff.2 h
  have h3 := List.Pairwise.and h1 h2
  refine h3.imp fun {a b} h => ?_
  simp only [decide_eq_true_eq, ne_eq] at h
  omega
theorem run_make_ints {P : Program} {t e : TypeId} {i : TypeInfo} {z : Value} (ht : P.underlying t = some (.slice e)) (hi : P.info? e = some i) (hz : i.zero = some z) (h1 : i.size = 1) (h8 : i.bytes = 8) (n : Nat) (hn : n ≤ 100000000) (w : World) :
    (Instr.makeSlice t (.int .i64 0) (.int .i64 (n : Int))).run P w = .ok (.slice (some ⟨w.heap.size, 0, none⟩) 0 n) (w.alloc (.cells (madeCells z.cells (n * 1)) e)) := by
  have := run_make (P := P) (w := w) t e i z ht hi hz .i64 .i64 0 (n : Int) (by omega) (by omega) (by rw [h8]; omega) (by omega)
  simpa [h1] using this
/-- two rows of different elements do not meet -/
theorem own_apart {w w' : World} {base base' : Nat} {e e' : TypeId} {sz sz' n n' : Nat} {v v' : Value} {xs xs' : List Value} (h : w.ownsRow base e sz v n xs) (h' : w.ownsRow base' e' sz' v' n' xs') (hne : e ≠ e') (hg : w.grownBy w' v'.ownBlock) : w'.ownsRow base e sz v n xs := by
  refine h.kept hg ?_
  rcases h.2 with ⟨rfl, _⟩ | ⟨g, cap, cur, rfl, _, hh, _⟩
  · exact .inl rfl
  · right
    rcases h'.2 with ⟨rfl, _⟩ | ⟨g', cap', cur', rfl, _, hh', _⟩
    · simp [Value.ownBlock]
    · simp only [Value.ownBlock, ne_eq, Option.some.injEq]
      rintro rfl
      rw [hh] at hh'
      injection hh' with hh'
      injection hh' with _ hh'
      exact hne hh'
theorem range_ne {P : Program} {k E : TypeId} {R : Value → Option (DataW Unit × List MemPlace)} {w : World} {b r n cnt base sz m : Nat} {D : DataW Unit} {left : Lit → Bool} {v : Value} {xs : List Value} (h : w.ranges P k R b r n D left cnt) (ho : w.ownsRow base E sz v m xs) : v.ownBlock ≠ some r := by
  obtain ⟨es, cl, si, se, c0, _, _, _, _, hr, _⟩ := h
  rcases ho.2 with ⟨rfl, _⟩ | ⟨g, cap, cur, rfl, _, hg, _⟩
  · simp [Value.ownBlock]
  · simp only [Value.ownBlock, ne_eq, Option.some.injEq]
    rintro rfl
    rw [hr] at hg
    simp at hg
/-- a row of the call's own reads -/
theorem own_rd {w : World} {base : Nat} {e : TypeId} {sz n c : Nat} {A : Option Addr} {xs : List Value} (h : w.ownsRow base e sz (.slice A n c) n xs) : Rd w w.heap.size sz A n xs := by
  obtain ⟨A', c', e1, h1⟩ := Rd.of_own h
  injection e1 with e1 e2 e3
  subst e1
  exact h1
end Go.Proofs.Ythenamibehbdnaa
