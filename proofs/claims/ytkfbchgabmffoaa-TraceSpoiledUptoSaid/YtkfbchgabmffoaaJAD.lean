/- Texts of this claim, put together. -/
import Derived.Test.YtkfbchgabmffoaaJAC
import Derived.Maps.RangeWalk
/- Sums by accounts, in order and without noughts. No program. -/
namespace Go.Proofs.Ytkfbchgabmffoaa
set_option linter.unusedVariables false
set_option linter.unusedSimpArgs false
open Go.RowKit

/-- L are the accounts on which f is not 0, in order, with f -/
def IsC (f : Int → Int) (L : List Bal) : Prop := (L.map Bal.account).Pairwise (· < ·) ∧ ∀ x : Bal, x ∈ L ↔ (f x.account = x.amount ∧ x.amount ≠ 0)
theorem asc_unique {l m : List Int} (hl : l.Pairwise (· < ·)) (hm : m.Pairwise (· < ·)) (h : ∀ c, c ∈ l ↔ c ∈ m) : l = m := by
  induction l generalizing m with
  | nil =>
    cases m with
    | nil => rfl
    | cons b m => exact absurd ((h b).2 (by simp)) (by simp)
  | cons a l ih =>
    cases m with
    | nil => exact absurd ((h a).1 (by simp)) (by simp)
    | cons b m =>
      rw [List.pairwise_cons] at hl hm
      have e : a = b := by
        have h1 := (h a).1 (by simp)
        have h2 := (h b).2 (by simp)
        simp only [List.mem_cons] at h1 h2
        rcases h1 with h1 | h1
        · exact h1
        · rcases h2 with h2 | h2
          · exact h2.symm
          · have := hm.1 a h1
            have := hl.1 b h2
            omega
      subst e
      rw [ih hl.2 hm.2]
      intro c
      constructor
      · intro hc
        have h1 := (h c).1 (by simp [hc])
        simp only [List.mem_cons] at h1
        rcases h1 with h1 | h1
        · have := hl.1 c hc; omega
        · exact h1
      · intro hc
        have h1 := (h c).2 (by simp [hc])
        simp only [List.mem_cons] at h1
        rcases h1 with h1 | h1
        · have := hm.1 c hc; omega
        · exact h1
theorem isC_codes {f : Int → Int} {L : List Bal} (h : IsC f L) (c : Int) : c ∈ L.map Bal.account ↔ f c ≠ 0 := by
  constructor
  · intro hc
    obtain ⟨x, hx, rfl⟩ := List.mem_map.1 hc
    obtain ⟨h1, h2⟩ := (h.2 x).1 hx
    rw [h1]; exact h2
  · intro hc
    exact List.mem_map.2 ⟨⟨c, f c⟩, (h.2 _).2 ⟨rfl, hc⟩, rfl⟩
theorem isC_is {f : Int → Int} {L : List Bal} (h : IsC f L) : L = (L.map Bal.account).map fun c => ⟨c, f c⟩ := by
  rw [List.map_map]
  have e : L.map ((fun c => (⟨c, f c⟩ : Bal)) ∘ Bal.account) = L.map id := by
    refine List.map_congr_left fun x hx => ?_
    have := ((h.2 x).1 hx).1
    simp [this]
  rw [e, List.map_id]
theorem isC_unique {f e : Int → Int} {L M : List Bal} (hL : IsC f L) (hM : IsC e M) (h : ∀ c, f c = e c) : L = M := by
  have : f = e := funext h
  subst this
  rw [isC_is hL, isC_is hM, asc_unique hL.1 hM.1 (fun c => by rw [isC_codes hL, isC_codes hM])]
theorem isC_of {f : Int → Int} {l : List Int} (h : l.Pairwise (· < ·)) (hm : ∀ c, c ∈ l ↔ f c ≠ 0) : IsC f (l.map fun c => ⟨c, f c⟩) := by
  constructor
  · rw [List.map_map]
    have : (Bal.account ∘ fun c => (⟨c, f c⟩ : Bal)) = id := rfl
    rw [this, List.map_id]; exact h
  · intro x
    rw [List.mem_map]
    constructor
    · rintro ⟨c, hc, rfl⟩
      exact ⟨rfl, (hm c).1 hc⟩
    · rintro ⟨h1, h2⟩
      exact ⟨x.account, (hm _).2 (by rw [h1]; exact h2), by rw [h1]⟩

/-- accounts with f -/
def balsOf (f : Int → Int) (l : List Int) : List Bal := l.map fun c => ⟨c, f c⟩
theorem balsOf_len (f : Int → Int) (l : List Int) : (balsOf f l).length = l.length := by unfold balsOf; rw [List.length_map]
theorem balsOf_take (f : Int → Int) (l : List Int) (j : Nat) (hj : j < l.length) : balsOf f (l.take (j + 1)) = balsOf f (l.take j) ++ [⟨l[j], f l[j]⟩] := by unfold balsOf; rw [List.take_succ_eq_append_getElem hj, List.map_append]; rfl
/-- what a round over a map has gathered: the keys met, on which f is not 0 -/
def Gath (f : Int → Int) (D : DataW Unit) (left : Lit → Bool) (L : List Int) : Prop :=
  L.Nodup ∧ (∀ c, c ∈ L ↔ (Maps.has D (.int .i64 c) = true ∧ left (.int .i64 c) = false ∧ f c ≠ 0)) ∧ (∀ c, Maps.has D (.int .i64 c) = true → left (.int .i64 c) = false → amV (f c) = true)
theorem gath_start (f : Int → Int) (D : DataW Unit) : Gath f D (Maps.has D) [] := by
  refine ⟨List.nodup_nil, fun c => ?_, fun c h1 h2 => ?_⟩
  · constructor
    · intro h; simp at h
    · rintro ⟨h1, h2, _⟩; rw [h1] at h2; cases h2
  · rw [h1] at h2; cases h2
/-- what is left behind a step -/
def strike (left : Lit → Bool) (x : Int) : Lit → Bool := fun z => left z && !z.sameKey (.int .i64 x)
theorem strike_at (left : Lit → Bool) (x c : Int) : strike left x (.int .i64 c) = (if c = x then false else left (.int .i64 c)) := by
  unfold strike
  by_cases h : c = x
  · subst h
    rw [if_pos rfl, WideAt.sameKey_self (show WideAt.IsKeyLit (.int .i64 c) from trivial)]
    simp
  · rw [if_neg h, Maps.sameKey_ne (fun e => h (by injection e))]
    simp
theorem gath_skip {f : Int → Int} {D : DataW Unit} {left : Lit → Bool} {L : List Int} {x : Int} (h : Gath f D left L) (h0 : f x = 0) : Gath f D (strike left x) L := by
  refine ⟨h.1, fun c => ?_, fun c h1 h2 => ?_⟩
  · rw [h.2.1 c, strike_at]
    by_cases e : c = x
    · subst e; simp [h0]
    · rw [if_neg e]
  · rw [strike_at] at h2
    by_cases e : c = x
    · subst e; rw [h0]; rfl
    · rw [if_neg e] at h2; exact h.2.2 c h1 h2
theorem gath_take {f : Int → Int} {D : DataW Unit} {left : Lit → Bool} {L : List Int} {x : Int} (h : Gath f D left L) (hl : left (.int .i64 x) = true) (hD : Maps.has D (.int .i64 x) = true) (h0 : f x ≠ 0) (hx : amV (f x) = true) :
    Gath f D (strike left x) (L ++ [x]) := by
  have hn : x ∉ L := fun hx => by have := ((h.2.1 x).1 hx).2.1; rw [hl] at this; cases this
  refine ⟨?_, fun c => ?_, fun c h1 h2 => ?_⟩
  · rw [List.nodup_append]
    refine ⟨h.1, by simp, ?_⟩
    intro a ha b hb
    simp only [List.mem_singleton] at hb
    subst hb
    rintro rfl
    exact hn ha
  · rw [strike_at, List.mem_append, List.mem_singleton, h.2.1 c]
    by_cases e : c = x
    · subst e; simp [hD, h0]
    · rw [if_neg e]; simp [e]
  · rw [strike_at] at h2
    by_cases e : c = x
    · subst e; exact hx
    · rw [if_neg e] at h2; exact h.2.2 c h1 h2
theorem gath_end {f : Int → Int} {D : DataW Unit} {left : Lit → Bool} {L : List Int} (h : Gath f D left L) (hl : ∀ kl, left kl = false) (hD : ∀ c, D.atKey (.int .i64 c) (.lit (.int .i64 0)) = .lit (.int .i64 (f c))) :
    (∀ c, c ∈ L ↔ f c ≠ 0) ∧ ∀ c, amV (f c) = true := by
  have hk : ∀ c, f c ≠ 0 → Maps.has D (.int .i64 c) = true := by
    intro c hc
    cases hh : Maps.has D (.int .i64 c) with
    | true => rfl
    | false =>
      have := hD c
      rw [Maps.atKey_of_not_has hh] at this
      injection this with this
      injection this with _ this
      exact absurd this.symm hc
  refine ⟨fun c => ?_, fun c => ?_⟩
  · rw [h.2.1 c]
    exact ⟨fun hh => hh.2.2, fun hh => ⟨hk c hh, hl _, hh⟩⟩
  · by_cases hc : f c = 0
    · rw [hc]; rfl
    · exact h.2.2 c (hk c hc) (hl _)
/-- the gathered numbers in order -/
def srt (l : List Int) : List Int := l.mergeSort fun x y => decide (x ≤ y)
theorem srt_len (l : List Int) : (srt l).length = l.length := (List.mergeSort_perm l _).length_eq
theorem srt_mem (l : List Int) (c : Int) : c ∈ srt l ↔ c ∈ l := (List.mergeSort_perm l _).mem_iff
theorem srt_asc {l : List Int} (h : l.Nodup) : (srt l).Pairwise (· < ·) := by
  have h1 : (srt l).Pairwise (fun x y => decide (x ≤ y) = true) := List.pairwise_mergeSort (fun a b c h1 h2 => by simp at h1 h2 ⊢; omega) (fun a b => by simp; omega) l
  have h2 : (srt l).Nodup := (List.mergeSort_perm l _).nodup_iff.2 h
  have h3 := List.Pairwise.and h1 h2
  refine h3.imp fun {a b} h => ?_
  simp only [decide_eq_true_eq, ne_eq] at h
  omega
theorem run_make_ints {P : Program} {t e : TypeId} {i : TypeInfo} {z : Value} (ht : P.underlying t = some (.slice e)) (hi : P.info? e = some i) (hz : i.zero = some z) (h1 : i.size = 1) (h8 : i.bytes = 8) (n : Nat) (hn : n ≤ 100000000) (w : World) :
    (Instr.makeSlice t (.int .i64 0) (.int .i64 (n : Int))).run P w = .ok (.slice (some ⟨w.heap.size, 0, none⟩) 0 n) (w.alloc (.cells (madeCells z.cells (n * 1)) e)) := by
  have := run_make (P := P) (w := w) t e i z ht hi hz .i64 .i64 0 (n : Int) (by omega) (by omega) (by rw [h8]; omega) (by omega)
  simpa [h1] using this
/-- two rows of different elements do not meet -/
theorem own_apart {w w' : World} {base base' : Nat} {e e' : TypeId} {sz sz' n n' : Nat} {v v' : Value} {xs xs' : List Value} (h : w.ownsRow base e sz v n xs) (h' : w.ownsRow base' e' sz' v' n' xs') (hne : e ≠ e') (hg : w.grownBy w' v'.ownBlock) : w'.ownsRow base e sz v n xs := by
  refine h.kept hg ?_
  rcases h.2 with ⟨rfl, _⟩ | ⟨g, cap, cur, rfl, _, hh, _⟩
  · exact .inl rfl
  · right
    rcases h'.2 with ⟨rfl, _⟩ | ⟨g', cap', cur', rfl, _, hh', _⟩
    · simp [Value.ownBlock]
    · simp only [Value.ownBlock, ne_eq, Option.some.injEq]
      rintro rfl
      rw [hh] at hh'
      injection hh' with hh'
      injection hh' with _ hh'
      exact hne hh'
theorem range_ne {P : Program} {k E : TypeId} {R : Value → Option (DataW Unit × List MemPlace)} {w : World} {b r n cnt base sz m : Nat} {D : DataW Unit} {left : Lit → Bool} {v : Value} {xs : List Value} (h : w.ranges P k R b r n D left cnt) (ho : w.ownsRow base E sz v m xs) : v.ownBlock ≠ some r := by
  obtain ⟨es, cl, si, se, c0, _, _, _, _, hr, _⟩ := h
  rcases ho.2 with ⟨rfl, _⟩ | ⟨g, cap, cur, rfl, _, hg, _⟩
  · simp [Value.ownBlock]
  · simp only [Value.ownBlock, ne_eq, Option.some.injEq]
    rintro rfl
    rw [hr] at hg
    simp at hg
/-- a row of the call's own reads -/
theorem own_rd {w : World} {base : Nat} {e : TypeId} {sz n c : Nat} {A : Option Addr} {xs : List Value} (h : w.ownsRow base e sz (.slice A n c) n xs) : Rd w w.heap.size sz A n xs := by
  obtain ⟨A', c', e1, h1⟩ := Rd.of_own h
  injection e1 with e1 e2 e3
  subst e1
  exact h1
end Go.Proofs.Ytkfbchgabmffoaa
/- Sums of amounts, wrapping around; the reference's way to the sums in order. No program. -/
namespace Go.Proofs.Ytkfbchgabmffoaa
set_option linter.unusedVariables false
set_option linter.unusedSimpArgs false
open Go.RowKit

theorem ofW_put (m : List Bal) (k : Nat) (hk : k < m.length) :
    (fun d => if d = m[k].account then wrap64 (ofW (m.take k) m[k].account + m[k].amount) else ofW (m.take k) d) = ofW (m.take (k + 1)) := by
  funext d
  rw [ofW_take m k hk]
  by_cases h : d = m[k].account
  · subst h; simp
  · rw [if_neg h, if_neg (fun e => h e.symm)]
theorem ofW_zero (m : List Bal) : ofW (m.take 0) = fun _ => 0 := by funext c; rfl
/-- the sum of all amounts -/
def sumW (m : List Bal) : Int := m.foldl (fun n x => wrap64 (n + x.amount)) 0
theorem sumW_take (m : List Bal) (k : Nat) (h : k < m.length) : sumW (m.take (k + 1)) = wrap64 (sumW (m.take k) + m[k].amount) := by
  unfold sumW
  rw [List.take_succ_eq_append_getElem h, List.foldl_append]
  rfl
/-- the amounts negated -/
def negL (m : List Bal) : List Bal := m.map fun x => ⟨x.account, wrap64 (-x.amount)⟩
theorem negL_take (m : List Bal) (k : Nat) (h : k < m.length) : negL (m.take (k + 1)) = negL (m.take k) ++ [⟨m[k].account, wrap64 (-m[k].amount)⟩] := by
  unfold negL
  rw [List.take_succ_eq_append_getElem h, List.map_append]
  rfl
theorem negL_len (m : List Bal) : (negL m).length = m.length := by unfold negL; rw [List.length_map]
/-- may an account come up? -/
def elig (first : Bool) (last c : Int) : Bool := first || decide (last < c)
/-- what the search for the next account has found among the first ones -/
def Found (m : List Bal) (first : Bool) (last : Int) (found : Bool) (next : Int) : Prop :=
  (found = true → next ∈ m.map Bal.account ∧ elig first last next = true ∧ ∀ x ∈ m, elig first last x.account = true → next ≤ x.account) ∧ (found = false → ∀ x ∈ m, elig first last x.account = false)
theorem found_start (first : Bool) (last next : Int) : Found [] first last false next := ⟨fun h => by simp at h, fun _ x hx => by simp at hx⟩
theorem found_hit {m : List Bal} {first found : Bool} {last next : Int} {x : Bal} (h : Found m first last found next) (he : elig first last x.account = true) (hn : found = false ∨ x.account < next) : Found (m ++ [x]) first last true x.account := by
  refine ⟨fun _ => ⟨by simp, he, fun y hy hye => ?_⟩, fun h => by simp at h⟩
  rcases List.mem_append.1 hy with hy | hy
  · cases found with
    | false => rw [h.2 rfl y hy] at hye; cases hye
    | true =>
      have := (h.1 rfl).2.2 y hy hye
      rcases hn with hn | hn
      · cases hn
      · omega
  · simp only [List.mem_singleton] at hy
    subst hy
    omega
theorem found_miss {m : List Bal} {first found : Bool} {last next : Int} {x : Bal} (h : Found m first last found next) (hn : elig first last x.account = false ∨ (found = true ∧ next ≤ x.account)) : Found (m ++ [x]) first last found next := by
  refine ⟨fun hf => ?_, fun hf y hy => ?_⟩
  · obtain ⟨h1, h2, h3⟩ := h.1 hf
    refine ⟨by rw [List.map_append]; exact List.mem_append_left _ h1, h2, fun y hy hye => ?_⟩
    rcases List.mem_append.1 hy with hy | hy
    · exact h3 y hy hye
    · simp only [List.mem_singleton] at hy
      subst hy
      rcases hn with hn | hn
      · rw [hn] at hye; cases hye
      · exact hn.2
  · rcases List.mem_append.1 hy with hy | hy
    · exact h.2 hf y hy
    · simp only [List.mem_singleton] at hy
      subst hy
      rcases hn with hn | hn
      · exact hn
      · rw [hf] at hn; cases hn.1
/-- the accounts gone through, in order -/
def Part (f : Int → Int) (m : List Bal) (first : Bool) (last : Int) (L : List Int) : Prop :=
  L.Pairwise (· < ·) ∧ (∀ c, c ∈ L ↔ (f c ≠ 0 ∧ elig first last c = false ∧ c ∈ m.map Bal.account)) ∧ (∀ x ∈ m, elig first last x.account = false → amV (f x.account) = true)
theorem part_start (f : Int → Int) (m : List Bal) (last : Int) : Part f m true last [] := ⟨List.Pairwise.nil, fun c => by simp [elig], fun x _ h => by simp [elig] at h⟩
theorem elig_next {first : Bool} {last next c : Int} (h : elig first last next = true) : elig false next c = false ↔ c ≤ next := by simp [elig]
/-- one account more is gone through -/
theorem part_step {f : Int → Int} {m : List Bal} {first : Bool} {last next : Int} {L : List Int} (h : Part f m first last L) (hf : Found m first last true next) (ha : amV (f next) = true) :
    (f next = 0 → Part f m false next L) ∧ (f next ≠ 0 → Part f m false next (L ++ [next])) := by
  obtain ⟨h1, h2, h3⟩ := hf.1 rfl
  have hold : ∀ c, elig first last c = false → c < next := by
    intro c hc
    unfold elig at h2 hc
    cases first
    · simp at h2 hc; omega
    · simp at hc
  have hmid : ∀ x ∈ m, elig first last x.account = true → x.account ≤ next → x.account = next := fun x hx h4 h5 => by have := h3 x hx h4; omega
  have ham : ∀ x ∈ m, elig false next x.account = false → amV (f x.account) = true := by
    intro x hx hle
    rw [elig_next h2] at hle
    cases he : elig first last x.account with
    | false => exact h.2.2 x hx he
    | true => rw [hmid x hx he hle]; exact ha
  refine ⟨fun h0 => ⟨h.1, fun c => ?_, ham⟩, fun h0 => ⟨?_, fun c => ?_, ham⟩⟩
  · rw [h.2.1 c, elig_next h2]
    constructor
    · rintro ⟨a, b, d⟩; exact ⟨a, by have := hold c b; omega, d⟩
    · rintro ⟨a, b, d⟩
      refine ⟨a, ?_, d⟩
      cases he : elig first last c with
      | false => rfl
      | true =>
        obtain ⟨x, hx, rfl⟩ := List.mem_map.1 d
        rw [hmid x hx he b] at a
        exact absurd h0 a
  · rw [List.pairwise_append]
    refine ⟨h.1, by simp, fun a hal b hb => ?_⟩
    simp only [List.mem_singleton] at hb
    subst hb
    exact hold a ((h.2.1 a).1 hal).2.1
  · rw [List.mem_append, List.mem_singleton, h.2.1 c, elig_next h2]
    constructor
    · rintro (⟨a, b, d⟩ | rfl)
      · exact ⟨a, by have := hold c b; omega, d⟩
      · exact ⟨h0, by omega, h1⟩
    · rintro ⟨a, b, d⟩
      cases he : elig first last c with
      | false => exact .inl ⟨a, rfl, d⟩
      | true =>
        obtain ⟨x, hx, rfl⟩ := List.mem_map.1 d
        exact .inr (hmid x hx he b)
theorem part_end {m : List Bal} {first : Bool} {last next : Int} {L : List Int} (h : Part (ofW m) m first last L) (hf : Found m first last false next) : IsC (ofW m) (balsOf (ofW m) L) ∧ ∀ c, amV (ofW m c) = true := by
  have hz : ∀ c, c ∉ m.map Bal.account → ofW m c = 0 := by
    intro c hc
    unfold ofW
    have : ∀ (l : List Bal) (n : Int), (∀ x ∈ l, x.account ≠ c) → l.foldl (fun n x => if x.account = c then wrap64 (n + x.amount) else n) n = n := by
      intro l
      induction l with
      | nil => intro n _; rfl
      | cons a l ih => intro n hl; rw [List.foldl_cons, if_neg (hl a (by simp)), ih n (fun x hx => hl x (by simp [hx]))]
    exact this m 0 (fun x hx e => hc (List.mem_map.2 ⟨x, hx, e⟩))
  have hall : ∀ c, c ∈ m.map Bal.account → elig first last c = false := by
    intro c hc
    obtain ⟨x, hx, rfl⟩ := List.mem_map.1 hc
    exact hf.2 rfl x hx
  refine ⟨isC_of h.1 (fun c => ?_), fun c => ?_⟩
  · rw [h.2.1 c]
    constructor
    · exact fun hh => hh.1
    · intro hc
      by_cases hm : c ∈ m.map Bal.account
      · exact ⟨hc, hall c hm, hm⟩
      · exact absurd (hz c hm) hc
  · by_cases hm : c ∈ m.map Bal.account
    · obtain ⟨x, hx, rfl⟩ := List.mem_map.1 hm
      exact h.2.2 x hx (hf.2 rfl x hx)
    · rw [hz c hm]; rfl
/-- how many accounts may still come up -/
def togo (m : List Bal) : Value → Value → Nat
  | .bool true, _ => m.length + 1
  | _, .int _ last => (m.filter fun x => decide (last < x.account)).length
  | _, _ => 0
theorem togo_next {m : List Bal} {first : Bool} {last next : Int} (hf : Found m first last true next) : togo m (.bool false) (.int .i64 next) < togo m (.bool first) (.int .i64 last) := by
  obtain ⟨h1, h2, -⟩ := hf.1 rfl
  cases first with
  | true =>
    have := List.length_filter_le (fun x : Bal => decide (next < x.account)) m
    simp only [togo]
    omega
  | false =>
    simp only [togo]
    obtain ⟨x, hx, e⟩ := List.mem_map.1 h1
    have hlt : last < next := by simpa [elig] using h2
    clear hf h1 h2
    have hle : ∀ l : List Bal, (l.filter fun x => decide (next < x.account)).length ≤ (l.filter fun x => decide (last < x.account)).length := by
      intro l
      induction l with
      | nil => simp
      | cons b l ih =>
        rw [List.filter_cons, List.filter_cons]
        by_cases c1 : next < b.account
        · have : last < b.account := by omega
          simp [c1, this]; exact ih
        · by_cases c2 : last < b.account
          · simp [c1, c2]; omega
          · simp [c1, c2]; exact ih
    induction m with
    | nil => simp at hx
    | cons a m ih =>
      rw [List.filter_cons, List.filter_cons]
      rcases List.mem_cons.1 hx with rfl | hx
      · have h1 : ¬ next < x.account := by omega
        have h2 : last < x.account := by omega
        have := hle m
        simp [h1, h2]; omega
      · have := ih hx
        by_cases h1 : next < a.account
        · have h2 : last < a.account := by omega
          simp [h1, h2]; exact this
        · by_cases h2 : last < a.account
          · simp [h1, h2]; omega
          · simp [h1, h2]; exact this
theorem nodup_len_ (s t : List Int) (hd : s.Nodup) (hs : ∀ x ∈ s, x ∈ t) : s.length ≤ t.length := by
  induction s generalizing t with
  | nil => simp
  | cons a s ih =>
    have ha := hs a (by simp)
    have hn := List.nodup_cons.1 hd
    have := ih (t.erase a) hn.2 (fun x hx => by
      refine (List.mem_erase_of_ne ?_).2 (hs x (by simp [hx]))
      rintro rfl
      exact hn.1 hx)
    rw [List.length_erase_of_mem ha] at this
    have := List.length_pos_of_mem ha
    simp only [List.length_cons]
    omega
theorem part_len {f : Int → Int} {m : List Bal} {first : Bool} {last : Int} {L : List Int} (h : Part f m first last L) : L.length ≤ m.length := by
  have hd : L.Nodup := h.1.imp fun {a b} hab => by omega
  have := nodup_len_ L (m.map Bal.account) hd (fun c hc => ((h.2.1 c).1 hc).2.2)
  simpa using this
theorem take_snoc_ (m : List Bal) (k : Nat) (h : k < m.length) : m.take (k + 1) = m.take k ++ [m[k]] := List.take_succ_eq_append_getElem h
end Go.Proofs.Ytkfbchgabmffoaa
