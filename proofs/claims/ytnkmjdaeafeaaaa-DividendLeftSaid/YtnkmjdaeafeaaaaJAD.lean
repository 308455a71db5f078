/- Texts of this claim, put together. -/
import Derived.Test.YtnkmjdaeafeaaaaJAB
import Derived.Maps.RangeWalk
import Derived.Shelf.Sort.Plain
import Derived.Shelf.Slices.In.SortNone
import Derived.Test.YtnkmjdaeafeaaaaProg
import Derived.Test.YtnkmjdaeafeaaaaChecked
import Derived.Sort.OwnSortedInts
import Derived.Maps.OwnSet
import Derived.Test.YtnkmjdaeafeaaaaJAC
/- Sums over lists. No program. -/
namespace Go.Proofs.Ytnkmjdaeafeaaaa
set_option linter.unusedVariables false
set_option linter.unusedSimpArgs false
open Go.RowKit

/-- the sum of f over a list -/
def sm {α : Type} (l : List α) (f : α → Int) : Int := (l.map f).sum
section
variable {α β : Type}
theorem sm_nil (f : α → Int) : sm [] f = 0 := rfl
theorem sm_cons (a : α) (l : List α) (f : α → Int) : sm (a :: l) f = f a + sm l f := by simp [sm]
theorem sm_app (l m : List α) (f : α → Int) : sm (l ++ m) f = sm l f + sm m f := by simp [sm]
theorem sm_congr {l : List α} {f g : α → Int} (h : ∀ a ∈ l, f a = g a) : sm l f = sm l g := by
  induction l with
  | nil => rfl
  | cons a l ih => rw [sm_cons, sm_cons, h a (by simp), ih (fun b hb => h b (by simp [hb]))]
theorem sm_add (l : List α) (f g : α → Int) : sm l (fun a => f a + g a) = sm l f + sm l g := by
  induction l with
  | nil => rfl
  | cons a l ih => rw [sm_cons, sm_cons, sm_cons, ih]; omega
theorem sm_zero {l : List α} {f : α → Int} (h : ∀ a ∈ l, f a = 0) : sm l f = 0 := by
  induction l with
  | nil => rfl
  | cons a l ih => rw [sm_cons, h a (by simp), ih (fun b hb => h b (by simp [hb]))]; omega
theorem sm_swap (l : List α) (m : List β) (f : α → β → Int) : sm l (fun a => sm m (f a)) = sm m (fun b => sm l (fun a => f a b)) := by
  induction l with
  | nil => rw [sm_nil, sm_zero]; intro b _; rfl
  | cons a l ih =>
    rw [sm_cons, ih, ← sm_add]
    exact sm_congr fun b _ => by rw [sm_cons]
theorem sm_map (l : List α) (g : α → β) (f : β → Int) : sm (l.map g) f = sm l (fun a => f (g a)) := by simp [sm, Function.comp_def]
theorem sm_filter (l : List α) (p : α → Bool) (f : α → Int) : sm (l.filter p) f = sm l (fun a => if p a then f a else 0) := by
  induction l with
  | nil => rfl
  | cons a l ih =>
    rw [sm_cons, List.filter_cons]
    cases h : p a
    · simp [ih]
    · simp [sm_cons, ih]
theorem sm_count (l : List α) (p : α → Bool) : ((l.filter p).length : Int) = sm l (fun a => if p a then 1 else 0) := by
  induction l with
  | nil => rfl
  | cons a l ih =>
    rw [sm_cons, List.filter_cons]
    cases h : p a
    · simp [ih]
    · simp [ih]; omega
theorem sm_mul_ite (l : List α) (p : α → Prop) [DecidablePred p] (c : Int) : sm l (fun a => if p a then c else 0) = c * sm l (fun a => if p a then 1 else 0) := by
  induction l with
  | nil => simp [sm_nil]
  | cons a l ih =>
    rw [sm_cons, sm_cons, ih, Int.mul_add]
    split <;> simp
theorem sm_take (l : List α) (k : Nat) (h : k < l.length) (f : α → Int) : sm (l.take (k + 1)) f = sm (l.take k) f + f l[k] := by
  rw [List.take_succ_eq_append_getElem h, sm_app, sm_cons, sm_nil]; omega
/-- just one place of a list has a key -/
theorem sm_one {l : List α} (key : α → Int) (hd : (l.map key).Nodup) {a : α} (ha : a ∈ l) (g : α → Int) : sm l (fun b => if key b = key a then g b else 0) = g a := by
  induction l with
  | nil => simp at ha
  | cons b l ih =>
    rw [List.map_cons, List.nodup_cons] at hd
    rw [sm_cons]
    rcases List.mem_cons.1 ha with rfl | h
    · rw [if_pos rfl, sm_zero]
      · omega
      · intro c hc
        rw [if_neg]
        intro e
        exact hd.1 (by rw [← e]; exact List.mem_map.2 ⟨c, hc, rfl⟩)
    · rw [if_neg, ih hd.2 h]
      · omega
      · intro e
        exact hd.1 (by rw [e]; exact List.mem_map.2 ⟨a, h, rfl⟩)
theorem sm_bd (l : List α) (f : α → Int) (M : Int) (h : ∀ a ∈ l, -M ≤ f a ∧ f a ≤ M) : -(M * l.length) ≤ sm l f ∧ sm l f ≤ M * l.length := by
  induction l with
  | nil => simp [sm_nil]
  | cons a l ih =>
    have h1 := ih (fun b hb => h b (by simp [hb]))
    have h2 := h a (by simp)
    rw [sm_cons]
    simp only [List.length_cons, Int.natCast_add, Int.natCast_one, Int.mul_add, Int.mul_one]
    omega
end

/-- what stands on an account, wrapping around -/
def ofW (m : List Bal) (c : Int) : Int := m.foldl (fun n x => if x.account = c then wrap64 (n + x.amount) else n) 0
def ofV (m : List Bal) (c : Int) : Int := sm m (fun x => if x.account = c then x.amount else 0)
theorem ofW_take (m : List Bal) (k : Nat) (h : k < m.length) (c : Int) : ofW (m.take (k + 1)) c = if m[k].account = c then wrap64 (ofW (m.take k) c + m[k].amount) else ofW (m.take k) c := by
  unfold ofW
  rw [List.take_succ_eq_append_getElem h, List.foldl_append]
  rfl
theorem ofV_bd (m : List Bal) (c : Int) (h : ∀ x ∈ m, amV x.amount = true) : -(1000000000000 * m.length) ≤ ofV m c ∧ ofV m c ≤ 1000000000000 * m.length := by
  refine sm_bd m _ _ fun x hx => ?_
  have := amV_is (h x hx)
  split <;> omega
theorem ofW_eq (m : List Bal) (c : Int) (h : ∀ x ∈ m, amV x.amount = true) (hl : m.length ≤ 1000000) : ofW m c = ofV m c := by
  have : ∀ k, k ≤ m.length → ofW (m.take k) c = ofV (m.take k) c := by
    intro k
    induction k with
    | zero => intro _; rfl
    | succ k ih =>
      intro hk
      have hk' : k < m.length := by omega
      rw [ofW_take m k hk', ih (by omega)]
      have e : ofV (m.take (k + 1)) c = ofV (m.take k) c + if m[k].account = c then m[k].amount else 0 := sm_take m k hk' _
      rw [e]
      have hb := ofV_bd (m.take k) c (fun x hx => h x (List.mem_of_mem_take hx))
      rw [List.length_take] at hb
      have hx := amV_is (h _ (List.getElem_mem hk'))
      by_cases hc : m[k].account = c
      · rw [if_pos hc, if_pos hc, IntWalk.wrap64_in _ ⟨by omega, by omega⟩]
      · rw [if_neg hc, if_neg hc]; omega
  have := this m.length (Nat.le_refl _)
  rwa [List.take_length] at this
end Go.Proofs.Ytnkmjdaeafeaaaa
/- Sums by accounts, in order and without noughts. No program. -/
namespace Go.Proofs.Ytnkmjdaeafeaaaa
set_option linter.unusedVariables false
set_option linter.unusedSimpArgs false
open Go.RowKit

/-- L are the accounts on which f is not 0, in order, with f -/
def IsC (f : Int → Int) (L : List Bal) : Prop := (L.map Bal.account).Pairwise (· < ·) ∧ ∀ x : Bal, x ∈ L ↔ (f x.account = x.amount ∧ x.amount ≠ 0)
theorem asc_unique {l m : List Int} (hl : l.Pairwise (· < ·)) (hm : m.Pairwise (· < ·)) (h : ∀ c, c ∈ l ↔ c ∈ m) : l = m := by
  induction l generalizing m with
  | nil =>
    cases m with
    | nil => rfl
    | cons b m => exact absurd ((h b).2 (by simp)) (by simp)
  | cons a l ih =>
    cases m with
    | nil => exact absurd ((h a).1 (by simp)) (by simp)
    | cons b m =>
      rw [List.pairwise_cons] at hl hm
      have e : a = b := by
        have h1 := (h a).1 (by simp)
        have h2 := (h b).2 (by simp)
        simp only [List.mem_cons] at h1 h2
        rcases h1 with h1 | h1
        · exact h1
        · rcases h2 with h2 | h2
          · exact h2.symm
          · have := hm.1 a h1
            have := hl.1 b h2
            omega
      subst e
      rw [ih hl.2 hm.2]
      intro c
      constructor
      · intro hc
        have h1 := (h c).1 (by simp [hc])
        simp only [List.mem_cons] at h1
        rcases h1 with h1 | h1
        · have := hl.1 c hc; omega
        · exact h1
      · intro hc
        have h1 := (h c).2 (by simp [hc])
        simp only [List.mem_cons] at h1
        rcases h1 with h1 | h1
        · have := hm.1 c hc; omega
        · exact h1
theorem isC_codes {f : Int → Int} {L : List Bal} (h : IsC f L) (c : Int) : c ∈ L.map Bal.account ↔ f c ≠ 0 := by
  constructor
  · intro hc
    obtain ⟨x, hx, rfl⟩ := List.mem_map.1 hc
    obtain ⟨h1, h2⟩ := (h.2 x).1 hx
    rw [h1]; exact h2
  · intro hc
    exact List.mem_map.2 ⟨⟨c, f c⟩, (h.2 _).2 ⟨rfl, hc⟩, rfl⟩
theorem isC_is {f : Int → Int} {L : List Bal} (h : IsC f L) : L = (L.map Bal.account).map fun c => ⟨c, f c⟩ := by
  rw [List.map_map]
  have e : L.map ((fun c => (⟨c, f c⟩ : Bal)) ∘ Bal.account) = L.map id := by
    refine List.map_congr_left fun x hx => ?_
    have := ((h.2 x).1 hx).1
    simp [this]
  rw [e, List.map_id]
theorem isC_unique {f e : Int → Int} {L M : List Bal} (hL : IsC f L) (hM : IsC e M) (h : ∀ c, f c = e c) : L = M := by
  have : f = e := funext h
  subst this
  rw [isC_is hL, isC_is hM, asc_unique hL.1 hM.1 (fun c => by rw [isC_codes hL, isC_codes hM])]
theorem isC_of {f : Int → Int} {l : List Int} (h : l.Pairwise (· < ·)) (hm : ∀ c, c ∈ l ↔ f c ≠ 0) : IsC f (l.map fun c => ⟨c, f c⟩) := by
  constructor
  · rw [List.map_map]
    have : (Bal.account ∘ fun c => (⟨c, f c⟩ : Bal)) = id := rfl
    rw [this, List.map_id]; exact h
  · intro x
    rw [List.mem_map]
    constructor
    · rintro ⟨c, hc, rfl⟩
      exact ⟨rfl, (hm c).1 hc⟩
    · rintro ⟨h1, h2⟩
      exact ⟨x.account, (hm _).2 (by rw [h1]; exact h2), by rw [h1]⟩

/-- accounts with f -/
def balsOf (f : Int → Int) (l : List Int) : List Bal := l.map fun c => ⟨c, f c⟩
theorem balsOf_len (f : Int → Int) (l : List Int) : (balsOf f l).length = l.length := by unfold balsOf; rw [List.length_map]
theorem balsOf_take (f : Int → Int) (l : List Int) (j : Nat) (hj : j < l.length) : balsOf f (l.take (j + 1)) = balsOf f (l.take j) ++ [⟨l[j], f l[j]⟩] := by unfold balsOf; rw [List.take_succ_eq_append_getElem hj, List.map_append]; rfl
/-- what a round over a map has gathered: the keys met, on which f is not 0 -/
def Gath (f : Int → Int) (D : DataW Unit) (left : Lit → Bool) (L : List Int) : Prop :=
  L.Nodup ∧ (∀ c, c ∈ L ↔ (Maps.has D (.int .i64 c) = true ∧ left (.int .i64 c) = false ∧ f c ≠ 0)) ∧ (∀ c, Maps.has D (.int .i64 c) = true → left (.int .i64 c) = false → amV (f c) = true)
theorem gath_start (f : Int → Int) (D : DataW Unit) : Gath f D (Maps.has D) [] := by
  refine ⟨List.nodup_nil, fun c => ?_, fun c h1 h2 => ?_⟩
  · constructor
    · intro h; simp at h
    · rintro ⟨h1, h2, _⟩; rw [h1] at h2; cases h2
  · rw [h1] at h2; cases h2
/-- what is left behind a step -/
def strike (left : Lit → Bool) (x : Int) : Lit → Bool := fun z => left z && !z.sameKey (.int .i64 x)
theorem strike_at (left : Lit → Bool) (x c : Int) : strike left x (.int .i64 c) = (if c = x then false else left (.int .i64 c)) := by
  unfold strike
  by_cases h : c = x
  · subst h
    rw [if_pos rfl, WideAt.sameKey_self (show WideAt.IsKeyLit (.int .i64 c) from trivial)]
    simp
  · rw [if_neg h, Maps.sameKey_ne (fun e => h (by injection e))]
    simp
theorem gath_skip {f : Int → Int} {D : DataW Unit} {left : Lit → Bool} {L : List Int} {x : Int} (h : Gath f D left L) (h0 : f x = 0) : Gath f D (strike left x) L := by
  refine ⟨h.1, fun c => ?_, fun c h1 h2 => ?_⟩
  · rw [h.2.1 c, strike_at]
    by_cases e : c = x
    · subst e; simp [h0]
    · rw [if_neg e]
  · rw [strike_at] at h2
    by_cases e : c = x
    · subst e; rw [h0]; rfl
    · rw [if_neg e] at h2; exact h.2.2 c h1 h2
theorem gath_take {f : Int → Int} {D : DataW Unit} {left : Lit → Bool} {L : List Int} {x : Int} (h : Gath f D left L) (hl : left (.int .i64 x) = true) (hD : Maps.has D (.int .i64 x) = true) (h0 : f x ≠ 0) (hx : amV (f x) = true) :
    Gath f D (strike left x) (L ++ [x]) := by
  have hn : x ∉ L := fun hx => by have := ((h.2.1 x).1 hx).2.1; rw [hl] at this; cases this
  refine ⟨?_, fun c => ?_, fun c h1 h2 => ?_⟩
  · rw [List.nodup_append]
    refine ⟨h.1, by simp, ?_⟩
    intro a ha b hb
    simp only [List.mem_singleton] at hb
    subst hb
    rintro rfl
    exact hn ha
  · rw [strike_at, List.mem_append, List.mem_singleton, h.2.1 c]
    by_cases e : c = x
    · subst e; simp [hD, h0]
    · rw [if_neg e]; simp [e]
  · rw [strike_at] at h2
    by_cases e : c = x
    · subst e; exact hx
    · rw [if_neg e] at h2; exact h.2.2 c h1 h2
theorem gath_end {f : Int → Int} {D : DataW Unit} {left : Lit → Bool} {L : List Int} (h : Gath f D left L) (hl : ∀ kl, left kl = false) (hD : ∀ c, D.atKey (.int .i64 c) (.lit (.int .i64 0)) = .lit (.int .i64 (f c))) :
    (∀ c, c ∈ L ↔ f c ≠ 0) ∧ ∀ c, amV (f c) = true := by
  have hk : ∀ c, f c ≠ 0 → Maps.has D (.int .i64 c) = true := by
    intro c hc
    cases hh : Maps.has D (.int .i64 c) with
    | true => rfl
    | false =>
      have := hD c
      rw [Maps.atKey_of_not_has hh] at this
      injection this with this
      injection this with _ this
      exact absurd this.symm hc
  refine ⟨fun c => ?_, fun c => ?_⟩
  · rw [h.2.1 c]
    exact ⟨fun hh => hh.2.2, fun hh => ⟨hk c hh, hl _, hh⟩⟩
  · by_cases hc : f c = 0
    · rw [hc]; rfl
    · exact h.2.2 c (hk c hc) (hl _)
/-- the gathered numbers in order -/
def srt (l : List Int) : List Int := l.mergeSort fun x y => decide (x ≤ y)
theorem srt_len (l : List Int) : (srt l).length = l.length := (List.mergeSort_perm l _).length_eq
theorem srt_mem (l : List Int) (c : Int) : c ∈ srt l ↔ c ∈ l := (List.mergeSort_perm l _).mem_iff
theorem srt_asc {l : List Int} (h : l.Nodup) : (srt l).Pairwise (· < ·) := by
  have h1 : (srt l).Pairwise (fun x y => decide (x ≤ y) = true) := List.pairwise_mergeSort (fun a b c h1 h2 => by simp at h1 h2 ⊢; omega) (fun a b => by simp; omega) l
  have h2 : (srt l).Nodup := (List.mergeSort_perm l _).nodup_iff.2 h
  have h3 := List.Pairwise.and h1 h2
  refine h3.imp fun {a b} h => ?_
  simp only [decide_eq_true_eq, ne_eq] at h
  omega
theorem run_make_ints {P : Program} {t e : TypeId} {i : TypeInfo} {z : Value} (ht : P.underlying t = some (.slice e)) (hi : P.info? e = some i) (hz : i.zero = some z) (h1 : i.size = 1) (h8 : i.bytes = 8) (n : Nat) (hn : n ≤ 100000000) (w : World) :
    (Instr.makeSlice t (.int .i64 0) (.int .i64 (n : Int))).run P w = .ok (.slice (some ⟨w.heap.size, 0, none⟩) 0 n) (w.alloc (.cells (madeCells z.cells (n * 1)) e)) := by
  have := run_make (P := P) (w := w) t e i z ht hi hz .i64 .i64 0 (n : Int) (by omega) (by omega) (by rw [h8]; omega) (by omega)
  simpa [h1] using this
/-- two rows of different elements do not meet -/
theorem own_apart {w w' : World} {base base' : Nat} {e e' : TypeId} {sz sz' n n' : Nat} {v v' : Value} {xs xs' : List Value} (h : w.ownsRow base e sz v n xs) (h' : w.ownsRow base' e' sz' v' n' xs') (hne : e ≠ e') (hg : w.grownBy w' v'.ownBlock) : w'.ownsRow base e sz v n xs := by
  refine h.kept hg ?_
  rcases h.2 with ⟨rfl, _⟩ | ⟨g, cap, cur, rfl, _, hh, _⟩
  · exact .inl rfl
  · right
    rcases h'.2 with ⟨rfl, _⟩ | ⟨g', cap', cur', rfl, _, hh', _⟩
    · simp [Value.ownBlock]
    · simp only [Value.ownBlock, ne_eq, Option.some.injEq]
      rintro rfl
      rw [hh] at hh'
      injection hh' with hh'
      injection hh' with _ hh'
      exact hne hh'
theorem range_ne {P : Program} {k E : TypeId} {R : Value → Option (DataW Unit × List MemPlace)} {w : World} {b r n cnt base sz m : Nat} {D : DataW Unit} {left : Lit → Bool} {v : Value} {xs : List Value} (h : w.ranges P k R b r n D left cnt) (ho : w.ownsRow base E sz v m xs) : v.ownBlock ≠ some r := by
  obtain ⟨es, cl, si, se, c0, _, _, _, _, hr, _⟩ := h
  rcases ho.2 with ⟨rfl, _⟩ | ⟨g, cap, cur, rfl, _, hg, _⟩
  · simp [Value.ownBlock]
  · simp only [Value.ownBlock, ne_eq, Option.some.injEq]
    rintro rfl
    rw [hr] at hg
    simp at hg
/-- a row of the call's own reads -/
theorem own_rd {w : World} {base : Nat} {e : TypeId} {sz n c : Nat} {A : Option Addr} {xs : List Value} (h : w.ownsRow base e sz (.slice A n c) n xs) : Rd w w.heap.size sz A n xs := by
  obtain ⟨A', c', e1, h1⟩ := Rd.of_own h
  injection e1 with e1 e2 e3
  subst e1
  exact h1
end Go.Proofs.Ytnkmjdaeafeaaaa
/-
  DERIVED: THE SHELF's CONTRACTS AT THIS DUMP, IN PLAIN WORDS (tools/lay-plain.mjs out of 'TryShelf.lean', which tools/lay-shelf.mjs wrote): THE SAME DECLARATIONS UNDER THE SAME NAMES: 'import', 'namespace', 'open', 'def', 'theorem' AND NOTHING ELSE: no command of the shelf's: FOR A HAND-IN. Each laying: the table of numbers ('.._ren') and one theorem, a field a fact of the dump's own or the kernel's comparison; each contract: ONE APPLICATION.
-/
namespace Go.Proofs
open Go.Shelf
def Try.lays189_ren : Go.Shelf.Ren := ⟨fun | 189 => 108 | 125 => 138 | 257 => 137 | 128 => 163 | 129 => 164 | 294 => 154 | 295 => 155 | 296 => 156 | 297 => 157 | 298 => 158 | 299 => 159 | 216 => 160 | 300 => 161 | 301 => 162 | 328 => 183 | 329 => 184 | 330 => 185 | 331 => 186 | 332 => 187 | 215 => 188 | 343 => 201 | n => n, fun | 28 => 91 | 3 => 3 | 46 => 205 | 0 => 0 | 51 => 225 | 53 => 227 | 4 => 4 | 183 => 219 | 182 => 218 | 131 => 32 | 5 => 5 | 9 => 9 | 218 => 246 | 222 => 250 | 228 => 255 | 229 => 256 | n => n, fun | n => n⟩
theorem Try.lays189 : Go.Proofs.Lays.n189 Try.prog Try.lays189_ren := {
  mixed := by kernel_rfl
  f125 := Try.func138.trans (congrArg some (by kernel_rfl))
  f128 := Try.func163.trans (congrArg some (by kernel_rfl))
  f129 := Try.func164.trans (congrArg some (by kernel_rfl))
  f189 := Try.func108.trans (congrArg some (by kernel_rfl))
  f215 := Try.func188.trans (congrArg some (by kernel_rfl))
  f216 := Try.func160.trans (congrArg some (by kernel_rfl))
  f257 := Try.func137.trans (congrArg some (by kernel_rfl))
  f294 := Try.func154.trans (congrArg some (by kernel_rfl))
  f295 := Try.func155.trans (congrArg some (by kernel_rfl))
  f296 := Try.func156.trans (congrArg some (by kernel_rfl))
  f297 := Try.func157.trans (congrArg some (by kernel_rfl))
  f298 := Try.func158.trans (congrArg some (by kernel_rfl))
  f299 := Try.func159.trans (congrArg some (by kernel_rfl))
  f300 := Try.func161.trans (congrArg some (by kernel_rfl))
  f301 := Try.func162.trans (congrArg some (by kernel_rfl))
  f328 := Try.func183.trans (congrArg some (by kernel_rfl))
  f329 := Try.func184.trans (congrArg some (by kernel_rfl))
  f330 := Try.func185.trans (congrArg some (by kernel_rfl))
  f331 := Try.func186.trans (congrArg some (by kernel_rfl))
  f332 := Try.func187.trans (congrArg some (by kernel_rfl))
  f343 := Try.func201.trans (congrArg some (by kernel_rfl))
  t0 := Try.underlying0
  a0 := Try.isAgg0
  z0 := Try.sizeOf0
  v0 := Try.zeroValue0
  t3 := Try.underlying3
  a3 := Try.isAgg3
  z3 := Try.sizeOf3
  v3 := Try.zeroValue3
  t4 := Try.underlying4
  a4 := Try.isAgg4
  z4 := Try.sizeOf4
  v4 := Try.zeroValue4
  t5 := Try.underlying5
  a5 := Try.isAgg5
  z5 := Try.sizeOf5
  v5 := Try.zeroValue5
  t9 := Try.underlying9
  a9 := Try.isAgg9
  z9 := Try.sizeOf9
  v9 := Try.zeroValue9
  t28 := Try.underlying91
  a28 := Try.isAgg91
  z28 := Try.sizeOf91
  v28 := Try.zeroValue91
  t46 := Try.underlying205
  a46 := Try.isAgg205
  z46 := Try.sizeOf205
  v46 := Try.zeroValue205
  t51 := Try.underlying225
  a51 := Try.isAgg225
  z51 := Try.sizeOf225
  v51 := Try.zeroValue225
  t53 := Try.underlying227
  a53 := Try.isAgg227
  z53 := Try.sizeOf227
  v53 := Try.zeroValue227
  t131 := Try.underlying32
  a131 := Try.isAgg32
  z131 := Try.sizeOf32
  v131 := Try.zeroValue32
  t182 := Try.underlying218
  a182 := Try.isAgg218
  z182 := Try.sizeOf218
  v182 := Try.zeroValue218
  t183 := Try.underlying219
  a183 := Try.isAgg219
  z183 := Try.sizeOf219
  v183 := Try.zeroValue219
  t218 := Try.underlying246
  a218 := Try.isAgg246
  z218 := Try.sizeOf246
  v218 := Try.zeroValue246
  t222 := Try.underlying250
  a222 := Try.isAgg250
  z222 := Try.sizeOf250
  v222 := Try.zeroValue250
  t228 := Try.underlying255
  a228 := Try.isAgg255
  z228 := Try.sizeOf255
  v228 := Try.zeroValue255
  t229 := Try.underlying256
  a229 := Try.isAgg256
  z229 := Try.sizeOf256
  v229 := Try.zeroValue256 }
open Go.Sort Go.RowKit in
theorem Try.slices_Sort_int (blk off cap : Nat) (zs : List Int) (w : World) (hH : Holds (Value.int .i64) w blk off zs.toArray) (hblk : blk < w.heap.size) (hsz : zs.length < 4611686018427387904) :
    Calls Try.prog 108 #[.slice (some ⟨blk, off, none⟩) zs.length cap] w fun e w' =>
      e = .returned (.tuple #[]) ∧ ∃ n os, w' = grow (putRow (Value.int .i64) (Sort.ahead w n) blk off (zs.mergeSort fun x y => decide (x ≤ y)).toArray) os := Any.slices_Sort_int Try.lays189 blk off cap zs w hH hblk hsz
open Go.RowKit Go.Sort in
/-- .. and plain. (LAID: no walk: one application.) -/
theorem Try.slices_Sort_int_none (p : Option Addr) (cap : Nat) (w : World) :
    Calls Try.prog 108 #[.slice p 0 cap] w fun e w' => e = .returned (.tuple #[]) ∧ w' = w := Any.slices_Sort_int_none Try.lays189 p cap w
end Go.Proofs
/- The walks of money.Valid, of the sort of a row of the call's own, of collect. -/
namespace Go.Proofs.Ytnkmjdaeafeaaaa
set_option linter.unusedVariables false
set_option linter.unusedSimpArgs false
open Go.RowKit
open Go.Maps (Keyed)


theorem money_any (n : Int) (w : World) : Calls Try.prog 64 #[.int .i64 n] w (fun e w' => e = .returned (.bool (amV n)) ∧ w = w') := by
  have HE : Hid (amV n = (decide (-1000000000000 ≤ n) && decide (n ≤ 1000000000000))) := Lib.hid rfl
  by_cases h1 : -1000000000000 ≤ n
  · by_cases h2 : n ≤ 1000000000000
    all_goals
      go_enter Try.func64, Try.ntmps64
      go_wp2_with fail
      go_ret
      exact ⟨ret_bool (by rw [HE.out]; simp [h1, h2] <;> omega), rfl⟩
  · go_enter Try.func64, Try.ntmps64
    go_wp2_with fail
    go_ret
    exact ⟨ret_bool (by rw [HE.out]; simp [h1] <;> omega), rfl⟩

def SortPost (base : Nat) (v : Value) (zs : List Int) (w : World) (e : Ending) (w' : World) : Prop :=
  e = .returned (.tuple #[]) ∧ w'.ownsRow base 3 1 v zs.length (intCells (srt zs)) ∧ w.grownBy w' v.ownBlock
theorem sort_own (base : Nat) (v : Value) (zs : List Int) (w : World) (h : w.ownsRow base 3 1 v zs.length (intCells zs)) (hl : zs.length ≤ 100000000) :
    Calls Try.prog 108 #[v] w (SortPost base v zs w) := by
  rcases Nat.eq_zero_or_pos zs.length with h0 | h0
  · have hz : zs = [] := List.eq_nil_of_length_eq_zero h0
    subst hz
    have hnil : SortPost base v [] w (.returned (.tuple #[])) w := ⟨rfl, by simpa [srt] using h, World.grownBy.refl w _⟩
    rcases h.2 with ⟨rfl, _⟩ | ⟨g, cap, cur, rfl, _⟩
    · exact (Try.slices_Sort_int_none none 0 w).mono fun e w' hh => by rw [hh.1, hh.2]; exact hnil
    · exact (Try.slices_Sort_int_none _ cap w).mono fun e w' hh => by rw [hh.1, hh.2]; exact hnil
  · rcases h.2 with ⟨_, hz⟩ | ⟨g, cap, cur, rfl, hb, hg, hn, hm, hs, ht⟩
    · omega
    · have hlt : g < w.heap.size := (Array.getElem?_eq_some_iff.1 hg).1
      refine (Try.slices_Sort_int g 0 cap zs w (holds_of_blockI hg (by rw [Nat.mul_one] at ht; exact ht)) hlt (by omega)).mono fun e w' hh => ?_
      obtain ⟨he, n, os, rfl⟩ := hh
      refine ⟨he, ?_, grownBy_sortedI _⟩
      have := ownsRow_sortedI (n := n) (os := os) (ss := zs) (ts := srt zs) (base := base) (e := 3) (cap := cap) (srt_len zs) hb hg hn hm hs
      exact this
/-- what collect hands back: the sums in order, or an error -/
def ColPost (T : TypeId) (base : Nat) (f : Int → Int) (w : World) (e : Ending) (w' : World) : Prop :=
  ∃ (v : Value) (L : List Bal) (E : Int), e = .returned (.tuple #[v, .int .i64 E]) ∧ w'.ownsRow base T 2 v L.length (cellsOf Bal.cells L) ∧ Below w.heap.size w w' ∧
    ((E = 0 ∧ IsC f L ∧ ∀ c, amV (f c) = true) ∨ (E = 2 ∧ L = [] ∧ ∃ c, amV (f c) = false))

theorem colp_info : (Try.prog.info? 129).map (fun i => (i.zero, i.size, i.bytes)) = some (some (.agg #[.int .i64 0, .int .i64 0]), 2, 16) := by kernel_rfl
set_option maxRecDepth 100000 in
set_option maxHeartbeats 2000000 in
theorem colp_any (b n : Nat) (f : Int → Int) (w : World) (hS : SumW Try.prog 3 3 w b n f) (hn : n ≤ 1000000) :
    Calls Try.prog 111 #[.map (some b)] w (ColPost 129 w.heap.size f w) := by
  have hS0 := hS
  obtain ⟨D, hown, hM, hD⟩ := hS
  have HD := Lib.hid hD
  have HM := Lib.hid hM
  have hb := Below.refl w.heap.size w
  obtain ⟨i0, hi, hz0, hz1, hz2⟩ := info_parts int_info
  have hsz := hown.size_le
  have hbl := hown.lt
  have hmk := fun W => run_make_ints (P := Try.prog) (t := 91) (z := .int .i64 0) Try.underlying91 hi hz0 hz1 hz2 (Maps.size D) (by omega) W
  clear hD hM
  go_enter Try.func111, Try.ntmps111
  go_wp2_with (first
    | (at_len; refine wpList_len_own _ rfl _ 114 rfl 3 3 Try.underlying114 _ b n D rfl hown ?_)
    | (at_range; refine wpList_range_own _ rfl _ 114 rfl 3 3 keyed_int Try.underlying114 _ b n D rfl (hown.alloc _) ?_; intro w0 hrg0 hg0 hs0))
  have hb0 : Below w.heap.size w w0 := by
    have := (hb.alloc (Nat.le_refl _) (.cells (madeCells #[.int .i64 0] (Maps.size D)) 3)).grown hg0 (by simp) (fun k hk => by cases hk)
    exact this
  have ho0 : w0.ownsRow w.heap.size 3 1 (.slice (some ⟨w.heap.size, 0, none⟩) 0 (Maps.size D)) 0 [] :=
    (own_empty w 3 w.heap.size 1 (Maps.size D) (Nat.le_refl _) _ (by rw [size_madeCells]; omega) (by unfold maxLen; omega)).kept hg0 (by right; simp [Value.ownBlock])
  have HC0 := Lib.hid (gath_start f D)
  obtain ⟨r, hr⟩ : ∃ r, r = (w.alloc (.cells (madeCells #[.int .i64 0] (Maps.size D)) 3)).heap.size := ⟨_, rfl⟩
  rw [← hr] at hrg0 hs0 ⊢
  have hrl : w.heap.size < r := by rw [hr]; simp
  clear hr hb hg0 hs0 hown
  go_frame
  go_loopw [4] (fun v wr => ∃ (L : List Int) (left : Lit → Bool) (cnt : Nat), wr.ranges Try.prog 3 (plainElem Try.prog 3) b r n D left cnt ∧ Gath f D left L ∧ (∀ c ∈ L, (Lit.int .i64 c).wf = true) ∧ wr.ownsRow w.heap.size 3 1 v L.length (intCells L) ∧ L.length + cnt ≤ n ∧ Below w.heap.size w wr) (fun _ wr => wr.rangeLeft b r)
  case atStart => exact ⟨[], _, _, hrg0, HC0.out, (fun c hc => by simp at hc), ho0, by simp; omega, hb0⟩
  case round =>
    clear hrg0 hb0 ho0 HC0
    obtain ⟨L, left, cnt, hrg, hC, hW, ho, hLc, hb⟩ := hrel
    have HC := Lib.hid hC
    have HW := Lib.hid hW
    have HNE := Lib.hid ho.lt
    have hz := hb.size
    have hnb := map_ne hrg.owns ho
    have hnr := range_ne hrg ho
    clear hC hW
    go_wp2_with (at_next; refine wpList_next_ranges_ii _ rfl _ rfl 3 3 .i64 .i64 keyed_int Try.underlying3 Try.underlying3 b r n _ _ _ rfl hrg ?_ ?_)
    · intro _ hl0
      have HEND := Lib.hid (gath_end HC.out hl0 HD.out)
      have HL := Lib.hid HC.out.1
      have hS1 : SumW Try.prog 3 3 wr b n f := ⟨D, hrg.owns, HM.out, HD.out⟩
      have hlen : L.length ≤ 1000000 := by omega
      have hlen2 : L.length ≤ n := by omega
      obtain ⟨A4, c4, rfl, -⟩ := Rd.of_own ho
      go_wp2_with (go_at_call 108; refine (sort_own w.heap.size _ L wr ho (by omega)).mono ?_; rintro e w2 ⟨rfl, ho2, hg2⟩)
      have hb2 : Below w.heap.size w w2 := Below.grown hb hg2 hz (fun k hk => (HNE.out k hk).1)
      have hS2 := hS1.kept hg2 hnb
      have HW2 : Hid (∀ c ∈ srt L, (Lit.int .i64 c).wf = true) := Lib.hid (fun c hc => HW.out c ((srt_mem L c).1 hc))
      clear hg2 hS1 hl0 hrg ho hb hnb hnr HNE HC HW
      obtain ⟨j0, hj0, hj1, hj2, hj3⟩ := info_parts colp_info
      go_wp2_with fail
      go_loopw [7, 33] (fun v t wr => ∃ j : Nat, j ≤ L.length ∧ t = .int .i64 j ∧ wr.ownsRow w.heap.size 129 2 v (balsOf f ((srt L).take j)).length (cellsOf Bal.cells (balsOf f ((srt L).take j))) ∧
        wr.ownsRow w.heap.size 3 1 (.slice A4 L.length c4) L.length (intCells (srt L)) ∧ SumW Try.prog 3 3 wr b n f ∧ Below w.heap.size w wr) (fun _ t _ => L.length - (intOf t).toNat)
      case atStart => exact ⟨0, by omega, rfl, World.ownsRow_nil _ _ _ _, ho2, hS2, hb2⟩
      case round =>
        clear ho2 hS2 hb2
        obtain ⟨j, hj, rfl, ho, hoc, hS, hb⟩ := hrel
        have hz3 := hb.size
        by_cases hjn : j < L.length
        · have hjl : j < (srt L).length := by rw [srt_len]; exact hjn
          have hoc' := hoc
          rw [← srt_len L] at hoc'
          obtain ⟨ba, oa, hA4, hba, r0⟩ := int_at (own_rd hoc') hjl
          clear hoc'
          subst hA4
          have hc : (Lit.int .i64 (srt L)[j]).wf = true := HW2.out _ (List.getElem_mem hjl)
          have hLL := hS.look (t := 114) Try.underlying3 Try.underlying3 Try.underlying114 (zero_int _) hc
          have hne2 := hS.ne ho
          have HT := Lib.hid (balsOf_take f (srt L) j hjl)
          have hml : (balsOf f ((srt L).take j)).length ≤ n := by rw [balsOf_len, List.length_take]; omega
          go_wp2_with (at_builtin; refine wpList_append_rec Bal.cells 2 (fun _ => rfl) Bal.one rfl (.tmp 37) (.tmp 43) 53 rfl w.heap.size 129 j0 (.agg #[.int .i64 0, .int .i64 0]) 16 Try.underlying53 hj0 hj1 hj2 hj3 rfl (by decide) _ (balsOf f ((srt L).take j)) rfl (ho.alloc _) wr.heap.size 1 ⟨(srt L)[j], f (srt L)[j]⟩ _ rfl (Blk.new wr _ _) rfl ?c3 ?c4 ?c5 ?_)
          case c3 => simp only [maxLen]; omega
          case c4 => omega
          case c5 => simp; omega
          intro v4 w4 ho4 hg4
          have hb3 : Below w.heap.size w (wr.alloc (.cells #[.int .i64 (srt L)[j], .int .i64 (f (srt L)[j])] 129)) := (by repeat (first | exact hb | refine Below.alloc ?_ (by have hbs := hb.size; first | omega | (simp; done) | (simp; omega)) _ | refine Below.drew ?_ | refine below_drewN_ ?_ _ | refine Below.setCell ?_ (by simp) _))
          have hb4 := bel_own hb3 (by simp; omega) (ho.alloc _) hg4
          have hoc4 := own_apart (hoc.alloc (.cells #[.int .i64 (srt L)[j], .int .i64 (f (srt L)[j])] 129)) (ho.alloc _) (by decide) hg4
          have hS4 := (hS.alloc (.cells #[.int .i64 (srt L)[j], .int .i64 (f (srt L)[j])] 129)).kept hg4 hne2
          clear hg4 hb3 hLL
          go_wp2_with fail
          go_roundw
          case rel => exact ⟨j + 1, by omega, by go_num, by rw [HT.out, List.length_append]; exact ho4, hoc4, hS4, hb4⟩
          case measure => simp [intOf]; omega
        · have HT : Hid ((srt L).take j = srt L) := Lib.hid (List.take_of_length_le (by rw [srt_len]; omega))
          rw [HT.out] at ho
          go_wp2_with fail
          go_ret2
          exact ⟨_, _, 0, rfl, ho, hb, .inl ⟨rfl, isC_of (srt_asc HL.out) (fun c => by rw [srt_mem]; exact HEND.out.1 c), HEND.out.2⟩⟩
    · intro x c w1 cnt1 hwx hwc hlx hat hrg1 hlt hg1 hs1 hen
      have hcx : c = f x := by
        have h1 := hat (.lit (.int .i64 0))
        rw [HD.out x] at h1
        injection h1 with h1
        injection h1 with _ h1
        exact h1.symm
      subst hcx
      have HHAS := Lib.hid (Maps.has_true_of_atKey hat)
      have HLX := Lib.hid hlx
      have ho1 := ho.kept hg1 (.inr hnr)
      have hb1 : Below w.heap.size w w1 := Below.grown hb hg1 hz (fun k hk => by injection hk with hk; omega)
      have hnb1 := map_ne hrg1.owns ho1
      have hnr1 := range_ne hrg1 ho1
      have hz1' := hb1.size
      clear hs1 hg1 hat hlx hwc
      cases hm : amV (f x)
      · have HM2 := Lib.hid hm
        go_wp2_with (go_at_call 64; refine (money_any _ _).mono ?_; rintro e w2 ⟨rfl, rfl⟩)
        go_ret2
        exact ⟨_, [], 2, rfl, World.ownsRow_nil _ _ _ _, hb1, .inr ⟨rfl, rfl, x, HM2.out⟩⟩
      · have HM2 := Lib.hid hm
        by_cases h0 : f x = 0
        · have hd : (f x != 0) = false := by simp [h0]
          have HG := Lib.hid (gath_skip HC.out h0)
          clear h0
          go_wp2_with (go_at_call 64; refine (money_any _ _).mono ?_; rintro e w2 ⟨rfl, rfl⟩)
          go_roundw
          case rel => exact ⟨L, strike left x, cnt1, hrg1, HG.out, HW.out, ho1, by omega, hb1⟩
          case measure => rw [hrg1.left_eq, hrg.left_eq]; exact hlt
        · have hd : (f x != 0) = true := by simp [h0]
          have HG := Lib.hid (gath_take HC.out HLX.out HHAS.out h0 HM2.out)
          clear h0
          go_wp2_with (first
            | (go_at_call 64; refine (money_any _ _).mono ?_; rintro e w2 ⟨rfl, rfl⟩)
            | (at_builtin; refine wpList_append_own _ rfl (.tmp 25) (.tmp 27) 91 rfl w.heap.size 3 i0 (.int .i64 0) 1 8 Try.underlying91 hi hz0 hz1 hz2 rfl (by decide) _ (L).length (intCells (L)) rfl (ho1.alloc _) ⟨w1.heap.size, 0, none⟩ 1 1 [.int .i64 (x)] rfl rfl ?c1 (one_i64 _) ?c3 ?c4 ?c5 ?_))
          case c1 => exact cells_new _ _ _ _ rfl
          case c3 => simp only [maxLen]; omega
          case c4 => omega
          case c5 => simp; omega
          intro v4 w4 ho4 hg4 _
          have hb3 : Below w.heap.size w (w1.alloc (.cells #[.int .i64 x] 3)) := hb1.alloc hz1' _
          have hb4 := bel_own hb3 (by simp; omega) (ho1.alloc _) hg4
          have hrg4 := (hrg1.alloc (.cells #[.int .i64 x] 3)).kept hg4 hnb1 (Ne.symm hnr1)
          clear hg4 hb3 hen
          go_wp2_with fail
          go_roundw
          case rel =>
            refine ⟨L ++ [x], strike left x, cnt1, hrg4, HG.out, ?_, by rw [intCells_app, List.length_append]; exact ho4, by rw [List.length_append]; simp; omega, hb4⟩
            intro y hy
            rcases List.mem_append.1 hy with hy | hy
            · exact HW.out y hy
            · simp only [List.mem_singleton] at hy; subst hy; exact hwx
          case measure => rw [hrg4.left_eq, hrg.left_eq]; exact hlt
theorem colb_info : (Try.prog.info? 50).map (fun i => (i.zero, i.size, i.bytes)) = some (some (.agg #[.int .i64 0, .int .i64 0]), 2, 16) := by kernel_rfl
end Go.Proofs.Ytnkmjdaeafeaaaa
/- Sums of amounts, wrapping around; the reference's way to the sums in order. No program. -/
namespace Go.Proofs.Ytnkmjdaeafeaaaa
set_option linter.unusedVariables false
set_option linter.unusedSimpArgs false
open Go.RowKit

theorem ofW_put (m : List Bal) (k : Nat) (hk : k < m.length) :
    (fun d => if d = m[k].account then wrap64 (ofW (m.take k) m[k].account + m[k].amount) else ofW (m.take k) d) = ofW (m.take (k + 1)) := by
  funext d
  rw [ofW_take m k hk]
  by_cases h : d = m[k].account
  · subst h; simp
  · rw [if_neg h, if_neg (fun e => h e.symm)]
theorem ofW_zero (m : List Bal) : ofW (m.take 0) = fun _ => 0 := by funext c; rfl
/-- the sum of all amounts -/
def sumW (m : List Bal) : Int := m.foldl (fun n x => wrap64 (n + x.amount)) 0
theorem sumW_take (m : List Bal) (k : Nat) (h : k < m.length) : sumW (m.take (k + 1)) = wrap64 (sumW (m.take k) + m[k].amount) := by
  unfold sumW
  rw [List.take_succ_eq_append_getElem h, List.foldl_append]
  rfl
/-- the amounts negated -/
def negL (m : List Bal) : List Bal := m.map fun x => ⟨x.account, wrap64 (-x.amount)⟩
theorem negL_take (m : List Bal) (k : Nat) (h : k < m.length) : negL (m.take (k + 1)) = negL (m.take k) ++ [⟨m[k].account, wrap64 (-m[k].amount)⟩] := by
  unfold negL
  rw [List.take_succ_eq_append_getElem h, List.map_append]
  rfl
theorem negL_len (m : List Bal) : (negL m).length = m.length := by unfold negL; rw [List.length_map]
/-- may an account come up? -/
def elig (first : Bool) (last c : Int) : Bool := first || decide (last < c)
/-- what the search for the next account has found among the first ones -/
def Found (m : List Bal) (first : Bool) (last : Int) (found : Bool) (next : Int) : Prop :=
  (found = true → next ∈ m.map Bal.account ∧ elig first last next = true ∧ ∀ x ∈ m, elig first last x.account = true → next ≤ x.account) ∧ (found = false → ∀ x ∈ m, elig first last x.account = false)
theorem found_start (first : Bool) (last next : Int) : Found [] first last false next := ⟨fun h => by simp at h, fun _ x hx => by simp at hx⟩
theorem found_hit {m : List Bal} {first found : Bool} {last next : Int} {x : Bal} (h : Found m first last found next) (he : elig first last x.account = true) (hn : found = false ∨ x.account < next) : Found (m ++ [x]) first last true x.account := by
  refine ⟨fun _ => ⟨by simp, he, fun y hy hye => ?_⟩, fun h => by simp at h⟩
  rcases List.mem_append.1 hy with hy | hy
  · cases found with
    | false => rw [h.2 rfl y hy] at hye; cases hye
    | true =>
      have := (h.1 rfl).2.2 y hy hye
      rcases hn with hn | hn
      · cases hn
      · omega
  · simp only [List.mem_singleton] at hy
    subst hy
    omega
theorem found_miss {m : List Bal} {first found : Bool} {last next : Int} {x : Bal} (h : Found m first last found next) (hn : elig first last x.account = false ∨ (found = true ∧ next ≤ x.account)) : Found (m ++ [x]) first last found next := by
  refine ⟨fun hf => ?_, fun hf y hy => ?_⟩
  · obtain ⟨h1, h2, h3⟩ := h.1 hf
    refine ⟨by rw [List.map_append]; exact List.mem_append_left _ h1, h2, fun y hy hye => ?_⟩
    rcases List.mem_append.1 hy with hy | hy
    · exact h3 y hy hye
    · simp only [List.mem_singleton] at hy
      subst hy
      rcases hn with hn | hn
      · rw [hn] at hye; cases hye
      · exact hn.2
  · rcases List.mem_append.1 hy with hy | hy
    · exact h.2 hf y hy
    · simp only [List.mem_singleton] at hy
      subst hy
      rcases hn with hn | hn
      · exact hn
      · rw [hf] at hn; cases hn.1
/-- the accounts gone through, in order -/
def Part (f : Int → Int) (m : List Bal) (first : Bool) (last : Int) (L : List Int) : Prop :=
  L.Pairwise (· < ·) ∧ (∀ c, c ∈ L ↔ (f c ≠ 0 ∧ elig first last c = false ∧ c ∈ m.map Bal.account)) ∧ (∀ x ∈ m, elig first last x.account = false → amV (f x.account) = true)
theorem part_start (f : Int → Int) (m : List Bal) (last : Int) : Part f m true last [] := ⟨List.Pairwise.nil, fun c => by simp [elig], fun x _ h => by simp [elig] at h⟩
theorem elig_next {first : Bool} {last next c : Int} (h : elig first last next = true) : elig false next c = false ↔ c ≤ next := by simp [elig]
/-- one account more is gone through -/
theorem part_step {f : Int → Int} {m : List Bal} {first : Bool} {last next : Int} {L : List Int} (h : Part f m first last L) (hf : Found m first last true next) (ha : amV (f next) = true) :
    (f next = 0 → Part f m false next L) ∧ (f next ≠ 0 → Part f m false next (L ++ [next])) := by
  obtain ⟨h1, h2, h3⟩ := hf.1 rfl
  have hold : ∀ c, elig first last c = false → c < next := by
    intro c hc
    unfold elig at h2 hc
    cases first
    · simp at h2 hc; omega
    · simp at hc
  have hmid : ∀ x ∈ m, elig first last x.account = true → x.account ≤ next → x.account = next := fun x hx h4 h5 => by have := h3 x hx h4; omega
  have ham : ∀ x ∈ m, elig false next x.account = false → amV (f x.account) = true := by
    intro x hx hle
    rw [elig_next h2] at hle
    cases he : elig first last x.account with
    | false => exact h.2.2 x hx he
    | true => rw [hmid x hx he hle]; exact ha
  refine ⟨fun h0 => ⟨h.1, fun c => ?_, ham⟩, fun h0 => ⟨?_, fun c => ?_, ham⟩⟩
  · rw [h.2.1 c, elig_next h2]
    constructor
    · rintro ⟨a, b, d⟩; exact ⟨a, by have := hold c b; omega, d⟩
    · rintro ⟨a, b, d⟩
      refine ⟨a, ?_, d⟩
      cases he : elig first last c with
      | false => rfl
      | true =>
        obtain ⟨x, hx, rfl⟩ := List.mem_map.1 d
        rw [hmid x hx he b] at a
        exact absurd h0 a
  · rw [List.pairwise_append]
    refine ⟨h.1, by simp, fun a hal b hb => ?_⟩
    simp only [List.mem_singleton] at hb
    subst hb
    exact hold a ((h.2.1 a).1 hal).2.1
  · rw [List.mem_append, List.mem_singleton, h.2.1 c, elig_next h2]
    constructor
    · rintro (⟨a, b, d⟩ | rfl)
      · exact ⟨a, by have := hold c b; omega, d⟩
      · exact ⟨h0, by omega, h1⟩
    · rintro ⟨a, b, d⟩
      cases he : elig first last c with
      | false => exact .inl ⟨a, rfl, d⟩
      | true =>
        obtain ⟨x, hx, rfl⟩ := List.mem_map.1 d
        exact .inr (hmid x hx he b)
theorem part_end {m : List Bal} {first : Bool} {last next : Int} {L : List Int} (h : Part (ofW m) m first last L) (hf : Found m first last false next) : IsC (ofW m) (balsOf (ofW m) L) ∧ ∀ c, amV (ofW m c) = true := by
  have hz : ∀ c, c ∉ m.map Bal.account → ofW m c = 0 := by
    intro c hc
    unfold ofW
    have : ∀ (l : List Bal) (n : Int), (∀ x ∈ l, x.account ≠ c) → l.foldl (fun n x => if x.account = c then wrap64 (n + x.amount) else n) n = n := by
      intro l
      induction l with
      | nil => intro n _; rfl
      | cons a l ih => intro n hl; rw [List.foldl_cons, if_neg (hl a (by simp)), ih n (fun x hx => hl x (by simp [hx]))]
    exact this m 0 (fun x hx e => hc (List.mem_map.2 ⟨x, hx, e⟩))
  have hall : ∀ c, c ∈ m.map Bal.account → elig first last c = false := by
    intro c hc
    obtain ⟨x, hx, rfl⟩ := List.mem_map.1 hc
    exact hf.2 rfl x hx
  refine ⟨isC_of h.1 (fun c => ?_), fun c => ?_⟩
  · rw [h.2.1 c]
    constructor
    · exact fun hh => hh.1
    · intro hc
      by_cases hm : c ∈ m.map Bal.account
      · exact ⟨hc, hall c hm, hm⟩
      · exact absurd (hz c hm) hc
  · by_cases hm : c ∈ m.map Bal.account
    · obtain ⟨x, hx, rfl⟩ := List.mem_map.1 hm
      exact h.2.2 x hx (hf.2 rfl x hx)
    · rw [hz c hm]; rfl
/-- how many accounts may still come up -/
def togo (m : List Bal) : Value → Value → Nat
  | .bool true, _ => m.length + 1
  | _, .int _ last => (m.filter fun x => decide (last < x.account)).length
  | _, _ => 0
theorem togo_next {m : List Bal} {first : Bool} {last next : Int} (hf : Found m first last true next) : togo m (.bool false) (.int .i64 next) < togo m (.bool first) (.int .i64 last) := by
  obtain ⟨h1, h2, -⟩ := hf.1 rfl
  cases first with
  | true =>
    have := List.length_filter_le (fun x : Bal => decide (next < x.account)) m
    simp only [togo]
    omega
  | false =>
    simp only [togo]
    obtain ⟨x, hx, e⟩ := List.mem_map.1 h1
    have hlt : last < next := by simpa [elig] using h2
    clear hf h1 h2
    have hle : ∀ l : List Bal, (l.filter fun x => decide (next < x.account)).length ≤ (l.filter fun x => decide (last < x.account)).length := by
      intro l
      induction l with
      | nil => simp
      | cons b l ih =>
        rw [List.filter_cons, List.filter_cons]
        by_cases c1 : next < b.account
        · have : last < b.account := by omega
          simp [c1, this]; exact ih
        · by_cases c2 : last < b.account
          · simp [c1, c2]; omega
          · simp [c1, c2]; exact ih
    induction m with
    | nil => simp at hx
    | cons a m ih =>
      rw [List.filter_cons, List.filter_cons]
      rcases List.mem_cons.1 hx with rfl | hx
      · have h1 : ¬ next < x.account := by omega
        have h2 : last < x.account := by omega
        have := hle m
        simp [h1, h2]; omega
      · have := ih hx
        by_cases h1 : next < a.account
        · have h2 : last < a.account := by omega
          simp [h1, h2]; exact this
        · by_cases h2 : last < a.account
          · simp [h1, h2]; omega
          · simp [h1, h2]; exact this
theorem nodup_len_ (s t : List Int) (hd : s.Nodup) (hs : ∀ x ∈ s, x ∈ t) : s.length ≤ t.length := by
  induction s generalizing t with
  | nil => simp
  | cons a s ih =>
    have ha := hs a (by simp)
    have hn := List.nodup_cons.1 hd
    have := ih (t.erase a) hn.2 (fun x hx => by
      refine (List.mem_erase_of_ne ?_).2 (hs x (by simp [hx]))
      rintro rfl
      exact hn.1 hx)
    rw [List.length_erase_of_mem ha] at this
    have := List.length_pos_of_mem ha
    simp only [List.length_cons]
    omega
theorem part_len {f : Int → Int} {m : List Bal} {first : Bool} {last : Int} {L : List Int} (h : Part f m first last L) : L.length ≤ m.length := by
  have hd : L.Nodup := h.1.imp fun {a b} hab => by omega
  have := nodup_len_ L (m.map Bal.account) hd (fun c hc => ((h.2.1 c).1 hc).2.2)
  simpa using this
theorem take_snoc_ (m : List Bal) (k : Nat) (h : k < m.length) : m.take (k + 1) = m.take k ++ [m[k]] := List.take_succ_eq_append_getElem h
end Go.Proofs.Ytnkmjdaeafeaaaa
/- The walks of Clean, Sum, Negate and of their references. -/
namespace Go.Proofs.Ytnkmjdaeafeaaaa
set_option linter.unusedVariables false
set_option linter.unusedSimpArgs false
open Go.RowKit

theorem rmoney_any (n : Int) (w : World) : Calls Try.prog 67 #[.int .i64 n] w (fun e w' => e = .returned (.bool (amV n)) ∧ w = w') := by
  have HE : Hid (amV n = (decide (-1000000000000 ≤ n) && decide (n ≤ 1000000000000))) := Lib.hid rfl
  by_cases h1 : -1000000000000 ≤ n
  · by_cases h2 : n ≤ 1000000000000
    all_goals
      go_enter Try.func67, Try.ntmps67
      go_wp2_with fail
      go_ret
      exact ⟨ret_bool (by rw [HE.out]; simp [h1, h2] <;> omega), rfl⟩
  · go_enter Try.func67, Try.ntmps67
    go_wp2_with fail
    go_ret
    exact ⟨ret_bool (by rw [HE.out]; simp [h1] <;> omega), rfl⟩
set_option maxRecDepth 100000 in
set_option maxHeartbeats 1000000 in
theorem clean_any (m : List Bal) (A : Option Addr) (cap : Nat) (w : World) (hr : Rd w w.heap.size 2 A m.length (cellsOf Bal.cells m)) (hn : m.length ≤ 1000000) (hwf : ∀ x ∈ m, (Lit.int .i64 x.account).wf = true) :
    Calls Try.prog 61 #[.slice A m.length cap] w (ColPost 129 w.heap.size (ofW m) w) := by
  have hb := Below.refl w.heap.size w
  have HR := Lib.hid hr
  have HW := Lib.hid hwf
  have hmm := @run_makeMap Try.prog
  clear hr hwf
  go_enter Try.func61, Try.ntmps61
  go_wp2_with fail
  go_loopw [10] (fun t wr => ∃ k : Nat, k ≤ m.length ∧ t = .int .i64 k ∧ SumW Try.prog 3 3 wr w.heap.size k (ofW (m.take k)) ∧ Below w.heap.size w wr) (fun t _ => m.length - (intOf t).toNat)
  case atStart => exact ⟨0, by omega, rfl, by rw [ofW_zero]; exact SumW.made w, (by repeat (first | exact hb | refine Below.alloc ?_ (by have hbs := hb.size; first | omega | (simp; done) | (simp; omega)) _ | refine Below.drew ?_ | refine below_drewN_ ?_ _ | refine Below.setCell ?_ (by simp) _))⟩
  case round =>
    clear hb
    obtain ⟨k, hk, rfl, hS, hb⟩ := hrel
    have hz := hb.size
    by_cases hlt : k < m.length
    · obtain ⟨x, o, hA, hbo, f0, f1⟩ := Bal.at_ (HR.out.below hb (Nat.le_refl _)) hlt
      subst hA
      have hc : (Lit.int .i64 m[k].account).wf = true := HW.out _ (List.getElem_mem hlt)
      have hy := wrap64_wf (ofW (m.take k) m[k].account + m[k].amount)
      have hLL := (hS.alloc (.cells #[.int .i64 m[k].account, .int .i64 m[k].amount] 129)).look (t := 114) Try.underlying3 Try.underlying3 Try.underlying114 (zero_int _) hc
      have HP := Lib.hid (ofW_put m k hlt)
      go_wp2_with (at_mapUpdate; refine wpList_sum_put rfl _ _ _ 114 rfl Try.underlying3 Try.underlying3 Try.underlying114 (hS.alloc _) (by unfold maxLen; omega) _ _ hc hy rfl rfl rfl ?_; intro w4 hS4 hg4)
      rw [HP.out] at hS4
      have hb4 : Below w.heap.size w w4 := Below.grown (hb.alloc hz _) hg4 (by simp; omega) (fun k hk => by injection hk with hk; omega)
      clear hg4 hS hLL
      go_wp2_with fail
      go_roundw
      case rel => exact ⟨k + 1, by omega, by go_num, hS4, hb4⟩
      case measure => simp [intOf]; omega
    · have HE : Hid (m.take k = m) := Lib.hid (List.take_of_length_le (by omega))
      rw [HE.out] at hS
      go_wp2_with (go_at_call 111; refine (colp_any w.heap.size k (ofW m) wr hS (by omega)).mono ?_; rintro e w5 ⟨v5, L, E, rfl, ho5, hb5, hc5⟩)
      go_ret2
      exact ⟨v5, L, E, rfl, own_base ho5 hb.size, bel hb hb5, hc5⟩
set_option maxHeartbeats 1000000 in
theorem sum_any (m : List Bal) (A : Option Addr) (cap : Nat) (w : World) (hr : Rd w w.heap.size 2 A m.length (cellsOf Bal.cells m)) (hn : m.length ≤ 1000000) :
    Calls Try.prog 65 #[.slice A m.length cap] w (fun e w' => e = .returned (.int .i64 (sumW m)) ∧ Below w.heap.size w w') := by
  have hb := Below.refl w.heap.size w
  have HR := Lib.hid hr
  clear hr
  go_enter Try.func65, Try.ntmps65
  go_wp2_with fail
  go_loopw [3, 8] (fun s t wr => ∃ k : Nat, k ≤ m.length ∧ s = .int .i64 (sumW (m.take k)) ∧ t = .int .i64 k ∧ Below w.heap.size w wr) (fun _ t _ => m.length - (intOf t).toNat)
  case atStart => exact ⟨0, by omega, rfl, rfl, hb⟩
  case round =>
    clear hb
    obtain ⟨k, hk, rfl, rfl, hb⟩ := hrel
    have hz := hb.size
    by_cases hlt : k < m.length
    · obtain ⟨x, o, hA, hbo, f0, f1⟩ := Bal.at_ (HR.out.below hb (Nat.le_refl _)) hlt
      subst hA
      have HP := Lib.hid (sumW_take m k hlt)
      go_wp2_with fail
      go_roundw
      case rel => exact ⟨k + 1, by omega, by rw [HP.out], by go_num, (by repeat (first | exact hb | refine Below.alloc ?_ (by have hbs := hb.size; first | omega | (simp; done) | (simp; omega)) _ | refine Below.drew ?_ | refine below_drewN_ ?_ _ | refine Below.setCell ?_ (by simp) _))⟩
      case measure => simp [intOf]; omega
    · have HE : Hid (m.take k = m) := Lib.hid (List.take_of_length_le (by omega))
      go_wp2_with fail
      go_ret
      exact ⟨by rw [HE.out]; rfl, hb⟩
set_option maxHeartbeats 1000000 in
theorem rsum_any (m : List Bal) (A : Option Addr) (cap : Nat) (w : World) (hr : Rd w w.heap.size 2 A m.length (cellsOf Bal.cells m)) (hn : m.length ≤ 1000000) :
    Calls Try.prog 68 #[.slice A m.length cap] w (fun e w' => e = .returned (.int .i64 (sumW m)) ∧ Below w.heap.size w w') := by
  have hb := Below.refl w.heap.size w
  have HR := Lib.hid hr
  clear hr
  go_enter Try.func68, Try.ntmps68
  go_wp2_with fail
  go_loopw [3, 4] (fun s t wr => ∃ k : Nat, k ≤ m.length ∧ s = .int .i64 (sumW (m.take k)) ∧ t = .int .i64 k ∧ Below w.heap.size w wr) (fun _ t _ => m.length - (intOf t).toNat)
  case atStart => exact ⟨0, by omega, rfl, rfl, hb⟩
  case round =>
    clear hb
    obtain ⟨k, hk, rfl, rfl, hb⟩ := hrel
    have hz := hb.size
    by_cases hlt : k < m.length
    · obtain ⟨x, o, hA, hbo, f0, f1⟩ := Bal.at_ (HR.out.below hb (Nat.le_refl _)) hlt
      subst hA
      have HP := Lib.hid (sumW_take m k hlt)
      go_wp2_with fail
      go_roundw
      case rel => exact ⟨k + 1, by omega, by rw [HP.out], by go_num, (by repeat (first | exact hb | refine Below.alloc ?_ (by have hbs := hb.size; first | omega | (simp; done) | (simp; omega)) _ | refine Below.drew ?_ | refine below_drewN_ ?_ _ | refine Below.setCell ?_ (by simp) _))⟩
      case measure => simp [intOf]; omega
    · have HE : Hid (m.take k = m) := Lib.hid (List.take_of_length_le (by omega))
      go_wp2_with fail
      go_ret
      exact ⟨by rw [HE.out]; rfl, hb⟩
def OwnParts (base : Nat) (L : List Bal) (w : World) (e : Ending) (w' : World) : Prop :=
  ∃ v, e = .returned v ∧ w'.ownsRow base 129 2 v L.length (cellsOf Bal.cells L) ∧ Below w.heap.size w w'
end Go.Proofs.Ytnkmjdaeafeaaaa
/- The walk of the reference's Clean. -/
namespace Go.Proofs.Ytnkmjdaeafeaaaa
set_option linter.unusedVariables false
set_option linter.unusedSimpArgs false
open Go.RowKit

set_option maxRecDepth 100000 in
set_option maxHeartbeats 4000000 in
theorem rclean_any (m : List Bal) (A : Option Addr) (cap : Nat) (w : World) (hr : Rd w w.heap.size 2 A m.length (cellsOf Bal.cells m)) (hn : m.length ≤ 1000000) :
    Calls Try.prog 73 #[.slice A m.length cap] w (ColPost 129 w.heap.size (ofW m) w) := by
  have hb := Below.refl w.heap.size w
  have HR := Lib.hid hr
  obtain ⟨i0, hi, hz0, hz1, hz2⟩ := info_parts colp_info
  clear hr
  go_enter Try.func73, Try.ntmps73
  go_wp2_with fail
  go_loopw [4, 5, 6] (fun v s t wr => ∃ (L : List Int) (last : Int) (first : Bool), Part (ofW m) m first last L ∧ s = .int .i64 last ∧ t = .bool first ∧ wr.ownsRow w.heap.size 129 2 v (balsOf (ofW m) L).length (cellsOf Bal.cells (balsOf (ofW m) L)) ∧ Below w.heap.size w wr) (fun _ s t _ => togo m t s)
  case atStart => exact ⟨[], _, true, part_start _ _ _, rfl, rfl, World.ownsRow_nil _ _ _ _, hb⟩
  case round =>
    clear hb
    obtain ⟨wo, rfl⟩ : ∃ wo : World, wo = wr := ⟨_, rfl⟩
    obtain ⟨L, last, first, hp, rfl, rfl, ho, hb⟩ := hrel
    have HP := Lib.hid hp
    have hz := hb.size
    have hln : (balsOf (ofW m) L).length ≤ 1000000 := by rw [balsOf_len]; have := part_len hp; omega
    clear hp
    go_wp2_with fail
    go_loopw [7, 8, 9] (fun nx fd t wr => ∃ (i : Nat) (found : Bool) (next : Int), i ≤ m.length ∧ Found (m.take i) first last found next ∧ nx = .int .i64 next ∧ fd = .bool found ∧ t = .int .i64 i ∧ wo = wr) (fun _ _ t _ => m.length - (intOf t).toNat)
    case atStart => exact ⟨0, false, 0, by omega, found_start _ _ _, rfl, rfl, rfl, rfl⟩
    case round =>
      obtain ⟨i, found, next, hi2, hf, rfl, rfl, rfl, rfl⟩ := hrel
      have HF := Lib.hid hf
      clear hf
      by_cases hil : i < m.length
      · obtain ⟨x, o, hA, hbo, f0, f1⟩ := Bal.at_ (HR.out.below hb (Nat.le_refl _)) hil
        subst hA
        cases first
        · by_cases hl : last < m[i].account
          · have HE : Hid (elig false last m[i].account = true) := Lib.hid (by simp [elig, hl])
            cases found
            · have HF2 := Lib.hid (found_hit HF.out HE.out (.inl rfl))
              go_wp2_with fail
              go_roundw
              case rel => exact ⟨i + 1, true, m[i].account, by omega, by rw [take_snoc_ m i hil]; exact HF2.out, rfl, rfl, by go_num, trivial⟩
              case measure => simp [intOf]; omega
            · by_cases hn : m[i].account < next
              · have HF2 := Lib.hid (found_hit HF.out HE.out (.inr hn))
                go_wp2_with fail
                go_roundw
                case rel => exact ⟨i + 1, true, m[i].account, by omega, by rw [take_snoc_ m i hil]; exact HF2.out, rfl, rfl, by go_num, trivial⟩
                case measure => simp [intOf]; omega
              · have HF2 := Lib.hid (found_miss (x := m[i]) HF.out (.inr ⟨rfl, by omega⟩))
                go_wp2_with fail
                go_roundw
                case rel => exact ⟨i + 1, true, next, by omega, by rw [take_snoc_ m i hil]; exact HF2.out, rfl, rfl, by go_num, trivial⟩
                case measure => simp [intOf]; omega
          · have HE : Hid (elig false last m[i].account = false) := Lib.hid (by simp [elig]; omega)
            have HF2 := Lib.hid (found_miss (x := m[i]) HF.out (.inl HE.out))
            go_wp2_with fail
            go_roundw
            case rel => exact ⟨i + 1, found, next, by omega, by rw [take_snoc_ m i hil]; exact HF2.out, rfl, rfl, by go_num, trivial⟩
            case measure => simp [intOf]; omega
        · have HE : Hid (elig true last m[i].account = true) := Lib.hid (by simp [elig])
          cases found
          · have HF2 := Lib.hid (found_hit HF.out HE.out (.inl rfl))
            go_wp2_with fail
            go_roundw
            case rel => exact ⟨i + 1, true, m[i].account, by omega, by rw [take_snoc_ m i hil]; exact HF2.out, rfl, rfl, by go_num, trivial⟩
            case measure => simp [intOf]; omega
          · by_cases hn : m[i].account < next
            · have HF2 := Lib.hid (found_hit HF.out HE.out (.inr hn))
              go_wp2_with fail
              go_roundw
              case rel => exact ⟨i + 1, true, m[i].account, by omega, by rw [take_snoc_ m i hil]; exact HF2.out, rfl, rfl, by go_num, trivial⟩
              case measure => simp [intOf]; omega
            · have HF2 := Lib.hid (found_miss (x := m[i]) HF.out (.inr ⟨rfl, by omega⟩))
              go_wp2_with fail
              go_roundw
              case rel => exact ⟨i + 1, true, next, by omega, by rw [take_snoc_ m i hil]; exact HF2.out, rfl, rfl, by go_num, trivial⟩
              case measure => simp [intOf]; omega
      · have HM : Hid (m.take i = m) := Lib.hid (List.take_of_length_le (by omega))
        have HF2 := Lib.hid HF.out
        rw [HM.out] at HF2
        clear HF
        cases found
        · have HEND := Lib.hid (part_end HP.out HF2.out)
          go_wp2_with fail
          go_ret2
          exact ⟨_, _, 0, rfl, ho, hb, .inl ⟨rfl, HEND.out.1, HEND.out.2⟩⟩
        · go_wp2_with fail
          go_loopw [11, 12] (fun s t wr => ∃ k : Nat, k ≤ m.length ∧ s = .int .i64 (ofW (m.take k) next) ∧ t = .int .i64 k ∧ wo = wr) (fun _ t _ => m.length - (intOf t).toNat)
          case atStart => exact ⟨0, by omega, rfl, rfl, rfl⟩
          case round =>
            obtain ⟨k, hk, rfl, rfl, rfl⟩ := hrel
            by_cases hlt : k < m.length
            · obtain ⟨x, o, hA, hbo, f0, f1⟩ := Bal.at_ (HR.out.below hb (Nat.le_refl _)) hlt
              subst hA
              have HK := Lib.hid (ofW_take m k hlt next)
              by_cases hc : m[k].account = next
              · have hc' : (m[k].account == next) = true := by simpa using hc
                have HE : Hid (ofW (m.take (k + 1)) next = wrap64 (ofW (m.take k) next + m[k].amount)) := Lib.hid (by rw [HK.out, if_pos hc])
                clear hc HK
                go_wp2_with fail
                go_roundw
                case rel => exact ⟨k + 1, by omega, by rw [HE.out], by go_num, trivial⟩
                case measure => simp [intOf]; omega
              · have hc' : (m[k].account == next) = false := by simpa using hc
                have HE : Hid (ofW (m.take (k + 1)) next = ofW (m.take k) next) := Lib.hid (by rw [HK.out, if_neg hc])
                clear hc HK
                go_wp2_with fail
                go_roundw
                case rel => exact ⟨k + 1, by omega, by rw [HE.out], by go_num, trivial⟩
                case measure => simp [intOf]; omega
            · have HE : Hid (m.take k = m) := Lib.hid (List.take_of_length_le (by omega))
              rw [HE.out]
              cases ha : amV (ofW m next)
              · have HA := Lib.hid ha
                go_wp2_with (go_at_call 67; refine (rmoney_any _ _).mono ?_; rintro e w2 ⟨rfl, rfl⟩)
                go_ret2
                exact ⟨_, [], 2, rfl, World.ownsRow_nil _ _ _ _, hb, .inr ⟨rfl, rfl, next, HA.out⟩⟩
              · have HST := Lib.hid (part_step HP.out HF2.out ha)
                have HTG := Lib.hid (togo_next HF2.out)
                by_cases h0 : ofW m next = 0
                · have hd : (ofW m next != 0) = false := by simp [h0]
                  have HS := Lib.hid (HST.out.1 h0)
                  clear h0 HST
                  go_wp2_with (go_at_call 67; refine (rmoney_any _ _).mono ?_; rintro e w2 ⟨rfl, rfl⟩)
                  go_roundw
                  case rel => exact ⟨L, next, false, HS.out, rfl, rfl, ho, hb⟩
                  case measure => exact HTG.out
                · have hd : (ofW m next != 0) = true := by simp [h0]
                  have HS := Lib.hid (HST.out.2 h0)
                  clear h0 HST
                  go_wp2_with (first
                    | (go_at_call 67; refine (rmoney_any _ _).mono ?_; rintro e w2 ⟨rfl, rfl⟩)
                    | (at_builtin; refine wpList_append_rec Bal.cells 2 (fun _ => rfl) Bal.one rfl (.tmp 68) (.tmp 72) 53 rfl w.heap.size 129 i0 (.agg #[.int .i64 0, .int .i64 0]) 16 Try.underlying53 hi hz0 hz1 hz2 rfl (by decide) _ (balsOf (ofW m) L) rfl (ho.alloc _) wo.heap.size 1 ⟨next, ofW m next⟩ _ rfl (Blk.new wo _ _) rfl ?c3 ?c4 ?c5 ?_))
                  case c3 => simp only [maxLen]; omega
                  case c4 => omega
                  case c5 => simp; omega
                  intro v4 w4 ho4 hg4
                  have hb3 : Below w.heap.size w (wo.alloc (.cells #[.int .i64 next, .int .i64 (ofW m next)] 129)) := (by repeat (first | exact hb | refine Below.alloc ?_ (by have hbs := hb.size; first | omega | (simp; done) | (simp; omega)) _ | refine Below.drew ?_ | refine below_drewN_ ?_ _ | refine Below.setCell ?_ (by simp) _))
                  have hb4 := bel_own hb3 (by simp; omega) (ho.alloc _) hg4
                  have HT : Hid (balsOf (ofW m) (L ++ [next]) = balsOf (ofW m) L ++ [⟨next, ofW m next⟩]) := Lib.hid (by unfold balsOf; rw [List.map_append]; rfl)
                  clear hg4 hb3
                  go_wp2_with fail
                  go_roundw
                  case rel => exact ⟨L ++ [next], next, false, HS.out, rfl, rfl, by rw [HT.out, List.length_append]; exact ho4, hb4⟩
                  case measure => exact HTG.out
end Go.Proofs.Ytnkmjdaeafeaaaa
