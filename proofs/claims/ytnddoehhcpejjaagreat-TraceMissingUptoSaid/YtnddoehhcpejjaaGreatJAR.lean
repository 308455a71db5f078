/- Texts of this claim, put together. -/
import Derived.Test.YtnddoehhcpejjaaGreatJAB
import Derived.Maps.RangeWalk
import Derived.Shelf.Sort.Plain
import Derived.Shelf.Slices.In.SortNone
import Derived.Test.YtnddoehhcpejjaaGreatProg
/- Sums over lists. No program. -/
namespace Go.Proofs.YtnddoehhcpejjaaGreat
set_option linter.unusedVariables false
set_option linter.unusedSimpArgs false
open Go.RowKit

/-- the sum of f over a list -/
def sm {α : Type} (l : List α) (f : α → Int) : Int := (l.map f).sum
section
variable {α β : Type}
theorem sm_nil (f : α → Int) : sm [] f = 0 := rfl
theorem sm_cons (a : α) (l : List α) (f : α → Int) : sm (a :: l) f = f a + sm l f := by simp [sm]
theorem sm_app (l m : List α) (f : α → Int) : sm (l ++ m) f = sm l f + sm m f := by simp [sm]
theorem sm_congr {l : List α} {f g : α → Int} (h : ∀ a ∈ l, f a = g a) : sm l f = sm l g := by
  induction l with
  | nil => rfl
  | cons a l ih => rw [sm_cons, sm_cons, h a (by simp), ih (fun b hb => h b (by simp [hb]))]
theorem sm_add (l : List α) (f g : α → Int) : sm l (fun a => f a + g a) = sm l f + sm l g := by
  induction l with
  | nil => rfl
  | cons a l ih => rw [sm_cons, sm_cons, sm_cons, ih]; omega
theorem sm_zero {l : List α} {f : α → Int} (h : ∀ a ∈ l, f a = 0) : sm l f = 0 := by
  induction l with
  | nil => rfl
  | cons a l ih => rw [sm_cons, h a (by simp), ih (fun b hb => h b (by simp [hb]))]; omega
theorem sm_swap (l : List α) (m : List β) (f : α → β → Int) : sm l (fun a => sm m (f a)) = sm m (fun b => sm l (fun a => f a b)) := by
  induction l with
  | nil => rw [sm_nil, sm_zero]; intro b _; rfl
  | cons a l ih =>
    rw [sm_cons, ih, ← sm_add]
    exact sm_congr fun b _ => by rw [sm_cons]
theorem sm_map (l : List α) (g : α → β) (f : β → Int) : sm (l.map g) f = sm l (fun a => f (g a)) := by simp [sm, Function.comp_def]
theorem sm_filter (l : List α) (p : α → Bool) (f : α → Int) : sm (l.filter p) f = sm l (fun a => if p a then f a else 0) := by
  induction l with
  | nil => rfl
  | cons a l ih =>
    rw [sm_cons, List.filter_cons]
    cases h : p a
    · simp [ih]
    · simp [sm_cons, ih]
theorem sm_count (l : List α) (p : α → Bool) : ((l.filter p).length : Int) = sm l (fun a => if p a then 1 else 0) := by
  induction l with
  | nil => rfl
  | cons a l ih =>
    rw [sm_cons, List.filter_cons]
    cases h : p a
    · simp [ih]
    · simp [ih]; omega
theorem sm_mul_ite (l : List α) (p : α → Prop) [DecidablePred p] (c : Int) : sm l (fun a => if p a then c else 0) = c * sm l (fun a => if p a then 1 else 0) := by
  induction l with
  | nil => simp [sm_nil]
  | cons a l ih =>
    rw [sm_cons, sm_cons, ih, Int.mul_add]
    split <;> simp
theorem sm_take (l : List α) (k : Nat) (h : k < l.length) (f : α → Int) : sm (l.take (k + 1)) f = sm (l.take k) f + f l[k] := by
  rw [List.take_succ_eq_append_getElem h, sm_app, sm_cons, sm_nil]; omega
/-- just one place of a list has a key -/
theorem sm_one {l : List α} (key : α → Int) (hd : (l.map key).Nodup) {a : α} (ha : a ∈ l) (g : α → Int) : sm l (fun b => if key b = key a then g b else 0) = g a := by
  induction l with
  | nil => simp at ha
  | cons b l ih =>
    rw [List.map_cons, List.nodup_cons] at hd
    rw [sm_cons]
    rcases List.mem_cons.1 ha with rfl | h
    · rw [if_pos rfl, sm_zero]
      · omega
      · intro c hc
        rw [if_neg]
        intro e
        exact hd.1 (by rw [← e]; exact List.mem_map.2 ⟨c, hc, rfl⟩)
    · rw [if_neg, ih hd.2 h]
      · omega
      · intro e
        exact hd.1 (by rw [e]; exact List.mem_map.2 ⟨a, h, rfl⟩)
theorem sm_bd (l : List α) (f : α → Int) (M : Int) (h : ∀ a ∈ l, -M ≤ f a ∧ f a ≤ M) : -(M * l.length) ≤ sm l f ∧ sm l f ≤ M * l.length := by
  induction l with
  | nil => simp [sm_nil]
  | cons a l ih =>
    have h1 := ih (fun b hb => h b (by simp [hb]))
    have h2 := h a (by simp)
    rw [sm_cons]
    simp only [List.length_cons, Int.natCast_add, Int.natCast_one, Int.mul_add, Int.mul_one]
    omega
end

/-- what stands on an account, wrapping around -/
def ofW (m : List Bal) (c : Int) : Int := m.foldl (fun n x => if x.account = c then wrap64 (n + x.amount) else n) 0
def ofV (m : List Bal) (c : Int) : Int := sm m (fun x => if x.account = c then x.amount else 0)
theorem ofW_take (m : List Bal) (k : Nat) (h : k < m.length) (c : Int) : ofW (m.take (k + 1)) c = if m[k].account = c then wrap64 (ofW (m.take k) c + m[k].amount) else ofW (m.take k) c := by
  unfold ofW
  rw [List.take_succ_eq_append_getElem h, List.foldl_append]
  rfl
theorem ofV_bd (m : List Bal) (c : Int) (h : ∀ x ∈ m, amV x.amount = true) : -(1000000000000 * m.length) ≤ ofV m c ∧ ofV m c ≤ 1000000000000 * m.length := by
  refine sm_bd m _ _ fun x hx => ?_
  have := amV_is (h x hx)
  split <;> omega
theorem ofW_eq (m : List Bal) (c : Int) (h : ∀ x ∈ m, amV x.amount = true) (hl : m.length ≤ 1000000) : ofW m c = ofV m c := by
  have : ∀ k, k ≤ m.length → ofW (m.take k) c = ofV (m.take k) c := by
    intro k
    induction k with
    | zero => intro _; rfl
    | succ k ih =>
      intro hk
      have hk' : k < m.length := by omega
      rw [ofW_take m k hk', ih (by omega)]
      have e : ofV (m.take (k + 1)) c = ofV (m.take k) c + if m[k].account = c then m[k].amount else 0 := sm_take m k hk' _
      rw [e]
      have hb := ofV_bd (m.take k) c (fun x hx => h x (List.mem_of_mem_take hx))
      rw [List.length_take] at hb
      have hx := amV_is (h _ (List.getElem_mem hk'))
      by_cases hc : m[k].account = c
      · rw [if_pos hc, if_pos hc, IntWalk.wrap64_in _ ⟨by omega, by omega⟩]
      · rw [if_neg hc, if_neg hc]; omega
  have := this m.length (Nat.le_refl _)
  rwa [List.take_length] at this
end Go.Proofs.YtnddoehhcpejjaaGreat
/- Sums by accounts, in order and without noughts. No program. -/
namespace Go.Proofs.YtnddoehhcpejjaaGreat
set_option linter.unusedVariables false
set_option linter.unusedSimpArgs false
open Go.RowKit

/-- L are the accounts on which f is not 0, in order, with f -/
def IsC (f : Int → Int) (L : List Bal) : Prop := (L.map Bal.account).Pairwise (· < ·) ∧ ∀ x : Bal, x ∈ L ↔ (f x.account = x.amount ∧ x.amount ≠ 0)
theorem asc_unique {l m : List Int} (hl : l.Pairwise (· < ·)) (hm : m.Pairwise (· < ·)) (h : ∀ c, c ∈ l ↔ c ∈ m) : l = m := by
  induction l generalizing m with
  | nil =>
    cases m with
    | nil => rfl
    | cons b m => exact absurd ((h b).2 (by simp)) (by simp)
  | cons a l ih =>
    cases m with
    | nil => exact absurd ((h a).1 (by simp)) (by simp)
    | cons b m =>
      rw [List.pairwise_cons] at hl hm
      have e : a = b := by
        have h1 := (h a).1 (by simp)
        have h2 := (h b).2 (by simp)
        simp only [List.mem_cons] at h1 h2
        rcases h1 with h1 | h1
        · exact h1
        · rcases h2 with h2 | h2
          · exact h2.symm
          · have := hm.1 a h1
            have := hl.1 b h2
            omega
      subst e
      rw [ih hl.2 hm.2]
      intro c
      constructor
      · intro hc
        have h1 := (h c).1 (by simp [hc])
        simp only [List.mem_cons] at h1
        rcases h1 with h1 | h1
        · have := hl.1 c hc; omega
        · exact h1
      · intro hc
        have h1 := (h c).2 (by simp [hc])
        simp only [List.mem_cons] at h1
        rcases h1 with h1 | h1
        · have := hm.1 c hc; omega
        · exact h1
theorem isC_codes {f : Int → Int} {L : List Bal} (h : IsC f L) (c : Int) : c ∈ L.map Bal.account ↔ f c ≠ 0 := by
  constructor
  · intro hc
    obtain ⟨x, hx, rfl⟩ := List.mem_map.1 hc
    obtain ⟨h1, h2⟩ := (h.2 x).1 hx
    rw [h1]; exact h2
  · intro hc
    exact List.mem_map.2 ⟨⟨c, f c⟩, (h.2 _).2 ⟨rfl, hc⟩, rfl⟩
theorem isC_is {f : Int → Int} {L : List Bal} (h : IsC f L) : L = (L.map Bal.account).map fun c => ⟨c, f c⟩ := by
  rw [List.map_map]
  have e : L.map ((fun c => (⟨c, f c⟩ : Bal)) ∘ Bal.account) = L.map id := by
    refine List.map_congr_left fun x hx => ?_
    have := ((h.2 x).1 hx).1
    simp [this]
  rw [e, List.map_id]
theorem isC_unique {f e : Int → Int} {L M : List Bal} (hL : IsC f L) (hM : IsC e M) (h : ∀ c, f c = e c) : L = M := by
  have : f = e := funext h
  subst this
  rw [isC_is hL, isC_is hM, asc_unique hL.1 hM.1 (fun c => by rw [isC_codes hL, isC_codes hM])]
theorem isC_of {f : Int → Int} {l : List Int} (h : l.Pairwise (· < ·)) (hm : ∀ c, c ∈ l ↔ f c ≠ 0) : IsC f (l.map fun c => ⟨c, f c⟩) := by
  constructor
  · rw [List.map_map]
    have : (Bal.account ∘ fun c => (⟨c, f c⟩ : Bal)) = id := rfl
    rw [this, List.map_id]; exact h
  · intro x
    rw [List.mem_map]
    constructor
    · rintro ⟨c, hc, rfl⟩
      exact ⟨rfl, (hm c).1 hc⟩
    · rintro ⟨h1, h2⟩
      exact ⟨x.account, (hm _).2 (by rw [h1]; exact h2), by rw [h1]⟩

/-- accounts with f -/
def balsOf (f : Int → Int) (l : List Int) : List Bal := l.map fun c => ⟨c, f c⟩
theorem balsOf_len (f : Int → Int) (l : List Int) : (balsOf f l).length = l.length := by unfold balsOf; rw [List.length_map]
theorem balsOf_take (f : Int → Int) (l : List Int) (j : Nat) (hj : j < l.length) : balsOf f (l.take (j + 1)) = balsOf f (l.take j) ++ [⟨l[j], f l[j]⟩] := by unfold balsOf; rw [List.take_succ_eq_append_getElem hj, List.map_append]; rfl
/-- what a round over a map has gathered: the keys met, on which f is not 0 -/
def Gath (f : Int → Int) (D : DataW Unit) (left : Lit → Bool) (L : List Int) : Prop :=
  L.Nodup ∧ (∀ c, c ∈ L ↔ (Maps.has D (.int .i64 c) = true ∧ left (.int .i64 c) = false ∧ f c ≠ 0)) ∧ (∀ c, Maps.has D (.int .i64 c) = true → left (.int .i64 c) = false → amV (f c) = true)
theorem gath_start (f : Int → Int) (D : DataW Unit) : Gath f D (Maps.has D) [] := by
  refine ⟨List.nodup_nil, fun c => ?_, fun c h1 h2 => ?_⟩
  · constructor
    · intro h; simp at h
    · rintro ⟨h1, h2, _⟩; rw [h1] at h2; cases h2
  · rw [h1] at h2; cases h2
/-- what is left behind a step -/
def strike (left : Lit → Bool) (x : Int) : Lit → Bool := fun z => left z && !z.sameKey (.int .i64 x)
theorem strike_at (left : Lit → Bool) (x c : Int) : strike left x (.int .i64 c) = (if c = x then false else left (.int .i64 c)) := by
  unfold strike
  by_cases h : c = x
  · subst h
    rw [if_pos rfl, WideAt.sameKey_self (show WideAt.IsKeyLit (.int .i64 c) from trivial)]
    simp
  · rw [if_neg h, Maps.sameKey_ne (fun e => h (by injection e))]
    simp
theorem gath_skip {f : Int → Int} {D : DataW Unit} {left : Lit → Bool} {L : List Int} {x : Int} (h : Gath f D left L) (h0 : f x = 0) : Gath f D (strike left x) L := by
  refine ⟨h.1, fun c => ?_, fun c h1 h2 => ?_⟩
  · rw [h.2.1 c, strike_at]
    by_cases e : c = x
    · subst e; simp [h0]
    · rw [if_neg e]
  · rw [strike_at] at h2
    by_cases e : c = x
    · subst e; rw [h0]; rfl
    · rw [if_neg e] at h2; exact h.2.2 c h1 h2
theorem gath_take {f : Int → Int} {D : DataW Unit} {left : Lit → Bool} {L : List Int} {x : Int} (h : Gath f D left L) (hl : left (.int .i64 x) = true) (hD : Maps.has D (.int .i64 x) = true) (h0 : f x ≠ 0) (hx : amV (f x) = true) :
    Gath f D (strike left x) (L ++ [x]) := by
  have hn : x ∉ L := fun hx => by have := ((h.2.1 x).1 hx).2.1; rw [hl] at this; cases this
  refine ⟨?_, fun c => ?_, fun c h1 h2 => ?_⟩
  · rw [List.nodup_append]
    refine ⟨h.1, by simp, ?_⟩
    intro a ha b hb
    simp only [List.mem_singleton] at hb
    subst hb
    rintro rfl
    exact hn ha
  · rw [strike_at, List.mem_append, List.mem_singleton, h.2.1 c]
    by_cases e : c = x
    · subst e; simp [hD, h0]
    · rw [if_neg e]; simp [e]
  · rw [strike_at] at h2
    by_cases e : c = x
    · subst e; exact hx
    · rw [if_neg e] at h2; exact h.2.2 c h1 h2
theorem gath_end {f : Int → Int} {D : DataW Unit} {left : Lit → Bool} {L : List Int} (h : Gath f D left L) (hl : ∀ kl, left kl = false) (hD : ∀ c, D.atKey (.int .i64 c) (.lit (.int .i64 0)) = .lit (.int .i64 (f c))) :
    (∀ c, c ∈ L ↔ f c ≠ 0) ∧ ∀ c, amV (f c) = true := by
  have hk : ∀ c, f c ≠ 0 → Maps.has D (.int .i64 c) = true := by
    intro c hc
    cases hh : Maps.has D (.int .i64 c) with
    | true => rfl
    | false =>
      have := hD c
      rw [Maps.atKey_of_not_has hh] at this
      injection this with this
      injection this with _ this
      exact absurd this.symm hc
  refine ⟨fun c => ?_, fun c => ?_⟩
  · rw [h.2.1 c]
    exact ⟨fun hh => hh.2.2, fun hh => ⟨hk c hh, hl _, hh⟩⟩
  · by_cases hc : f c = 0
    · rw [hc]; rfl
    · exact h.2.2 c (hk c hc) (hl _)
/-- the gathered numbers in order -/
def srt (l : List Int) : List Int := l.mergeSort fun x y => decide (x ≤ y)
theorem srt_len (l : List Int) : (srt l).length = l.length := (List.mergeSort_perm l _).length_eq
theorem srt_mem (l : List Int) (c : Int) : c ∈ srt l ↔ c ∈ l := (List.mergeSort_perm l _).mem_iff
theorem srt_asc {l : List Int} (h : l.Nodup) : (srt l).Pairwise (· < ·) := by
  have h1 : (srt l).Pairwise (fun x y => decide (x ≤ y) = true) := List.pairwise_mergeSort (fun a b c h1 h2 => by simp at h1 h2 ⊢; omega) (fun a b => by simp; omega) l
  have h2 : (srt l).Nodup := (List.mergeSort_perm l _).nodup_iff.2 h
  have h3 := List.Pairwise.and h1 h2
  refine h3.imp fun {a b} h => ?_
  simp only [decide_eq_true_eq, ne_eq] at h
  omega
theorem run_make_ints {P : Program} {t e : TypeId} {i : TypeInfo} {z : Value} (ht : P.underlying t = some (.slice e)) (hi : P.info? e = some i) (hz : i.zero = some z) (h1 : i.size = 1) (h8 : i.bytes = 8) (n : Nat) (hn : n ≤ 100000000) (w : World) :
    (Instr.makeSlice t (.int .i64 0) (.int .i64 (n : Int))).run P w = .ok (.slice (some ⟨w.heap.size, 0, none⟩) 0 n) (w.alloc (.cells (madeCells z.cells (n * 1)) e)) := by
  have := run_make (P := P) (w := w) t e i z ht hi hz .i64 .i64 0 (n : Int) (by omega) (by omega) (by rw [h8]; omega) (by omega)
  simpa [h1] using this
/-- two rows of different elements do not meet -/
theorem own_apart {w w' : World} {base base' : Nat} {e e' : TypeId} {sz sz' n n' : Nat} {v v' : Value} {xs xs' : List Value} (h : w.ownsRow base e sz v n xs) (h' : w.ownsRow base' e' sz' v' n' xs') (hne : e ≠ e') (hg : w.grownBy w' v'.ownBlock) : w'.ownsRow base e sz v n xs := by
  refine h.kept hg ?_
  rcases h.2 with ⟨rfl, _⟩ | ⟨g, cap, cur, rfl, _, hh, _⟩
  · exact .inl rfl
  · right
    rcases h'.2 with ⟨rfl, _⟩ | ⟨g', cap', cur', rfl, _, hh', _⟩
    · simp [Value.ownBlock]
    · simp only [Value.ownBlock, ne_eq, Option.some.injEq]
      rintro rfl
      rw [hh] at hh'
      injection hh' with hh'
      injection hh' with _ hh'
      exact hne hh'
theorem range_ne {P : Program} {k E : TypeId} {R : Value → Option (DataW Unit × List MemPlace)} {w : World} {b r n cnt base sz m : Nat} {D : DataW Unit} {left : Lit → Bool} {v : Value} {xs : List Value} (h : w.ranges P k R b r n D left cnt) (ho : w.ownsRow base E sz v m xs) : v.ownBlock ≠ some r := by
  obtain ⟨es, cl, si, se, c0, _, _, _, _, hr, _⟩ := h
  rcases ho.2 with ⟨rfl, _⟩ | ⟨g, cap, cur, rfl, _, hg, _⟩
  · simp [Value.ownBlock]
  · simp only [Value.ownBlock, ne_eq, Option.some.injEq]
    rintro rfl
    rw [hr] at hg
    simp at hg
/-- a row of the call's own reads -/
theorem own_rd {w : World} {base : Nat} {e : TypeId} {sz n c : Nat} {A : Option Addr} {xs : List Value} (h : w.ownsRow base e sz (.slice A n c) n xs) : Rd w w.heap.size sz A n xs := by
  obtain ⟨A', c', e1, h1⟩ := Rd.of_own h
  injection e1 with e1 e2 e3
  subst e1
  exact h1
end Go.Proofs.YtnddoehhcpejjaaGreat
/-
  DERIVED: THE SHELF's CONTRACTS AT THIS DUMP, IN PLAIN WORDS (tools/lay-plain.mjs out of 'TryzShelf.lean', which tools/lay-shelf.mjs wrote): THE SAME DECLARATIONS UNDER THE SAME NAMES: 'import', 'namespace', 'open', 'def', 'theorem' AND NOTHING ELSE: no command of the shelf's: FOR A HAND-IN. Each laying: the table of numbers ('.._ren') and one theorem, a field a fact of the dump's own or the kernel's comparison; each contract: ONE APPLICATION.
-/
namespace Go.Proofs
open Go.Shelf
def Tryz.lays189_ren : Go.Shelf.Ren := ⟨fun | 189 => 56 | 125 => 82 | 257 => 81 | 128 => 119 | 129 => 120 | 294 => 110 | 295 => 111 | 296 => 112 | 297 => 113 | 298 => 114 | 299 => 115 | 216 => 116 | 300 => 117 | 301 => 118 | 328 => 131 | 329 => 132 | 330 => 133 | 331 => 134 | 332 => 135 | 215 => 54 | 343 => 138 | n => n, fun | 28 => 113 | 3 => 3 | 46 => 136 | 0 => 0 | 51 => 169 | 53 => 171 | 4 => 4 | 183 => 162 | 182 => 161 | 131 => 106 | 5 => 5 | 9 => 9 | 218 => 180 | 222 => 184 | 228 => 186 | 229 => 187 | n => n, fun | n => n⟩
theorem Tryz.lays189 : Go.Proofs.Lays.n189 Tryz.prog Tryz.lays189_ren := {
  mixed := by kernel_rfl
  f125 := Tryz.func82.trans (congrArg some (by kernel_rfl))
  f128 := Tryz.func119.trans (congrArg some (by kernel_rfl))
  f129 := Tryz.func120.trans (congrArg some (by kernel_rfl))
  f189 := Tryz.func56.trans (congrArg some (by kernel_rfl))
  f215 := Tryz.func54.trans (congrArg some (by kernel_rfl))
  f216 := Tryz.func116.trans (congrArg some (by kernel_rfl))
  f257 := Tryz.func81.trans (congrArg some (by kernel_rfl))
  f294 := Tryz.func110.trans (congrArg some (by kernel_rfl))
  f295 := Tryz.func111.trans (congrArg some (by kernel_rfl))
  f296 := Tryz.func112.trans (congrArg some (by kernel_rfl))
  f297 := Tryz.func113.trans (congrArg some (by kernel_rfl))
  f298 := Tryz.func114.trans (congrArg some (by kernel_rfl))
  f299 := Tryz.func115.trans (congrArg some (by kernel_rfl))
  f300 := Tryz.func117.trans (congrArg some (by kernel_rfl))
  f301 := Tryz.func118.trans (congrArg some (by kernel_rfl))
  f328 := Tryz.func131.trans (congrArg some (by kernel_rfl))
  f329 := Tryz.func132.trans (congrArg some (by kernel_rfl))
  f330 := Tryz.func133.trans (congrArg some (by kernel_rfl))
  f331 := Tryz.func134.trans (congrArg some (by kernel_rfl))
  f332 := Tryz.func135.trans (congrArg some (by kernel_rfl))
  f343 := Tryz.func138.trans (congrArg some (by kernel_rfl))
  t0 := Tryz.underlying0
  a0 := Tryz.isAgg0
  z0 := Tryz.sizeOf0
  v0 := Tryz.zeroValue0
  t3 := Tryz.underlying3
  a3 := Tryz.isAgg3
  z3 := Tryz.sizeOf3
  v3 := Tryz.zeroValue3
  t4 := Tryz.underlying4
  a4 := Tryz.isAgg4
  z4 := Tryz.sizeOf4
  v4 := Tryz.zeroValue4
  t5 := Tryz.underlying5
  a5 := Tryz.isAgg5
  z5 := Tryz.sizeOf5
  v5 := Tryz.zeroValue5
  t9 := Tryz.underlying9
  a9 := Tryz.isAgg9
  z9 := Tryz.sizeOf9
  v9 := Tryz.zeroValue9
  t28 := Tryz.underlying113
  a28 := Tryz.isAgg113
  z28 := Tryz.sizeOf113
  v28 := Tryz.zeroValue113
  t46 := Tryz.underlying136
  a46 := Tryz.isAgg136
  z46 := Tryz.sizeOf136
  v46 := Tryz.zeroValue136
  t51 := Tryz.underlying169
  a51 := Tryz.isAgg169
  z51 := Tryz.sizeOf169
  v51 := Tryz.zeroValue169
  t53 := Tryz.underlying171
  a53 := Tryz.isAgg171
  z53 := Tryz.sizeOf171
  v53 := Tryz.zeroValue171
  t131 := Tryz.underlying106
  a131 := Tryz.isAgg106
  z131 := Tryz.sizeOf106
  v131 := Tryz.zeroValue106
  t182 := Tryz.underlying161
  a182 := Tryz.isAgg161
  z182 := Tryz.sizeOf161
  v182 := Tryz.zeroValue161
  t183 := Tryz.underlying162
  a183 := Tryz.isAgg162
  z183 := Tryz.sizeOf162
  v183 := Tryz.zeroValue162
  t218 := Tryz.underlying180
  a218 := Tryz.isAgg180
  z218 := Tryz.sizeOf180
  v218 := Tryz.zeroValue180
  t222 := Tryz.underlying184
  a222 := Tryz.isAgg184
  z222 := Tryz.sizeOf184
  v222 := Tryz.zeroValue184
  t228 := Tryz.underlying186
  a228 := Tryz.isAgg186
  z228 := Tryz.sizeOf186
  v228 := Tryz.zeroValue186
  t229 := Tryz.underlying187
  a229 := Tryz.isAgg187
  z229 := Tryz.sizeOf187
  v229 := Tryz.zeroValue187 }
open Go.Sort Go.RowKit in
theorem Tryz.slices_Sort_int (blk off cap : Nat) (zs : List Int) (w : World) (hH : Holds (Value.int .i64) w blk off zs.toArray) (hblk : blk < w.heap.size) (hsz : zs.length < 4611686018427387904) :
    Calls Tryz.prog 56 #[.slice (some ⟨blk, off, none⟩) zs.length cap] w fun e w' =>
      e = .returned (.tuple #[]) ∧ ∃ n os, w' = grow (putRow (Value.int .i64) (Sort.ahead w n) blk off (zs.mergeSort fun x y => decide (x ≤ y)).toArray) os := Any.slices_Sort_int Tryz.lays189 blk off cap zs w hH hblk hsz
open Go.RowKit Go.Sort in
/-- .. and plain. (LAID: no walk: one application.) -/
theorem Tryz.slices_Sort_int_none (p : Option Addr) (cap : Nat) (w : World) :
    Calls Tryz.prog 56 #[.slice p 0 cap] w fun e w' => e = .returned (.tuple #[]) ∧ w' = w := Any.slices_Sort_int_none Tryz.lays189 p cap w
end Go.Proofs
