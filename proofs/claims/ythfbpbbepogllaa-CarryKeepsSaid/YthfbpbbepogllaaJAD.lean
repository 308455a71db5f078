/- Texts of this claim, put together. -/
import Derived.Test.YthfbpbbepogllaaJAC
import Derived.Maps.RangeWalk
import Derived.Shelf.Small.Bits
import Derived.Shelf.Strconv.Itoa0
import Derived.Shelf.Sort.Plain
import Derived.Ground.Names2Prog
import Derived.Shelf.Slices.SearchI
import Derived.Shelf.Slices.In.SortNone
import Derived.Test.YthfbpbbepogllaaProg
import Derived.Test.YthfbpbbepogllaaJAA
/- Sums by accounts, in order and without noughts. No program. -/
namespace Go.Proofs.Ythfbpbbepogllaa
set_option linter.unusedVariables false
set_option linter.unusedSimpArgs false
open Go.RowKit

/-- L are the accounts on which f is not 0, in order, with f -/
def IsC (f : Int → Int) (L : List Bal) : Prop := (L.map Bal.account).Pairwise (· < ·) ∧ ∀ x : Bal, x ∈ L ↔ (f x.account = x.amount ∧ x.amount ≠ 0)
theorem asc_unique {l m : List Int} (hl : l.Pairwise (· < ·)) (hm : m.Pairwise (· < ·)) (h : ∀ c, c ∈ l ↔ c ∈ m) : l = m := by
  induction l generalizing m with
  | nil =>
    cases m with
    | nil => rfl
    | cons b m => exact absurd ((h b).2 (by simp)) (by simp)
  | cons a l ih =>
    cases m with
    | nil => exact absurd ((h a).1 (by simp)) (by simp)
    | cons b m =>
      rw [List.pairwise_cons] at hl hm
      have e : a = b := by
        have h1 := (h a).1 (by simp)
        have h2 := (h b).2 (by simp)
        simp only [List.mem_cons] at h1 h2
        rcases h1 with h1 | h1
        · exact h1
        · rcases h2 with h2 | h2
          · exact h2.symm
          · have := hm.1 a h1
            have := hl.1 b h2
            omega
      subst e
      rw [ih hl.2 hm.2]
      intro c
      constructor
      · intro hc
        have h1 := (h c).1 (by simp [hc])
        simp only [List.mem_cons] at h1
        rcases h1 with h1 | h1
        · have := hl.1 c hc; omega
        · exact h1
      · intro hc
        have h1 := (h c).2 (by simp [hc])
        simp only [List.mem_cons] at h1
        rcases h1 with h1 | h1
        · have := hm.1 c hc; omega
        · exact h1
theorem isC_codes {f : Int → Int} {L : List Bal} (h : IsC f L) (c : Int) : c ∈ L.map Bal.account ↔ f c ≠ 0 := by
  constructor
  · intro hc
    obtain ⟨x, hx, rfl⟩ := List.mem_map.1 hc
    obtain ⟨h1, h2⟩ := (h.2 x).1 hx
    rw [h1]; exact h2
  · intro hc
    exact List.mem_map.2 ⟨⟨c, f c⟩, (h.2 _).2 ⟨rfl, hc⟩, rfl⟩
theorem isC_is {f : Int → Int} {L : List Bal} (h : IsC f L) : L = (L.map Bal.account).map fun c => ⟨c, f c⟩ := by
  rw [List.map_map]
  have e : L.map ((fun c => (⟨c, f c⟩ : Bal)) ∘ Bal.account) = L.map id := by
    refine List.map_congr_left fun x hx => ?_
    have := ((h.2 x).1 hx).1
    simp [this]
  rw [e, List.map_id]
theorem isC_unique {f e : Int → Int} {L M : List Bal} (hL : IsC f L) (hM : IsC e M) (h : ∀ c, f c = e c) : L = M := by
  have : f = e := funext h
  subst this
  rw [isC_is hL, isC_is hM, asc_unique hL.1 hM.1 (fun c => by rw [isC_codes hL, isC_codes hM])]
theorem isC_of {f : Int → Int} {l : List Int} (h : l.Pairwise (· < ·)) (hm : ∀ c, c ∈ l ↔ f c ≠ 0) : IsC f (l.map fun c => ⟨c, f c⟩) := by
  constructor
  · rw [List.map_map]
    have : (Bal.account ∘ fun c => (⟨c, f c⟩ : Bal)) = id := rfl
    rw [this, List.map_id]; exact h
  · intro x
    rw [List.mem_map]
    constructor
    · rintro ⟨c, hc, rfl⟩
      exact ⟨rfl, (hm c).1 hc⟩
    · rintro ⟨h1, h2⟩
      exact ⟨x.account, (hm _).2 (by rw [h1]; exact h2), by rw [h1]⟩

/-- accounts with f -/
def balsOf (f : Int → Int) (l : List Int) : List Bal := l.map fun c => ⟨c, f c⟩
theorem balsOf_len (f : Int → Int) (l : List Int) : (balsOf f l).length = l.length := by unfold balsOf; rw [List.length_map]
theorem balsOf_take (f : Int → Int) (l : List Int) (j : Nat) (hj : j < l.length) : balsOf f (l.take (j + 1)) = balsOf f (l.take j) ++ [⟨l[j], f l[j]⟩] := by unfold balsOf; rw [List.take_succ_eq_append_getElem hj, List.map_append]; rfl
/-- what a round over a map has gathered: the keys met, on which f is not 0 -/
def Gath (f : Int → Int) (D : DataW Unit) (left : Lit → Bool) (L : List Int) : Prop :=
  L.Nodup ∧ (∀ c, c ∈ L ↔ (Maps.has D (.int .i64 c) = true ∧ left (.int .i64 c) = false ∧ f c ≠ 0)) ∧ (∀ c, Maps.has D (.int .i64 c) = true → left (.int .i64 c) = false → amV (f c) = true)
theorem gath_start (f : Int → Int) (D : DataW Unit) : Gath f D (Maps.has D) [] := by
  refine ⟨List.nodup_nil, fun c => ?_, fun c h1 h2 => ?_⟩
  · constructor
    · intro h; simp at h
    · rintro ⟨h1, h2, _⟩; rw [h1] at h2; cases h2
  · rw [h1] at h2; cases h2
/-- what is left behind a step -/
def strike (left : Lit → Bool) (x : Int) : Lit → Bool := fun z => left z && !z.sameKey (.int .i64 x)
theorem strike_at (left : Lit → Bool) (x c : Int) : strike left x (.int .i64 c) = (if c = x then false else left (.int .i64 c)) := by
  unfold strike
  by_cases h : c = x
  · subst h
    rw [if_pos rfl, WideAt.sameKey_self (show WideAt.IsKeyLit (.int .i64 c) from trivial)]
    simp
  · rw [if_neg h, Maps.sameKey_ne (fun e => h (by injection e))]
    simp
theorem gath_skip {f : Int → Int} {D : DataW Unit} {left : Lit → Bool} {L : List Int} {x : Int} (h : Gath f D left L) (h0 : f x = 0) : Gath f D (strike left x) L := by
  refine ⟨h.1, fun c => ?_, fun c h1 h2 => ?_⟩
  · rw [h.2.1 c, strike_at]
    by_cases e : c = x
    · subst e; simp [h0]
    · rw [if_neg e]
  · rw [strike_at] at h2
    by_cases e : c = x
    · subst e; rw [h0]; rfl
    · rw [if_neg e] at h2; exact h.2.2 c h1 h2
theorem gath_take {f : Int → Int} {D : DataW Unit} {left : Lit → Bool} {L : List Int} {x : Int} (h : Gath f D left L) (hl : left (.int .i64 x) = true) (hD : Maps.has D (.int .i64 x) = true) (h0 : f x ≠ 0) (hx : amV (f x) = true) :
    Gath f D (strike left x) (L ++ [x]) := by
  have hn : x ∉ L := fun hx => by have := ((h.2.1 x).1 hx).2.1; rw [hl] at this; cases this
  refine ⟨?_, fun c => ?_, fun c h1 h2 => ?_⟩
  · rw [List.nodup_append]
    refine ⟨h.1, by simp, ?_⟩
    intro a ha b hb
    simp only [List.mem_singleton] at hb
    subst hb
    rintro rfl
    exact hn ha
  · rw [strike_at, List.mem_append, List.mem_singleton, h.2.1 c]
    by_cases e : c = x
    · subst e; simp [hD, h0]
    · rw [if_neg e]; simp [e]
  · rw [strike_at] at h2
    by_cases e : c = x
    · subst e; exact hx
    · rw [if_neg e] at h2; exact h.2.2 c h1 h2
theorem gath_end {f : Int → Int} {D : DataW Unit} {left : Lit → Bool} {L : List Int} (h : Gath f D left L) (hl : ∀ kl, left kl = false) (hD : ∀ c, D.atKey (.int .i64 c) (.lit (.int .i64 0)) = .lit (.int .i64 (f c))) :
    (∀ c, c ∈ L ↔ f c ≠ 0) ∧ ∀ c, amV (f c) = true := by
  have hk : ∀ c, f c ≠ 0 → Maps.has D (.int .i64 c) = true := by
    intro c hc
    cases hh : Maps.has D (.int .i64 c) with
    | true => rfl
    | false =>
      have := hD c
      rw [Maps.atKey_of_not_has hh] at this
      injection this with this
      injection this with _ this
      exact absurd this.symm hc
  refine ⟨fun c => ?_, fun c => ?_⟩
  · rw [h.2.1 c]
    exact ⟨fun hh => hh.2.2, fun hh => ⟨hk c hh, hl _, hh⟩⟩
  · by_cases hc : f c = 0
    · rw [hc]; rfl
    · exact h.2.2 c (hk c hc) (hl _)
/-- the gathered numbers in order -/
def srt (l : List Int) : List Int := l.mergeSort fun x y => decide (x ≤ y)
theorem srt_len (l : List Int) : (srt l).length = l.length := (List.mergeSort_perm l _).length_eq
theorem srt_mem (l : List Int) (c : Int) : c ∈ srt l ↔ c ∈ l := (List.mergeSort_perm l _).mem_iff
theorem srt_asc {l : List Int} (h : l.Nodup) : (srt l).Pairwise (· < ·) := by
  have h1 : (srt l).Pairwise (fun x y => decide (x ≤ y) = true) := List.pairwise_mergeSort (fun a b c h1 h2 => by simp at h1 h2 ⊢; omega) (fun a b => by simp; omega) l
  have h2 : (srt l).Nodup := (List.mergeSort_perm l _).nodup_iff.2 h
  have h3 := List.Pairwise.and h1 h2
  refine h3.imp fun {a b} h => ?_
  simp only [decide_eq_true_eq, ne_eq] at h
  omega
theorem run_make_ints {P : Program} {t e : TypeId} {i : TypeInfo} {z : Value} (ht : P.underlying t = some (.slice e)) (hi : P.info? e = some i) (hz : i.zero = some z) (h1 : i.size = 1) (h8 : i.bytes = 8) (n : Nat) (hn : n ≤ 100000000) (w : World) :
    (Instr.makeSlice t (.int .i64 0) (.int .i64 (n : Int))).run P w = .ok (.slice (some ⟨w.heap.size, 0, none⟩) 0 n) (w.alloc (.cells (madeCells z.cells (n * 1)) e)) := by
  have := run_make (P := P) (w := w) t e i z ht hi hz .i64 .i64 0 (n : Int) (by omega) (by omega) (by rw [h8]; omega) (by omega)
  simpa [h1] using this
/-- two rows of different elements do not meet -/
theorem own_apart {w w' : World} {base base' : Nat} {e e' : TypeId} {sz sz' n n' : Nat} {v v' : Value} {xs xs' : List Value} (h : w.ownsRow base e sz v n xs) (h' : w.ownsRow base' e' sz' v' n' xs') (hne : e ≠ e') (hg : w.grownBy w' v'.ownBlock) : w'.ownsRow base e sz v n xs := by
  refine h.kept hg ?_
  rcases h.2 with ⟨rfl, _⟩ | ⟨g, cap, cur, rfl, _, hh, _⟩
  · exact .inl rfl
  · right
    rcases h'.2 with ⟨rfl, _⟩ | ⟨g', cap', cur', rfl, _, hh', _⟩
    · simp [Value.ownBlock]
    · simp only [Value.ownBlock, ne_eq, Option.some.injEq]
      rintro rfl
      rw [hh] at hh'
      injection hh' with hh'
      injection hh' with _ hh'
      exact hne hh'
theorem range_ne {P : Program} {k E : TypeId} {R : Value → Option (DataW Unit × List MemPlace)} {w : World} {b r n cnt base sz m : Nat} {D : DataW Unit} {left : Lit → Bool} {v : Value} {xs : List Value} (h : w.ranges P k R b r n D left cnt) (ho : w.ownsRow base E sz v m xs) : v.ownBlock ≠ some r := by
  obtain ⟨es, cl, si, se, c0, _, _, _, _, hr, _⟩ := h
  rcases ho.2 with ⟨rfl, _⟩ | ⟨g, cap, cur, rfl, _, hg, _⟩
  · simp [Value.ownBlock]
  · simp only [Value.ownBlock, ne_eq, Option.some.injEq]
    rintro rfl
    rw [hr] at hg
    simp at hg
/-- a row of the call's own reads -/
theorem own_rd {w : World} {base : Nat} {e : TypeId} {sz n c : Nat} {A : Option Addr} {xs : List Value} (h : w.ownsRow base e sz (.slice A n c) n xs) : Rd w w.heap.size sz A n xs := by
  obtain ⟨A', c', e1, h1⟩ := Rd.of_own h
  injection e1 with e1 e2 e3
  subst e1
  exact h1
end Go.Proofs.Ythfbpbbepogllaa
/-
  DERIVED: THE SHELF's CONTRACTS AT THIS DUMP, IN PLAIN WORDS (tools/lay-plain.mjs out of 'TryShelf.lean', which tools/lay-shelf.mjs wrote): THE SAME DECLARATIONS UNDER THE SAME NAMES: 'import', 'namespace', 'open', 'def', 'theorem' AND NOTHING ELSE: no command of the shelf's: FOR A HAND-IN. Each laying: the table of numbers ('.._ren') and one theorem, a field a fact of the dump's own or the kernel's comparison; each contract: ONE APPLICATION.
-/
namespace Go.Proofs
open Go.Shelf
def Try.lays189_ren : Go.Shelf.Ren := ⟨fun | 189 => 43 | 125 => 62 | 257 => 61 | 128 => 81 | 129 => 82 | 294 => 72 | 295 => 73 | 296 => 74 | 297 => 75 | 298 => 76 | 299 => 77 | 216 => 78 | 300 => 79 | 301 => 80 | 328 => 102 | 329 => 103 | 330 => 104 | 331 => 105 | 332 => 106 | 215 => 107 | 343 => 114 | n => n, fun | 28 => 79 | 3 => 3 | 46 => 133 | 0 => 0 | 51 => 155 | 53 => 157 | 4 => 4 | 183 => 148 | 182 => 147 | 131 => 152 | 5 => 5 | 9 => 9 | 218 => 170 | 222 => 174 | 228 => 182 | 229 => 183 | n => n, fun | n => n⟩
theorem Try.lays189 : Go.Proofs.Lays.n189 Try.prog Try.lays189_ren := {
  mixed := by kernel_rfl
  f125 := Try.func62.trans (congrArg some (by kernel_rfl))
  f128 := Try.func81.trans (congrArg some (by kernel_rfl))
  f129 := Try.func82.trans (congrArg some (by kernel_rfl))
  f189 := Try.func43.trans (congrArg some (by kernel_rfl))
  f215 := Try.func107.trans (congrArg some (by kernel_rfl))
  f216 := Try.func78.trans (congrArg some (by kernel_rfl))
  f257 := Try.func61.trans (congrArg some (by kernel_rfl))
  f294 := Try.func72.trans (congrArg some (by kernel_rfl))
  f295 := Try.func73.trans (congrArg some (by kernel_rfl))
  f296 := Try.func74.trans (congrArg some (by kernel_rfl))
  f297 := Try.func75.trans (congrArg some (by kernel_rfl))
  f298 := Try.func76.trans (congrArg some (by kernel_rfl))
  f299 := Try.func77.trans (congrArg some (by kernel_rfl))
  f300 := Try.func79.trans (congrArg some (by kernel_rfl))
  f301 := Try.func80.trans (congrArg some (by kernel_rfl))
  f328 := Try.func102.trans (congrArg some (by kernel_rfl))
  f329 := Try.func103.trans (congrArg some (by kernel_rfl))
  f330 := Try.func104.trans (congrArg some (by kernel_rfl))
  f331 := Try.func105.trans (congrArg some (by kernel_rfl))
  f332 := Try.func106.trans (congrArg some (by kernel_rfl))
  f343 := Try.func114.trans (congrArg some (by kernel_rfl))
  t0 := Try.underlying0
  a0 := Try.isAgg0
  z0 := Try.sizeOf0
  v0 := Try.zeroValue0
  t3 := Try.underlying3
  a3 := Try.isAgg3
  z3 := Try.sizeOf3
  v3 := Try.zeroValue3
  t4 := Try.underlying4
  a4 := Try.isAgg4
  z4 := Try.sizeOf4
  v4 := Try.zeroValue4
  t5 := Try.underlying5
  a5 := Try.isAgg5
  z5 := Try.sizeOf5
  v5 := Try.zeroValue5
  t9 := Try.underlying9
  a9 := Try.isAgg9
  z9 := Try.sizeOf9
  v9 := Try.zeroValue9
  t28 := Try.underlying79
  a28 := Try.isAgg79
  z28 := Try.sizeOf79
  v28 := Try.zeroValue79
  t46 := Try.underlying133
  a46 := Try.isAgg133
  z46 := Try.sizeOf133
  v46 := Try.zeroValue133
  t51 := Try.underlying155
  a51 := Try.isAgg155
  z51 := Try.sizeOf155
  v51 := Try.zeroValue155
  t53 := Try.underlying157
  a53 := Try.isAgg157
  z53 := Try.sizeOf157
  v53 := Try.zeroValue157
  t131 := Try.underlying152
  a131 := Try.isAgg152
  z131 := Try.sizeOf152
  v131 := Try.zeroValue152
  t182 := Try.underlying147
  a182 := Try.isAgg147
  z182 := Try.sizeOf147
  v182 := Try.zeroValue147
  t183 := Try.underlying148
  a183 := Try.isAgg148
  z183 := Try.sizeOf148
  v183 := Try.zeroValue148
  t218 := Try.underlying170
  a218 := Try.isAgg170
  z218 := Try.sizeOf170
  v218 := Try.zeroValue170
  t222 := Try.underlying174
  a222 := Try.isAgg174
  z222 := Try.sizeOf174
  v222 := Try.zeroValue174
  t228 := Try.underlying182
  a228 := Try.isAgg182
  z228 := Try.sizeOf182
  v228 := Try.zeroValue182
  t229 := Try.underlying183
  a229 := Try.isAgg183
  z229 := Try.sizeOf183
  v229 := Try.zeroValue183 }
open Go.Sort Go.RowKit in
theorem Try.slices_Sort_int (blk off cap : Nat) (zs : List Int) (w : World) (hH : Holds (Value.int .i64) w blk off zs.toArray) (hblk : blk < w.heap.size) (hsz : zs.length < 4611686018427387904) :
    Calls Try.prog 43 #[.slice (some ⟨blk, off, none⟩) zs.length cap] w fun e w' =>
      e = .returned (.tuple #[]) ∧ ∃ n os, w' = grow (putRow (Value.int .i64) (Sort.ahead w n) blk off (zs.mergeSort fun x y => decide (x ≤ y)).toArray) os := Any.slices_Sort_int Try.lays189 blk off cap zs w hH hblk hsz
open Go.RowKit Go.Sort in
/-- .. and plain. (LAID: no walk: one application.) -/
theorem Try.slices_Sort_int_none (p : Option Addr) (cap : Nat) (w : World) :
    Calls Try.prog 43 #[.slice p 0 cap] w fun e w' => e = .returned (.tuple #[]) ∧ w' = w := Any.slices_Sort_int_none Try.lays189 p cap w
end Go.Proofs
/- What every walk of this program needs of int, bool and string. -/
namespace Go.Proofs.Ythfbpbbepogllaa
set_option linter.unusedVariables false
set_option linter.unusedSimpArgs false
open Go.RowKit
open Go.Maps (Keyed)

theorem int_info : (Try.prog.info? 3).map (fun i => (i.zero, i.size, i.bytes)) = some (some (.int .i64 0), 1, 8) := by kernel_rfl
theorem zero_int (w : World) : (zeroValue 3).run Try.prog w = .ok (.int .i64 0) w := by kernel_rfl
theorem zero_bool (w : World) : (zeroValue 4).run Try.prog w = .ok (.bool false) w := by kernel_rfl
theorem keyed_int : Keyed Try.prog 3 := Maps.int_keyed Try.underlying3
end Go.Proofs.Ythfbpbbepogllaa
