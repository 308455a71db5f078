/- Texts of this claim, put together. -/
import Derived.Test.YthfbpbbepogllaaJBF
import Derived.Test.YthfbpbbepogllaaJAV
import Derived.Test.YthfbpbbepogllaaJAF
import Derived.Shelf.SlIterI.Sorted
import Derived.Shelf.SlIterI.Keys
import Derived.Ground.GgzProg
import Derived.Test.YthfbpbbepogllaaProg
import Derived.Test.YthfbpbbepogllaaJAA
import Derived.Test.YthfbpbbepogllaaJBA
import Derived.Lib.SlKeysI
import Derived.Test.YthfbpbbepogllaaJAD
import Derived.Test.YthfbpbbepogllaaJAZ
/- What Carry shows: a sum for every account, in the order of the accounts. No walk. -/
namespace Go.Proofs.Ythfbpbbepogllaa
set_option linter.unusedVariables false
set_option linter.unusedSimpArgs false
open Go.RowKit

namespace Cr
/-- the sum that is shown on an account -/
def sumAt (F : DatR → Int) (l : List DatR) (c : Int) : Int := tot (fun x => F x == c) l
def row (f : Int → Int) (c : Int) : Option Bal := if f c = 0 then none else some ⟨c, f c⟩
def caL (f : Int → Int) (cs : List Int) : List Bal := cs.filterMap (row f)
def caE (f : Int → Int) (cs : List Int) : Int := if cs.all (fun c => amV (f c)) = true then 0 else 2
def Up (l : List Int) : Prop := l.Pairwise (· < ·)
theorem up_ext : ∀ {l m : List Int}, Up l → Up m → (∀ x, x ∈ l ↔ x ∈ m) → l = m
  | [], [], _, _, _ => rfl
  | [], b :: m, _, _, h => by have := (h b).2 (by simp); cases this
  | a :: l, [], _, _, h => by have := (h a).1 (by simp); cases this
  | a :: l, b :: m, hl, hm, h => by
    rw [Up, List.pairwise_cons] at hl hm
    have hab : a = b := by
      have h1 := (h a).1 (by simp)
      have h2 := (h b).2 (by simp)
      rcases List.mem_cons.1 h1 with h1 | h1
      · exact h1
      rcases List.mem_cons.1 h2 with h2 | h2
      · exact h2.symm
      have := hm.1 _ h1
      have := hl.1 _ h2
      omega
    subst hab
    rw [up_ext hl.2 hm.2 (fun x => ?_)]
    constructor
    · intro hx
      rcases List.mem_cons.1 ((h x).1 (by simp [hx])) with e | e
      · subst e; exact absurd (hl.1 _ hx) (by omega)
      · exact e
    · intro hx
      rcases List.mem_cons.1 ((h x).2 (by simp [hx])) with e | e
      · subst e; exact absurd (hm.1 _ hx) (by omega)
      · exact e
theorem up_filter {l : List Int} (q : Int → Bool) (h : Up l) : Up (l.filter q) := List.Pairwise.filter q h
theorem caL_filter {f : Int → Int} {q : Int → Bool} : ∀ {cs : List Int}, (∀ c ∈ cs, q c = false → f c = 0) → caL f (cs.filter q) = caL f cs
  | [], _ => rfl
  | c :: r, h => by
    have ih := caL_filter (f := f) (q := q) (cs := r) (fun x hx => h x (by simp [hx]))
    unfold caL at *
    rw [List.filter_cons]
    split
    · rw [List.filterMap_cons, List.filterMap_cons, ih]
    · rename_i hq
      have : row f c = none := by unfold row; rw [if_pos (h c (by simp) (by simpa using hq))]
      rw [List.filterMap_cons, this, ih]
theorem caE_filter {f : Int → Int} {q : Int → Bool} {cs : List Int} (h : ∀ c ∈ cs, q c = false → f c = 0) : caE f (cs.filter q) = caE f cs := by
  unfold caE
  congr 2
  rw [Bool.eq_iff_iff, List.all_eq_true, List.all_eq_true]
  constructor
  · intro H x hx
    cases hq : q x
    · rw [h x hx hq]; decide
    · exact H x (List.mem_filter.2 ⟨hx, hq⟩)
  · intro H x hx
    exact H x (List.mem_filter.1 hx).1
theorem sumAt_no {F : DatR → Int} {l : List DatR} {c : Int} (h : ∀ x ∈ l, F x ≠ c) : sumAt F l c = 0 := by
  unfold sumAt tot
  induction l with
  | nil => rfl
  | cons a r ih =>
    rw [List.map_cons, List.sum_cons, ih (fun x hx => h x (by simp [hx]))]
    have : (F a == c) = false := by simpa using h a (by simp)
    simp [this]
/-- the keys of the sums, in order, are those of the chart that count -/
theorem keys_are {F : DatR → Int} {l : List DatR} {cs ss : List Int} (hc : Up cs) (hs : Up ss) (hm : ∀ x, x ∈ ss ↔ ∃ d ∈ l, F d = x) (hin : ∀ d ∈ l, F d ∈ cs) : caL (sumAt F l) ss = caL (sumAt F l) cs ∧ caE (sumAt F l) ss = caE (sumAt F l) cs := by
  have hz : ∀ c ∈ cs, decide (c ∈ ss) = false → sumAt F l c = 0 := fun c _ hq => sumAt_no (fun x hx e => by
    have : c ∈ ss := (hm c).2 ⟨x, hx, e⟩
    simp [this] at hq)
  have he : ss = cs.filter (fun c => decide (c ∈ ss)) := up_ext hs (up_filter _ hc) (fun x => by
    rw [List.mem_filter]
    constructor
    · intro hx
      obtain ⟨d, hd, rfl⟩ := (hm x).1 hx
      exact ⟨hin d hd, by simpa using hx⟩
    · intro hx
      simpa using hx.2)
  have h1 := caL_filter hz
  have h2 := caE_filter hz
  rw [← he] at h1 h2
  exact ⟨h1, h2⟩
theorem caL_take {f : Int → Int} {cs : List Int} {k : Nat} (hk : k < cs.length) : caL f (cs.take (k + 1)) = if f cs[k] = 0 then caL f (cs.take k) else caL f (cs.take k) ++ [⟨cs[k], f cs[k]⟩] := by
  unfold caL
  rw [List.take_succ_eq_append_getElem hk, List.filterMap_append]
  by_cases h : f cs[k] = 0
  · simp [row, h]
  · simp [row, h]
theorem caL_len {f : Int → Int} {cs : List Int} : (caL f cs).length ≤ cs.length := List.length_filterMap_le _ _
theorem caE_no {f : Int → Int} {cs : List Int} {k : Nat} (hk : k < cs.length) (h : amV (f cs[k]) = false) : caE f cs = 2 := by
  unfold caE
  rw [if_neg]
  intro H
  have := List.all_eq_true.1 H _ (List.getElem_mem hk)
  rw [h] at this
  cases this
theorem caE_yes {f : Int → Int} {cs : List Int} (h : ∀ j (hj : j < cs.length), amV (f cs[j]) = true) : caE f cs = 0 := by
  unfold caE
  rw [if_pos]
  rw [List.all_eq_true]
  intro x hx
  obtain ⟨j, hj, rfl⟩ := List.mem_iff_getElem.1 hx
  exact h j hj
theorem sumAt_take {F : DatR → Int} {l : List DatR} {k : Nat} (h : k < l.length) (c : Int) : sumAt F (l.take (k + 1)) c = sumAt F (l.take k) c + if F l[k] = c then l[k].amount else 0 := by
  unfold sumAt
  rw [tot_take _ l k h]
  by_cases e : F l[k] = c
  · simp [e]
  · simp [e]
theorem codes_up {cl : List Acc} (h : Ch.validV cl true = true) : Up (cl.map Acc.code) := by
  unfold Ch.validV at h
  simp only [Bool.and_eq_true, List.all_eq_true, List.mem_range] at h
  have hs : ∀ j (hj : j + 1 < cl.length), cl[j].code < cl[j + 1].code := fun j hj => by
    have := h.1 (j + 1) hj
    unfold Ch.okAt at this
    simp only [Bool.and_eq_true, Bool.or_eq_true, decide_eq_true_eq] at this
    have h2 := this.1
    have hjl : j < cl.length := by omega
    simp only [Nat.add_sub_cancel, Ch.getD_at _ _ hj, Ch.getD_at _ j hjl] at h2
    rcases h2 with h2 | h2
    · simp at h2
    · exact h2
  have hp : ∀ (d j : Nat) (hj : j + d + 1 < cl.length), cl[j].code < cl[j + d + 1].code := by
    intro d
    induction d with
    | zero => intro j hj; exact hs j hj
    | succ d ih =>
      intro j hj
      have h1 := ih j (by omega)
      have h2 := hs (j + d + 1) (by omega)
      exact Int.lt_trans h1 h2
  unfold Up
  rw [List.pairwise_iff_getElem]
  intro i j hi hj hij
  rw [List.getElem_map, List.getElem_map]
  obtain ⟨d, rfl⟩ : ∃ d, j = i + d + 1 := ⟨j - i - 1, by omega⟩
  exact hp d i (by simpa using hj)
theorem fnB_mem {cl : List Acc} {c : Int} (h : Ch.fnB cl c = true) : c ∈ cl.map Acc.code := by
  unfold Ch.fnB at h
  obtain ⟨a, ha⟩ := Option.isSome_iff_exists.1 h
  exact Ch.find_mem cl c a ha
theorem sh_mem {cur : ByteArray} {cl : List Acc} {ro : RolesR} {el : List EntR} {cal : Bool} (h : Gr.gv cur cl ro el cal = true) {c d b : Int} (hc : Ch.fnB cl c = true) : sh cl ro c d b ∈ cl.map Acc.code := by
  unfold sh
  split
  · have h0 : Gr.rolesOk cl (Gr.roles ro) = true := by
      unfold Gr.gv Gr.accsV at h
      simp only [Bool.and_eq_true] at h
      exact h.2.2.1.2.2
    have := allAt_at h0 (show 6 < (Gr.roles ro).length by rw [Gr.roles_len]; omega)
    unfold Gr.roleOk at this
    simp only [Bool.and_eq_true] at this
    exact fnB_mem this.1
  · exact fnB_mem hc
theorem gv_up {cur : ByteArray} {cl : List Acc} {ro : RolesR} {el : List EntR} {cal : Bool} (h : Gr.gv cur cl ro el cal = true) : Up (cl.map Acc.code) := by
  unfold Gr.gv Gr.accsV at h
  simp only [Bool.and_eq_true] at h
  exact codes_up h.2.2.1.1
theorem vE_all {V : Bool} {Y M P q : Int} {cl : List Acc} {l : List DatR} (h : vE V Y M P q cl l = 0) : V = true ∧ (∀ x ∈ l, Ch.fnB cl x.account = true) := by
  unfold vE at h
  split at h
  · rename_i h0
    split at h
    · rename_i h1
      refine ⟨?_, fun x hx => List.all_eq_true.1 h1 x hx⟩
      unfold ckE at h0
      cases V
      · simp at h0
      · rfl
    · cases h
  · rename_i h1
    exact absurd h h1
/-- what is shown: the account of a dated amount -/
def at_ (cl : List Acc) (ro : RolesR) (b : Int) (x : DatR) : Int := sh cl ro x.account x.date b
def sumF (V : Bool) (Y M P q : Int) (cl : List Acc) (ro : RolesR) (l : List DatR) : Int → Int := sumAt (at_ cl ro (bg V Y M P q)) l
def cE (V : Bool) (Y M P q : Int) (cl : List Acc) (ro : RolesR) (l : List DatR) : Int := if vE V Y M P q cl l = 0 then caE (sumF V Y M P q cl ro l) (cl.map Acc.code) else vE V Y M P q cl l
def cL (V : Bool) (Y M P q : Int) (cl : List Acc) (ro : RolesR) (l : List DatR) : List Bal := if cE V Y M P q cl ro l = 0 then caL (sumF V Y M P q cl ro l) (cl.map Acc.code) else []
theorem keys_cl {cur : ByteArray} {y m p q : Int} {cl : List Acc} {ro : RolesR} {el : List EntR} {l : List DatR} {ss : List Int} (h0 : vE (Gr.gv cur cl ro el (Cal.ok y m p)) y m p q cl l = 0) (hs : Up ss)
    (hm : ∀ x, x ∈ ss ↔ x ∈ l.map (at_ cl ro (bg (Gr.gv cur cl ro el (Cal.ok y m p)) y m p q))) :
    caL (sumF (Gr.gv cur cl ro el (Cal.ok y m p)) y m p q cl ro l) ss = caL (sumF (Gr.gv cur cl ro el (Cal.ok y m p)) y m p q cl ro l) (cl.map Acc.code) ∧ caE (sumF (Gr.gv cur cl ro el (Cal.ok y m p)) y m p q cl ro l) ss = caE (sumF (Gr.gv cur cl ro el (Cal.ok y m p)) y m p q cl ro l) (cl.map Acc.code) := by
  obtain ⟨hV, ha⟩ := vE_all h0
  exact keys_are (gv_up hV) hs (fun x => (hm x).trans List.mem_map) (fun d hd => sh_mem hV (ha d hd))
end Cr
end Go.Proofs.Ythfbpbbepogllaa
/- The sums that are shown add up to the amounts. No walk. -/
namespace Go.Proofs.Ythfbpbbepogllaa
set_option linter.unusedVariables false
set_option linter.unusedSimpArgs false
open Go.RowKit

namespace Cr
theorem sm_caL (f : Int → Int) (p : Int → Bool) : ∀ cs : List Int, sm (caL f cs) (fun x => if p x.account = true then x.amount else 0) = sm cs (fun c => if p c = true then f c else 0)
  | [] => rfl
  | c :: cs => by
    have ih := sm_caL f p cs
    unfold caL at *
    rw [List.filterMap_cons, sm_cons]
    by_cases h : f c = 0
    · simp only [row, if_pos h]
      rw [ih, h]
      split <;> omega
    · simp only [row, if_neg h]
      rw [sm_cons, ih]
theorem sumAt_cons (F : DatR → Int) (x : DatR) (l : List DatR) (c : Int) : sumAt F (x :: l) c = (if F x = c then x.amount else 0) + sumAt F l c := by
  unfold sumAt tot
  rw [List.map_cons, List.sum_cons]
  congr 1
  by_cases h : F x = c
  · simp [h]
  · simp [h]
theorem keeps_all (F : DatR → Int) (p : Int → Bool) {cs : List Int} (hd : cs.Nodup) : ∀ l : List DatR, (∀ x ∈ l, F x ∈ cs) → sm cs (fun c => if p c = true then sumAt F l c else 0) = tot (fun x => p (F x)) l
  | [], _ => by
    rw [sm_zero (fun c _ => by unfold sumAt tot; simp)]
    rfl
  | x :: l, h => by
    have ih := keeps_all F p hd l (fun y hy => h y (List.mem_cons_of_mem _ hy))
    have h1 : sm cs (fun c => if p c = true then sumAt F (x :: l) c else 0) = sm cs (fun c => (if F x = c then (if p (F x) = true then x.amount else 0) else 0) + (if p c = true then sumAt F l c else 0)) := sm_congr (fun c _ => by
      rw [sumAt_cons]
      by_cases e : F x = c
      · subst e
        simp only [if_true]
        split <;> omega
      · rw [if_neg e, if_neg e]
        split <;> omega)
    rw [h1, sm_add, sm_single hd (h x (List.mem_cons_self ..)), ih]
    unfold tot
    rw [List.map_cons, List.sum_cons]
theorem keeps {F : DatR → Int} {cs : List Int} {l : List DatR} (p : Int → Bool) (hu : Up cs) (h : ∀ x ∈ l, F x ∈ cs) : sm (caL (sumAt F l) cs) (fun x => if p x.account = true then x.amount else 0) = tot (fun x => p (F x)) l := by
  rw [sm_caL, keeps_all F p (List.Pairwise.imp (fun {a b} hab => by omega) hu) l h]
theorem caL_am {f : Int → Int} {cs : List Int} (h : caE f cs = 0) : ∀ x ∈ caL f cs, -1000000000000 ≤ x.amount ∧ x.amount ≤ 1000000000000 := by
  intro x hx
  unfold caL at hx
  obtain ⟨c, hc, hr⟩ := List.mem_filterMap.1 hx
  unfold row at hr
  split at hr
  · cases hr
  · injection hr with hr
    subst hr
    unfold caE at h
    split at h
    · rename_i ha
      exact amV_is (List.all_eq_true.1 ha c hc)
    · cases h
/-- what the law asks -/
theorem keep_law {cur : ByteArray} {y m p q : Int} {cl : List Acc} {ro : RolesR} {el : List EntR} {l : List DatR} (hE : cE (Gr.gv cur cl ro el (Cal.ok y m p)) y m p q cl ro l = 0) :
    vE (Gr.gv cur cl ro el (Cal.ok y m p)) y m p q cl l = 0 ∧ (∀ w : Int → Bool, sm (cL (Gr.gv cur cl ro el (Cal.ok y m p)) y m p q cl ro l) (fun x => if w x.account = true then x.amount else 0) = tot (fun x => w (at_ cl ro (bg (Gr.gv cur cl ro el (Cal.ok y m p)) y m p q) x)) l) ∧
      (∀ x ∈ cL (Gr.gv cur cl ro el (Cal.ok y m p)) y m p q cl ro l, -1000000000000 ≤ x.amount ∧ x.amount ≤ 1000000000000) := by
  unfold cL
  rw [if_pos hE]
  unfold cE at hE
  split at hE
  · rename_i h0
    obtain ⟨hV, ha⟩ := vE_all h0
    exact ⟨h0, fun w => keeps w (gv_up hV) (fun x hx => sh_mem hV (ha x hx)), caL_am hE⟩
  · rename_i h0
    exact absurd hE h0
theorem cL_len {V : Bool} {Y M P q : Int} {cl : List Acc} {ro : RolesR} {l : List DatR} : (cL V Y M P q cl ro l).length ≤ cl.length := by
  unfold cL
  split
  · have := caL_len (f := sumF V Y M P q cl ro l) (cs := cl.map Acc.code)
    rwa [List.length_map] at this
  · exact Nat.zero_le _
end Cr
end Go.Proofs.Ythfbpbbepogllaa
/-
  DERIVED: THE SHELF's CONTRACTS AT THIS DUMP, IN PLAIN WORDS (tools/lay-plain.mjs out of 'TryShelf.lean', which tools/lay-shelf.mjs wrote): THE SAME DECLARATIONS UNDER THE SAME NAMES: 'import', 'namespace', 'open', 'def', 'theorem' AND NOTHING ELSE: no command of the shelf's: FOR A HAND-IN. Each laying: the table of numbers ('.._ren') and one theorem, a field a fact of the dump's own or the kernel's comparison; each contract: ONE APPLICATION.
-/
namespace Go.Proofs
open Go.Shelf
def Try.keysI_ren : Go.Shelf.Ren := ⟨fun | 7 => 25 | 10 => 44 | n => n, fun | 23 => 89 | 26 => 3 | 3 => 3 | 28 => 94 | 0 => 0 | 27 => 93 | 33 => 84 | 4 => 4 | n => n, fun | n => n⟩
theorem Try.keysI : Go.Proofs.SlLaysZI.n7 Try.prog Try.keysI_ren := {
  mixed := by kernel_rfl
  f7 := ⟨Try.f25.name, by decide, Try.func25.trans (congrArg some (by kernel_rfl))⟩
  f10 := ⟨Try.f44.name, by decide, Try.func44.trans (congrArg some (by kernel_rfl))⟩
  t0 := Try.underlying0
  a0 := Try.isAgg0
  z0 := Try.sizeOf0
  v0 := Try.zeroValue0
  t4 := Try.underlying4
  a4 := Try.isAgg4
  z4 := Try.sizeOf4
  v4 := Try.zeroValue4
  t23 := Try.underlying89
  a23 := Try.isAgg89
  z23 := Try.sizeOf89
  v23 := Try.zeroValue89
  t26 := Try.underlying3
  a26 := Try.isAgg3
  z26 := Try.sizeOf3
  v26 := Try.zeroValue3
  t27 := Try.underlying93
  a27 := Try.isAgg93
  z27 := Try.sizeOf93
  v27 := Try.zeroValue93
  t28 := Try.underlying94
  a28 := Try.isAgg94
  z28 := Try.sizeOf94
  v28 := Try.zeroValue94
  t33 := Try.underlying84
  a33 := Try.isAgg84
  z33 := Try.sizeOf84
  v33 := Try.zeroValue84 }
def Try.sortedI_ren : Go.Shelf.Ren := ⟨fun | 6 => 24 | 8 => 42 | 9 => 43 | 11 => 60 | 13 => 62 | 12 => 61 | 23 => 81 | 24 => 82 | 14 => 72 | 15 => 73 | 16 => 74 | 17 => 75 | 18 => 76 | 19 => 77 | 20 => 78 | 21 => 79 | 22 => 80 | 25 => 102 | 26 => 103 | 27 => 104 | 28 => 105 | 29 => 106 | 30 => 107 | 31 => 114 | n => n, fun | 26 => 3 | 28 => 94 | 24 => 79 | 0 => 0 | 3 => 3 | 37 => 133 | 48 => 155 | 50 => 157 | 4 => 4 | 40 => 148 | 39 => 147 | 45 => 152 | 5 => 5 | 9 => 9 | 51 => 170 | 55 => 174 | 57 => 182 | 58 => 183 | 33 => 84 | n => n, fun | n => n⟩
theorem Try.sortedI : Go.Proofs.SlLaysZI.n6 Try.prog Try.sortedI_ren := {
  mixed := by kernel_rfl
  f6 := ⟨Try.f24.name, by decide, Try.func24.trans (congrArg some (by kernel_rfl))⟩
  f8 := ⟨Try.f42.name, by decide, Try.func42.trans (congrArg some (by kernel_rfl))⟩
  f11 := ⟨Try.f60.name, by decide, Try.func60.trans (congrArg some (by kernel_rfl))⟩
  t0 := Try.underlying0
  a0 := Try.isAgg0
  z0 := Try.sizeOf0
  v0 := Try.zeroValue0
  t24 := Try.underlying79
  a24 := Try.isAgg79
  z24 := Try.sizeOf79
  v24 := Try.zeroValue79
  t26 := Try.underlying3
  a26 := Try.isAgg3
  z26 := Try.sizeOf3
  v26 := Try.zeroValue3
  t28 := Try.underlying94
  a28 := Try.isAgg94
  z28 := Try.sizeOf94
  v28 := Try.zeroValue94
  i26 := by kernel_rfl }
end Go.Proofs
/- Sums by number in a map of the call's own, with the numbers that stand in it. Over any program. -/
namespace Go.Proofs.Ythfbpbbepogllaa
set_option linter.unusedVariables false
set_option linter.unusedSimpArgs false
open Go.RowKit Go.WideElems
open Go.Maps (Keyed)

/-- Block b is a map of at most n entries that says f; its numbers are those of S. -/
def SumK (P : Program) (k e : TypeId) (w : World) (b n : Nat) (S : List Int) (f : Int → Int) : Prop :=
  ∃ D : DataW Unit, w.ownsMap P k (plainElem P e) b n D ∧ Maps.IsMap D ∧ (∀ c, D.atKey (.int .i64 c) (.lit (.int .i64 0)) = .lit (.int .i64 (f c))) ∧ ∀ c, Maps.has D (.int .i64 c) = decide (c ∈ S)
section
variable {P : Program} {k e t : TypeId} {w w' : World} {b n : Nat} {S : List Int} {f g : Int → Int}
theorem SumK.made (w : World) : SumK P k e (w.alloc (.map #[] 0)) w.heap.size 0 [] (fun _ => 0) := ⟨.map [], World.ownsMap_made _ _ _ _, Maps.isMap_empty, fun _ => by simp [DataW.atKey], fun _ => by simp [Maps.has_eq]⟩
theorem SumK.sum (h : SumK P k e w b n S f) : SumW P k e w b n f := by obtain ⟨D, h1, h2, h3, _⟩ := h; exact ⟨D, h1, h2, h3⟩
theorem SumK.lt (h : SumK P k e w b n S f) : b < w.heap.size := h.sum.lt
theorem SumK.kept {row : Option Nat} (h : SumK P k e w b n S f) (hg : w.grownBy w' row) (hne : some b ≠ row) : SumK P k e w' b n S f := by obtain ⟨D, h, r⟩ := h; exact ⟨D, h.kept hg hne, r⟩
theorem SumK.step (h : SumK P k e w b n S f) (hb : Below w.heap.size w w') : SumK P k e w' b n S f := h.kept (grown_below hb none) (by simp)
theorem SumK.same (h : SumK P k e w b n S f) (hb : w'.heap[b]? = w.heap[b]?) : SumK P k e w' b n S f := by
  obtain ⟨D, ⟨es, cl, h1, h2⟩, r⟩ := h
  exact ⟨D, ⟨es, cl, hb.trans h1, h2⟩, r⟩
/-- 'm[c] = y' -/
theorem SumK.put (h : SumK P k e w b n S f) (hk : P.underlying k = some (.int .i64)) (he : P.underlying e = some (.int .i64)) (ht : P.underlying t = some (.map k e)) (hn : n < maxLen) {c y : Int} (hc : (Lit.int .i64 c).wf = true) (hy : (Lit.int .i64 y).wf = true)
    (hg : g c = y) (hgo : ∀ d, d ≠ c → g d = f d) : ∃ w2, (Instr.mapUpdate t (.map (some b)) (.int .i64 c) (.int .i64 y)).run P w = .ok () w2 ∧ SumK P k e w2 b (n + 1) (S ++ [c]) g ∧ w.grownBy w2 (some b) := by
  obtain ⟨D, h1, hM, hD, hh⟩ := h
  obtain ⟨w2, r1, r2, r3⟩ := h1.update (Maps.int_keyed hk) ht hn (Maps.keyOf_int_mk hk hc) (plainElem_int he hy)
  refine ⟨w2, r1, ⟨_, r2, hM.put _ _, fun d => ?_, fun d => ?_⟩, r3⟩
  · by_cases hd : d = c
    · subst hd
      rw [Maps.atKey_put_same hM (show WideAt.IsKeyLit (.int .i64 d) from trivial), hg]
    · rw [Maps.atKey_put_other (int_ne hd), hD d, hgo d hd]
  · by_cases hd : d = c
    · subst hd
      rw [Maps.has_put_same hM (show WideAt.IsKeyLit (.int .i64 d) from trivial)]
      simp
    · rw [Maps.has_put_other (int_ne hd), hh d]
      simp [hd]
theorem SumK.keys {D : DataW Unit} (h : w.ownsMap P k (plainElem P e) b n D) (hk : P.underlying k = some (.int .i64)) (hh : ∀ x : Int, Maps.has D (.int .i64 x) = decide (x ∈ S)) {ss : List Int} (hp : ss.Perm (intKeys D)) : ss.Nodup ∧ ∀ x, x ∈ ss ↔ x ∈ S := by
  obtain ⟨es, hD, hpw, _⟩ := h.entries (Maps.int_keyed hk)
  obtain ⟨es', hD', hko⟩ := h.keysOf
  obtain rfl : es = es' := by rw [hD] at hD'; simpa using hD'
  subst hD
  have hs : ∀ p ∈ es, ∃ x, p.1 = .int .i64 x := fun p hp => by obtain ⟨v, hv⟩ := hko p hp; obtain ⟨x, _, hx, _⟩ := Maps.keyOf_i64 hk hv; exact ⟨x, hx⟩
  constructor
  · refine hp.nodup_iff.2 ?_
    show (es.map fun p => Go.intOf p.1).Nodup
    refine List.pairwise_map.2 (hpw.imp_of_mem fun {p q} hp' hq' hne e => hne ?_)
    obtain ⟨a, ha⟩ := hs p hp'
    obtain ⟨b, hb⟩ := hs q hq'
    rw [ha, hb] at e ⊢
    exact congrArg _ e
  · intro x
    rw [hp.mem_iff]
    have h1 := hh x
    rw [Maps.has_eq] at h1
    have h2 : (es.any fun p => p.1.sameKey (.int .i64 x)) = true ↔ x ∈ S := by rw [h1]; simp
    rw [← h2, List.any_eq_true]
    show x ∈ es.map (fun p => Go.intOf p.1) ↔ _
    rw [List.mem_map]
    constructor
    · rintro ⟨p, hp', rfl⟩
      obtain ⟨a, ha⟩ := hs p hp'
      exact ⟨p, hp', by rw [ha]; simp [Lit.sameKey, Go.intOf]⟩
    · rintro ⟨p, hp', hs'⟩
      obtain ⟨a, ha⟩ := hs p hp'
      rw [ha] at hs'
      exact ⟨p, hp', by rw [ha]; simpa [Lit.sameKey, Go.intOf] using hs'⟩
end
end Go.Proofs.Ythfbpbbepogllaa
/- slices.Sorted(maps.Keys(m)) of sums by number. -/
namespace Go.Proofs.Ythfbpbbepogllaa
set_option linter.unusedVariables false
set_option linter.unusedSimpArgs false
open Go.RowKit Go.Maps Go.Sort Go.Shelf

theorem sortsI (m : Nat) : AnyZI.SortsIn Try.prog Try.sortedI_ren Fence.wide m :=
  ⟨fun blk off cap ss W hH hblk hsz => callsIn_wide.2 (Try.slices_Sort_int blk off cap ss W hH hblk hsz), fun p cap W => callsIn_wide.2 (Try.slices_Sort_int_none p cap W)⟩
theorem ikeys_any (mb : Option Nat) (W : World) : Calls Try.prog 25 #[.map mb] W fun e w' => e = .returned (.func (.func 44) #[] #[.pointer (some ⟨W.heap.size, 0, none⟩)]) ∧ w' = W.alloc (.cells #[.map mb] 89) :=
  (callsIn_wide (n := 5)).1 (AnyZI.keys_in Try.keysI Fence.wide 5 trivial rfl mb W)
def SortedIPost (T : TypeId) (S : List Int) (w : World) (e : Ending) (w' : World) : Prop :=
  ∃ (v : Value) (ss : List Int), e = .returned v ∧ ss.Pairwise (· < ·) ∧ (∀ x, x ∈ ss ↔ x ∈ S) ∧ w'.ownsRow w.heap.size T 1 v ss.length (ss.map (Value.int .i64)) ∧ Below w.heap.size w w'
set_option maxHeartbeats 1000000 in
theorem isorted_any {e : TypeId} (b n : Nat) (S : List Int) (f : Int → Int) (w : World) (h : SumK Try.prog 3 e w b n S f) (hn : n ≤ 1000000) :
    Calls Try.prog 24 #[.func (.func 44) #[] #[.pointer (some ⟨w.heap.size, 0, none⟩)]] (w.alloc (.cells #[.map (some b)] 89)) (SortedIPost 3 S (w.alloc (.cells #[.map (some b)] 89))) := by
  obtain ⟨D0, hown, _, _, hh⟩ := h
  have hsz := hown.size_le
  have hbl := hown.lt
  have hseq : SeqGives Fence.wide 2 Try.prog 44 #[.pointer (some ⟨w.heap.size, 0, none⟩)] encZ (fun ss => ss.Perm (intKeys D0)) (Maps.size D0) (w.alloc (.cells #[.map (some b)] 89)) :=
    AnyZI.keys_gives (ρ := Try.keysI_ren) { Try.keysI with } Fence.wide _ trivial rfl (by omega) w.heap.size b n D0 _ (by simp) (by simp) (by
      obtain ⟨es, clock, hb, Ft, hs, hD⟩ := hown
      exact ⟨es, clock, (Below.heap_alloc _ _ b hbl).trans hb, Ft, hs, hD⟩)
  have hc := (callsIn_wide (n := 5)).1 (AnyZI.sorted_in Try.sortedI Fence.wide 5 trivial trivial trivial trivial rfl (by omega) (sortsI _) (enters_of Try.func43 (by kernel_rfl) rfl) 44 #[.pointer (some ⟨w.heap.size, 0, none⟩)] trivial (enters_of Try.func44 (by kernel_rfl) rfl) _ _ (by unfold maxLen; omega) (by omega) _ hseq)
  refine hc.mono ?_
  rintro e w' ⟨v, ss, rfl, hp, hrow, _, hb⟩
  obtain ⟨h1, h2⟩ := SumK.keys hown Try.underlying3 hh hp
  refine ⟨v, srt ss, rfl, srt_asc h1, fun x => (srt_mem ss x).trans (h2 x), ?_, hb⟩
  rw [srt_len]
  exact hrow
end Go.Proofs.Ythfbpbbepogllaa
/- The walk of carry.Carry. -/
namespace Go.Proofs.Ythfbpbbepogllaa
set_option linter.unusedVariables false
set_option linter.unusedSimpArgs false
open Go.RowKit

theorem bal_info : (Try.prog.info? 58).map (fun i => (i.zero, i.size, i.bytes)) = some (some (.agg #[.int .i64 0, .int .i64 0]), 2, 16) := by kernel_rfl
def CaPost (T : TypeId) (E : Int) (L : List Bal) (w : World) (e : Ending) (w' : World) : Prop :=
  ∃ v : Value, e = .returned (.tuple #[v, .int .i64 E]) ∧ w'.ownsRow w.heap.size T 2 v L.length (cellsOf Bal.cells L) ∧ Below w.heap.size w w'
section
variable (gcs : Array Value) (cur : ByteArray) (y m p : Int) (cl : List Acc) (cA : Option Addr) (cc : Nat) (ro : RolesR) (el : List EntR) (eA : Option Addr) (ec : Nat) (w : World)
set_option maxRecDepth 100000 in
set_option maxHeartbeats 16000000 in
theorem carry_any (l : List DatR) (A : Option Addr) (lc : Nat) (q : Int) (HG : Hid (gcs = #[.string cur, .int .i64 y, .int .i64 m, .int .i64 p, .slice cA cl.length cc, .int .i64 ro.investment, .int .i64 ro.goodwill, .int .i64 ro.associates, .int .i64 ro.inventory, .int .i64 ro.reserve, .int .i64 ro.minority, .int .i64 ro.retained, .int .i64 ro.acquired, .int .i64 ro.owners, .int .i64 ro.disposal, .int .i64 ro.associateProfit, .int .i64 ro.dividends, .int .i64 ro.minorityProfit, .int .i64 ro.difference, .int .i64 ro.margin, .slice eA el.length ec])) (h : GIn w cl cA el eA) (hF : FewOk cur cl el) (hr : Rd w w.heap.size 3 A l.length (cellsOf DatR.cells l)) (hl : l.length ≤ 1000) :
    Calls Try.prog 10 #[.agg gcs, .slice A l.length lc, .int .i64 q] w (CaPost 58 (Cr.cE (Gr.gv cur cl ro el (Cal.ok y m p)) y m p q cl ro l) (Cr.cL (Gr.gv cur cl ro el (Cal.ok y m p)) y m p q cl ro l) w) := by
  have hn : cl.length ≤ 300000 := by have := hF.ch; omega
  have H := Lib.hid h
  have HR := Lib.hid hr
  have HWF := Lib.hid h.wf
  have hgi : (Try.prog.info? 29).map (·.size) = some gcs.size := by rw [HG.out]; exact grp_size
  have hb : Below w.heap.size w (w.alloc (.cells gcs 29)) := (Below.refl _ _).alloc (Nat.le_refl _) _
  have HB := Lib.hid (Blk.new w 29 gcs)
  have K1 := Lib.hid (fun W h h2 => amounts_any gcs cur y m p cl cA cc ro el eA ec W l A lc q HG h hF h2 hl)
  clear h hF hr
  have HKC := Lib.hid (fun h0 ss => Cr.keys_cl (cur := cur) (y := y) (m := m) (p := p) (q := q) (cl := cl) (ro := ro) (el := el) (l := l) (ss := ss) h0)
  have HSM := Lib.hid (fun (h0 : Cr.vE (Gr.gv cur cl ro el (Cal.ok y m p)) y m p q cl l = 0) (x : DatR) (hx : x ∈ l) (b : Int) => Cr.sh_mem (Cr.vE_all h0).1 (c := x.account) (d := x.date) (b := b) ((Cr.vE_all h0).2 x hx))
  generalize Gr.gv cur cl ro el (Cal.ok y m p) = V at *
  have HNA := Lib.hid (Cr.vE_zero (V := V) (Y := y) (M := m) (P := p) (q := q) (cl := cl) (l := l))
  have HE : Hid (Cr.cE V y m p q cl ro l = if Cr.vE V y m p q cl l = 0 then Cr.caE (Cr.sumF V y m p q cl ro l) (cl.map Acc.code) else Cr.vE V y m p q cl l) := Lib.hid rfl
  have HL : Hid (Cr.cL V y m p q cl ro l = if Cr.cE V y m p q cl ro l = 0 then Cr.caL (Cr.sumF V y m p q cl ro l) (cl.map Acc.code) else []) := Lib.hid rfl
  have HVB : Hid (Cr.vB V y m p q cl l = if Cr.vE V y m p q cl l = 0 then Cr.bg V y m p q else 0) := Lib.hid rfl
  have HSF : Hid (Cr.sumF V y m p q cl ro l = Cr.sumAt (Cr.at_ cl ro (Cr.bg V y m p q)) l) := Lib.hid rfl
  generalize Cr.cE V y m p q cl ro l = E at *
  generalize Cr.cL V y m p q cl ro l = L at *
  generalize Cr.vB V y m p q cl l = vb at *
  generalize Cr.vE V y m p q cl l = ve at *
  generalize Cr.bg V y m p q = bg at *
  generalize Cr.sumF V y m p q cl ro l = fS at *
  cases hx : (ve != 0)
  · have hve : ve = 0 := by simpa using hx
    have HKC2 := Lib.hid (HKC.out hve)
    have HSM2 := Lib.hid (HSM.out hve)
    have HNA2 := Lib.hid (HNA.out hve)
    rw [hve, if_pos rfl] at HE HVB
    clear hve HKC HSM HNA
    have hvb : vb = bg := HVB.out
    subst hvb
    have hmm := @run_makeMap Try.prog
    go_enter Try.func10, Try.ntmps10
    go_wp2_with (first
      | (refine wpList_load_blk 29 (.tmp 3) rfl (w.heap.size) rfl (by kernel_rfl) (HB).out Try.underlying29 hgi ?_)
      | (go_at_call 22; refine (K1.out _ (H.out.step hb) (Rd.now HR.out hb)).mono ?_; rintro e w2 ⟨rfl, hb9⟩; replace hb := bel hb hb9; have HB2 := Lib.hid (HB.out.step hb9); clear hb9))
    have HK0 := Lib.hid (SumK.made (P := Try.prog) (k := 3) (e := 3) w2)
    have hb0 := (Below.refl w2.heap.size w2).alloc (Nat.le_refl _) (.map #[] 0)
    clear hmm
    generalize w2.alloc (.map #[] 0) = W0 at *
    go_loopw [29] (fun t wr => ∃ k : Nat, k ≤ l.length ∧ t = .int .i64 k ∧ SumK Try.prog 3 3 wr w2.heap.size k ((l.take k).map (Cr.at_ cl ro vb)) (Cr.sumAt (Cr.at_ cl ro vb) (l.take k)) ∧ Below w2.heap.size w2 wr) (fun t _ => l.length - (intOf t).toNat)
    case atStart => exact ⟨0, by omega, rfl, HK0.out, hb0⟩
    case round =>
      clear HK0 hb0
      obtain ⟨k, hk, rfl, hK, hbr⟩ := hrel
      have HK := Lib.hid hK
      have hgl := hK.lt
      clear hK
      have hbw := bel hb hbr
      by_cases hlt : k < l.length
      · obtain ⟨b0, o, hA, hbo, f0, f1, f2⟩ := DatR.at_ (Rd.now HR.out hbw) hlt
        subst hA
        have hmem := List.getElem_mem hlt
        have ham : -1000000000000 ≤ l[k].amount ∧ l[k].amount ≤ 1000000000000 := by
          have h2 := List.any_eq_false.1 HNA2.out l[k] hmem
          unfold Cr.notAm at h2
          exact amV_is (by simpa using h2)
        obtain ⟨ham0, ham1⟩ := ham
        have HPM := Lib.hid (HSM2.out _ hmem vb)
        have HTT := Lib.hid (Cr.sumAt_take (F := Cr.at_ cl ro vb) hlt)
        have HTM : Hid ((l.take (k + 1)).map (Cr.at_ cl ro vb) = (l.take k).map (Cr.at_ cl ro vb) ++ [Cr.at_ cl ro vb l[k]]) := Lib.hid (by rw [List.take_succ_eq_append_getElem hlt, List.map_append]; rfl)
        have HBD := Lib.hid (fun c => Cr.tot_bd (fun x => Cr.at_ cl ro vb x == c) l HNA2.out k hk)
        have HAT : Hid (Cr.at_ cl ro vb l[k] = Cr.sh cl ro l[k].account l[k].date vb) := Lib.hid rfl
        clear hmem
        generalize l[k] = x at *
        obtain ⟨xa, xd, xm⟩ := x
        dsimp only at *
        rw [HAT.out] at HTM HTT
        have hst := (Below.refl wr.heap.size wr).alloc (Nat.le_refl _) (.cells #[.int .i64 xa, .int .i64 xd, .int .i64 xm] 90)
        have HBr := Lib.hid ((HB2.out.step hbr).step hst)
        have HX := Lib.hid (Blk.new wr 90 #[.int .i64 xa, .int .i64 xd, .int .i64 xm])
        have HK1 := Lib.hid (HK.out.step hst)
        have hbr1 := hbr.trans (hst.mono hbr.size)
        have hbw1 := bel hb hbr1
        have K2 := Lib.hid (fun W h => shown_any gcs cur y m p cl cA cc ro el _ ec W xa xd vb HG h hn)
        unfold IntP at K2
        generalize Cr.sh cl ro xa xd vb = pl at *
        have hwp : (Lit.int .i64 pl).wf = true := by
          obtain ⟨a, ha, he⟩ := List.mem_map.1 HPM.out
          rw [← he]
          exact HWF.out a ha
        clear hst HK
        go_wp2_with fail
        clear f0 f1 f2
        generalize hgx : wr.heap.size = gx at *
        have HGX := Lib.hid hgx
        clear hgx
        generalize wr.alloc (.cells #[.int .i64 xa, .int .i64 xd, .int .i64 xm] 90) = W1 at *
        have q0 : ∀ d : LaterB W1.heap.size W1, d.now.cell? ⟨gx, 0, none⟩ = some (.int .i64 xa) := fun d => d.cell HX.out.lt (HX.out.cell 0)
        have q1 : ∀ d : LaterB W1.heap.size W1, d.now.cell? ⟨gx, 1, none⟩ = some (.int .i64 xd) := fun d => d.cell HX.out.lt (HX.out.cell 1)
        have q2 : ∀ d : LaterB W1.heap.size W1, d.now.cell? ⟨gx, 2, none⟩ = some (.int .i64 xm) := fun d => d.cell HX.out.lt (HX.out.cell 2)
        refine relT_begin (n := 13) W1.heap.size 12 W1 (by kernel_rfl) rfl ?_
        have hC : NearB W1.heap.size W1 W1.drew := NearB.of (Below.refl _ _).drew
        refine relT_want (i := 0) rfl rfl (by kernel_rfl) (by kernel_rfl) (by kernel_rfl) rfl rfl (by kernel_rfl) (by kernel_rfl) (fun _ _ _ _ h => h) hC ?_
        intro K hK
        go_big_quiet_op
        go_big_quiet_on
        refine relT_want (i := 1) rfl rfl (by kernel_rfl) (by kernel_rfl) (by kernel_rfl) rfl rfl (by kernel_rfl) (by kernel_rfl) (fun _ _ _ _ h => h) hC ?_
        intro K hK
        refine ⟨.agg gcs, fun w' hw' => ?_, ?_⟩
        · obtain ⟨dd, rfl⟩ := hw'
          unfold Oper.quietAt
          rw [run_load_blk (T := 29) (.tmp 3) rfl rfl (HBr.out.step dd.below) Try.underlying29 hgi]
          exact ⟨rfl, rfl⟩
        refine hK _ ?_
        clear hK K
        (try simp only [Act.put, List.setIfInBounds_toArray, List.set_cons_zero, List.set_cons_succ])
        refine relT_want (i := 2) rfl rfl (by kernel_rfl) (by kernel_rfl) (by kernel_rfl) rfl rfl (by kernel_rfl) (by kernel_rfl) (fun _ _ _ _ h => h) hC ?_
        intro K hK
        go_big_quiet_op
        go_big_quiet_on
        refine relT_want (i := 3) rfl rfl (by kernel_rfl) (by kernel_rfl) (by kernel_rfl) rfl rfl (by kernel_rfl) (by kernel_rfl) (fun _ _ _ _ h => h) hC ?_
        intro K hK
        go_big_quiet_op
        go_big_quiet_on
        refine relT_want (i := 4) rfl rfl (by kernel_rfl) (by kernel_rfl) (by kernel_rfl) rfl rfl (by kernel_rfl) (by kernel_rfl) (fun _ _ _ _ h => h) hC ?_
        intro K hK
        go_big_quiet_op
        go_big_quiet_on
        refine relT_want (i := 5) rfl rfl (by kernel_rfl) (by kernel_rfl) (by kernel_rfl) rfl rfl (by kernel_rfl) (by kernel_rfl) (fun _ _ _ _ h => h) hC ?_
        intro K hK
        go_big_quiet_op
        go_big_quiet_on
        refine relT_want (i := 6) rfl rfl (by kernel_rfl) (by kernel_rfl) (by kernel_rfl) rfl rfl (by kernel_rfl) (by kernel_rfl) (fun _ _ _ _ h => h) hC ?_
        intro K hK
        go_big_quiet_op
        go_big_quiet_on
        refine relT_want (i := 9) rfl rfl (by kernel_rfl) (by kernel_rfl) (by kernel_rfl) rfl rfl (by kernel_rfl) (by kernel_rfl) (fun _ _ _ _ h => h) hC ?_
        intro K hK
        go_big_quiet_op
        go_big_quiet_on
        refine relT_want (i := 10) rfl rfl (by kernel_rfl) (by kernel_rfl) (by kernel_rfl) rfl rfl (by kernel_rfl) (by kernel_rfl) (fun _ _ _ _ h => h) hC ?_
        intro K hK
        go_big_quiet_op
        go_big_quiet_on
        clear q0 q1 q2
        refine relT_call (i := 7) (by kernel_rfl) rfl rfl ?_
        intro K hK
        go_simp
        go_at_call 23
        refine (K2.out _ (H.out.step (bel hbw1 hC.below))).mono ?_
        rintro e w5 ⟨rfl, hb2⟩
        (try go_wp2_with fail)
        have hC2 := bel hC.below hb2
        refine hK _ _ (.inr (.inr (NearB.of hC2))) ?_
        clear hK K hC
        (try simp only [Act.put, List.setIfInBounds_toArray, List.set_cons_zero, List.set_cons_succ])
        have HK5 := Lib.hid (HK1.out.step hC2)
        have hlk := HK5.out.sum.look Try.underlying3 Try.underlying3 Try.underlying89 (zero_int _) hwp
        have HBD2 := Lib.hid (HBD.out pl)
        have HTP := Lib.hid (HTT.out pl)
        have HBD3 : Hid (-(1000000000000 * k) ≤ Cr.sumAt (Cr.at_ cl ro vb) (l.take k) pl ∧ Cr.sumAt (Cr.at_ cl ro vb) (l.take k) pl ≤ 1000000000000 * k) := HBD2
        obtain ⟨s0, s1⟩ := HBD3.out
        have hws : IntKind.i64.wrap (Cr.sumAt (Cr.at_ cl ro vb) (l.take k) pl + xm) = Cr.sumAt (Cr.at_ cl ro vb) (l.take k) pl + xm := IntWalk.i64_in _ (by omega)
        obtain ⟨w6, r1, r2, r3⟩ := SumK.put (t := 89) HK5.out Try.underlying3 Try.underlying3 Try.underlying89 (by unfold maxLen; omega) hwp (y := Cr.sumAt (Cr.at_ cl ro vb) (l.take k) pl + xm) (wf64 (by omega) (by omega)) (g := Cr.sumAt (Cr.at_ cl ro vb) (l.take (k + 1))) (by rw [HTP.out, if_pos rfl]) (fun d hd => by rw [HTT.out d, if_neg (fun e => hd e.symm)]; omega)
        have hb6 := below_grown (hbr1.trans (hC2.mono hbr1.size)) (Nat.le_refl _) HK5.out.lt r3
        have R2 := Lib.hid r2
        clear HBD HBD2 HBD3 HTT HTP s0 s1 r2 r3
        generalize Cr.sumAt (Cr.at_ cl ro vb) (l.take k) pl = s at *
        have hC := NearB.of hC2
        refine relT_call (i := 8) (by kernel_rfl) rfl rfl ?_
        intro K hK
        go_simp
        refine hK _ _ (.inr (.inr hC)) ?_
        clear hK K
        (try simp only [Act.put, List.setIfInBounds_toArray, List.set_cons_zero, List.set_cons_succ])
        refine relT_call (i := 11) (by kernel_rfl) rfl rfl ?_
        intro K hK
        go_simp
        refine hK _ _ (.inr (.inr hC)) ?_
        clear hK K hlk hws
        (try simp only [Act.put, List.setIfInBounds_toArray, List.set_cons_zero, List.set_cons_succ])
        refine relT_call (i := 12) (by kernel_rfl) rfl rfl ?_
        intro K hK
        go_simp
        refine hK _ _ (.inr (.inl rfl)) ?_
        clear hK K r1
        (try simp only [Act.put, List.setIfInBounds_toArray, List.set_cons_zero, List.set_cons_succ])
        refine wpAnyT_done (by kernel_rfl) ?_ _
        go_wp2_with fail
        go_roundw
        case rel => exact ⟨k + 1, by omega, by go_num, by rw [HTM.out]; exact R2.out, hb6⟩
        case measure => simp [intOf]; omega
      · have hke : l.take k = l := List.take_of_length_le (by omega)
        rw [hke] at HK
        clear hke
        rw [← HSF.out] at HK
        go_upto_region 12 with (first
          | (go_at_call 25; refine (ikeys_any _ _).mono ?_; rintro e w7 ⟨rfl, rfl⟩)
          | (go_at_call 24; refine (isorted_any w2.heap.size k _ _ wr HK.out (by omega)).mono ?_; rintro e w8 ⟨v, ss, rfl, hss, hsm, hso, hb9⟩; obtain ⟨A8, c8, hv8, hr8⟩ := Rd.of_own hso; subst hv8; have hbs := bel ((Below.refl wr.heap.size wr).alloc (Nat.le_refl _) (.cells #[.map (some w2.heap.size)] 89)) hb9; have HSS := Lib.hid hss; have HSM := Lib.hid hsm; have HI8 := Lib.hid hr8; clear hb9 hso hss hsm hr8))
        obtain ⟨kl1, kl2⟩ := HKC2.out ss HSS.out HSM.out
        have HES : Hid (E = Cr.caE fS ss) := Lib.hid (by rw [HE.out, kl2])
        have HLS : Hid (L = if E = 0 then Cr.caL fS ss else []) := Lib.hid (by rw [HL.out, kl1])
        have hnd : ss.Nodup := List.Pairwise.imp (fun {a b} hab => by omega) HSS.out
        have hsl : ss.length ≤ 1000 := by
          have h1 := Ch.nodup_len ss (l.map (Cr.at_ cl ro vb)) hnd (fun x hx => (HSM.out x).1 hx)
          rw [List.length_map] at h1
          omega
        have HWS : Hid (∀ x ∈ ss, (Lit.int .i64 x).wf = true) := Lib.hid (fun x hx => by
          obtain ⟨d, hd, rfl⟩ := List.mem_map.1 ((HSM.out x).1 hx)
          obtain ⟨a, ha, he⟩ := List.mem_map.1 (HSM2.out d hd vb)
          show (Lit.int .i64 (Cr.sh cl ro d.account d.date vb)).wf = true
          rw [← he]
          exact HWF.out a ha)
        have HK8 := Lib.hid (HK.out.step hbs)
        have hb8 := bel hbw hbs
        obtain ⟨i0, hi0, hz0, hz1, hz2⟩ := info_parts bal_info
        clear kl1 kl2 hnd HKC2 HSM2 HSM HSS HK HE HL hbs hbr hbw
        go_loopw [13, 50] (fun v t wr => ∃ k : Nat, k ≤ ss.length ∧ t = .int .i64 k ∧ wr.ownsRow w8.heap.size 58 2 v (Cr.caL fS (ss.take k)).length (cellsOf Bal.cells (Cr.caL fS (ss.take k))) ∧ (∀ j (h : j < ss.length), j < k → amV (fS ss[j]) = true) ∧ Below w8.heap.size w8 wr) (fun _ t _ => ss.length - (intOf t).toNat)
        case atStart => exact ⟨0, by omega, rfl, World.ownsRow_nil _ _ _ _, (fun j _ h => by omega), Below.refl _ _⟩
        case round =>
          obtain ⟨k, hk, rfl, ho, hno, hbr⟩ := hrel
          have HO := Lib.hid ho
          have HN := Lib.hid hno
          clear ho hno
          by_cases hlt : k < ss.length
          · obtain ⟨b0, o, hA, hbo, f0⟩ := int_at (l := ss) (Rd.now HI8.out hbr) hlt
            subst hA
            have HCT := Lib.hid (Cr.caL_take (f := fS) hlt)
            have HNO := Lib.hid (Cr.caE_no (f := fS) hlt)
            have hwc := HWS.out _ (List.getElem_mem hlt)
            have HNX : Hid (amV (fS ss[k]) = true → ∀ j (h : j < ss.length), j < k + 1 → amV (fS ss[j]) = true) := Lib.hid (fun h j h1 h2 => by
              by_cases e : j = k
              · subst e; exact h
              · exact HN.out j h1 (by omega))
            have hcl : (Cr.caL fS (ss.take k)).length ≤ 1000 := by
              have h1 := Cr.caL_len (f := fS) (cs := ss.take k)
              rw [List.length_take] at h1
              omega
            generalize ss[k] = c at *
            have hlk := (HK8.out.step hbr).sum.look Try.underlying3 Try.underlying3 Try.underlying89 (zero_int _) hwc
            generalize fS c = n at *
            cases ha : amV n
            · have HE2 : Hid (E = 2) := Lib.hid (by rw [HES.out, HNO.out ha])
              have HL2 : Hid (L = []) := Lib.hid (by rw [HLS.out, HE2.out]; rfl)
              have HA := Lib.hid ha
              clear ha
              go_wp2_with (go_at_call 26; refine (camount_any _ _).mono ?_; rintro e w2 ⟨rfl, rfl⟩; rw [HA.out])
              go_ret2
              exact ⟨_, by rw [HE2.out]; rfl, by rw [HL2.out]; exact World.ownsRow_nil _ _ _ _, bel hb8 hbr⟩
            · have HA := Lib.hid ha
              have HNX2 := Lib.hid (HNX.out ha)
              clear ha HNX HNO
              by_cases h0 : n = 0
              · have HF : Hid (Cr.caL fS (ss.take (k + 1)) = Cr.caL fS (ss.take k)) := Lib.hid (by rw [HCT.out, if_pos h0])
                have hn0 : (n != 0) = false := by simpa using h0
                clear h0
                go_wp2_with (go_at_call 26; refine (camount_any _ _).mono ?_; rintro e w2 ⟨rfl, rfl⟩; rw [HA.out])
                go_roundw
                case rel => exact ⟨k + 1, by omega, by go_num, by rw [HF.out]; exact HO.out, HNX2.out, hbr⟩
                case measure => simp [intOf]; omega
              · have HF : Hid (Cr.caL fS (ss.take (k + 1)) = Cr.caL fS (ss.take k) ++ [⟨c, n⟩]) := Lib.hid (by rw [HCT.out, if_neg h0])
                have hn0 : (n != 0) = true := by simpa using h0
                clear h0
                have hz8 := hbr.size
                go_wp2_with (first
                  | (go_at_call 26; refine (camount_any _ _).mono ?_; rintro e w2 ⟨rfl, rfl⟩; rw [HA.out])
                  | (at_builtin; refine wpList_append_rec Bal.cells 2 (fun _ => rfl) Bal.one rfl (.tmp 63) (.tmp 69) 49 rfl w8.heap.size 58 i0 (.agg #[.int .i64 0, .int .i64 0]) 16 Try.underlying49 hi0 hz0 hz1 hz2 rfl (by decide) _ (Cr.caL fS (ss.take k)) rfl (HO.out.alloc _) wr.heap.size 1 ⟨c, n⟩ #[.int .i64 c, .int .i64 n] rfl (Blk.new wr _ _) rfl (by simp only [maxLen]; omega) (by omega) (by simp; omega) ?_))
                intro v4 w4 ho4 hg4
                have hb4 := bel_own (hbr.alloc hz8 _) (by simp; omega) (HO.out.alloc _) hg4
                have HO4 := Lib.hid ho4
                clear hg4 ho4 hlk f0
                go_wp2_with fail
                go_roundw
                case rel => exact ⟨k + 1, by omega, by go_num, by rw [HF.out, List.length_append]; exact HO4.out, HNX2.out, hb4⟩
                case measure => simp [intOf]; omega
          · have hke : ss.take k = ss := List.take_of_length_le (by omega)
            rw [hke] at HO
            have HE2 : Hid (E = 0) := Lib.hid (by rw [HES.out]; exact Cr.caE_yes (fun j hj => HN.out j hj (by omega)))
            have HL2 : Hid (L = Cr.caL fS ss) := Lib.hid (by rw [HLS.out, HE2.out]; rfl)
            clear hke
            go_wp2_with fail
            go_ret2
            exact ⟨_, by rw [HE2.out]; rfl, by rw [HL2.out]; exact own_base HO.out hb8.size, bel hb8 hbr⟩
  · have hve : ve ≠ 0 := by simpa using hx
    have HE1 : Hid (E = ve) := Lib.hid (by rw [HE.out, if_neg hve])
    have HL1 : Hid (L = []) := Lib.hid (by rw [HL.out, if_neg (by rw [HE1.out]; exact hve)])
    clear hve
    go_enter Try.func10, Try.ntmps10
    go_wp2_with (first
      | (refine wpList_load_blk 29 (.tmp 3) rfl (w.heap.size) rfl (by kernel_rfl) (HB).out Try.underlying29 hgi ?_)
      | (go_at_call 22; refine (K1.out _ (H.out.step hb) (Rd.now HR.out hb)).mono ?_; rintro e w2 ⟨rfl, hb9⟩; replace hb := bel hb hb9; clear hb9))
    go_ret2
    exact ⟨_, by rw [HE1.out]; rfl, by rw [HL1.out]; exact World.ownsRow_nil _ _ _ _, hb⟩
end
end Go.Proofs.Ythfbpbbepogllaa
