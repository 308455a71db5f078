/- Texts of this claim, put together. -/
import Derived.Test.YtkfbchgabmffoaaJAE
import Derived.Test.YtkfbchgabmffoaaApiZ
import Derived.Shelf.Sort.Plain
import Derived.Shelf.Slices.In.SortNone
import Derived.Test.YtkfbchgabmffoaaProg
import Derived.Test.YtkfbchgabmffoaaJAA
/- All items and parts as pairs. No program. -/
namespace Go.Proofs.Ytkfbchgabmffoaa
set_option linter.unusedVariables false
set_option linter.unusedSimpArgs false
open Go.RowKit

theorem ofW_snoc (l : List Bal) (x : Bal) : (fun d => if d = x.account then wrap64 (ofW l x.account + x.amount) else ofW l d) = ofW (l ++ [x]) := by
  have h := ofW_put (l ++ [x]) l.length (by simp)
  have e1 : (l ++ [x])[l.length]'(by simp) = x := by simp
  have e2 : (l ++ [x]).take l.length = l := by simp
  have e3 : (l ++ [x]).take (l.length + 1) = l ++ [x] := List.take_of_length_le (by simp)
  rwa [e1, e2, e3] at h
def itBal (i : ItemR) : Bal := ⟨i.account, i.amount⟩
def itBals (I : List ItemR) : List Bal := I.map itBal
def poBals (P : List PostR) : List Bal := P.flatMap fun p => p.parts.l
def allB (I : List ItemR) (P : List PostR) : List Bal := itBals I ++ poBals P
theorem itBals_len (I : List ItemR) : (itBals I).length = I.length := by unfold itBals; rw [List.length_map]
theorem itBals_take (I : List ItemR) (k : Nat) (h : k < I.length) : itBals (I.take (k + 1)) = itBals (I.take k) ++ [itBal I[k]] := by
  unfold itBals
  rw [List.take_succ_eq_append_getElem h, List.map_append]; rfl
theorem poBals_take (P : List PostR) (k : Nat) (h : k < P.length) : poBals (P.take (k + 1)) = poBals (P.take k) ++ P[k].parts.l := by
  unfold poBals
  rw [List.take_succ_eq_append_getElem h, List.flatMap_append]; simp
theorem take_snoc' {α : Type} (l : List α) (k : Nat) (h : k < l.length) : l.take (k + 1) = l.take k ++ [l[k]] := List.take_succ_eq_append_getElem h
theorem poBals_le (P : List PostR) (k : Nat) : (poBals (P.take k)).length ≤ (poBals P).length := by
  unfold poBals
  conv => rhs; rw [← List.take_append_drop k P, List.flatMap_append, List.length_append]
  omega
theorem poBals_len (P : List PostR) (k : Nat) (h : k < P.length) : (poBals (P.take k)).length + P[k].parts.l.length ≤ (poBals P).length := by
  have := poBals_le P (k + 1)
  rw [poBals_take P k h, List.length_append] at this
  exact this
theorem po_mem {P : List PostR} {k : Nat} (h : k < P.length) {x : Bal} (hx : x ∈ P[k].parts.l) : x ∈ poBals P := by
  unfold poBals
  exact List.mem_flatMap.2 ⟨P[k], List.getElem_mem h, hx⟩
end Go.Proofs.Ytkfbchgabmffoaa
/- Sums of some of a list. No program. -/
namespace Go.Proofs.Ytkfbchgabmffoaa
set_option linter.unusedVariables false
set_option linter.unusedSimpArgs false
open Go.RowKit

def condW (p : Bal → Bool) (m : List Bal) : Int := m.foldl (fun n x => if p x = true then wrap64 (n + x.amount) else n) 0
def condV (p : Bal → Bool) (m : List Bal) : Int := sm m fun x => if p x = true then x.amount else 0
theorem condW_take (p : Bal → Bool) (m : List Bal) (k : Nat) (h : k < m.length) : condW p (m.take (k + 1)) = if p m[k] = true then wrap64 (condW p (m.take k) + m[k].amount) else condW p (m.take k) := by
  unfold condW
  rw [List.take_succ_eq_append_getElem h, List.foldl_append]
  rfl
theorem condW_eq {M : Int} (p : Bal → Bool) (m : List Bal) (h : within M m) (h0 : 0 ≤ M) (hl : M * m.length ≤ 4000000000000000000) : condW p m = condV p m := by
  have : ∀ k, k ≤ m.length → condW p (m.take k) = condV p (m.take k) := by
    intro k
    induction k with
    | zero => intro _; rfl
    | succ k ih =>
      intro hk
      have hk' : k < m.length := by omega
      rw [condW_take p m k hk', ih (by omega)]
      have e : condV p (m.take (k + 1)) = condV p (m.take k) + if p m[k] = true then m[k].amount else 0 := sm_take m k hk' _
      rw [e]
      have hb := sm_bd (m.take k) (fun x => if p x = true then x.amount else 0) M (fun x hx => by
        have := h x (List.mem_of_mem_take hx)
        show -M ≤ (if p x = true then x.amount else 0) ∧ (if p x = true then x.amount else 0) ≤ M
        split <;> omega)
      have hx := h _ (List.getElem_mem hk')
      rw [List.length_take, Nat.min_eq_left (by omega)] at hb
      have h2 : M * (k : Int) ≤ M * (m.length : Int) := Int.mul_le_mul_of_nonneg_left (by omega) h0
      have h3 : M * 1 ≤ M * (m.length : Int) := Int.mul_le_mul_of_nonneg_left (by omega) h0
      by_cases hc : p m[k] = true
      · rw [if_pos hc, if_pos hc]
        unfold condV
        rw [wrap_in (by omega) (by omega)]
      · rw [if_neg hc, if_neg hc]; omega
  have := this m.length (Nat.le_refl _)
  rwa [List.take_length] at this
/-- the accounts of a range -/
def inR (f t : Int) (x : Bal) : Bool := decide (f ≤ x.account) && decide (x.account ≤ t)
def figW (f t : Int) (m : List Bal) : Int := condW (inR f t) m
theorem figW_take (f t : Int) (m : List Bal) (k : Nat) (h : k < m.length) : figW f t (m.take (k + 1)) = if inR f t m[k] = true then wrap64 (figW f t (m.take k) + m[k].amount) else figW f t (m.take k) := condW_take _ m k h
theorem figV_split (m : List Bal) {a b c : Int} (h1 : a ≤ b) (h2 : b ≤ c) : condV (inR a c) m = condV (inR a b) m + condV (inR (b + 1) c) m := by
  unfold condV
  rw [← sm_add]
  refine sm_congr fun x _ => ?_
  unfold inR
  by_cases c1 : a ≤ x.account <;> by_cases c2 : x.account ≤ b <;> by_cases c3 : x.account ≤ c <;> by_cases c4 : b + 1 ≤ x.account <;> simp [c1, c2, c3, c4] <;> omega
theorem figV_all (m : List Bal) (h : ∀ x ∈ m, (Lit.int .i64 x.account).wf = true) : condV (inR (-9223372036854775808) 9223372036854775807) m = sumV m := by
  unfold condV sumV
  refine sm_congr fun x hx => ?_
  have := bounds_i64 (h x hx)
  unfold inR
  simp [this.1, this.2]
end Go.Proofs.Ytkfbchgabmffoaa
/-
  DERIVED: THE SHELF's CONTRACTS AT THIS DUMP, IN PLAIN WORDS (tools/lay-plain.mjs out of 'TryShelf.lean', which tools/lay-shelf.mjs wrote): THE SAME DECLARATIONS UNDER THE SAME NAMES: 'import', 'namespace', 'open', 'def', 'theorem' AND NOTHING ELSE: no command of the shelf's: FOR A HAND-IN. Each laying: the table of numbers ('.._ren') and one theorem, a field a fact of the dump's own or the kernel's comparison; each contract: ONE APPLICATION.
-/
namespace Go.Proofs
open Go.Shelf
def Try.lays189_ren : Go.Shelf.Ren := ⟨fun | 189 => 34 | 125 => 37 | 257 => 36 | 128 => 47 | 129 => 48 | 294 => 38 | 295 => 39 | 296 => 40 | 297 => 41 | 298 => 42 | 299 => 43 | 216 => 44 | 300 => 45 | 301 => 46 | 328 => 49 | 329 => 50 | 330 => 51 | 331 => 52 | 332 => 53 | 215 => 32 | 343 => 54 | n => n, fun | 28 => 75 | 3 => 3 | 46 => 80 | 0 => 0 | 51 => 91 | 53 => 93 | 4 => 4 | 183 => 83 | 182 => 82 | 131 => 88 | 5 => 5 | 9 => 9 | 218 => 94 | 222 => 98 | 228 => 100 | 229 => 101 | n => n, fun | n => n⟩
theorem Try.lays189 : Go.Proofs.Lays.n189 Try.prog Try.lays189_ren := {
  mixed := by kernel_rfl
  f125 := Try.func37.trans (congrArg some (by kernel_rfl))
  f128 := Try.func47.trans (congrArg some (by kernel_rfl))
  f129 := Try.func48.trans (congrArg some (by kernel_rfl))
  f189 := Try.func34.trans (congrArg some (by kernel_rfl))
  f215 := Try.func32.trans (congrArg some (by kernel_rfl))
  f216 := Try.func44.trans (congrArg some (by kernel_rfl))
  f257 := Try.func36.trans (congrArg some (by kernel_rfl))
  f294 := Try.func38.trans (congrArg some (by kernel_rfl))
  f295 := Try.func39.trans (congrArg some (by kernel_rfl))
  f296 := Try.func40.trans (congrArg some (by kernel_rfl))
  f297 := Try.func41.trans (congrArg some (by kernel_rfl))
  f298 := Try.func42.trans (congrArg some (by kernel_rfl))
  f299 := Try.func43.trans (congrArg some (by kernel_rfl))
  f300 := Try.func45.trans (congrArg some (by kernel_rfl))
  f301 := Try.func46.trans (congrArg some (by kernel_rfl))
  f328 := Try.func49.trans (congrArg some (by kernel_rfl))
  f329 := Try.func50.trans (congrArg some (by kernel_rfl))
  f330 := Try.func51.trans (congrArg some (by kernel_rfl))
  f331 := Try.func52.trans (congrArg some (by kernel_rfl))
  f332 := Try.func53.trans (congrArg some (by kernel_rfl))
  f343 := Try.func54.trans (congrArg some (by kernel_rfl))
  t0 := Try.underlying0
  a0 := Try.isAgg0
  z0 := Try.sizeOf0
  v0 := Try.zeroValue0
  t3 := Try.underlying3
  a3 := Try.isAgg3
  z3 := Try.sizeOf3
  v3 := Try.zeroValue3
  t4 := Try.underlying4
  a4 := Try.isAgg4
  z4 := Try.sizeOf4
  v4 := Try.zeroValue4
  t5 := Try.underlying5
  a5 := Try.isAgg5
  z5 := Try.sizeOf5
  v5 := Try.zeroValue5
  t9 := Try.underlying9
  a9 := Try.isAgg9
  z9 := Try.sizeOf9
  v9 := Try.zeroValue9
  t28 := Try.underlying75
  a28 := Try.isAgg75
  z28 := Try.sizeOf75
  v28 := Try.zeroValue75
  t46 := Try.underlying80
  a46 := Try.isAgg80
  z46 := Try.sizeOf80
  v46 := Try.zeroValue80
  t51 := Try.underlying91
  a51 := Try.isAgg91
  z51 := Try.sizeOf91
  v51 := Try.zeroValue91
  t53 := Try.underlying93
  a53 := Try.isAgg93
  z53 := Try.sizeOf93
  v53 := Try.zeroValue93
  t131 := Try.underlying88
  a131 := Try.isAgg88
  z131 := Try.sizeOf88
  v131 := Try.zeroValue88
  t182 := Try.underlying82
  a182 := Try.isAgg82
  z182 := Try.sizeOf82
  v182 := Try.zeroValue82
  t183 := Try.underlying83
  a183 := Try.isAgg83
  z183 := Try.sizeOf83
  v183 := Try.zeroValue83
  t218 := Try.underlying94
  a218 := Try.isAgg94
  z218 := Try.sizeOf94
  v218 := Try.zeroValue94
  t222 := Try.underlying98
  a222 := Try.isAgg98
  z222 := Try.sizeOf98
  v222 := Try.zeroValue98
  t228 := Try.underlying100
  a228 := Try.isAgg100
  z228 := Try.sizeOf100
  v228 := Try.zeroValue100
  t229 := Try.underlying101
  a229 := Try.isAgg101
  z229 := Try.sizeOf101
  v229 := Try.zeroValue101 }
open Go.Sort Go.RowKit in
theorem Try.slices_Sort_int (blk off cap : Nat) (zs : List Int) (w : World) (hH : Holds (Value.int .i64) w blk off zs.toArray) (hblk : blk < w.heap.size) (hsz : zs.length < 4611686018427387904) :
    Calls Try.prog 34 #[.slice (some ⟨blk, off, none⟩) zs.length cap] w fun e w' =>
      e = .returned (.tuple #[]) ∧ ∃ n os, w' = grow (putRow (Value.int .i64) (Sort.ahead w n) blk off (zs.mergeSort fun x y => decide (x ≤ y)).toArray) os := Any.slices_Sort_int Try.lays189 blk off cap zs w hH hblk hsz
open Go.RowKit Go.Sort in
/-- .. and plain. (LAID: no walk: one application.) -/
theorem Try.slices_Sort_int_none (p : Option Addr) (cap : Nat) (w : World) :
    Calls Try.prog 34 #[.slice p 0 cap] w fun e w' => e = .returned (.tuple #[]) ∧ w' = w := Any.slices_Sort_int_none Try.lays189 p cap w
end Go.Proofs
/- What every walk of this program needs of int, bool and string. -/
namespace Go.Proofs.Ytkfbchgabmffoaa
set_option linter.unusedVariables false
set_option linter.unusedSimpArgs false
open Go.RowKit
open Go.Maps (Keyed)

theorem int_info : (Try.prog.info? 3).map (fun i => (i.zero, i.size, i.bytes)) = some (some (.int .i64 0), 1, 8) := by kernel_rfl
theorem zero_int (w : World) : (zeroValue 3).run Try.prog w = .ok (.int .i64 0) w := by kernel_rfl
theorem zero_bool (w : World) : (zeroValue 4).run Try.prog w = .ok (.bool false) w := by kernel_rfl
theorem keyed_int : Keyed Try.prog 3 := Maps.int_keyed Try.underlying3
end Go.Proofs.Ytkfbchgabmffoaa
