/- Texts of this claim, put together. -/
import Derived.Shelf.SlIter.Nil
import Derived.Shelf.SortM.Plain
import Derived.Shelf.SortM.SortNone
import Derived.Ground.GgzProg
import Derived.Ground.SlgmProg
import Derived.Test.YtnkmjdaeafeaaaaProg
import Derived.Test.YtnkmjdaeafeaaaaJAA
import Derived.Test.YtnkmjdaeafeaaaaJAC
import Derived.StringKeys
import Derived.Test.YtnkmjdaeafeaaaaGrpWalksZ
import Derived.Laws.Cover1
import Derived.Sort.Walk0
/-
  DERIVED: THE SHELF's CONTRACTS AT THIS DUMP, IN PLAIN WORDS (tools/lay-plain.mjs out of 'TryShelf.lean', which tools/lay-shelf.mjs wrote): THE SAME DECLARATIONS UNDER THE SAME NAMES: 'import', 'namespace', 'open', 'def', 'theorem' AND NOTHING ELSE: no command of the shelf's: FOR A HAND-IN. Each laying: the table of numbers ('.._ren') and one theorem, a field a fact of the dump's own or the kernel's comparison; each contract: ONE APPLICATION.
-/
namespace Go.Proofs
open Go.Shelf
def Try.keysS_ren : Go.Shelf.Ren := ⟨fun | 7 => 83 | 10 => 122 | n => n, fun | 23 => 111 | 26 => 9 | 3 => 4 | 28 => 158 | 0 => 0 | 27 => 157 | 33 => 109 | 4 => 4 | n => n, fun | n => n⟩
theorem Try.keysS : Go.Proofs.SlLaysZ.n7 Try.prog Try.keysS_ren := {
  mixed := by kernel_rfl
  f7 := ⟨Try.f83.name, by decide, Try.func83.trans (congrArg some (by kernel_rfl))⟩
  f10 := ⟨Try.f122.name, by decide, Try.func122.trans (congrArg some (by kernel_rfl))⟩
  t0 := Try.underlying0
  a0 := Try.isAgg0
  z0 := Try.sizeOf0
  v0 := Try.zeroValue0
  t4 := Try.underlying4
  a4 := Try.isAgg4
  z4 := Try.sizeOf4
  v4 := Try.zeroValue4
  t23 := Try.underlying111
  a23 := Try.isAgg111
  z23 := Try.sizeOf111
  v23 := Try.zeroValue111
  t26 := Try.underlying9
  a26 := Try.isAgg9
  z26 := Try.sizeOf9
  v26 := Try.zeroValue9
  t27 := Try.underlying157
  a27 := Try.isAgg157
  z27 := Try.sizeOf157
  v27 := Try.zeroValue157
  t28 := Try.underlying158
  a28 := Try.isAgg158
  z28 := Try.sizeOf158
  v28 := Try.zeroValue158
  t33 := Try.underlying109
  a33 := Try.isAgg109
  z33 := Try.sizeOf109
  v33 := Try.zeroValue109 }
def Try.sortedS_ren : Go.Shelf.Ren := ⟨fun | 6 => 82 | 8 => 120 | 9 => 121 | 11 => 146 | 13 => 138 | 12 => 147 | 23 => 163 | 24 => 164 | 14 => 170 | 15 => 171 | 16 => 172 | 17 => 173 | 18 => 174 | 19 => 175 | 20 => 176 | 21 => 177 | 22 => 178 | 25 => 197 | 26 => 184 | 27 => 185 | 28 => 198 | 29 => 199 | 30 => 200 | 31 => 202 | n => n, fun | 26 => 9 | 28 => 158 | 24 => 103 | 0 => 0 | 3 => 3 | 37 => 205 | 48 => 225 | 50 => 227 | 4 => 4 | 40 => 219 | 39 => 218 | 45 => 32 | 5 => 5 | 9 => 9 | 51 => 246 | 55 => 250 | 57 => 255 | 58 => 256 | 33 => 109 | n => n, fun | n => n⟩
theorem Try.sortedS : Go.Proofs.SlLaysZ.n6 Try.prog Try.sortedS_ren := {
  mixed := by kernel_rfl
  f6 := ⟨Try.f82.name, by decide, Try.func82.trans (congrArg some (by kernel_rfl))⟩
  f8 := ⟨Try.f120.name, by decide, Try.func120.trans (congrArg some (by kernel_rfl))⟩
  f11 := ⟨Try.f146.name, by decide, Try.func146.trans (congrArg some (by kernel_rfl))⟩
  t0 := Try.underlying0
  a0 := Try.isAgg0
  z0 := Try.sizeOf0
  v0 := Try.zeroValue0
  t24 := Try.underlying103
  a24 := Try.isAgg103
  z24 := Try.sizeOf103
  v24 := Try.zeroValue103
  t26 := Try.underlying9
  a26 := Try.isAgg9
  z26 := Try.sizeOf9
  v26 := Try.zeroValue9
  t28 := Try.underlying158
  a28 := Try.isAgg158
  z28 := Try.sizeOf158
  v28 := Try.zeroValue158
  i26 := by kernel_rfl }
def Try.sortS_ren : Go.Shelf.Ren := ⟨fun | 6 => 121 | 8 => 138 | 9 => 147 | 19 => 163 | 20 => 164 | 21 => 170 | 22 => 171 | 23 => 172 | 24 => 173 | 25 => 174 | 26 => 175 | 27 => 176 | 28 => 177 | 29 => 178 | 36 => 197 | 31 => 184 | 32 => 185 | 37 => 198 | 38 => 199 | 39 => 200 | 41 => 202 | n => n, fun | 27 => 103 | 29 => 9 | 3 => 3 | 32 => 205 | 26 => 103 | 0 => 0 | 44 => 225 | 46 => 227 | 4 => 4 | 36 => 219 | 35 => 218 | 41 => 32 | 5 => 5 | 9 => 9 | 53 => 246 | 57 => 250 | 63 => 255 | 64 => 256 | n => n, fun | n => n⟩
theorem Try.sortS : Go.Proofs.SlLaysM.n6 Try.prog Try.sortS_ren := {
  mixed := by kernel_rfl
  f6 := ⟨Try.f121.name, by decide, Try.func121.trans (congrArg some (by kernel_rfl))⟩
  f8 := Try.func138.trans (congrArg some (by kernel_rfl))
  f9 := ⟨Try.f147.name, by decide, Try.func147.trans (congrArg some (by kernel_rfl))⟩
  f19 := Try.func163.trans (congrArg some (by kernel_rfl))
  f20 := Try.func164.trans (congrArg some (by kernel_rfl))
  f21 := ⟨Try.f170.name, by decide, Try.func170.trans (congrArg some (by kernel_rfl))⟩
  f22 := ⟨Try.f171.name, by decide, Try.func171.trans (congrArg some (by kernel_rfl))⟩
  f23 := ⟨Try.f172.name, by decide, Try.func172.trans (congrArg some (by kernel_rfl))⟩
  f24 := ⟨Try.f173.name, by decide, Try.func173.trans (congrArg some (by kernel_rfl))⟩
  f25 := ⟨Try.f174.name, by decide, Try.func174.trans (congrArg some (by kernel_rfl))⟩
  f26 := ⟨Try.f175.name, by decide, Try.func175.trans (congrArg some (by kernel_rfl))⟩
  f27 := ⟨Try.f176.name, by decide, Try.func176.trans (congrArg some (by kernel_rfl))⟩
  f28 := ⟨Try.f177.name, by decide, Try.func177.trans (congrArg some (by kernel_rfl))⟩
  f29 := ⟨Try.f178.name, by decide, Try.func178.trans (congrArg some (by kernel_rfl))⟩
  f31 := Try.func184.trans (congrArg some (by kernel_rfl))
  f32 := Try.func185.trans (congrArg some (by kernel_rfl))
  f36 := ⟨Try.f197.name, by decide, Try.func197.trans (congrArg some (by kernel_rfl))⟩
  f37 := ⟨Try.f198.name, by decide, Try.func198.trans (congrArg some (by kernel_rfl))⟩
  f38 := ⟨Try.f199.name, by decide, Try.func199.trans (congrArg some (by kernel_rfl))⟩
  f39 := ⟨Try.f200.name, by decide, Try.func200.trans (congrArg some (by kernel_rfl))⟩
  f41 := ⟨Try.f202.name, by decide, Try.func202.trans (congrArg some (by kernel_rfl))⟩
  t0 := Try.underlying0
  a0 := Try.isAgg0
  z0 := Try.sizeOf0
  v0 := Try.zeroValue0
  t3 := Try.underlying3
  a3 := Try.isAgg3
  z3 := Try.sizeOf3
  v3 := Try.zeroValue3
  t4 := Try.underlying4
  a4 := Try.isAgg4
  z4 := Try.sizeOf4
  v4 := Try.zeroValue4
  t5 := Try.underlying5
  a5 := Try.isAgg5
  z5 := Try.sizeOf5
  v5 := Try.zeroValue5
  t9 := Try.underlying9
  a9 := Try.isAgg9
  z9 := Try.sizeOf9
  v9 := Try.zeroValue9
  t26 := Try.underlying103
  a26 := Try.isAgg103
  z26 := Try.sizeOf103
  v26 := Try.zeroValue103
  t27 := Try.underlying103
  a27 := Try.isAgg103
  z27 := Try.sizeOf103
  v27 := Try.zeroValue103
  t29 := Try.underlying9
  a29 := Try.isAgg9
  z29 := Try.sizeOf9
  v29 := Try.zeroValue9
  t32 := Try.underlying205
  a32 := Try.isAgg205
  z32 := Try.sizeOf205
  v32 := Try.zeroValue205
  t35 := Try.underlying218
  a35 := Try.isAgg218
  z35 := Try.sizeOf218
  v35 := Try.zeroValue218
  t36 := Try.underlying219
  a36 := Try.isAgg219
  z36 := Try.sizeOf219
  v36 := Try.zeroValue219
  t41 := Try.underlying32
  a41 := Try.isAgg32
  z41 := Try.sizeOf32
  v41 := Try.zeroValue32
  t44 := Try.underlying225
  a44 := Try.isAgg225
  z44 := Try.sizeOf225
  v44 := Try.zeroValue225
  t46 := Try.underlying227
  a46 := Try.isAgg227
  z46 := Try.sizeOf227
  v46 := Try.zeroValue227
  t53 := Try.underlying246
  a53 := Try.isAgg246
  z53 := Try.sizeOf246
  v53 := Try.zeroValue246
  t57 := Try.underlying250
  a57 := Try.isAgg250
  z57 := Try.sizeOf250
  v57 := Try.zeroValue250
  t63 := Try.underlying255
  a63 := Try.isAgg255
  z63 := Try.sizeOf255
  v63 := Try.zeroValue255
  t64 := Try.underlying256
  a64 := Try.isAgg256
  z64 := Try.sizeOf256
  v64 := Try.zeroValue256 }
end Go.Proofs
/- A set of texts of the call's own, as a map. Over any program. -/
namespace Go.Proofs.Ytnkmjdaeafeaaaa
set_option linter.unusedVariables false
set_option linter.unusedSimpArgs false
open Go.RowKit

/-- Block b is a map of at most n entries that says true of just the texts of S. -/
def StrSet (P : Program) (k e : TypeId) (w : World) (b n : Nat) (S : List Txt) : Prop :=
  ∃ D : DataW Unit, w.ownsMap P k (plainElem P e) b n D ∧ Maps.IsMap D ∧ (∀ x : Txt, D.atKey (.string x) (.lit (.bool false)) = .lit (.bool (decide (x ∈ S)))) ∧ ∀ x : Txt, Maps.has D (.string x) = decide (x ∈ S)
section
variable {P : Program} {k e t : TypeId} {w w' : World} {b n : Nat} {S : List Txt}
theorem StrSet.made (w : World) : StrSet P k e (w.alloc (.map #[] 0)) w.heap.size 0 [] := ⟨.map [], World.ownsMap_made _ _ _ _, Maps.isMap_empty, fun _ => by simp [DataW.atKey], fun _ => by simp [Maps.has_eq]⟩
theorem StrSet.lt (h : StrSet P k e w b n S) : b < w.heap.size := by obtain ⟨D, h, _⟩ := h; exact h.lt
theorem StrSet.kept {row : Option Nat} (h : StrSet P k e w b n S) (hg : w.grownBy w' row) (hne : some b ≠ row) : StrSet P k e w' b n S := by obtain ⟨D, h, r⟩ := h; exact ⟨D, h.kept hg hne, r⟩
theorem StrSet.step (h : StrSet P k e w b n S) (hb : Below w.heap.size w w') : StrSet P k e w' b n S := h.kept (grown_below hb none) (by simp)
theorem StrSet.alloc (h : StrSet P k e w b n S) (o : Obj) : StrSet P k e (w.alloc o) b n S := h.kept (World.grownBy_alloc w o none) (by simp)
/-- the look-up -/
theorem StrSet.look (h : StrSet P k e w b n S) (hk : P.underlying k = some .string) (he : P.underlying e = some .bool) (ht : P.underlying t = some (.map k e)) (hz : (zeroValue e).run P w = .ok (.bool false) w)
    {s : ByteArray} (hs : s.size ≤ maxLen) : (Instr.lookup t (.map (some b)) (.string s) false).run P w = .ok (.bool (decide (s.data.toList ∈ S))) w := by
  obtain ⟨D, h, _, hD, _⟩ := h
  obtain ⟨v, ps, hrun, hv⟩ := h.lookup (Maps.string_keyed hk) ht hz (plainElem_bool he false) (WideMaps.keyOf_string_mk hk hs)
  obtain ⟨x, rfl, e2⟩ := plainElem_bool_inv he hv
  rw [hD s.data.toList] at e2
  injection e2 with e2 _
  injection e2 with e2
  injection e2 with e2
  rw [hrun, e2]
theorem str_ne {c d : Txt} (h : c ≠ d) : Lit.string c ≠ Lit.string d := fun e => h (by injection e)
theorem StrSet.put {D : DataW Unit} {c : Txt} (hm : Maps.IsMap D) (hD : ∀ x : Txt, D.atKey (.string x) (.lit (.bool false)) = .lit (.bool (decide (x ∈ S)))) (hh : ∀ x : Txt, Maps.has D (.string x) = decide (x ∈ S))
    (h2 : w'.ownsMap P k (plainElem P e) b (n + 1) (D.put (.string c) (.lit (.bool true)))) : StrSet P k e w' b (n + 1) (S ++ [c]) := by
  refine ⟨_, h2, hm.put _ _, fun d => ?_, fun d => ?_⟩
  · by_cases hd : d = c
    · subst hd
      rw [Maps.atKey_put_same hm (show WideAt.IsKeyLit (.string d) from trivial)]
      simp
    · rw [Maps.atKey_put_other (str_ne hd), hD d]
      simp [hd]
  · by_cases hd : d = c
    · subst hd
      rw [Maps.has_put_same hm (show WideAt.IsKeyLit (.string d) from trivial)]
      simp
    · rw [Maps.has_put_other (str_ne hd), hh d]
      simp [hd]
/-- a text is laid into the set: at the operation -/
theorem wpList_str_put {ops : Array Oper} {rest : List Oper} {o : Oper} {a : Act} {Q : Exit → Act → World → Prop} (hg : o.guard = none) (m x v : Operand) (t : TypeId) (hop : o.op = Op.mapUpdate t m x v)
    (hk : P.underlying k = some .string) (he : P.underlying e = some .bool) (ht : P.underlying t = some (.map k e)) (h : StrSet P k e w b n S) (hn : n < maxLen) (s : ByteArray) (hs : s.size ≤ maxLen)
    (hm : a.eval m = .map (some b)) (hx : a.eval x = .string s) (hv : a.eval v = .bool true)
    (hK : ∀ w', StrSet P k e w' b (n + 1) (S ++ [s.data.toList]) → w.grownBy w' (some b) → wpList P ops Q rest (a.put o.dst undef) w') : wpList P ops Q (o :: rest) a w := by
  obtain ⟨D, h, hM, hD, hh⟩ := h
  exact wpList_mapUpdate_own w hg m x v t hop k e (Maps.string_keyed hk) ht _ b n D hm h hn _ _ _ hx hv (WideMaps.keyOf_string_mk hk hs) _ [] (plainElem_bool he true) fun w' h2 g2 => hK w' (StrSet.put hM hD hh h2) g2
/-- the same for an entry of a map that is written out -/
theorem wpList_str_ins {ops : Array Oper} {rest : List Oper} {o : Oper} {a : Act} {Q : Exit → Act → World → Prop} (hg : o.guard = none) (m x v : Operand) (t : TypeId) (hop : o.op = Op.insert t m x v)
    (hk : P.underlying k = some .string) (he : P.underlying e = some .bool) (ht : P.underlying t = some (.map k e)) (h : StrSet P k e w b n S) (hn : n < maxLen) (s : ByteArray) (hs : s.size ≤ maxLen)
    (hm : a.eval m = .map (some b)) (hx : a.eval x = .string s) (hv : a.eval v = .bool true)
    (hK : ∀ w', StrSet P k e w' b (n + 1) (S ++ [s.data.toList]) → w.grownBy w' (some b) → wpList P ops Q rest (a.put o.dst undef) w') : wpList P ops Q (o :: rest) a w := by
  obtain ⟨D, h, hM, hD, hh⟩ := h
  refine wpList_plain hg fun K' hK' => ?_
  obtain ⟨w', hrun, r1, r2⟩ := h.update (Maps.string_keyed hk) ht hn (WideMaps.keyOf_string_mk hk hs) (plainElem_bool he true)
  unfold Oper.wp
  simp [execOp, hop, hm, hx, hv, hrun, Result.andThen]
  exact hK' _ _ (hK w' (StrSet.put hM hD hh r1) r2)
/-- the keys of the set, each once -/
theorem StrSet.keys {D : DataW Unit} (h : w.ownsMap P k (plainElem P e) b n D) (hk : P.underlying k = some .string) (hh : ∀ x : Txt, Maps.has D (.string x) = decide (x ∈ S)) {ss : List Txt} (hp : ss.Perm (strKeys D)) : ss.Nodup ∧ ∀ x, x ∈ ss ↔ x ∈ S := by
  obtain ⟨es, hD, hpw, _⟩ := h.entries (Maps.string_keyed hk)
  obtain ⟨es', hD', hko⟩ := h.keysOf
  obtain rfl : es = es' := by rw [hD] at hD'; simpa using hD'
  subst hD
  have hs : ∀ p ∈ es, ∃ x, p.1 = .string x := fun p hp => by obtain ⟨v, hv⟩ := hko p hp; obtain ⟨x, _, hx, _⟩ := Maps.keyOf_str hk hv; exact ⟨x, hx⟩
  constructor
  · refine hp.nodup_iff.2 ?_
    show (es.map fun p => strOf p.1).Nodup
    refine List.pairwise_map.2 (hpw.imp_of_mem fun {p q} hp' hq' hne e => hne ?_)
    obtain ⟨a, ha⟩ := hs p hp'
    obtain ⟨b, hb⟩ := hs q hq'
    rw [ha, hb] at e ⊢
    exact congrArg _ e
  · intro x
    rw [hp.mem_iff]
    have h1 := hh x
    rw [Maps.has_eq] at h1
    have h2 : (es.any fun p => p.1.sameKey (.string x)) = true ↔ x ∈ S := by rw [h1]; simp
    rw [← h2, List.any_eq_true]
    show x ∈ es.map (fun p => strOf p.1) ↔ _
    rw [List.mem_map]
    constructor
    · rintro ⟨p, hp', rfl⟩
      obtain ⟨a, ha⟩ := hs p hp'
      exact ⟨p, hp', by rw [ha]; simp [Lit.sameKey, strOf]⟩
    · rintro ⟨p, hp', hs'⟩
      obtain ⟨a, ha⟩ := hs p hp'
      rw [ha] at hs'
      exact ⟨p, hp', by rw [ha]; simpa [Lit.sameKey, strOf] using hs'⟩
end
end Go.Proofs.Ytnkmjdaeafeaaaa
/- slices.Sorted(maps.Keys(m)) of a set of texts. -/
namespace Go.Proofs.Ytnkmjdaeafeaaaa
set_option linter.unusedVariables false
set_option linter.unusedSimpArgs false
open Go.RowKit Go.Maps Go.Sort Go.Shelf

theorem sortsS (m : Nat) : AnyZ.SortsIn Try.prog Try.sortedS_ren Fence.wide m :=
  ⟨fun blk off cap ss W hH hblk hsz => callsIn_wide.2 (AnyM.slices_Sort_string Try.sortS blk off cap ss W hH hblk hsz),
   fun p cap W => callsIn_wide.2 (AnyM.slices_Sort_string_none Try.sortS p cap W)⟩
theorem skeys_any (mb : Option Nat) (W : World) : Calls Try.prog 83 #[.map mb] W fun e w' => e = .returned (.func (.func 122) #[] #[.pointer (some ⟨W.heap.size, 0, none⟩)]) ∧ w' = W.alloc (.cells #[.map mb] 111) :=
  (callsIn_wide (n := 5)).1 (AnyZ.keys_in Try.keysS Fence.wide 5 trivial rfl mb W)
def SortedPost (T : TypeId) (S : List Txt) (w : World) (e : Ending) (w' : World) : Prop :=
  ∃ (v : Value) (ss : List Txt), e = .returned v ∧ ss.Nodup ∧ (∀ x, x ∈ ss ↔ x ∈ S) ∧ w'.ownsRow w.heap.size T 1 v (ss.mergeSort leB).length ((ss.mergeSort leB).map encStr) ∧ Below w.heap.size w w'
set_option maxHeartbeats 1000000 in
theorem ssorted_any {e : TypeId} (b n : Nat) (S : List Txt) (w : World) (h : StrSet Try.prog 9 e w b n S) (hn : n ≤ 1000000) :
    Calls Try.prog 82 #[.func (.func 122) #[] #[.pointer (some ⟨w.heap.size, 0, none⟩)]] (w.alloc (.cells #[.map (some b)] 111)) (SortedPost 9 S (w.alloc (.cells #[.map (some b)] 111))) := by
  obtain ⟨D0, hown, _, _, hh⟩ := h
  have hsz := hown.size_le
  have hbl := hown.lt
  have hseq : SeqGives Fence.wide 2 Try.prog 122 #[.pointer (some ⟨w.heap.size, 0, none⟩)] encStr (fun ss => ss.Perm (strKeys D0)) (Maps.size D0) (w.alloc (.cells #[.map (some b)] 111)) :=
    AnyZ.keys_gives (ρ := Try.keysS_ren) { Try.keysS with } Fence.wide _ trivial rfl (by omega) w.heap.size b n D0 _ (by simp) (by simp) (by
      obtain ⟨es, clock, hb, Ft, hs, hD⟩ := hown
      exact ⟨es, clock, (Below.heap_alloc _ _ b hbl).trans hb, Ft, hs, hD⟩)
  have hc := (callsIn_wide (n := 5)).1 (AnyZ.sorted_in Try.sortedS Fence.wide 5 trivial trivial trivial trivial rfl (by omega) (sortsS _) (enters_of Try.func121 (by kernel_rfl) rfl) 122 #[.pointer (some ⟨w.heap.size, 0, none⟩)] trivial (enters_of Try.func122 (by kernel_rfl) rfl) _ _ (by unfold maxLen; omega) (by omega) _ hseq)
  refine hc.mono ?_
  rintro e w' ⟨v, ss, rfl, hp, hrow, _, hb⟩
  obtain ⟨h1, h2⟩ := StrSet.keys hown Try.underlying9 hh hp
  exact ⟨v, ss, rfl, h1, h2, by rw [(List.mergeSort_perm ss leB).length_eq]; exact hrow, hb⟩
end Go.Proofs.Ytnkmjdaeafeaaaa
/- The walks of Currencies, of its reference, of 'same', of the law's own 'awake'. -/
namespace Go.Proofs.Ytnkmjdaeafeaaaa
set_option linter.unusedVariables false
set_option linter.unusedSimpArgs false
open Go.RowKit
open Go.Maps (Keyed)

theorem str_info : (Try.prog.info? 9).map (fun i => (i.zero, i.size, i.bytes)) = some (some (.string ⟨#[]⟩), 1, 16) := by kernel_rfl
def OwnStrs (base : Nat) (L : List Txt) (w : World) (e : Ending) (w' : World) : Prop :=
  ∃ v, e = .returned v ∧ w'.ownsRow base 9 1 v L.length (L.map encStr) ∧ Below w.heap.size w w'
def curs (el : List EntR) : List Txt := el.map fun x => x.currency.data.toList
theorem curs_take (el : List EntR) (k : Nat) (h : k < el.length) : curs (el.take (k + 1)) = curs (el.take k) ++ [el[k].currency.data.toList] := by
  unfold curs
  rw [List.take_succ_eq_append_getElem h, List.map_append]; rfl
theorem curs_len (el : List EntR) : (curs el).length = el.length := by unfold curs; rw [List.length_map]
section
variable (cur : ByteArray) (y m p : Int) (cl : List Acc) (cA : Option Addr) (cc : Nat) (ro : RolesR) (el : List EntR) (eA : Option Addr) (ec : Nat) (w : World)
set_option maxRecDepth 100000 in
set_option maxHeartbeats 2000000 in
theorem currencies_any (h : GIn w cl cA el eA) (hc : cur.size ≤ maxLen) (hn : el.length ≤ 1000) :
    Calls Try.prog 39 #[.agg #[.string cur, .int .i64 y, .int .i64 m, .int .i64 p, .slice cA cl.length cc, .int .i64 ro.investment, .int .i64 ro.goodwill, .int .i64 ro.associates, .int .i64 ro.inventory, .int .i64 ro.reserve, .int .i64 ro.minority, .int .i64 ro.retained, .int .i64 ro.acquired, .int .i64 ro.owners, .int .i64 ro.disposal, .int .i64 ro.associateProfit, .int .i64 ro.dividends, .int .i64 ro.minorityProfit, .int .i64 ro.difference, .int .i64 ro.margin, .slice eA el.length ec]] w (OwnStrs w.heap.size (curL cur.data.toList (curs el)) w) := by
  have H := Lib.hid h
  clear h
  have hb : Below w.heap.size w ((w.alloc (.cells #[.string cur, .int .i64 y, .int .i64 m, .int .i64 p, .slice cA cl.length cc, .int .i64 ro.investment, .int .i64 ro.goodwill, .int .i64 ro.associates, .int .i64 ro.inventory, .int .i64 ro.reserve, .int .i64 ro.minority, .int .i64 ro.retained, .int .i64 ro.acquired, .int .i64 ro.owners, .int .i64 ro.disposal, .int .i64 ro.associateProfit, .int .i64 ro.dividends, .int .i64 ro.minorityProfit, .int .i64 ro.difference, .int .i64 ro.margin, .slice eA el.length ec] 29)).alloc (.map #[] 0)) := by
    have hb := Below.refl w.heap.size w
    exact (by repeat (first | exact hb | refine Below.alloc ?_ (by have hbs := hb.size; first | omega | (simp; done) | (simp; omega)) _ | refine Below.drew ?_ | refine below_drewN_ ?_ _ | refine Below.setCell ?_ (by simp) _))
  have hS0 : StrSet Try.prog 9 4 ((w.alloc (.cells #[.string cur, .int .i64 y, .int .i64 m, .int .i64 p, .slice cA cl.length cc, .int .i64 ro.investment, .int .i64 ro.goodwill, .int .i64 ro.associates, .int .i64 ro.inventory, .int .i64 ro.reserve, .int .i64 ro.minority, .int .i64 ro.retained, .int .i64 ro.acquired, .int .i64 ro.owners, .int .i64 ro.disposal, .int .i64 ro.associateProfit, .int .i64 ro.dividends, .int .i64 ro.minorityProfit, .int .i64 ro.difference, .int .i64 ro.margin, .slice eA el.length ec] 29)).alloc (.map #[] 0)) (w.heap.size + 1) 0 [] := by
    have := StrSet.made (P := Try.prog) (k := 9) (e := 4) (w.alloc (.cells #[.string cur, .int .i64 y, .int .i64 m, .int .i64 p, .slice cA cl.length cc, .int .i64 ro.investment, .int .i64 ro.goodwill, .int .i64 ro.associates, .int .i64 ro.inventory, .int .i64 ro.reserve, .int .i64 ro.minority, .int .i64 ro.retained, .int .i64 ro.acquired, .int .i64 ro.owners, .int .i64 ro.disposal, .int .i64 ro.associateProfit, .int .i64 ro.dividends, .int .i64 ro.minorityProfit, .int .i64 ro.difference, .int .i64 ro.margin, .slice eA el.length ec] 29))
    simpa using this
  have hA0 := (Blk.new w 29 #[.string cur, .int .i64 y, .int .i64 m, .int .i64 p, .slice cA cl.length cc, .int .i64 ro.investment, .int .i64 ro.goodwill, .int .i64 ro.associates, .int .i64 ro.inventory, .int .i64 ro.reserve, .int .i64 ro.minority, .int .i64 ro.retained, .int .i64 ro.acquired, .int .i64 ro.owners, .int .i64 ro.disposal, .int .i64 ro.associateProfit, .int .i64 ro.dividends, .int .i64 ro.minorityProfit, .int .i64 ro.difference, .int .i64 ro.margin, .slice eA el.length ec]).alloc (.map #[] 0)
  have hmm := @run_makeMap Try.prog
  go_enter Try.func39, Try.ntmps39
  go_wp2_with (refine wpList_str_ins rfl _ _ _ 111 rfl Try.underlying9 Try.underlying4 Try.underlying111 hS0 (by unfold maxLen; omega) cur hc rfl rfl rfl ?_; intro w4 hS4 hg4; have hA4 := hA0.grown hg4 (by simp); have f4 : w4.cell? ⟨w.heap.size, 20, none⟩ = some (.slice eA el.length ec) := hA4.cell 20)
  have hb4 : Below w.heap.size w w4 := Below.grown hb hg4 (by simp; omega) (fun k hk => by injection hk with hk; omega)
  replace hS4 : StrSet Try.prog 9 4 w4 (w.heap.size + 1) 1 (cur.data.toList :: curs (el.take 0)) := by simpa [curs] using hS4
  clear hg4 hA0 hA4 hS0 hb
  go_loopw [13] (fun t wr => ∃ k : Nat, k ≤ el.length ∧ t = .int .i64 k ∧ StrSet Try.prog 9 4 wr (w.heap.size + 1) (k + 1) (cur.data.toList :: curs (el.take k)) ∧ Below w.heap.size w wr) (fun t _ => el.length - (intOf t).toNat)
  case atStart => exact ⟨0, by omega, rfl, hS4, hb4⟩
  case round =>
    clear hb4 hS4 f4
    obtain ⟨k, hk, rfl, hS, hb⟩ := hrel
    have hz := hb.size
    by_cases hlt : k < el.length
    · obtain ⟨b, o, hA, hbo, f0, f1, f2, f3, f4⟩ := EntR.at_ (Rd.now H.out.en hb) hlt
      subst hA
      have hcs : el[k].currency.size ≤ maxLen := (H.out.ok _ (List.getElem_mem hlt)).2.1
      have HX := Lib.hid (curs_take el k hlt)
      generalize el[k] = x at *
      obtain ⟨xn, xc, ⟨l1, A1, c1⟩, ⟨l2, A2, c2⟩, xj⟩ := x
      dsimp only [Sl.val] at *
      go_wp2_with (at_mapUpdate; refine wpList_str_put rfl _ _ _ 111 rfl Try.underlying9 Try.underlying4 Try.underlying111 (hS.alloc _) (by unfold maxLen; omega) _ hcs rfl rfl rfl ?_; intro w5 hS5 hg5)
      replace hS5 : StrSet Try.prog 9 4 w5 (w.heap.size + 1) (k + 1 + 1) (cur.data.toList :: curs (el.take (k + 1))) := by rw [HX.out]; simpa using hS5
      have hb5 : Below w.heap.size w w5 := Below.grown (hb.alloc hz _) hg5 (by simp; omega) (fun k hk => by injection hk with hk; omega)
      clear hg5 hS
      go_wp2_with fail
      go_roundw
      case rel => exact ⟨k + 1, by omega, by go_num, hS5, hb5⟩
      case measure => simp [intOf]; omega
    · have HE : Hid (el.take k = el) := Lib.hid (List.take_of_length_le (by omega))
      rw [HE.out] at hS
      go_wp2_with (first
        | (go_at_call 83; refine (skeys_any _ _).mono ?_; rintro e w' ⟨rfl, rfl⟩)
        | (go_at_call 82; refine (ssorted_any (w.heap.size + 1) (k + 1) _ _ hS (by omega)).mono ?_; rintro e w5 ⟨v5, ss, rfl, hnd, hm, ho5, hb5⟩))
      go_ret
      have hb6 : Below w.heap.size w (wr.alloc (.cells #[.map (some (w.heap.size + 1))] 111)) := hb.alloc hz _
      have e := sort_cur (c := cur.data.toList) (l := curs el) hnd (fun x => by rw [hm x]; simp)
      rw [e] at ho5
      exact ⟨v5, rfl, own_base ho5 hb6.size, bel hb6 hb5⟩
end
end Go.Proofs.Ytnkmjdaeafeaaaa
/- The walks of the reference's with and Currencies, of 'same', of the law's own 'awake'. -/
namespace Go.Proofs.Ytnkmjdaeafeaaaa
set_option linter.unusedVariables false
set_option linter.unusedSimpArgs false
open Go.RowKit

theorem one_str (s : ByteArray) : ∀ u ∈ [Value.string s], u.oneCell' = true := by
  intro u hu
  simp only [List.mem_cons, List.not_mem_nil, or_false] at hu
  subst hu
  rfl
theorem enc_bytes (t : Txt) : (⟨t.toArray⟩ : ByteArray).toList = t := by rw [ByteArray.toList_eq]
theorem bytes_enc (s : ByteArray) : Value.string s = encStr s.data.toList := by simp [encStr]
/-- where the texts of a list lie -/
theorem txt_at {w : World} {B : Nat} {A : Option Addr} {l : List Txt} (h : Rd w B 1 A l.length (l.map encStr)) {k : Nat} (hk : k < l.length) :
    ∃ (b o : Nat) (s : ByteArray), A = some ⟨b, o, none⟩ ∧ b < B ∧ w.cell? ⟨b, o + k, none⟩ = some (.string s) ∧ s.toList = l[k] ∧ s.data.toList = l[k] := by
  obtain ⟨b, o, e, hb, hc⟩ := h.2 (by omega)
  refine ⟨b, o, ⟨l[k].toArray⟩, e, hb, hc k _ (by rw [List.getElem?_map, List.getElem?_eq_getElem hk]; rfl), enc_bytes _, rfl⟩
theorem beq_is (a b : Txt) : (a == b) = decide (a = b) := by by_cases h : a = b <;> simp [h]
theorem less_is (a b : Txt) : Op.bytesLess a b = decide (¬ b ≤ a) := by
  rw [bytesLess_eq]
  rw [decide_eq_decide]
  exact List.not_le.symm
theorem own_snoc {w : World} {base : Nat} {e : TypeId} {v : Value} {out : List Txt} {s : ByteArray} (h : w.ownsRow base e 1 v (out.length + 1) (out.map encStr ++ [.string s])) : w.ownsRow base e 1 v (out ++ [s.data.toList]).length ((out ++ [s.data.toList]).map encStr) := by
  rw [List.map_append, List.length_append]
  have e : List.map encStr [s.data.toList] = [.string s] := by rw [bytes_enc s]; rfl
  rw [e]; exact h
def WithIn (S : Txt) (L out : List Txt) (k : Nat) (done : Bool) : Prop := out ++ withGo S (L.drop k) done = withGo S L false
theorem with_start (S : Txt) (L : List Txt) : WithIn S L [] 0 false := rfl
theorem with_step {S : Txt} {L out : List Txt} {k : Nat} {done : Bool} (h : WithIn S L out k done) (hk : k < L.length) :
    WithIn S L (out ++ (if S ≤ L[k] ∧ done = false then [S] else []) ++ (if L[k] = S then [] else [L[k]])) (k + 1) (done || decide (S ≤ L[k])) := by
  unfold WithIn at h ⊢
  rw [with_drop S L k hk] at h
  rw [← h]
  simp only [List.append_assoc]
theorem with_end {S : Txt} {L out : List Txt} {k : Nat} {done : Bool} (h : WithIn S L out k done) (hk : L.length ≤ k) : withL L S = out ++ (if done then [] else [S]) := by
  unfold WithIn at h
  rw [List.drop_of_length_le hk] at h
  unfold withL
  rw [← h]
  rfl
end Go.Proofs.Ytnkmjdaeafeaaaa
