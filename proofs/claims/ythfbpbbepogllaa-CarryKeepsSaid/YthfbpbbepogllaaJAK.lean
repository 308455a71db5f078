/- Texts of this claim, put together. -/
import Derived.Test.YthfbpbbepogllaaJAI
import Derived.Test.YthfbpbbepogllaaJAD
import Derived.Test.YthfbpbbepogllaaJAF
import Derived.Test.YthfbpbbepogllaaChecked
import Derived.Test.YthfbpbbepogllaaJAA
import Derived.Test.YthfbpbbepogllaaJAH
import Derived.StringKeys
import Derived.Laws.Cover1
import Derived.Sort.Walk0
/- The walks of Find and of its reference, of Few. -/
namespace Go.Proofs.Ythfbpbbepogllaa
set_option linter.unusedVariables false
set_option linter.unusedSimpArgs false
open Go.RowKit

/-- the number of the first one, or -1 -/
def fidx {α : Type} (q : α → Bool) (l : List α) : Int := match l.findIdx? q with | some i => (i : Int) | none => -1
section
variable {α : Type} {q : α → Bool} {l : List α}
theorem fidx_hit (k : Nat) (hk : k < l.length) (h : ∀ j (hj : j < k), q (l[j]'(by omega)) = false) (hq : q l[k] = true) : fidx q l = k := by
  unfold fidx
  have : l.findIdx? q = some k := by
    rw [List.findIdx?_eq_some_iff_getElem]
    exact ⟨hk, hq, fun j hj => by simp [h j hj]⟩
  rw [this]
theorem fidx_miss (h : ∀ j (hj : j < l.length), q l[j] = false) : fidx q l = -1 := by
  unfold fidx
  have : l.findIdx? q = none := by
    rw [List.findIdx?_eq_none_iff]
    intro x hx
    obtain ⟨j, hj, rfl⟩ := List.mem_iff_getElem.1 hx
    exact h j hj
  rw [this]
end
def nameIs (s : ByteArray) (x : EntR) : Bool := x.name.toList == s.toList
/-- what the walks of groups need to know of one -/
structure GIn (w : World) (cl : List Acc) (cA : Option Addr) (el : List EntR) (eA : Option Addr) : Prop where
  ch : Rd w w.heap.size 4 cA cl.length (Ch.cells cl)
  en : Rd w w.heap.size 5 eA el.length (cellsOf EntR.cells el)
  ok : ∀ x ∈ el, x.Ok w
  wf : ∀ a ∈ cl, (Lit.int .i64 a.code).wf = true
theorem GIn.step {w w2 : World} {cl : List Acc} {cA : Option Addr} {el : List EntR} {eA : Option Addr} (h : GIn w cl cA el eA) (hb : Below w.heap.size w w2) : GIn w2 cl cA el eA :=
  ⟨Rd.now h.ch hb, Rd.now h.en hb, fun x hx => (h.ok x hx).step hb, h.wf⟩
section
variable (cur : ByteArray) (y m p : Int) (cl : List Acc) (cA : Option Addr) (cc : Nat) (ro : RolesR) (el : List EntR) (eA : Option Addr) (ec : Nat) (w : World)
def fndI (el : List EntR) (s : ByteArray) : Int := if 0 ≤ fidx (nameIs s) el then fidx (nameIs s) el else 0
def fndB (el : List EntR) (s : ByteArray) : Bool := decide (0 ≤ fidx (nameIs s) el)
end
end Go.Proofs.Ythfbpbbepogllaa
/- A set of texts of the call's own, as a map. Over any program. -/
namespace Go.Proofs.Ythfbpbbepogllaa
set_option linter.unusedVariables false
set_option linter.unusedSimpArgs false
open Go.RowKit

/-- Block b is a map of at most n entries that says true of just the texts of S. -/
def StrSet (P : Program) (k e : TypeId) (w : World) (b n : Nat) (S : List Txt) : Prop :=
  ∃ D : DataW Unit, w.ownsMap P k (plainElem P e) b n D ∧ Maps.IsMap D ∧ (∀ x : Txt, D.atKey (.string x) (.lit (.bool false)) = .lit (.bool (decide (x ∈ S)))) ∧ ∀ x : Txt, Maps.has D (.string x) = decide (x ∈ S)
section
variable {P : Program} {k e t : TypeId} {w w' : World} {b n : Nat} {S : List Txt}
theorem StrSet.made (w : World) : StrSet P k e (w.alloc (.map #[] 0)) w.heap.size 0 [] := ⟨.map [], World.ownsMap_made _ _ _ _, Maps.isMap_empty, fun _ => by simp [DataW.atKey], fun _ => by simp [Maps.has_eq]⟩
theorem StrSet.lt (h : StrSet P k e w b n S) : b < w.heap.size := by obtain ⟨D, h, _⟩ := h; exact h.lt
theorem StrSet.kept {row : Option Nat} (h : StrSet P k e w b n S) (hg : w.grownBy w' row) (hne : some b ≠ row) : StrSet P k e w' b n S := by obtain ⟨D, h, r⟩ := h; exact ⟨D, h.kept hg hne, r⟩
theorem StrSet.step (h : StrSet P k e w b n S) (hb : Below w.heap.size w w') : StrSet P k e w' b n S := h.kept (grown_below hb none) (by simp)
theorem StrSet.alloc (h : StrSet P k e w b n S) (o : Obj) : StrSet P k e (w.alloc o) b n S := h.kept (World.grownBy_alloc w o none) (by simp)
/-- the look-up -/
theorem StrSet.look (h : StrSet P k e w b n S) (hk : P.underlying k = some .string) (he : P.underlying e = some .bool) (ht : P.underlying t = some (.map k e)) (hz : (zeroValue e).run P w = .ok (.bool false) w)
    {s : ByteArray} (hs : s.size ≤ maxLen) : (Instr.lookup t (.map (some b)) (.string s) false).run P w = .ok (.bool (decide (s.data.toList ∈ S))) w := by
  obtain ⟨D, h, _, hD, _⟩ := h
  obtain ⟨v, ps, hrun, hv⟩ := h.lookup (Maps.string_keyed hk) ht hz (plainElem_bool he false) (WideMaps.keyOf_string_mk hk hs)
  obtain ⟨x, rfl, e2⟩ := plainElem_bool_inv he hv
  rw [hD s.data.toList] at e2
  injection e2 with e2 _
  injection e2 with e2
  injection e2 with e2
  rw [hrun, e2]
theorem str_ne {c d : Txt} (h : c ≠ d) : Lit.string c ≠ Lit.string d := fun e => h (by injection e)
theorem StrSet.put {D : DataW Unit} {c : Txt} (hm : Maps.IsMap D) (hD : ∀ x : Txt, D.atKey (.string x) (.lit (.bool false)) = .lit (.bool (decide (x ∈ S)))) (hh : ∀ x : Txt, Maps.has D (.string x) = decide (x ∈ S))
    (h2 : w'.ownsMap P k (plainElem P e) b (n + 1) (D.put (.string c) (.lit (.bool true)))) : StrSet P k e w' b (n + 1) (S ++ [c]) := by
  refine ⟨_, h2, hm.put _ _, fun d => ?_, fun d => ?_⟩
  · by_cases hd : d = c
    · subst hd
      rw [Maps.atKey_put_same hm (show WideAt.IsKeyLit (.string d) from trivial)]
      simp
    · rw [Maps.atKey_put_other (str_ne hd), hD d]
      simp [hd]
  · by_cases hd : d = c
    · subst hd
      rw [Maps.has_put_same hm (show WideAt.IsKeyLit (.string d) from trivial)]
      simp
    · rw [Maps.has_put_other (str_ne hd), hh d]
      simp [hd]
/-- a text is laid into the set: at the operation -/
theorem wpList_str_put {ops : Array Oper} {rest : List Oper} {o : Oper} {a : Act} {Q : Exit → Act → World → Prop} (hg : o.guard = none) (m x v : Operand) (t : TypeId) (hop : o.op = Op.mapUpdate t m x v)
    (hk : P.underlying k = some .string) (he : P.underlying e = some .bool) (ht : P.underlying t = some (.map k e)) (h : StrSet P k e w b n S) (hn : n < maxLen) (s : ByteArray) (hs : s.size ≤ maxLen)
    (hm : a.eval m = .map (some b)) (hx : a.eval x = .string s) (hv : a.eval v = .bool true)
    (hK : ∀ w', StrSet P k e w' b (n + 1) (S ++ [s.data.toList]) → w.grownBy w' (some b) → wpList P ops Q rest (a.put o.dst undef) w') : wpList P ops Q (o :: rest) a w := by
  obtain ⟨D, h, hM, hD, hh⟩ := h
  exact wpList_mapUpdate_own w hg m x v t hop k e (Maps.string_keyed hk) ht _ b n D hm h hn _ _ _ hx hv (WideMaps.keyOf_string_mk hk hs) _ [] (plainElem_bool he true) fun w' h2 g2 => hK w' (StrSet.put hM hD hh h2) g2
/-- the same for an entry of a map that is written out -/
theorem wpList_str_ins {ops : Array Oper} {rest : List Oper} {o : Oper} {a : Act} {Q : Exit → Act → World → Prop} (hg : o.guard = none) (m x v : Operand) (t : TypeId) (hop : o.op = Op.insert t m x v)
    (hk : P.underlying k = some .string) (he : P.underlying e = some .bool) (ht : P.underlying t = some (.map k e)) (h : StrSet P k e w b n S) (hn : n < maxLen) (s : ByteArray) (hs : s.size ≤ maxLen)
    (hm : a.eval m = .map (some b)) (hx : a.eval x = .string s) (hv : a.eval v = .bool true)
    (hK : ∀ w', StrSet P k e w' b (n + 1) (S ++ [s.data.toList]) → w.grownBy w' (some b) → wpList P ops Q rest (a.put o.dst undef) w') : wpList P ops Q (o :: rest) a w := by
  obtain ⟨D, h, hM, hD, hh⟩ := h
  refine wpList_plain hg fun K' hK' => ?_
  obtain ⟨w', hrun, r1, r2⟩ := h.update (Maps.string_keyed hk) ht hn (WideMaps.keyOf_string_mk hk hs) (plainElem_bool he true)
  unfold Oper.wp
  simp [execOp, hop, hm, hx, hv, hrun, Result.andThen]
  exact hK' _ _ (hK w' (StrSet.put hM hD hh r1) r2)
/-- the keys of the set, each once -/
theorem StrSet.keys {D : DataW Unit} (h : w.ownsMap P k (plainElem P e) b n D) (hk : P.underlying k = some .string) (hh : ∀ x : Txt, Maps.has D (.string x) = decide (x ∈ S)) {ss : List Txt} (hp : ss.Perm (strKeys D)) : ss.Nodup ∧ ∀ x, x ∈ ss ↔ x ∈ S := by
  obtain ⟨es, hD, hpw, _⟩ := h.entries (Maps.string_keyed hk)
  obtain ⟨es', hD', hko⟩ := h.keysOf
  obtain rfl : es = es' := by rw [hD] at hD'; simpa using hD'
  subst hD
  have hs : ∀ p ∈ es, ∃ x, p.1 = .string x := fun p hp => by obtain ⟨v, hv⟩ := hko p hp; obtain ⟨x, _, hx, _⟩ := Maps.keyOf_str hk hv; exact ⟨x, hx⟩
  constructor
  · refine hp.nodup_iff.2 ?_
    show (es.map fun p => strOf p.1).Nodup
    refine List.pairwise_map.2 (hpw.imp_of_mem fun {p q} hp' hq' hne e => hne ?_)
    obtain ⟨a, ha⟩ := hs p hp'
    obtain ⟨b, hb⟩ := hs q hq'
    rw [ha, hb] at e ⊢
    exact congrArg _ e
  · intro x
    rw [hp.mem_iff]
    have h1 := hh x
    rw [Maps.has_eq] at h1
    have h2 : (es.any fun p => p.1.sameKey (.string x)) = true ↔ x ∈ S := by rw [h1]; simp
    rw [← h2, List.any_eq_true]
    show x ∈ es.map (fun p => strOf p.1) ↔ _
    rw [List.mem_map]
    constructor
    · rintro ⟨p, hp', rfl⟩
      obtain ⟨a, ha⟩ := hs p hp'
      exact ⟨p, hp', by rw [ha]; simp [Lit.sameKey, strOf]⟩
    · rintro ⟨p, hp', hs'⟩
      obtain ⟨a, ha⟩ := hs p hp'
      rw [ha] at hs'
      exact ⟨p, hp', by rw [ha]; simpa [Lit.sameKey, strOf] using hs'⟩
end
end Go.Proofs.Ythfbpbbepogllaa
/- The walks of Currencies, of its reference, of 'same', of the law's own 'awake'. -/
namespace Go.Proofs.Ythfbpbbepogllaa
set_option linter.unusedVariables false
set_option linter.unusedSimpArgs false
open Go.RowKit
open Go.Maps (Keyed)

theorem str_info : (Try.prog.info? 9).map (fun i => (i.zero, i.size, i.bytes)) = some (some (.string ⟨#[]⟩), 1, 16) := by kernel_rfl
def OwnStrs (base : Nat) (L : List Txt) (w : World) (e : Ending) (w' : World) : Prop :=
  ∃ v, e = .returned v ∧ w'.ownsRow base 9 1 v L.length (L.map encStr) ∧ Below w.heap.size w w'
def curs (el : List EntR) : List Txt := el.map fun x => x.currency.data.toList
theorem curs_take (el : List EntR) (k : Nat) (h : k < el.length) : curs (el.take (k + 1)) = curs (el.take k) ++ [el[k].currency.data.toList] := by
  unfold curs
  rw [List.take_succ_eq_append_getElem h, List.map_append]; rfl
theorem curs_len (el : List EntR) : (curs el).length = el.length := by unfold curs; rw [List.length_map]
section
variable (cur : ByteArray) (y m p : Int) (cl : List Acc) (cA : Option Addr) (cc : Nat) (ro : RolesR) (el : List EntR) (eA : Option Addr) (ec : Nat) (w : World)
end
end Go.Proofs.Ythfbpbbepogllaa
/- The walks of the reference's with and Currencies, of 'same', of the law's own 'awake'. -/
namespace Go.Proofs.Ythfbpbbepogllaa
set_option linter.unusedVariables false
set_option linter.unusedSimpArgs false
open Go.RowKit

theorem one_str (s : ByteArray) : ∀ u ∈ [Value.string s], u.oneCell' = true := by
  intro u hu
  simp only [List.mem_cons, List.not_mem_nil, or_false] at hu
  subst hu
  rfl
theorem enc_bytes (t : Txt) : (⟨t.toArray⟩ : ByteArray).toList = t := by rw [ByteArray.toList_eq]
theorem bytes_enc (s : ByteArray) : Value.string s = encStr s.data.toList := by simp [encStr]
/-- where the texts of a list lie -/
theorem txt_at {w : World} {B : Nat} {A : Option Addr} {l : List Txt} (h : Rd w B 1 A l.length (l.map encStr)) {k : Nat} (hk : k < l.length) :
    ∃ (b o : Nat) (s : ByteArray), A = some ⟨b, o, none⟩ ∧ b < B ∧ w.cell? ⟨b, o + k, none⟩ = some (.string s) ∧ s.toList = l[k] ∧ s.data.toList = l[k] := by
  obtain ⟨b, o, e, hb, hc⟩ := h.2 (by omega)
  refine ⟨b, o, ⟨l[k].toArray⟩, e, hb, hc k _ (by rw [List.getElem?_map, List.getElem?_eq_getElem hk]; rfl), enc_bytes _, rfl⟩
theorem beq_is (a b : Txt) : (a == b) = decide (a = b) := by by_cases h : a = b <;> simp [h]
theorem less_is (a b : Txt) : Op.bytesLess a b = decide (¬ b ≤ a) := by
  rw [bytesLess_eq]
  rw [decide_eq_decide]
  exact List.not_le.symm
theorem own_snoc {w : World} {base : Nat} {e : TypeId} {v : Value} {out : List Txt} {s : ByteArray} (h : w.ownsRow base e 1 v (out.length + 1) (out.map encStr ++ [.string s])) : w.ownsRow base e 1 v (out ++ [s.data.toList]).length ((out ++ [s.data.toList]).map encStr) := by
  rw [List.map_append, List.length_append]
  have e : List.map encStr [s.data.toList] = [.string s] := by rw [bytes_enc s]; rfl
  rw [e]; exact h
def WithIn (S : Txt) (L out : List Txt) (k : Nat) (done : Bool) : Prop := out ++ withGo S (L.drop k) done = withGo S L false
theorem with_start (S : Txt) (L : List Txt) : WithIn S L [] 0 false := rfl
theorem with_step {S : Txt} {L out : List Txt} {k : Nat} {done : Bool} (h : WithIn S L out k done) (hk : k < L.length) :
    WithIn S L (out ++ (if S ≤ L[k] ∧ done = false then [S] else []) ++ (if L[k] = S then [] else [L[k]])) (k + 1) (done || decide (S ≤ L[k])) := by
  unfold WithIn at h ⊢
  rw [with_drop S L k hk] at h
  rw [← h]
  simp only [List.append_assoc]
theorem with_end {S : Txt} {L out : List Txt} {k : Nat} {done : Bool} (h : WithIn S L out k done) (hk : L.length ≤ k) : withL L S = out ++ (if done then [] else [S]) := by
  unfold WithIn at h
  rw [List.drop_of_length_le hk] at h
  unfold withL
  rw [← h]
  rfl
end Go.Proofs.Ythfbpbbepogllaa
/- The walks of the reference's Currencies, of 'same', of the law's own 'awake', of Few. -/
namespace Go.Proofs.Ythfbpbbepogllaa
set_option linter.unusedVariables false
set_option linter.unusedSimpArgs false
open Go.RowKit

def RdStrs (L : List Txt) (w : World) (e : Ending) (w' : World) : Prop :=
  ∃ A c, e = .returned (.slice A L.length c) ∧ Rd w' w'.heap.size 1 A L.length (L.map encStr) ∧ Below w.heap.size w w'
section
variable (cur : ByteArray) (y m p : Int) (cl : List Acc) (cA : Option Addr) (cc : Nat) (ro : RolesR) (el : List EntR) (eA : Option Addr) (ec : Nat) (w : World)
end
end Go.Proofs.Ythfbpbbepogllaa
