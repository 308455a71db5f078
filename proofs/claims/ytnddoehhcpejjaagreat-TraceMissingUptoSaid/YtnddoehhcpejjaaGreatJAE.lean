/- Texts of this claim, put together. -/
import Derived.Test.YtnddoehhcpejjaaGreatJAD
import Derived.Test.YtnddoehhcpejjaaGreatChecked
import Derived.Test.YtnddoehhcpejjaaGreatJAA
import Derived.StringKeys
import Derived.Laws.Cover1
import Derived.Sort.Walk0
import Derived.BigFrame
import Derived.Laws.Rows
import Derived.Laws.Tables
/- The walks of Find and of its reference, of Few. -/
namespace Go.Proofs.YtnddoehhcpejjaaGreat
set_option linter.unusedVariables false
set_option linter.unusedSimpArgs false
open Go.RowKit

/-- the number of the first one, or -1 -/
def fidx {α : Type} (q : α → Bool) (l : List α) : Int := match l.findIdx? q with | some i => (i : Int) | none => -1
section
variable {α : Type} {q : α → Bool} {l : List α}
theorem fidx_hit (k : Nat) (hk : k < l.length) (h : ∀ j (hj : j < k), q (l[j]'(by omega)) = false) (hq : q l[k] = true) : fidx q l = k := by
  unfold fidx
  have : l.findIdx? q = some k := by
    rw [List.findIdx?_eq_some_iff_getElem]
    exact ⟨hk, hq, fun j hj => by simp [h j hj]⟩
  rw [this]
theorem fidx_miss (h : ∀ j (hj : j < l.length), q l[j] = false) : fidx q l = -1 := by
  unfold fidx
  have : l.findIdx? q = none := by
    rw [List.findIdx?_eq_none_iff]
    intro x hx
    obtain ⟨j, hj, rfl⟩ := List.mem_iff_getElem.1 hx
    exact h j hj
  rw [this]
end
def nameIs (s : ByteArray) (x : EntR) : Bool := x.name.toList == s.toList
/-- what the walks of groups need to know of one -/
structure GIn (w : World) (cl : List Acc) (cA : Option Addr) (el : List EntR) (eA : Option Addr) : Prop where
  ch : Rd w w.heap.size 4 cA cl.length (Ch.cells cl)
  en : Rd w w.heap.size 5 eA el.length (cellsOf EntR.cells el)
  ok : ∀ x ∈ el, x.Ok w
  wf : ∀ a ∈ cl, (Lit.int .i64 a.code).wf = true
theorem GIn.step {w w2 : World} {cl : List Acc} {cA : Option Addr} {el : List EntR} {eA : Option Addr} (h : GIn w cl cA el eA) (hb : Below w.heap.size w w2) : GIn w2 cl cA el eA :=
  ⟨Rd.now h.ch hb, Rd.now h.en hb, fun x hx => (h.ok x hx).step hb, h.wf⟩
section
variable (cur : ByteArray) (y m p : Int) (cl : List Acc) (cA : Option Addr) (cc : Nat) (ro : RolesR) (el : List EntR) (eA : Option Addr) (ec : Nat) (w : World)
def fndI (el : List EntR) (s : ByteArray) : Int := if 0 ≤ fidx (nameIs s) el then fidx (nameIs s) el else 0
def fndB (el : List EntR) (s : ByteArray) : Bool := decide (0 ≤ fidx (nameIs s) el)
set_option maxRecDepth 100000 in
set_option maxHeartbeats 1000000 in
theorem grfind_any (s : ByteArray) (h : GIn w cl cA el eA) (hn : el.length ≤ 1000000) :
    Calls Tryz.prog 72 #[.agg #[.string cur, .int .i64 y, .int .i64 m, .int .i64 p, .slice cA cl.length cc, .int .i64 ro.investment, .int .i64 ro.goodwill, .int .i64 ro.associates, .int .i64 ro.inventory, .int .i64 ro.reserve, .int .i64 ro.minority, .int .i64 ro.retained, .int .i64 ro.acquired, .int .i64 ro.owners, .int .i64 ro.disposal, .int .i64 ro.associateProfit, .int .i64 ro.dividends, .int .i64 ro.minorityProfit, .int .i64 ro.difference, .int .i64 ro.margin, .slice eA el.length ec], .string s] w (fun e w' => e = .returned (.tuple #[.int .i64 (fndI el s), .bool (fndB el s)]) ∧ Below w.heap.size w w') := by
  have H := Lib.hid h
  clear h
  have hb : Below w.heap.size w (w.alloc (.cells #[.string cur, .int .i64 y, .int .i64 m, .int .i64 p, .slice cA cl.length cc, .int .i64 ro.investment, .int .i64 ro.goodwill, .int .i64 ro.associates, .int .i64 ro.inventory, .int .i64 ro.reserve, .int .i64 ro.minority, .int .i64 ro.retained, .int .i64 ro.acquired, .int .i64 ro.owners, .int .i64 ro.disposal, .int .i64 ro.associateProfit, .int .i64 ro.dividends, .int .i64 ro.minorityProfit, .int .i64 ro.difference, .int .i64 ro.margin, .slice eA el.length ec] 29)) := (Below.refl _ _).alloc (Nat.le_refl _) _
  have HB := Lib.hid (Blk.new w 29 #[.string cur, .int .i64 y, .int .i64 m, .int .i64 p, .slice cA cl.length cc, .int .i64 ro.investment, .int .i64 ro.goodwill, .int .i64 ro.associates, .int .i64 ro.inventory, .int .i64 ro.reserve, .int .i64 ro.minority, .int .i64 ro.retained, .int .i64 ro.acquired, .int .i64 ro.owners, .int .i64 ro.disposal, .int .i64 ro.associateProfit, .int .i64 ro.dividends, .int .i64 ro.minorityProfit, .int .i64 ro.difference, .int .i64 ro.margin, .slice eA el.length ec])
  obtain ⟨W, hW⟩ : ∃ W, W = w.alloc (.cells #[.string cur, .int .i64 y, .int .i64 m, .int .i64 p, .slice cA cl.length cc, .int .i64 ro.investment, .int .i64 ro.goodwill, .int .i64 ro.associates, .int .i64 ro.inventory, .int .i64 ro.reserve, .int .i64 ro.minority, .int .i64 ro.retained, .int .i64 ro.acquired, .int .i64 ro.owners, .int .i64 ro.disposal, .int .i64 ro.associateProfit, .int .i64 ro.dividends, .int .i64 ro.minorityProfit, .int .i64 ro.difference, .int .i64 ro.margin, .slice eA el.length ec] 29) := ⟨_, rfl⟩
  have HW := Lib.hid hW
  rw [← hW] at hb HB
  clear hW
  have e4 : W.cell? ⟨w.heap.size, 20, none⟩ = some (.slice eA el.length ec) := HB.out.cell 20
  have HI := Rd.now H.out.en hb
  have HII := Lib.hid HI
  clear HI
  go_enter Tryz.func72, Tryz.ntmps72
  go_wp2_with fail
  rw [← HW.out]
  clear HW
  go_loopw [6] (fun t wr => ∃ k : Nat, k ≤ el.length ∧ (∀ j (h : j < k) (h1 : j < el.length), nameIs s (el[j]'h1) = false) ∧ t = .int .i64 k ∧ W = wr) (fun t _ => el.length - (intOf t).toNat)
  case atStart => exact ⟨0, by omega, fun j h => by omega, rfl, rfl⟩
  case round =>
    obtain ⟨k, hk, hno, rfl, rfl⟩ := hrel
    have HN := Lib.hid hno
    clear hno
    by_cases hlt : k < el.length
    · obtain ⟨b, o, hA, hbo, f0, f1, f2, f3, f4⟩ := EntR.at_ HII.out hlt
      subst hA
      cases hq : (el[k].name.toList == s.toList)
      · have HQ : Hid (nameIs s el[k] = false) := Lib.hid hq
        go_wp2_with fail
        go_roundw
        case rel =>
          refine ⟨k + 1, by omega, fun j h h1 => ?_, by go_num, trivial⟩
          by_cases e : j = k
          · subst e; exact HQ.out
          · exact HN.out j (by omega) h1
        case measure => simp [intOf]; omega
      · have HE : Hid (fidx (nameIs s) el = k) := Lib.hid (fidx_hit k hlt (fun j hj => HN.out j hj (by omega)) hq)
        go_wp2_with fail
        go_ret2
        exact ⟨by unfold fndI fndB; rw [HE.out]; simp, hb⟩
    · have HE : Hid (fidx (nameIs s) el = -1) := Lib.hid (fidx_miss fun j hj => HN.out j (by omega) hj)
      go_wp2_with fail
      go_ret2
      exact ⟨by unfold fndI fndB; rw [HE.out]; simp, hb⟩
end
end Go.Proofs.YtnddoehhcpejjaaGreat
/- A set of texts of the call's own, as a map. Over any program. -/
namespace Go.Proofs.YtnddoehhcpejjaaGreat
set_option linter.unusedVariables false
set_option linter.unusedSimpArgs false
open Go.RowKit

/-- Block b is a map of at most n entries that says true of just the texts of S. -/
def StrSet (P : Program) (k e : TypeId) (w : World) (b n : Nat) (S : List Txt) : Prop :=
  ∃ D : DataW Unit, w.ownsMap P k (plainElem P e) b n D ∧ Maps.IsMap D ∧ (∀ x : Txt, D.atKey (.string x) (.lit (.bool false)) = .lit (.bool (decide (x ∈ S)))) ∧ ∀ x : Txt, Maps.has D (.string x) = decide (x ∈ S)
section
variable {P : Program} {k e t : TypeId} {w w' : World} {b n : Nat} {S : List Txt}
theorem StrSet.made (w : World) : StrSet P k e (w.alloc (.map #[] 0)) w.heap.size 0 [] := ⟨.map [], World.ownsMap_made _ _ _ _, Maps.isMap_empty, fun _ => by simp [DataW.atKey], fun _ => by simp [Maps.has_eq]⟩
theorem StrSet.lt (h : StrSet P k e w b n S) : b < w.heap.size := by obtain ⟨D, h, _⟩ := h; exact h.lt
theorem StrSet.kept {row : Option Nat} (h : StrSet P k e w b n S) (hg : w.grownBy w' row) (hne : some b ≠ row) : StrSet P k e w' b n S := by obtain ⟨D, h, r⟩ := h; exact ⟨D, h.kept hg hne, r⟩
theorem StrSet.step (h : StrSet P k e w b n S) (hb : Below w.heap.size w w') : StrSet P k e w' b n S := h.kept (grown_below hb none) (by simp)
theorem StrSet.alloc (h : StrSet P k e w b n S) (o : Obj) : StrSet P k e (w.alloc o) b n S := h.kept (World.grownBy_alloc w o none) (by simp)
/-- the look-up -/
theorem StrSet.look (h : StrSet P k e w b n S) (hk : P.underlying k = some .string) (he : P.underlying e = some .bool) (ht : P.underlying t = some (.map k e)) (hz : (zeroValue e).run P w = .ok (.bool false) w)
    {s : ByteArray} (hs : s.size ≤ maxLen) : (Instr.lookup t (.map (some b)) (.string s) false).run P w = .ok (.bool (decide (s.data.toList ∈ S))) w := by
  obtain ⟨D, h, _, hD, _⟩ := h
  obtain ⟨v, ps, hrun, hv⟩ := h.lookup (Maps.string_keyed hk) ht hz (plainElem_bool he false) (WideMaps.keyOf_string_mk hk hs)
  obtain ⟨x, rfl, e2⟩ := plainElem_bool_inv he hv
  rw [hD s.data.toList] at e2
  injection e2 with e2 _
  injection e2 with e2
  injection e2 with e2
  rw [hrun, e2]
theorem str_ne {c d : Txt} (h : c ≠ d) : Lit.string c ≠ Lit.string d := fun e => h (by injection e)
theorem StrSet.put {D : DataW Unit} {c : Txt} (hm : Maps.IsMap D) (hD : ∀ x : Txt, D.atKey (.string x) (.lit (.bool false)) = .lit (.bool (decide (x ∈ S)))) (hh : ∀ x : Txt, Maps.has D (.string x) = decide (x ∈ S))
    (h2 : w'.ownsMap P k (plainElem P e) b (n + 1) (D.put (.string c) (.lit (.bool true)))) : StrSet P k e w' b (n + 1) (S ++ [c]) := by
  refine ⟨_, h2, hm.put _ _, fun d => ?_, fun d => ?_⟩
  · by_cases hd : d = c
    · subst hd
      rw [Maps.atKey_put_same hm (show WideAt.IsKeyLit (.string d) from trivial)]
      simp
    · rw [Maps.atKey_put_other (str_ne hd), hD d]
      simp [hd]
  · by_cases hd : d = c
    · subst hd
      rw [Maps.has_put_same hm (show WideAt.IsKeyLit (.string d) from trivial)]
      simp
    · rw [Maps.has_put_other (str_ne hd), hh d]
      simp [hd]
/-- a text is laid into the set: at the operation -/
theorem wpList_str_put {ops : Array Oper} {rest : List Oper} {o : Oper} {a : Act} {Q : Exit → Act → World → Prop} (hg : o.guard = none) (m x v : Operand) (t : TypeId) (hop : o.op = Op.mapUpdate t m x v)
    (hk : P.underlying k = some .string) (he : P.underlying e = some .bool) (ht : P.underlying t = some (.map k e)) (h : StrSet P k e w b n S) (hn : n < maxLen) (s : ByteArray) (hs : s.size ≤ maxLen)
    (hm : a.eval m = .map (some b)) (hx : a.eval x = .string s) (hv : a.eval v = .bool true)
    (hK : ∀ w', StrSet P k e w' b (n + 1) (S ++ [s.data.toList]) → w.grownBy w' (some b) → wpList P ops Q rest (a.put o.dst undef) w') : wpList P ops Q (o :: rest) a w := by
  obtain ⟨D, h, hM, hD, hh⟩ := h
  exact wpList_mapUpdate_own w hg m x v t hop k e (Maps.string_keyed hk) ht _ b n D hm h hn _ _ _ hx hv (WideMaps.keyOf_string_mk hk hs) _ [] (plainElem_bool he true) fun w' h2 g2 => hK w' (StrSet.put hM hD hh h2) g2
/-- the same for an entry of a map that is written out -/
theorem wpList_str_ins {ops : Array Oper} {rest : List Oper} {o : Oper} {a : Act} {Q : Exit → Act → World → Prop} (hg : o.guard = none) (m x v : Operand) (t : TypeId) (hop : o.op = Op.insert t m x v)
    (hk : P.underlying k = some .string) (he : P.underlying e = some .bool) (ht : P.underlying t = some (.map k e)) (h : StrSet P k e w b n S) (hn : n < maxLen) (s : ByteArray) (hs : s.size ≤ maxLen)
    (hm : a.eval m = .map (some b)) (hx : a.eval x = .string s) (hv : a.eval v = .bool true)
    (hK : ∀ w', StrSet P k e w' b (n + 1) (S ++ [s.data.toList]) → w.grownBy w' (some b) → wpList P ops Q rest (a.put o.dst undef) w') : wpList P ops Q (o :: rest) a w := by
  obtain ⟨D, h, hM, hD, hh⟩ := h
  refine wpList_plain hg fun K' hK' => ?_
  obtain ⟨w', hrun, r1, r2⟩ := h.update (Maps.string_keyed hk) ht hn (WideMaps.keyOf_string_mk hk hs) (plainElem_bool he true)
  unfold Oper.wp
  simp [execOp, hop, hm, hx, hv, hrun, Result.andThen]
  exact hK' _ _ (hK w' (StrSet.put hM hD hh r1) r2)
/-- the keys of the set, each once -/
theorem StrSet.keys {D : DataW Unit} (h : w.ownsMap P k (plainElem P e) b n D) (hk : P.underlying k = some .string) (hh : ∀ x : Txt, Maps.has D (.string x) = decide (x ∈ S)) {ss : List Txt} (hp : ss.Perm (strKeys D)) : ss.Nodup ∧ ∀ x, x ∈ ss ↔ x ∈ S := by
  obtain ⟨es, hD, hpw, _⟩ := h.entries (Maps.string_keyed hk)
  obtain ⟨es', hD', hko⟩ := h.keysOf
  obtain rfl : es = es' := by rw [hD] at hD'; simpa using hD'
  subst hD
  have hs : ∀ p ∈ es, ∃ x, p.1 = .string x := fun p hp => by obtain ⟨v, hv⟩ := hko p hp; obtain ⟨x, _, hx, _⟩ := Maps.keyOf_str hk hv; exact ⟨x, hx⟩
  constructor
  · refine hp.nodup_iff.2 ?_
    show (es.map fun p => strOf p.1).Nodup
    refine List.pairwise_map.2 (hpw.imp_of_mem fun {p q} hp' hq' hne e => hne ?_)
    obtain ⟨a, ha⟩ := hs p hp'
    obtain ⟨b, hb⟩ := hs q hq'
    rw [ha, hb] at e ⊢
    exact congrArg _ e
  · intro x
    rw [hp.mem_iff]
    have h1 := hh x
    rw [Maps.has_eq] at h1
    have h2 : (es.any fun p => p.1.sameKey (.string x)) = true ↔ x ∈ S := by rw [h1]; simp
    rw [← h2, List.any_eq_true]
    show x ∈ es.map (fun p => strOf p.1) ↔ _
    rw [List.mem_map]
    constructor
    · rintro ⟨p, hp', rfl⟩
      obtain ⟨a, ha⟩ := hs p hp'
      exact ⟨p, hp', by rw [ha]; simp [Lit.sameKey, strOf]⟩
    · rintro ⟨p, hp', hs'⟩
      obtain ⟨a, ha⟩ := hs p hp'
      rw [ha] at hs'
      exact ⟨p, hp', by rw [ha]; simpa [Lit.sameKey, strOf] using hs'⟩
end
end Go.Proofs.YtnddoehhcpejjaaGreat
/- The walks of Currencies, of its reference, of 'same', of the law's own 'awake'. -/
namespace Go.Proofs.YtnddoehhcpejjaaGreat
set_option linter.unusedVariables false
set_option linter.unusedSimpArgs false
open Go.RowKit
open Go.Maps (Keyed)

theorem str_info : (Tryz.prog.info? 9).map (fun i => (i.zero, i.size, i.bytes)) = some (some (.string ⟨#[]⟩), 1, 16) := by kernel_rfl
def OwnStrs (base : Nat) (L : List Txt) (w : World) (e : Ending) (w' : World) : Prop :=
  ∃ v, e = .returned v ∧ w'.ownsRow base 9 1 v L.length (L.map encStr) ∧ Below w.heap.size w w'
def curs (el : List EntR) : List Txt := el.map fun x => x.currency.data.toList
theorem curs_take (el : List EntR) (k : Nat) (h : k < el.length) : curs (el.take (k + 1)) = curs (el.take k) ++ [el[k].currency.data.toList] := by
  unfold curs
  rw [List.take_succ_eq_append_getElem h, List.map_append]; rfl
theorem curs_len (el : List EntR) : (curs el).length = el.length := by unfold curs; rw [List.length_map]
section
variable (cur : ByteArray) (y m p : Int) (cl : List Acc) (cA : Option Addr) (cc : Nat) (ro : RolesR) (el : List EntR) (eA : Option Addr) (ec : Nat) (w : World)
end
end Go.Proofs.YtnddoehhcpejjaaGreat
/- The walks of the reference's with and Currencies, of 'same', of the law's own 'awake'. -/
namespace Go.Proofs.YtnddoehhcpejjaaGreat
set_option linter.unusedVariables false
set_option linter.unusedSimpArgs false
open Go.RowKit

theorem one_str (s : ByteArray) : ∀ u ∈ [Value.string s], u.oneCell' = true := by
  intro u hu
  simp only [List.mem_cons, List.not_mem_nil, or_false] at hu
  subst hu
  rfl
theorem enc_bytes (t : Txt) : (⟨t.toArray⟩ : ByteArray).toList = t := by rw [ByteArray.toList_eq]
theorem bytes_enc (s : ByteArray) : Value.string s = encStr s.data.toList := by simp [encStr]
/-- where the texts of a list lie -/
theorem txt_at {w : World} {B : Nat} {A : Option Addr} {l : List Txt} (h : Rd w B 1 A l.length (l.map encStr)) {k : Nat} (hk : k < l.length) :
    ∃ (b o : Nat) (s : ByteArray), A = some ⟨b, o, none⟩ ∧ b < B ∧ w.cell? ⟨b, o + k, none⟩ = some (.string s) ∧ s.toList = l[k] ∧ s.data.toList = l[k] := by
  obtain ⟨b, o, e, hb, hc⟩ := h.2 (by omega)
  refine ⟨b, o, ⟨l[k].toArray⟩, e, hb, hc k _ (by rw [List.getElem?_map, List.getElem?_eq_getElem hk]; rfl), enc_bytes _, rfl⟩
theorem beq_is (a b : Txt) : (a == b) = decide (a = b) := by by_cases h : a = b <;> simp [h]
theorem less_is (a b : Txt) : Op.bytesLess a b = decide (¬ b ≤ a) := by
  rw [bytesLess_eq]
  rw [decide_eq_decide]
  exact List.not_le.symm
theorem own_snoc {w : World} {base : Nat} {e : TypeId} {v : Value} {out : List Txt} {s : ByteArray} (h : w.ownsRow base e 1 v (out.length + 1) (out.map encStr ++ [.string s])) : w.ownsRow base e 1 v (out ++ [s.data.toList]).length ((out ++ [s.data.toList]).map encStr) := by
  rw [List.map_append, List.length_append]
  have e : List.map encStr [s.data.toList] = [.string s] := by rw [bytes_enc s]; rfl
  rw [e]; exact h
def WithIn (S : Txt) (L out : List Txt) (k : Nat) (done : Bool) : Prop := out ++ withGo S (L.drop k) done = withGo S L false
theorem with_start (S : Txt) (L : List Txt) : WithIn S L [] 0 false := rfl
theorem with_step {S : Txt} {L out : List Txt} {k : Nat} {done : Bool} (h : WithIn S L out k done) (hk : k < L.length) :
    WithIn S L (out ++ (if S ≤ L[k] ∧ done = false then [S] else []) ++ (if L[k] = S then [] else [L[k]])) (k + 1) (done || decide (S ≤ L[k])) := by
  unfold WithIn at h ⊢
  rw [with_drop S L k hk] at h
  rw [← h]
  simp only [List.append_assoc]
theorem with_end {S : Txt} {L out : List Txt} {k : Nat} {done : Bool} (h : WithIn S L out k done) (hk : L.length ≤ k) : withL L S = out ++ (if done then [] else [S]) := by
  unfold WithIn at h
  rw [List.drop_of_length_le hk] at h
  unfold withL
  rw [← h]
  rfl
end Go.Proofs.YtnddoehhcpejjaaGreat
/- The walks of the reference's Currencies, of 'same', of the law's own 'awake', of Few. -/
namespace Go.Proofs.YtnddoehhcpejjaaGreat
set_option linter.unusedVariables false
set_option linter.unusedSimpArgs false
open Go.RowKit

def RdStrs (L : List Txt) (w : World) (e : Ending) (w' : World) : Prop :=
  ∃ A c, e = .returned (.slice A L.length c) ∧ Rd w' w'.heap.size 1 A L.length (L.map encStr) ∧ Below w.heap.size w w'
section
variable (cur : ByteArray) (y m p : Int) (cl : List Acc) (cA : Option Addr) (cc : Nat) (ro : RolesR) (el : List EntR) (eA : Option Addr) (ec : Nat) (w : World)
end
end Go.Proofs.YtnddoehhcpejjaaGreat
/- The walks of the law's own 'awake', of Few. -/
namespace Go.Proofs.YtnddoehhcpejjaaGreat
set_option linter.unusedVariables false
set_option linter.unusedSimpArgs false
open Go.RowKit

def sCHF : ByteArray := ⟨#[67, 72, 70]⟩
def sEUR : ByteArray := ⟨#[69, 85, 82]⟩
def sUSD : ByteArray := ⟨#[85, 83, 68]⟩
def sEnt (s : ByteArray) : EntR := ⟨⟨#[]⟩, s, ⟨[], none, 0⟩, ⟨[], none, 0⟩, false⟩
def ro0 : RolesR := ⟨0, 0, 0, 0, 0, 0, 0, 0, 0, 0, 0, 0, 0, 0, 0⟩
theorem sEnt_ok (s : ByteArray) (h : s.size ≤ maxLen) (w : World) : (sEnt s).Ok w :=
  ⟨(by decide : (⟨#[]⟩ : ByteArray).size ≤ maxLen), h, ⟨⟨Rd.none_, by simp [sEnt], by simp [sEnt, maxLen]⟩, fun y hy => by simp [sEnt] at hy⟩, ⟨⟨Rd.none_, by simp [sEnt], by simp [sEnt, maxLen]⟩, fun y hy => by simp [sEnt] at hy⟩, trivial⟩
theorem sCur : curL sEUR.data.toList (curs [sEnt sUSD, sEnt sEUR, sEnt sCHF]) = [[67, 72, 70], [69, 85, 82], [85, 83, 68]] := by decide +kernel
/-- what Few asks for -/
structure FewOk (cur : ByteArray) (cl : List Acc) (el : List EntR) : Prop where
  ch : cl.length ≤ 300
  en : el.length ≤ 20
  cur : cur.size ≤ maxLen
  ents : ∀ j (h : j < el.length), el[j].chart.l.length ≤ 300000 ∧ el[j].links.l.length ≤ 300000
section
variable (cur : ByteArray) (y m p : Int) (cl : List Acc) (cA : Option Addr) (cc : Nat) (ro : RolesR) (el : List EntR) (eA : Option Addr) (ec : Nat) (w : World)
def MayPost' (p : Prop) (w : World) (e : Ending) (w' : World) : Prop := ∃ b : Bool, e = .returned (.bool b) ∧ Below w.heap.size w w' ∧ (b = true → p)
set_option maxRecDepth 100000 in
set_option maxHeartbeats 4000000 in
theorem few_any (h : GIn w cl cA el eA) (hc : cur.size ≤ maxLen) (hcl : cl.length ≤ maxLen) (hel : el.length ≤ maxLen) :
    Calls Tryz.prog 14 #[.agg #[.string cur, .int .i64 y, .int .i64 m, .int .i64 p, .slice cA cl.length cc, .int .i64 ro.investment, .int .i64 ro.goodwill, .int .i64 ro.associates, .int .i64 ro.inventory, .int .i64 ro.reserve, .int .i64 ro.minority, .int .i64 ro.retained, .int .i64 ro.acquired, .int .i64 ro.owners, .int .i64 ro.disposal, .int .i64 ro.associateProfit, .int .i64 ro.dividends, .int .i64 ro.minorityProfit, .int .i64 ro.difference, .int .i64 ro.margin, .slice eA el.length ec]] w (MayPost' (FewOk cur cl el) w) := by
  have H := Lib.hid h
  clear h
  have hb : Below w.heap.size w (w.alloc (.cells #[.string cur, .int .i64 y, .int .i64 m, .int .i64 p, .slice cA cl.length cc, .int .i64 ro.investment, .int .i64 ro.goodwill, .int .i64 ro.associates, .int .i64 ro.inventory, .int .i64 ro.reserve, .int .i64 ro.minority, .int .i64 ro.retained, .int .i64 ro.acquired, .int .i64 ro.owners, .int .i64 ro.disposal, .int .i64 ro.associateProfit, .int .i64 ro.dividends, .int .i64 ro.minorityProfit, .int .i64 ro.difference, .int .i64 ro.margin, .slice eA el.length ec] 29)) := (Below.refl _ _).alloc (Nat.le_refl _) _
  have HB := Lib.hid (Blk.new w 29 #[.string cur, .int .i64 y, .int .i64 m, .int .i64 p, .slice cA cl.length cc, .int .i64 ro.investment, .int .i64 ro.goodwill, .int .i64 ro.associates, .int .i64 ro.inventory, .int .i64 ro.reserve, .int .i64 ro.minority, .int .i64 ro.retained, .int .i64 ro.acquired, .int .i64 ro.owners, .int .i64 ro.disposal, .int .i64 ro.associateProfit, .int .i64 ro.dividends, .int .i64 ro.minorityProfit, .int .i64 ro.difference, .int .i64 ro.margin, .slice eA el.length ec])
  unfold maxLen at hc hcl hel
  go_enter Tryz.func14, Tryz.ntmps14
  go_wp2_with fail
  generalize hgen : w.alloc (.cells #[.string cur, .int .i64 y, .int .i64 m, .int .i64 p, .slice cA cl.length cc, .int .i64 ro.investment, .int .i64 ro.goodwill, .int .i64 ro.associates, .int .i64 ro.inventory, .int .i64 ro.reserve, .int .i64 ro.minority, .int .i64 ro.retained, .int .i64 ro.acquired, .int .i64 ro.owners, .int .i64 ro.disposal, .int .i64 ro.associateProfit, .int .i64 ro.dividends, .int .i64 ro.minorityProfit, .int .i64 ro.difference, .int .i64 ro.margin, .slice eA el.length ec] 29) = W at *
  clear hgen
  go_loopw [3] (fun t wr => ∃ k : Nat, k ≤ el.length ∧ t = .int .i64 k ∧ (∀ j (h : j < k) (h1 : j < el.length), (el[j]'h1).chart.l.length ≤ 40 ∧ (el[j]'h1).links.l.length ≤ 60) ∧ Blk wr w.heap.size 29 #[.string cur, .int .i64 y, .int .i64 m, .int .i64 p, .slice cA cl.length cc, .int .i64 ro.investment, .int .i64 ro.goodwill, .int .i64 ro.associates, .int .i64 ro.inventory, .int .i64 ro.reserve, .int .i64 ro.minority, .int .i64 ro.retained, .int .i64 ro.acquired, .int .i64 ro.owners, .int .i64 ro.disposal, .int .i64 ro.associateProfit, .int .i64 ro.dividends, .int .i64 ro.minorityProfit, .int .i64 ro.difference, .int .i64 ro.margin, .slice eA el.length ec] ∧ Below w.heap.size w wr) (fun t _ => el.length - (intOf t).toNat)
  case atStart => exact ⟨0, by omega, rfl, fun j h => by omega, HB.out, hb⟩
  case round =>
    clear hb HB
    obtain ⟨k, hk, rfl, hno, hB, hb⟩ := hrel
    have HB := Lib.hid hB
    have HN := Lib.hid hno
    have hz := hb.size
    have e0 : wr.cell? ⟨w.heap.size, 0, none⟩ = some (.string cur) := hB.cell 0
    have e2 : wr.cell? ⟨w.heap.size, 4, none⟩ = some (.slice cA cl.length cc) := hB.cell 4
    have e4 : wr.cell? ⟨w.heap.size, 20, none⟩ = some (.slice eA el.length ec) := hB.cell 20
    clear hB hno
    by_cases hlt : k < el.length
    · obtain ⟨b, o, hA, hbo, f0, f1, f2, f3, f4⟩ := EntR.at_ (Rd.now H.out.en hb) hlt
      subst hA
      have HST : Hid (el[k].chart.l.length ≤ 40 → el[k].links.l.length ≤ 60 → ∀ j (h : j < k + 1) (h1 : j < el.length), (el[j]'h1).chart.l.length ≤ 40 ∧ (el[j]'h1).links.l.length ≤ 60) := Lib.hid fun h1 h2 j hj hjl => by
        by_cases e : j = k
        · subst e; exact ⟨h1, h2⟩
        · exact HN.out j (by omega) hjl
      have HKO := Lib.hid (H.out.ok _ (List.getElem_mem hlt))
      generalize el[k] = x at *
      obtain ⟨xn, xc, ⟨l1, A1, c1⟩, ⟨l2, A2, c2⟩, xj⟩ := x
      dsimp only [Sl.val] at *
      have hk1 := HKO.out.2.2.1.1
      have hk2 := HKO.out.2.2.2.1.1
      have hn1 := Nat.le_trans hk1.2.1 hk1.2.2
      have hn2 := Nat.le_trans hk2.2.1 hk2.2.2
      dsimp only at hn1 hn2
      unfold maxLen at hn1 hn2
      clear hk1 hk2
      have hb1 : Below w.heap.size w (wr.alloc (.cells #[.string xn, .string xc, .slice A1 l1.length c1, .slice A2 l2.length c2, .bool xj] 90)) := hb.alloc hz _
      by_cases h1 : l1.length ≤ 40
      · by_cases h2 : l2.length ≤ 60
        · by_cases h3 : wrap64 ((xn.size : Int) + (xc.size : Int)) ≤ 60
          · have HR := Lib.hid (HST.out h1 h2)
            go_wp2_with fail
            go_roundw
            case rel => exact ⟨k + 1, by omega, by go_num, HR.out, HB.out.step ((Below.refl _ _).alloc (Nat.le_refl _) _), hb1⟩
            case measure => simp [intOf]; omega
          · go_wp2_with fail
            go_ret
            exact ⟨_, rfl, (by first | exact hb1 | exact hb), fun h => by first | (cases h; done) | (exfalso; simp at h; omega)⟩
        · go_wp2_with fail
          go_ret
          exact ⟨_, rfl, (by first | exact hb1 | exact hb), fun h => by first | (cases h; done) | (exfalso; simp at h; omega)⟩
      · go_wp2_with fail
        go_ret
        exact ⟨_, rfl, (by first | exact hb1 | exact hb), fun h => by first | (cases h; done) | (exfalso; simp at h; omega)⟩
    · have HE : Hid (∀ j (h : j < el.length), el[j].chart.l.length ≤ 40 ∧ el[j].links.l.length ≤ 60) := Lib.hid fun j h => HN.out j (by omega) h
      by_cases h1 : cl.length ≤ 60
      · by_cases h2 : el.length ≤ 14
        · by_cases h3 : cur.size ≤ 20
          · go_wp2_with fail
            go_ret
            exact ⟨_, rfl, hb, fun _ => ⟨by omega, by omega, by unfold maxLen; omega, fun j h => by have := HE.out j h; omega⟩⟩
          · go_wp2_with fail
            go_ret
            exact ⟨_, rfl, (by first | exact hb1 | exact hb), fun h => by first | (cases h; done) | (exfalso; simp at h; omega)⟩
        · go_wp2_with fail
          go_ret
          exact ⟨_, rfl, (by first | exact hb1 | exact hb), fun h => by first | (cases h; done) | (exfalso; simp at h; omega)⟩
      · go_wp2_with fail
        go_ret
        exact ⟨_, rfl, (by first | exact hb1 | exact hb), fun h => by first | (cases h; done) | (exfalso; simp at h; omega)⟩
end
end Go.Proofs.YtnddoehhcpejjaaGreat
/- Great structs: a block is loaded whole, its cells unseen. Over any program. -/
namespace Go.Proofs.YtnddoehhcpejjaaGreat
set_option linter.unusedVariables false
set_option linter.unusedSimpArgs false
open Go.RowKit

section
variable {P : Program} {ops : Array Oper} {w W : World} {o : Oper} {rest : List Oper} {a : Act} {g : Nat} {t T : TypeId} {cs : Array Value} {fs : Array Field}
theorem run_load_blk (x : Operand) (ho : o.op = .load T x) (hx : a.eval x = .pointer (some ⟨g, 0, none⟩)) (h : Blk w g t cs) (hu : P.underlying T = some (.struct fs))
    (hi : (P.info? T).map (·.size) = some cs.size) : (execOp a.eval o).run P w = .ok (.value (.agg cs)) w := by
  unfold execOp
  simp only [ho, hx, Instr.loadAt, Instr.sureAddr, Sem.run_bind, Sem.run_pure, Result.andThen_ok, run_loadVar_row w g t T cs (0, 0) _ h hu rfl hi]
theorem wpList_load_blk {Q : Exit → Act → World → Prop} (T : TypeId) (x : Operand) (ho : o.op = .load T x) (g : Nat) (hx : a.eval x = .pointer (some ⟨g, 0, none⟩)) (hw : Region.wanted o (yielded ops a.tmps) = true)
    (h : Blk w g t cs) (hu : P.underlying T = some (.struct fs)) (hi : (P.info? T).map (·.size) = some cs.size)
    (hK : wpList P ops Q rest (a.put o.dst (.agg cs)) w) : wpList P ops Q (o :: rest) a w :=
  BigFrame.wpList_want hw fun _ hh => wp_load_row T x ho g hx t cs (0, 0) _ h hu rfl hi (hh _ _ hK)
theorem quiet_load_blk {Q : Act → Prop} (T : TypeId) (x : Operand) (ho : o.op = .load T x) (g : Nat) (hx : a.eval x = .pointer (some ⟨g, 0, none⟩)) (hw : Region.wanted o (yielded ops a.tmps) = true)
    (h : Blk W g t cs) (hu : P.underlying T = some (.struct fs)) (hi : (P.info? T).map (·.size) = some cs.size)
    (hK : wpQuiet P ops (fun w' => ∃ d : Later W, w' = d.now) Q rest (a.put o.dst (.agg cs))) : wpQuiet P ops (fun w' => ∃ d : Later W, w' = d.now) Q (o :: rest) a := by
  refine BigFrame.wpQuiet_want hw fun K hh => ⟨.agg cs, fun w' hw' => ?_, hh _ hK⟩
  obtain ⟨dd, rfl⟩ := hw'
  unfold Oper.quietAt
  rw [run_load_blk x ho hx (h.step dd.below) hu hi]
  exact ⟨rfl, rfl⟩
theorem rel_load_blk {Q : Exit → Act → World → Prop} {i fuel : Nat} {listed : Array Bool} (hl : ops.toList.drop i = o :: rest) (T : TypeId) (x : Operand) (ho : o.op = .load T x) (g : Nat) (hx : a.eval x = .pointer (some ⟨g, 0, none⟩))
    (hs : Region.noSelect ops = true) (hf : Region.free .any ops listed i = true) (hr : (Region.ready .any ops listed).contains i = true)
    (hw : Region.wanted o (yielded ops a.tmps) = true) (hQ : ∀ c a v w, Q (.panic c) (Act.put a o.dst v) w → Q (.panic c) a w) (hS : Near W w)
    (h : Blk W g t cs) (hu : P.underlying T = some (.struct fs)) (hi : (P.info? T).map (·.size) = some cs.size)
    (hK : wpAnyH P .any ops Q (fun w' => ∃ d : Later W, w' = d.now) fuel (listed.setIfInBounds i true) (a.put o.dst (.agg cs)) w) :
    wpAnyH P .any ops Q (fun w' => ∃ d : Later W, w' = d.now) (fuel + 1) listed a w := by
  refine wpAnyH_take (v := .agg cs) (drop_at hl) hs hf hr (fun c a w h => hQ c a _ w h) (.inl ⟨hw, fun w' hw' => ?_⟩) hS hK
  obtain ⟨dd, rfl⟩ := hw'
  exact run_load_blk x ho hx (h.step dd.below) hu hi
theorem wpList_isSlice {Q : Exit → Act → World → Prop} (t : TypeId) (len : Nat) (parts : Array (Nat × Operand)) (ho : o.op = .buildSlice t len parts) (h : wpList P ops Q (o :: rest) a w) : wpList P ops Q (o :: rest) a w := h
theorem wpList_built {Q : Exit → Act → World → Prop} (hg : o.guard = none) (dst : Tmp) (hdst : o.dst = some dst) (T : TypeId) (parts : Array (Nat × Operand)) (ho : o.op = .build T parts) (cs : Array Value)
    (h : P.built T (parts.map fun (i, x) => (i, a.eval x)).toList = some cs) (hK : wpList P ops Q rest (a.put (some dst) (.agg cs)) w) : wpList P ops Q (o :: rest) a w := by
  refine wpList_plain hg fun K' hK' => ?_
  have h1 : (execOp a.eval o).run P w = .ok (.value (.agg cs)) w := by
    unfold execOp
    simp only [ho, Sem.run_bind, Sem.run_pure, Result.andThen_ok, run_build w T _ cs h]
  unfold Oper.wp
  rw [h1, Oper.upon_value, hdst]
  exact hK' _ _ hK
end
end Go.Proofs.YtnddoehhcpejjaaGreat
/- The walk of GroupFind. -/
namespace Go.Proofs.YtnddoehhcpejjaaGreat
set_option linter.unusedVariables false
set_option linter.unusedSimpArgs false
open Go.RowKit

theorem grp_size : (Tryz.prog.info? 29).map (·.size) = some 21 := by kernel_rfl
theorem gin_of {w : World} {x : GrpR} (h : x.Ok w) : GIn w x.chart.l x.chart.A x.entities.l x.entities.A :=
  ⟨by rw [← acc_gen]; exact h.2.2.1.1.1, h.2.2.2.2.1.1, h.2.2.2.2.2, fun a ha => (h.2.2.1.2 a ha).1⟩
section
variable (cur : ByteArray) (y m p : Int) (cl : List Acc) (cA : Option Addr) (cc : Nat) (ro : RolesR) (el : List EntR) (eA : Option Addr) (ec : Nat) (w : World)
end
end Go.Proofs.YtnddoehhcpejjaaGreat
