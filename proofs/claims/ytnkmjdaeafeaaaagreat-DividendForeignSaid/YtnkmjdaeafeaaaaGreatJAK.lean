/- Texts of this claim, put together. -/
import Derived.Test.YtnkmjdaeafeaaaaGreatJAI
import Derived.Test.YtnkmjdaeafeaaaaGreatJAJ
import Derived.Test.YtnkmjdaeafeaaaaGreatJAD
import Derived.Test.YtnkmjdaeafeaaaaGreatJAF
import Derived.Test.YtnkmjdaeafeaaaaGreatChecked
import Derived.Test.YtnkmjdaeafeaaaaGreatJAA
import Derived.Test.YtnkmjdaeafeaaaaGreatJAH
import Derived.StringKeys
/- The walks of Find of contributions, and of its reference. -/
namespace Go.Proofs.YtnkmjdaeafeaaaaGreat
set_option linter.unusedVariables false
set_option linter.unusedSimpArgs false
open Go.RowKit

def zeroCon : Array Value := #[.int .i64 0, .int .i64 0, .int .i64 0, .bool false, .slice none 0 0, .bool false, .slice none 0 0, .bool false, .slice none 0 0, .bool false, .slice none 0 0, .slice none 0 0, .slice none 0 0]
/-- the cells of a contribution whose items are shown -/
def conCs (e m : Int) (v : Value) : Array Value := #[.int .i64 e, .int .i64 m, .int .i64 0, .bool false, .slice none 0 0, .bool false, .slice none 0 0, .bool false, .slice none 0 0, .bool false, .slice none 0 0, v, .slice none 0 0]
def ConR.arr (x : ConR) : Array Value := conCs x.entity x.method x.items.val
def ConPost (l : List ConR) (e : Int) (w : World) (en : Ending) (w' : World) : Prop :=
  en = .returned (.tuple #[.agg (conF l e).arr, .bool (conB l e)]) ∧ Below w.heap.size w w'
theorem ConR.cell_at {w : World} {B : Nat} {A : Option Addr} {l : List ConR} (h : Rd w B 13 A l.length (cellsOf ConR.cells l)) {k : Nat} (hk : k < l.length) :
    ∃ b o, A = some ⟨b, o, none⟩ ∧ b < B ∧ w.rangeAt b (o + k * 13) (l[k]).cells := by
  obtain ⟨b, o, e, hb, hc⟩ := ConR.at_ h hk
  exact ⟨b, o, e, hb, fun j v hv => hc j v hv⟩
theorem ConR.arr_list (x : ConR) : x.arr.toList = x.cells := rfl
theorem ConR.arr_one (x : ConR) : x.arr.all (·.oneCell') = true := by
  rw [← Array.all_toList, List.all_eq_true]
  exact fun u hu => x.one u hu
theorem zero_one : zeroCon.all (·.oneCell') = true := (default : ConR).arr_one
theorem con_default : (default : ConR).arr = zeroCon := rfl
theorem conf_range {w : World} {b o : Nat} {x : ConR} (h : w.rangeAt b o x.cells) : w.rangeAt b o x.arr.toList := h
theorem cfind_any_size : (Tryz.prog.info? 88).map (·.size) = some 13 := by kernel_rfl
set_option maxRecDepth 100000 in
set_option maxHeartbeats 4000000 in
theorem cfind_any (l : List ConR) (e : Int) (A : Option Addr) (cap : Nat) (w : World) (hr : Rd w w.heap.size 13 A l.length (cellsOf ConR.cells l)) (hn : l.length ≤ 1000000) :
    Calls Tryz.prog 62 #[.slice A l.length cap, .int .i64 e] w (ConPost l e w) := by
  have hb : Below w.heap.size w (w.alloc (.cells zeroCon 88)) := (Below.refl _ _).alloc (Nat.le_refl _) _
  have HB := Lib.hid (Blk.new w 88 zeroCon)
  have HR := Lib.hid hr
  clear hr
  unfold ConPost
  go_enter Tryz.func62, Tryz.ntmps62
  go_wp2_with fail
  go_loopw [10] (fun t wr => ∃ k : Nat, k ≤ l.length ∧ (∀ j (h : j < k) (h2 : j < l.length), conIs e (l[j]'h2) = false) ∧ t = .int .i64 k ∧ Blk wr w.heap.size 88 zeroCon ∧ Below w.heap.size w wr) (fun t _ => l.length - (intOf t).toNat)
  case atStart => exact ⟨0, by omega, fun j h => by omega, rfl, HB.out, hb⟩
  case round =>
    clear hb
    obtain ⟨k, hk, hno, rfl, hB, hb⟩ := hrel
    have HN := Lib.hid hno
    have hz := hb.size
    have hlB := hB.lt
    have HBr := Lib.hid hB
    clear hno hB
    by_cases hlt : k < l.length
    · obtain ⟨b, o, hA, hbo, hx⟩ := ConR.cell_at (Rd.now HR.out hb) hlt
      subst hA
      have f0 : wr.cell? ⟨b, o + k * 13, none⟩ = some (.int .i64 l[k].entity) := hx 0 _ rfl
      have HX := Lib.hid hx
      have HH := Lib.hid (con_hit (l := l) (e := e) k hlt (fun j h => HN.out j h (by omega)))
      clear hx
      generalize hxx : l[k] = x at *
      have HXX := Lib.hid hxx
      clear hxx
      have HBn := Lib.hid (HBr.out.alloc (.cells x.arr 88))
      have HNx := Lib.hid (Blk.new wr 88 x.arr)
      have hbn := hb.alloc hz (.cells x.arr 88)
      cases hc : (x.entity == e)
      · have HC : Hid (conIs e x = false) := Lib.hid hc
        go_wp2_with (first
          | (refine wpList_load_arr rfl 88 (.tmp 12) rfl b (o + k * 13) rfl x.arr HX.out Tryz.underlying88 13 cfind_any_size rfl ?_)
          | (refine wpList_alloc_put rfl 88 (.tmp 7) (.tmp 13) rfl rfl x.arr _ rfl rfl 13 cfind_any_size rfl rfl x.arr_one ?_; have k0 : (wr.alloc (.cells x.arr 88)).cell? ⟨wr.heap.size, 0, none⟩ = some (.int .i64 x.entity) := HNx.out.cell 0))
        clear k0
        go_roundw
        case rel =>
          refine ⟨k + 1, by omega, fun j h h2 => ?_, by go_num, HBn.out, hbn⟩
          by_cases hj : j = k
          · subst hj; rw [HXX.out]; exact HC.out
          · exact HN.out j (by omega) h2
        case measure => simp [intOf]; omega
      · have HC : Hid (conIs e x = true) := Lib.hid hc
        go_wp2_with (first
          | (refine wpList_load_arr rfl 88 (.tmp 12) rfl b (o + k * 13) rfl x.arr HX.out Tryz.underlying88 13 cfind_any_size rfl ?_)
          | (refine wpList_alloc_put rfl 88 (.tmp 7) (.tmp 13) rfl rfl x.arr _ rfl rfl 13 cfind_any_size rfl rfl x.arr_one ?_; have k0 : (wr.alloc (.cells x.arr 88)).cell? ⟨wr.heap.size, 0, none⟩ = some (.int .i64 x.entity) := HNx.out.cell 0)
          | (refine wpList_load_blk 88 (.tmp 7) rfl wr.heap.size rfl (by kernel_rfl) HNx.out Tryz.underlying88 cfind_any_size ?_)
          | (refine wpList_store_row rfl 88 (.tmp 4) (.tmp 18) rfl w.heap.size x.arr rfl rfl 88 zeroCon HBn.out cfind_any_size rfl x.arr_one ?_))
        clear k0
        refine bodyPost_ret (v := .tuple #[.agg x.arr, .bool true]) (results_row2 Tryz.results62 _ _ w.heap.size 88 x.arr rfl (blk_row HBn.out _) Tryz.underlying88 cfind_any_size) rfl ?_
        obtain ⟨h1, h2⟩ := HH.out HC.out
        exact ⟨by rw [h1, h2], below_row hbn (Nat.le_refl _)⟩
    · have HE := Lib.hid (con_miss (l := l) (e := e) (fun j h => HN.out j (by omega) h))
      go_wp2_with (refine wpList_store_row rfl 88 (.tmp 4) (.tmp 20) rfl w.heap.size zeroCon rfl rfl 88 zeroCon HBr.out cfind_any_size rfl zero_one ?_)
      refine bodyPost_ret (v := .tuple #[.agg zeroCon, .bool false]) (results_row2 Tryz.results62 _ _ w.heap.size 88 zeroCon rfl (blk_row HBr.out _) Tryz.underlying88 cfind_any_size) rfl ?_
      exact ⟨by rw [HE.out.1, HE.out.2]; rfl, below_row hb (Nat.le_refl _)⟩
theorem rcfind_any_size : (Tryz.prog.info? 94).map (·.size) = some 13 := by kernel_rfl
set_option maxRecDepth 100000 in
set_option maxHeartbeats 4000000 in
theorem rcfind_any (l : List ConR) (e : Int) (A : Option Addr) (cap : Nat) (w : World) (hr : Rd w w.heap.size 13 A l.length (cellsOf ConR.cells l)) (hn : l.length ≤ 1000000) :
    Calls Tryz.prog 38 #[.slice A l.length cap, .int .i64 e] w (ConPost l e w) := by
  have hb : Below w.heap.size w (w.alloc (.cells zeroCon 94)) := (Below.refl _ _).alloc (Nat.le_refl _) _
  have HB := Lib.hid (Blk.new w 94 zeroCon)
  have HR := Lib.hid hr
  clear hr
  unfold ConPost
  go_enter Tryz.func38, Tryz.ntmps38
  go_wp2_with fail
  go_loopw [6] (fun t wr => ∃ k : Nat, k ≤ l.length ∧ (∀ j (h : j < k) (h2 : j < l.length), conIs e (l[j]'h2) = false) ∧ t = .int .i64 k ∧ Blk wr w.heap.size 94 zeroCon ∧ Below w.heap.size w wr) (fun t _ => l.length - (intOf t).toNat)
  case atStart => exact ⟨0, by omega, fun j h => by omega, rfl, HB.out, hb⟩
  case round =>
    clear hb
    obtain ⟨k, hk, hno, rfl, hB, hb⟩ := hrel
    have HN := Lib.hid hno
    have hz := hb.size
    have hlB := hB.lt
    have HBr := Lib.hid hB
    clear hno hB
    by_cases hlt : k < l.length
    · obtain ⟨b, o, hA, hbo, hx⟩ := ConR.cell_at (Rd.now HR.out hb) hlt
      subst hA
      have f0 : wr.cell? ⟨b, o + k * 13, none⟩ = some (.int .i64 l[k].entity) := hx 0 _ rfl
      have HX := Lib.hid hx
      have HH := Lib.hid (con_hit (l := l) (e := e) k hlt (fun j h => HN.out j h (by omega)))
      clear hx
      generalize hxx : l[k] = x at *
      have HXX := Lib.hid hxx
      clear hxx
      cases hc : (x.entity == e)
      · have HC : Hid (conIs e x = false) := Lib.hid hc
        go_wp2_with fail
        go_roundw
        case rel =>
          refine ⟨k + 1, by omega, fun j h h2 => ?_, by go_num, HBr.out, hb⟩
          by_cases hj : j = k
          · subst hj; rw [HXX.out]; exact HC.out
          · exact HN.out j (by omega) h2
        case measure => simp [intOf]; omega
      · have HC : Hid (conIs e x = true) := Lib.hid hc
        go_wp2_with (first
          | (refine wpList_load_arr rfl 94 (.tmp 22) rfl b (o + k * 13) rfl x.arr HX.out Tryz.underlying94 13 rcfind_any_size rfl ?_)
          | (refine wpList_store_row rfl 94 (.tmp 4) (.tmp 23) rfl w.heap.size x.arr rfl rfl 94 zeroCon HBr.out rcfind_any_size rfl x.arr_one ?_))
        refine bodyPost_ret (v := .tuple #[.agg x.arr, .bool true]) (results_row2 Tryz.results38 _ _ w.heap.size 94 x.arr rfl (blk_row HBr.out _) Tryz.underlying94 rcfind_any_size) rfl ?_
        obtain ⟨h1, h2⟩ := HH.out HC.out
        exact ⟨by rw [h1, h2], below_row hb (Nat.le_refl _)⟩
    · have HE := Lib.hid (con_miss (l := l) (e := e) (fun j h => HN.out j (by omega) h))
      go_wp2_with (refine wpList_store_row rfl 94 (.tmp 4) (.tmp 24) rfl w.heap.size zeroCon rfl rfl 94 zeroCon HBr.out rcfind_any_size rfl zero_one ?_)
      refine bodyPost_ret (v := .tuple #[.agg zeroCon, .bool false]) (results_row2 Tryz.results38 _ _ w.heap.size 94 zeroCon rfl (blk_row HBr.out _) Tryz.underlying94 rcfind_any_size) rfl ?_
      exact ⟨by rw [HE.out.1, HE.out.2]; rfl, below_row hb (Nat.le_refl _)⟩
end Go.Proofs.YtnkmjdaeafeaaaaGreat
/- The walks of Find and of its reference, of Few. -/
namespace Go.Proofs.YtnkmjdaeafeaaaaGreat
set_option linter.unusedVariables false
set_option linter.unusedSimpArgs false
open Go.RowKit

/-- the number of the first one, or -1 -/
def fidx {α : Type} (q : α → Bool) (l : List α) : Int := match l.findIdx? q with | some i => (i : Int) | none => -1
section
variable {α : Type} {q : α → Bool} {l : List α}
theorem fidx_hit (k : Nat) (hk : k < l.length) (h : ∀ j (hj : j < k), q (l[j]'(by omega)) = false) (hq : q l[k] = true) : fidx q l = k := by
  unfold fidx
  have : l.findIdx? q = some k := by
    rw [List.findIdx?_eq_some_iff_getElem]
    exact ⟨hk, hq, fun j hj => by simp [h j hj]⟩
  rw [this]
theorem fidx_miss (h : ∀ j (hj : j < l.length), q l[j] = false) : fidx q l = -1 := by
  unfold fidx
  have : l.findIdx? q = none := by
    rw [List.findIdx?_eq_none_iff]
    intro x hx
    obtain ⟨j, hj, rfl⟩ := List.mem_iff_getElem.1 hx
    exact h j hj
  rw [this]
end
def nameIs (s : ByteArray) (x : EntR) : Bool := x.name.toList == s.toList
/-- what the walks of groups need to know of one -/
structure GIn (w : World) (cl : List Acc) (cA : Option Addr) (el : List EntR) (eA : Option Addr) : Prop where
  ch : Rd w w.heap.size 4 cA cl.length (Ch.cells cl)
  en : Rd w w.heap.size 5 eA el.length (cellsOf EntR.cells el)
  ok : ∀ x ∈ el, x.Ok w
  wf : ∀ a ∈ cl, (Lit.int .i64 a.code).wf = true
theorem GIn.step {w w2 : World} {cl : List Acc} {cA : Option Addr} {el : List EntR} {eA : Option Addr} (h : GIn w cl cA el eA) (hb : Below w.heap.size w w2) : GIn w2 cl cA el eA :=
  ⟨Rd.now h.ch hb, Rd.now h.en hb, fun x hx => (h.ok x hx).step hb, h.wf⟩
section
variable (cur : ByteArray) (y m p : Int) (cl : List Acc) (cA : Option Addr) (cc : Nat) (ro : RolesR) (el : List EntR) (eA : Option Addr) (ec : Nat) (w : World)
def fndI (el : List EntR) (s : ByteArray) : Int := if 0 ≤ fidx (nameIs s) el then fidx (nameIs s) el else 0
def fndB (el : List EntR) (s : ByteArray) : Bool := decide (0 ≤ fidx (nameIs s) el)
set_option maxRecDepth 100000 in
set_option maxHeartbeats 1000000 in
theorem grfind_any (s : ByteArray) (h : GIn w cl cA el eA) (hn : el.length ≤ 1000000) :
    Calls Tryz.prog 74 #[.agg #[.string cur, .int .i64 y, .int .i64 m, .int .i64 p, .slice cA cl.length cc, .int .i64 ro.investment, .int .i64 ro.goodwill, .int .i64 ro.associates, .int .i64 ro.inventory, .int .i64 ro.reserve, .int .i64 ro.minority, .int .i64 ro.retained, .int .i64 ro.acquired, .int .i64 ro.owners, .int .i64 ro.disposal, .int .i64 ro.associateProfit, .int .i64 ro.dividends, .int .i64 ro.minorityProfit, .int .i64 ro.difference, .int .i64 ro.margin, .slice eA el.length ec], .string s] w (fun e w' => e = .returned (.tuple #[.int .i64 (fndI el s), .bool (fndB el s)]) ∧ Below w.heap.size w w') := by
  have H := Lib.hid h
  clear h
  have hb : Below w.heap.size w (w.alloc (.cells #[.string cur, .int .i64 y, .int .i64 m, .int .i64 p, .slice cA cl.length cc, .int .i64 ro.investment, .int .i64 ro.goodwill, .int .i64 ro.associates, .int .i64 ro.inventory, .int .i64 ro.reserve, .int .i64 ro.minority, .int .i64 ro.retained, .int .i64 ro.acquired, .int .i64 ro.owners, .int .i64 ro.disposal, .int .i64 ro.associateProfit, .int .i64 ro.dividends, .int .i64 ro.minorityProfit, .int .i64 ro.difference, .int .i64 ro.margin, .slice eA el.length ec] 29)) := (Below.refl _ _).alloc (Nat.le_refl _) _
  have HB := Lib.hid (Blk.new w 29 #[.string cur, .int .i64 y, .int .i64 m, .int .i64 p, .slice cA cl.length cc, .int .i64 ro.investment, .int .i64 ro.goodwill, .int .i64 ro.associates, .int .i64 ro.inventory, .int .i64 ro.reserve, .int .i64 ro.minority, .int .i64 ro.retained, .int .i64 ro.acquired, .int .i64 ro.owners, .int .i64 ro.disposal, .int .i64 ro.associateProfit, .int .i64 ro.dividends, .int .i64 ro.minorityProfit, .int .i64 ro.difference, .int .i64 ro.margin, .slice eA el.length ec])
  obtain ⟨W, hW⟩ : ∃ W, W = w.alloc (.cells #[.string cur, .int .i64 y, .int .i64 m, .int .i64 p, .slice cA cl.length cc, .int .i64 ro.investment, .int .i64 ro.goodwill, .int .i64 ro.associates, .int .i64 ro.inventory, .int .i64 ro.reserve, .int .i64 ro.minority, .int .i64 ro.retained, .int .i64 ro.acquired, .int .i64 ro.owners, .int .i64 ro.disposal, .int .i64 ro.associateProfit, .int .i64 ro.dividends, .int .i64 ro.minorityProfit, .int .i64 ro.difference, .int .i64 ro.margin, .slice eA el.length ec] 29) := ⟨_, rfl⟩
  have HW := Lib.hid hW
  rw [← hW] at hb HB
  clear hW
  have e4 : W.cell? ⟨w.heap.size, 20, none⟩ = some (.slice eA el.length ec) := HB.out.cell 20
  have HI := Rd.now H.out.en hb
  have HII := Lib.hid HI
  clear HI
  go_enter Tryz.func74, Tryz.ntmps74
  go_wp2_with fail
  rw [← HW.out]
  clear HW
  go_loopw [6] (fun t wr => ∃ k : Nat, k ≤ el.length ∧ (∀ j (h : j < k) (h1 : j < el.length), nameIs s (el[j]'h1) = false) ∧ t = .int .i64 k ∧ W = wr) (fun t _ => el.length - (intOf t).toNat)
  case atStart => exact ⟨0, by omega, fun j h => by omega, rfl, rfl⟩
  case round =>
    obtain ⟨k, hk, hno, rfl, rfl⟩ := hrel
    have HN := Lib.hid hno
    clear hno
    by_cases hlt : k < el.length
    · obtain ⟨b, o, hA, hbo, f0, f1, f2, f3, f4⟩ := EntR.at_ HII.out hlt
      subst hA
      cases hq : (el[k].name.toList == s.toList)
      · have HQ : Hid (nameIs s el[k] = false) := Lib.hid hq
        go_wp2_with fail
        go_roundw
        case rel =>
          refine ⟨k + 1, by omega, fun j h h1 => ?_, by go_num, trivial⟩
          by_cases e : j = k
          · subst e; exact HQ.out
          · exact HN.out j (by omega) h1
        case measure => simp [intOf]; omega
      · have HE : Hid (fidx (nameIs s) el = k) := Lib.hid (fidx_hit k hlt (fun j hj => HN.out j hj (by omega)) hq)
        go_wp2_with fail
        go_ret2
        exact ⟨by unfold fndI fndB; rw [HE.out]; simp, hb⟩
    · have HE : Hid (fidx (nameIs s) el = -1) := Lib.hid (fidx_miss fun j hj => HN.out j (by omega) hj)
      go_wp2_with fail
      go_ret2
      exact ⟨by unfold fndI fndB; rw [HE.out]; simp, hb⟩
end
end Go.Proofs.YtnkmjdaeafeaaaaGreat
/- A set of texts of the call's own, as a map. Over any program. -/
namespace Go.Proofs.YtnkmjdaeafeaaaaGreat
set_option linter.unusedVariables false
set_option linter.unusedSimpArgs false
open Go.RowKit

/-- Block b is a map of at most n entries that says true of just the texts of S. -/
def StrSet (P : Program) (k e : TypeId) (w : World) (b n : Nat) (S : List Txt) : Prop :=
  ∃ D : DataW Unit, w.ownsMap P k (plainElem P e) b n D ∧ Maps.IsMap D ∧ (∀ x : Txt, D.atKey (.string x) (.lit (.bool false)) = .lit (.bool (decide (x ∈ S)))) ∧ ∀ x : Txt, Maps.has D (.string x) = decide (x ∈ S)
section
variable {P : Program} {k e t : TypeId} {w w' : World} {b n : Nat} {S : List Txt}
theorem StrSet.made (w : World) : StrSet P k e (w.alloc (.map #[] 0)) w.heap.size 0 [] := ⟨.map [], World.ownsMap_made _ _ _ _, Maps.isMap_empty, fun _ => by simp [DataW.atKey], fun _ => by simp [Maps.has_eq]⟩
theorem StrSet.lt (h : StrSet P k e w b n S) : b < w.heap.size := by obtain ⟨D, h, _⟩ := h; exact h.lt
theorem StrSet.kept {row : Option Nat} (h : StrSet P k e w b n S) (hg : w.grownBy w' row) (hne : some b ≠ row) : StrSet P k e w' b n S := by obtain ⟨D, h, r⟩ := h; exact ⟨D, h.kept hg hne, r⟩
theorem StrSet.step (h : StrSet P k e w b n S) (hb : Below w.heap.size w w') : StrSet P k e w' b n S := h.kept (grown_below hb none) (by simp)
theorem StrSet.alloc (h : StrSet P k e w b n S) (o : Obj) : StrSet P k e (w.alloc o) b n S := h.kept (World.grownBy_alloc w o none) (by simp)
/-- the look-up -/
theorem StrSet.look (h : StrSet P k e w b n S) (hk : P.underlying k = some .string) (he : P.underlying e = some .bool) (ht : P.underlying t = some (.map k e)) (hz : (zeroValue e).run P w = .ok (.bool false) w)
    {s : ByteArray} (hs : s.size ≤ maxLen) : (Instr.lookup t (.map (some b)) (.string s) false).run P w = .ok (.bool (decide (s.data.toList ∈ S))) w := by
  obtain ⟨D, h, _, hD, _⟩ := h
  obtain ⟨v, ps, hrun, hv⟩ := h.lookup (Maps.string_keyed hk) ht hz (plainElem_bool he false) (WideMaps.keyOf_string_mk hk hs)
  obtain ⟨x, rfl, e2⟩ := plainElem_bool_inv he hv
  rw [hD s.data.toList] at e2
  injection e2 with e2 _
  injection e2 with e2
  injection e2 with e2
  rw [hrun, e2]
theorem str_ne {c d : Txt} (h : c ≠ d) : Lit.string c ≠ Lit.string d := fun e => h (by injection e)
theorem StrSet.put {D : DataW Unit} {c : Txt} (hm : Maps.IsMap D) (hD : ∀ x : Txt, D.atKey (.string x) (.lit (.bool false)) = .lit (.bool (decide (x ∈ S)))) (hh : ∀ x : Txt, Maps.has D (.string x) = decide (x ∈ S))
    (h2 : w'.ownsMap P k (plainElem P e) b (n + 1) (D.put (.string c) (.lit (.bool true)))) : StrSet P k e w' b (n + 1) (S ++ [c]) := by
  refine ⟨_, h2, hm.put _ _, fun d => ?_, fun d => ?_⟩
  · by_cases hd : d = c
    · subst hd
      rw [Maps.atKey_put_same hm (show WideAt.IsKeyLit (.string d) from trivial)]
      simp
    · rw [Maps.atKey_put_other (str_ne hd), hD d]
      simp [hd]
  · by_cases hd : d = c
    · subst hd
      rw [Maps.has_put_same hm (show WideAt.IsKeyLit (.string d) from trivial)]
      simp
    · rw [Maps.has_put_other (str_ne hd), hh d]
      simp [hd]
/-- a text is laid into the set: at the operation -/
theorem wpList_str_put {ops : Array Oper} {rest : List Oper} {o : Oper} {a : Act} {Q : Exit → Act → World → Prop} (hg : o.guard = none) (m x v : Operand) (t : TypeId) (hop : o.op = Op.mapUpdate t m x v)
    (hk : P.underlying k = some .string) (he : P.underlying e = some .bool) (ht : P.underlying t = some (.map k e)) (h : StrSet P k e w b n S) (hn : n < maxLen) (s : ByteArray) (hs : s.size ≤ maxLen)
    (hm : a.eval m = .map (some b)) (hx : a.eval x = .string s) (hv : a.eval v = .bool true)
    (hK : ∀ w', StrSet P k e w' b (n + 1) (S ++ [s.data.toList]) → w.grownBy w' (some b) → wpList P ops Q rest (a.put o.dst undef) w') : wpList P ops Q (o :: rest) a w := by
  obtain ⟨D, h, hM, hD, hh⟩ := h
  exact wpList_mapUpdate_own w hg m x v t hop k e (Maps.string_keyed hk) ht _ b n D hm h hn _ _ _ hx hv (WideMaps.keyOf_string_mk hk hs) _ [] (plainElem_bool he true) fun w' h2 g2 => hK w' (StrSet.put hM hD hh h2) g2
/-- the same for an entry of a map that is written out -/
theorem wpList_str_ins {ops : Array Oper} {rest : List Oper} {o : Oper} {a : Act} {Q : Exit → Act → World → Prop} (hg : o.guard = none) (m x v : Operand) (t : TypeId) (hop : o.op = Op.insert t m x v)
    (hk : P.underlying k = some .string) (he : P.underlying e = some .bool) (ht : P.underlying t = some (.map k e)) (h : StrSet P k e w b n S) (hn : n < maxLen) (s : ByteArray) (hs : s.size ≤ maxLen)
    (hm : a.eval m = .map (some b)) (hx : a.eval x = .string s) (hv : a.eval v = .bool true)
    (hK : ∀ w', StrSet P k e w' b (n + 1) (S ++ [s.data.toList]) → w.grownBy w' (some b) → wpList P ops Q rest (a.put o.dst undef) w') : wpList P ops Q (o :: rest) a w := by
  obtain ⟨D, h, hM, hD, hh⟩ := h
  refine wpList_plain hg fun K' hK' => ?_
  obtain ⟨w', hrun, r1, r2⟩ := h.update (Maps.string_keyed hk) ht hn (WideMaps.keyOf_string_mk hk hs) (plainElem_bool he true)
  unfold Oper.wp
  simp [execOp, hop, hm, hx, hv, hrun, Result.andThen]
  exact hK' _ _ (hK w' (StrSet.put hM hD hh r1) r2)
/-- the keys of the set, each once -/
theorem StrSet.keys {D : DataW Unit} (h : w.ownsMap P k (plainElem P e) b n D) (hk : P.underlying k = some .string) (hh : ∀ x : Txt, Maps.has D (.string x) = decide (x ∈ S)) {ss : List Txt} (hp : ss.Perm (strKeys D)) : ss.Nodup ∧ ∀ x, x ∈ ss ↔ x ∈ S := by
  obtain ⟨es, hD, hpw, _⟩ := h.entries (Maps.string_keyed hk)
  obtain ⟨es', hD', hko⟩ := h.keysOf
  obtain rfl : es = es' := by rw [hD] at hD'; simpa using hD'
  subst hD
  have hs : ∀ p ∈ es, ∃ x, p.1 = .string x := fun p hp => by obtain ⟨v, hv⟩ := hko p hp; obtain ⟨x, _, hx, _⟩ := Maps.keyOf_str hk hv; exact ⟨x, hx⟩
  constructor
  · refine hp.nodup_iff.2 ?_
    show (es.map fun p => strOf p.1).Nodup
    refine List.pairwise_map.2 (hpw.imp_of_mem fun {p q} hp' hq' hne e => hne ?_)
    obtain ⟨a, ha⟩ := hs p hp'
    obtain ⟨b, hb⟩ := hs q hq'
    rw [ha, hb] at e ⊢
    exact congrArg _ e
  · intro x
    rw [hp.mem_iff]
    have h1 := hh x
    rw [Maps.has_eq] at h1
    have h2 : (es.any fun p => p.1.sameKey (.string x)) = true ↔ x ∈ S := by rw [h1]; simp
    rw [← h2, List.any_eq_true]
    show x ∈ es.map (fun p => strOf p.1) ↔ _
    rw [List.mem_map]
    constructor
    · rintro ⟨p, hp', rfl⟩
      obtain ⟨a, ha⟩ := hs p hp'
      exact ⟨p, hp', by rw [ha]; simp [Lit.sameKey, strOf]⟩
    · rintro ⟨p, hp', hs'⟩
      obtain ⟨a, ha⟩ := hs p hp'
      rw [ha] at hs'
      exact ⟨p, hp', by rw [ha]; simpa [Lit.sameKey, strOf] using hs'⟩
end
end Go.Proofs.YtnkmjdaeafeaaaaGreat
/- The walks of Currencies, of its reference, of 'same', of the law's own 'awake'. -/
namespace Go.Proofs.YtnkmjdaeafeaaaaGreat
set_option linter.unusedVariables false
set_option linter.unusedSimpArgs false
open Go.RowKit
open Go.Maps (Keyed)

theorem str_info : (Tryz.prog.info? 9).map (fun i => (i.zero, i.size, i.bytes)) = some (some (.string ⟨#[]⟩), 1, 16) := by kernel_rfl
def OwnStrs (base : Nat) (L : List Txt) (w : World) (e : Ending) (w' : World) : Prop :=
  ∃ v, e = .returned v ∧ w'.ownsRow base 9 1 v L.length (L.map encStr) ∧ Below w.heap.size w w'
def curs (el : List EntR) : List Txt := el.map fun x => x.currency.data.toList
theorem curs_take (el : List EntR) (k : Nat) (h : k < el.length) : curs (el.take (k + 1)) = curs (el.take k) ++ [el[k].currency.data.toList] := by
  unfold curs
  rw [List.take_succ_eq_append_getElem h, List.map_append]; rfl
theorem curs_len (el : List EntR) : (curs el).length = el.length := by unfold curs; rw [List.length_map]
section
variable (cur : ByteArray) (y m p : Int) (cl : List Acc) (cA : Option Addr) (cc : Nat) (ro : RolesR) (el : List EntR) (eA : Option Addr) (ec : Nat) (w : World)
end
end Go.Proofs.YtnkmjdaeafeaaaaGreat
