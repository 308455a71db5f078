/- Texts of this claim, put together. -/
import Derived.Test.YtnkmjdaeafeaaaaJAC
import Derived.Test.YtnkmjdaeafeaaaaChecked
/- The walks of Find and of its reference, of Few. -/
namespace Go.Proofs.Ytnkmjdaeafeaaaa
set_option linter.unusedVariables false
set_option linter.unusedSimpArgs false
open Go.RowKit

/-- the number of the first one, or -1 -/
def fidx {α : Type} (q : α → Bool) (l : List α) : Int := match l.findIdx? q with | some i => (i : Int) | none => -1
section
variable {α : Type} {q : α → Bool} {l : List α}
theorem fidx_hit (k : Nat) (hk : k < l.length) (h : ∀ j (hj : j < k), q (l[j]'(by omega)) = false) (hq : q l[k] = true) : fidx q l = k := by
  unfold fidx
  have : l.findIdx? q = some k := by
    rw [List.findIdx?_eq_some_iff_getElem]
    exact ⟨hk, hq, fun j hj => by simp [h j hj]⟩
  rw [this]
theorem fidx_miss (h : ∀ j (hj : j < l.length), q l[j] = false) : fidx q l = -1 := by
  unfold fidx
  have : l.findIdx? q = none := by
    rw [List.findIdx?_eq_none_iff]
    intro x hx
    obtain ⟨j, hj, rfl⟩ := List.mem_iff_getElem.1 hx
    exact h j hj
  rw [this]
end
def nameIs (s : ByteArray) (x : EntR) : Bool := x.name.toList == s.toList
theorem find1_any (x : EntR) (g : Nat) (s : ByteArray) (w : World) (hg : g < w.heap.size) (hs : w.cell? ⟨g, 0, none⟩ = some (.string s)) :
    Calls Try.prog 45 #[.agg #[.string x.name, .string x.currency, x.chart.val, x.links.val, .bool x.joint], .pointer (some ⟨g, 0, none⟩)] w (BoolPost (nameIs s x) w) := by
  have hb : Below w.heap.size w (w.alloc (.cells #[.string x.name, .string x.currency, x.chart.val, x.links.val, .bool x.joint] 36)) := (Below.refl _ _).alloc (Nat.le_refl _) _
  have hs2 : (w.alloc (.cells #[.string x.name, .string x.currency, x.chart.val, x.links.val, .bool x.joint] 36)).cell? ⟨g, 0, none⟩ = some (.string s) := (hb.cell (p := ⟨g, 0, none⟩) hg).trans hs
  have HB := Lib.hid hb
  clear hb
  cases he : (x.name.toList == s.toList)
  · have HE : Hid (nameIs s x = false) := Lib.hid he
    go_enter Try.func45, Try.ntmps45
    go_wp2_with fail
    go_ret
    exact ⟨by rw [HE.out]; rfl, HB.out⟩
  · have HE : Hid (nameIs s x = true) := Lib.hid he
    go_enter Try.func45, Try.ntmps45
    go_wp2_with fail
    go_ret
    exact ⟨by rw [HE.out]; rfl, HB.out⟩
set_option maxHeartbeats 1000000 in
theorem idxEnt_any (el : List EntR) (eA : Option Addr) (ec : Nat) (g : Nat) (s : ByteArray) (w : World) (hr : Rd w w.heap.size 5 eA el.length (cellsOf EntR.cells el)) (hn : el.length ≤ 1000000)
    (hg : g < w.heap.size) (hs : w.cell? ⟨g, 0, none⟩ = some (.string s)) :
    Calls Try.prog 44 #[.slice eA el.length ec, .func (.func 45) #[] #[.pointer (some ⟨g, 0, none⟩)]] w (fun e w' => e = .returned (.int .i64 (fidx (nameIs s) el)) ∧ Below w.heap.size w w') := by
  have hb := Below.refl w.heap.size w
  have HR := Lib.hid hr
  have HS := Lib.hid hs
  clear hr hs
  go_enter Try.func44, Try.ntmps44
  go_wp2_with fail
  go_loopw [5, 8] (fun _ t wr => ∃ k : Nat, k ≤ el.length ∧ (∀ j (h : j < k) (h1 : j < el.length), nameIs s (el[j]'h1) = false) ∧ t = .int .i64 k ∧ Below w.heap.size w wr) (fun _ t _ => el.length - (intOf t).toNat)
  case atStart => exact ⟨0, by omega, fun j h => by omega, rfl, hb⟩
  case round =>
    clear hb
    obtain ⟨k, hk, hno, rfl, hb⟩ := hrel
    have HN := Lib.hid hno
    clear hno
    by_cases hlt : k < el.length
    · obtain ⟨b, o, hA, hbo, f0, f1, f2, f3, f4⟩ := EntR.at_ (HR.out.below hb (Nat.le_refl _)) hlt
      subst hA
      have hgs : g < wr.heap.size := by have := hb.size; omega
      have hsr : wr.cell? ⟨g, 0, none⟩ = some (.string s) := (hb.cell (p := ⟨g, 0, none⟩) hg).trans HS.out
      have HSR := Lib.hid hsr
      clear hsr
      cases hq : nameIs s el[k]
      · have HQ := Lib.hid hq
        go_wp2_with (go_at_call 45; refine ((find1_any el[k] g s _ hgs HSR.out)).mono ?_; rintro e w2 ⟨rfl, hb2⟩; replace hb := bel hb hb2; clear hb2)
        go_roundw
        case rel =>
          refine ⟨k + 1, by omega, fun j h h1 => ?_, by go_num, hb⟩
          by_cases e : j = k
          · subst e; exact HQ.out
          · exact HN.out j (by omega) h1
        case measure => simp [intOf]; omega
      · have HE : Hid (fidx (nameIs s) el = k) := Lib.hid (fidx_hit k hlt (fun j hj => HN.out j hj (by omega)) hq)
        go_wp2_with (go_at_call 45; refine ((find1_any el[k] g s _ hgs HSR.out)).mono ?_; rintro e w2 ⟨rfl, hb2⟩; replace hb := bel hb hb2; clear hb2)
        go_ret
        exact ⟨ret_int HE.out.symm, hb⟩
    · have HE : Hid (fidx (nameIs s) el = -1) := Lib.hid (fidx_miss fun j hj => HN.out j (by omega) hj)
      go_wp2_with fail
      go_ret
      exact ⟨ret_int HE.out.symm, hb⟩
/-- what the walks of groups need to know of one -/
structure GIn (w : World) (cl : List Acc) (cA : Option Addr) (el : List EntR) (eA : Option Addr) : Prop where
  ch : Rd w w.heap.size 4 cA cl.length (Ch.cells cl)
  en : Rd w w.heap.size 5 eA el.length (cellsOf EntR.cells el)
  ok : ∀ x ∈ el, x.Ok w
  wf : ∀ a ∈ cl, (Lit.int .i64 a.code).wf = true
theorem GIn.step {w w2 : World} {cl : List Acc} {cA : Option Addr} {el : List EntR} {eA : Option Addr} (h : GIn w cl cA el eA) (hb : Below w.heap.size w w2) : GIn w2 cl cA el eA :=
  ⟨Rd.now h.ch hb, Rd.now h.en hb, fun x hx => (h.ok x hx).step hb, h.wf⟩
section
variable (cur : ByteArray) (y m p : Int) (cl : List Acc) (cA : Option Addr) (cc : Nat) (ro : RolesR) (el : List EntR) (eA : Option Addr) (ec : Nat) (w : World)
def fndI (el : List EntR) (s : ByteArray) : Int := if 0 ≤ fidx (nameIs s) el then fidx (nameIs s) el else 0
def fndB (el : List EntR) (s : ByteArray) : Bool := decide (0 ≤ fidx (nameIs s) el)
set_option maxRecDepth 100000 in
set_option maxHeartbeats 1000000 in
theorem grfind_any (s : ByteArray) (h : GIn w cl cA el eA) (hn : el.length ≤ 1000000) :
    Calls Try.prog 42 #[.agg #[.string cur, .int .i64 y, .int .i64 m, .int .i64 p, .slice cA cl.length cc, .int .i64 ro.investment, .int .i64 ro.goodwill, .int .i64 ro.associates, .int .i64 ro.inventory, .int .i64 ro.reserve, .int .i64 ro.minority, .int .i64 ro.retained, .int .i64 ro.acquired, .int .i64 ro.owners, .int .i64 ro.disposal, .int .i64 ro.associateProfit, .int .i64 ro.dividends, .int .i64 ro.minorityProfit, .int .i64 ro.difference, .int .i64 ro.margin, .slice eA el.length ec], .string s] w (fun e w' => e = .returned (.tuple #[.int .i64 (fndI el s), .bool (fndB el s)]) ∧ Below w.heap.size w w') := by
  have H := Lib.hid h
  clear h
  have hb : Below w.heap.size w (w.alloc (.cells #[.string cur, .int .i64 y, .int .i64 m, .int .i64 p, .slice cA cl.length cc, .int .i64 ro.investment, .int .i64 ro.goodwill, .int .i64 ro.associates, .int .i64 ro.inventory, .int .i64 ro.reserve, .int .i64 ro.minority, .int .i64 ro.retained, .int .i64 ro.acquired, .int .i64 ro.owners, .int .i64 ro.disposal, .int .i64 ro.associateProfit, .int .i64 ro.dividends, .int .i64 ro.minorityProfit, .int .i64 ro.difference, .int .i64 ro.margin, .slice eA el.length ec] 29)) := (Below.refl _ _).alloc (Nat.le_refl _) _
  have HB := Lib.hid (Blk.new w 29 #[.string cur, .int .i64 y, .int .i64 m, .int .i64 p, .slice cA cl.length cc, .int .i64 ro.investment, .int .i64 ro.goodwill, .int .i64 ro.associates, .int .i64 ro.inventory, .int .i64 ro.reserve, .int .i64 ro.minority, .int .i64 ro.retained, .int .i64 ro.acquired, .int .i64 ro.owners, .int .i64 ro.disposal, .int .i64 ro.associateProfit, .int .i64 ro.dividends, .int .i64 ro.minorityProfit, .int .i64 ro.difference, .int .i64 ro.margin, .slice eA el.length ec])
  obtain ⟨W, hW⟩ : ∃ W, W = w.alloc (.cells #[.string cur, .int .i64 y, .int .i64 m, .int .i64 p, .slice cA cl.length cc, .int .i64 ro.investment, .int .i64 ro.goodwill, .int .i64 ro.associates, .int .i64 ro.inventory, .int .i64 ro.reserve, .int .i64 ro.minority, .int .i64 ro.retained, .int .i64 ro.acquired, .int .i64 ro.owners, .int .i64 ro.disposal, .int .i64 ro.associateProfit, .int .i64 ro.dividends, .int .i64 ro.minorityProfit, .int .i64 ro.difference, .int .i64 ro.margin, .slice eA el.length ec] 29) := ⟨_, rfl⟩
  have HW := Lib.hid hW
  rw [← hW] at hb HB
  clear hW
  have e4 : W.cell? ⟨w.heap.size, 20, none⟩ = some (.slice eA el.length ec) := HB.out.cell 20
  have HI := Rd.now H.out.en hb
  have HII := Lib.hid HI
  clear HI
  go_enter Try.func42, Try.ntmps42
  go_wp2_with fail
  rw [← HW.out]
  clear HW
  go_loopw [6] (fun t wr => ∃ k : Nat, k ≤ el.length ∧ (∀ j (h : j < k) (h1 : j < el.length), nameIs s (el[j]'h1) = false) ∧ t = .int .i64 k ∧ W = wr) (fun t _ => el.length - (intOf t).toNat)
  case atStart => exact ⟨0, by omega, fun j h => by omega, rfl, rfl⟩
  case round =>
    obtain ⟨k, hk, hno, rfl, rfl⟩ := hrel
    have HN := Lib.hid hno
    clear hno
    by_cases hlt : k < el.length
    · obtain ⟨b, o, hA, hbo, f0, f1, f2, f3, f4⟩ := EntR.at_ HII.out hlt
      subst hA
      cases hq : (el[k].name.toList == s.toList)
      · have HQ : Hid (nameIs s el[k] = false) := Lib.hid hq
        go_wp2_with fail
        go_roundw
        case rel =>
          refine ⟨k + 1, by omega, fun j h h1 => ?_, by go_num, trivial⟩
          by_cases e : j = k
          · subst e; exact HQ.out
          · exact HN.out j (by omega) h1
        case measure => simp [intOf]; omega
      · have HE : Hid (fidx (nameIs s) el = k) := Lib.hid (fidx_hit k hlt (fun j hj => HN.out j hj (by omega)) hq)
        go_wp2_with fail
        go_ret2
        exact ⟨by unfold fndI fndB; rw [HE.out]; simp, hb⟩
    · have HE : Hid (fidx (nameIs s) el = -1) := Lib.hid (fidx_miss fun j hj => HN.out j (by omega) hj)
      go_wp2_with fail
      go_ret2
      exact ⟨by unfold fndI fndB; rw [HE.out]; simp, hb⟩
set_option maxRecDepth 100000 in
set_option maxHeartbeats 1000000 in
theorem gfind_any (s : ByteArray) (h : GIn w cl cA el eA) (hn : el.length ≤ 1000000) :
    Calls Try.prog 13 #[.agg #[.string cur, .int .i64 y, .int .i64 m, .int .i64 p, .slice cA cl.length cc, .int .i64 ro.investment, .int .i64 ro.goodwill, .int .i64 ro.associates, .int .i64 ro.inventory, .int .i64 ro.reserve, .int .i64 ro.minority, .int .i64 ro.retained, .int .i64 ro.acquired, .int .i64 ro.owners, .int .i64 ro.disposal, .int .i64 ro.associateProfit, .int .i64 ro.dividends, .int .i64 ro.minorityProfit, .int .i64 ro.difference, .int .i64 ro.margin, .slice eA el.length ec], .string s] w (fun e w' => e = .returned (.tuple #[.int .i64 (fndI el s), .bool (fndB el s)]) ∧ Below w.heap.size w w') := by
  have H := Lib.hid h
  clear h
  have hb0 := Below.refl w.heap.size w
  have hb : Below w.heap.size w ((w.alloc (.cells #[.string cur, .int .i64 y, .int .i64 m, .int .i64 p, .slice cA cl.length cc, .int .i64 ro.investment, .int .i64 ro.goodwill, .int .i64 ro.associates, .int .i64 ro.inventory, .int .i64 ro.reserve, .int .i64 ro.minority, .int .i64 ro.retained, .int .i64 ro.acquired, .int .i64 ro.owners, .int .i64 ro.disposal, .int .i64 ro.associateProfit, .int .i64 ro.dividends, .int .i64 ro.minorityProfit, .int .i64 ro.difference, .int .i64 ro.margin, .slice eA el.length ec] 29)).alloc (.cells #[.string s] 9)) := by
    have hb := hb0
    exact (by repeat (first | exact hb | refine Below.alloc ?_ (by have hbs := hb.size; first | omega | (simp; done) | (simp; omega)) _ | refine Below.drew ?_ | refine below_drewN_ ?_ _ | refine Below.setCell ?_ (by simp) _))
  clear hb0
  have hg : w.heap.size + 1 < ((w.alloc (.cells #[.string cur, .int .i64 y, .int .i64 m, .int .i64 p, .slice cA cl.length cc, .int .i64 ro.investment, .int .i64 ro.goodwill, .int .i64 ro.associates, .int .i64 ro.inventory, .int .i64 ro.reserve, .int .i64 ro.minority, .int .i64 ro.retained, .int .i64 ro.acquired, .int .i64 ro.owners, .int .i64 ro.disposal, .int .i64 ro.associateProfit, .int .i64 ro.dividends, .int .i64 ro.minorityProfit, .int .i64 ro.difference, .int .i64 ro.margin, .slice eA el.length ec] 29)).alloc (.cells #[.string s] 9)).heap.size := by simp
  have hs : ((w.alloc (.cells #[.string cur, .int .i64 y, .int .i64 m, .int .i64 p, .slice cA cl.length cc, .int .i64 ro.investment, .int .i64 ro.goodwill, .int .i64 ro.associates, .int .i64 ro.inventory, .int .i64 ro.reserve, .int .i64 ro.minority, .int .i64 ro.retained, .int .i64 ro.acquired, .int .i64 ro.owners, .int .i64 ro.disposal, .int .i64 ro.associateProfit, .int .i64 ro.dividends, .int .i64 ro.minorityProfit, .int .i64 ro.difference, .int .i64 ro.margin, .slice eA el.length ec] 29)).alloc (.cells #[.string s] 9)).cell? ⟨w.heap.size + 1, 0, none⟩ = some (.string s) := by
    simp
  have HS := Lib.hid hs
  have HB := Lib.hid hb
  have HG := Lib.hid hg
  clear hs hb hg
  obtain ⟨i, hi⟩ : ∃ i, i = fidx (nameIs s) el := ⟨_, rfl⟩
  have HI := Lib.hid hi
  by_cases h0 : 0 ≤ i
  · have e1 : Hid (fndI el s = i) := Lib.hid (by unfold fndI; rw [← hi, if_pos h0])
    have e2 : Hid (fndB el s = true) := Lib.hid (by unfold fndB; rw [← hi]; simpa using h0)
    clear hi
    go_enter Try.func13, Try.ntmps13
    go_wp2_with (go_at_call 44; refine (idxEnt_any el eA ec (w.heap.size + 1) s _ (Rd.now H.out.en HB.out) hn HG.out HS.out).mono ?_; rw [← HI.out]; rintro e w2 ⟨rfl, hb2⟩)
    go_ret2
    exact ⟨by rw [e1.out, e2.out]; simp [h0], bel HB.out hb2⟩
  · have e1 : Hid (fndI el s = 0) := Lib.hid (by unfold fndI; rw [← hi, if_neg h0])
    have e2 : Hid (fndB el s = false) := Lib.hid (by unfold fndB; rw [← hi]; simpa using h0)
    clear hi
    go_enter Try.func13, Try.ntmps13
    go_wp2_with (go_at_call 44; refine (idxEnt_any el eA ec (w.heap.size + 1) s _ (Rd.now H.out.en HB.out) hn HG.out HS.out).mono ?_; rw [← HI.out]; rintro e w2 ⟨rfl, hb2⟩)
    go_ret2
    exact ⟨by rw [e1.out, e2.out]; simp [h0], bel HB.out hb2⟩
end
end Go.Proofs.Ytnkmjdaeafeaaaa
