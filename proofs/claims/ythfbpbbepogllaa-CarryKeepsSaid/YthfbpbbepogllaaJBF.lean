/- Texts of this claim, put together. -/
import Derived.Test.YthfbpbbepogllaaJAW
import Derived.Test.YthfbpbbepogllaaJAI
import Derived.Deep.DeepCutAuto
import Derived.Test.YthfbpbbepogllaaJAB
import Derived.Test.YthfbpbbepogllaaJBC
/- The walks of carry.check, shown, Place, and of their references. -/
namespace Go.Proofs.Ythfbpbbepogllaa
set_option linter.unusedVariables false
set_option linter.unusedSimpArgs false
open Go.RowKit

namespace Cr
/-- the error of a group and a period -/
def ckE (V : Bool) (Y M P q : Int) : Int := if V then Cal.ckE Y M P q else 1
/-- the first day of the fiscal year -/
def bg (V : Bool) (Y M P q : Int) : Int := if V then Cal.beV Y M P q else 0
/-- where an amount is shown -/
def sh (cl : List Acc) (ro : RolesR) (c d b : Int) : Int := if decide (d < b) && resB cl c then ro.retained else c
def plE (V : Bool) (Y M P q : Int) (cl : List Acc) (c : Int) : Int := if ckE V Y M P q = 0 then (if Ch.fnB cl c then 0 else 8) else ckE V Y M P q
def plV (V : Bool) (Y M P q : Int) (cl : List Acc) (ro : RolesR) (c d : Int) : Int := if plE V Y M P q cl c = 0 then sh cl ro c d (bg V Y M P q) else 0
end Cr
theorem gv_cal {cur : ByteArray} {cl : List Acc} {ro : RolesR} {el : List EntR} {cal : Bool} (h : Gr.gv cur cl ro el cal = true) : cal = true := by
  unfold Gr.gv at h
  simp only [Bool.and_eq_true] at h
  exact h.2.1
theorem ck_two {Y M P q : Int} (h : Cal.ok Y M P = true) : Cal.ckE Y M P q = 0 ∨ Cal.ckE Y M P q = 2 := by
  unfold Cal.ckE
  rw [if_pos h]
  split
  · exact .inl rfl
  · exact .inr rfl
theorem be_zero {Y M P q : Int} (h : Cal.ckE Y M P q ≠ 0) : Cal.beV Y M P q = 0 := by
  unfold Cal.beV
  rw [if_neg h]
def Two (a b : Int) (w : World) (e : Ending) (w' : World) : Prop := e = .returned (.tuple #[.int .i64 a, .int .i64 b]) ∧ Below w.heap.size w w'
def IntP (a : Int) (w : World) (e : Ending) (w' : World) : Prop := e = .returned (.int .i64 a) ∧ Below w.heap.size w w'
section
variable (gcs : Array Value) (cur : ByteArray) (y m p : Int) (cl : List Acc) (cA : Option Addr) (cc : Nat) (ro : RolesR) (el : List EntR) (eA : Option Addr) (ec : Nat) (w : World)
set_option maxRecDepth 100000 in
set_option maxHeartbeats 4000000 in
theorem ccheck_any (q : Int) (HG : Hid (gcs = #[.string cur, .int .i64 y, .int .i64 m, .int .i64 p, .slice cA cl.length cc, .int .i64 ro.investment, .int .i64 ro.goodwill, .int .i64 ro.associates, .int .i64 ro.inventory, .int .i64 ro.reserve, .int .i64 ro.minority, .int .i64 ro.retained, .int .i64 ro.acquired, .int .i64 ro.owners, .int .i64 ro.disposal, .int .i64 ro.associateProfit, .int .i64 ro.dividends, .int .i64 ro.minorityProfit, .int .i64 ro.difference, .int .i64 ro.margin, .slice eA el.length ec])) (h : GIn w cl cA el eA) (hF : FewOk cur cl el) :
    Calls Try.prog 38 #[.agg gcs, .int .i64 q] w (Two (Cr.bg (Gr.gv cur cl ro el (Cal.ok y m p)) y m p q) (Cr.ckE (Gr.gv cur cl ro el (Cal.ok y m p)) y m p q) w) := by
  have H := Lib.hid h
  have hgi : (Try.prog.info? 29).map (·.size) = some gcs.size := by rw [HG.out]; exact grp_size
  have hb : Below w.heap.size w (w.alloc (.cells gcs 29)) := (Below.refl _ _).alloc (Nat.le_refl _) _
  have HB := Lib.hid (Blk.new w 29 gcs)
  have K1 := Lib.hid (fun W h => gvalid_any gcs cur y m p cl cA cc ro el eA ec W HG h hF)
  have HC := Lib.hid (gv_cal (cur := cur) (cl := cl) (ro := ro) (el := el) (cal := Cal.ok y m p))
  clear h hF
  generalize Gr.gv cur cl ro el (Cal.ok y m p) = V at *
  cases V
  · go_enter Try.func38, Try.ntmps38
    go_wp2_with (first
      | (refine wpList_load_blk 29 (.tmp 2) rfl (w.heap.size) rfl (by kernel_rfl) (HB).out Try.underlying29 hgi ?_)
      | (go_at_call 50; refine (K1.out _ (H.out.step hb)).mono ?_; rintro e w2 ⟨rfl, hb9⟩; replace hb := bel hb hb9; clear hb9))
    go_ret2
    exact ⟨rfl, hb⟩
  · have HT := Lib.hid (ck_two (q := q) (HC.out rfl))
    have HZ := Lib.hid (be_zero (Y := y) (M := m) (P := p) (q := q))
    have KB := Lib.hid (fun W => cal_Begin y m p q W)
    have HD1 : Hid (Cr.bg true y m p q = Cal.beV y m p q) := Lib.hid rfl
    have HD2 : Hid (Cr.ckE true y m p q = Cal.ckE y m p q) := Lib.hid rfl
    generalize Cal.beV y m p q = v at *
    generalize Cal.ckE y m p q = x at *
    generalize Cr.bg true y m p q = bg at *
    generalize Cr.ckE true y m p q = ck at *
    cases hx : (x != 0)
    · have HX : Hid (x = 0) := Lib.hid (by simpa using hx)
      go_enter Try.func38, Try.ntmps38
      go_wp2_with (first
        | (refine wpList_load_blk 29 (.tmp 2) rfl (w.heap.size) rfl (by kernel_rfl) (HB).out Try.underlying29 hgi ?_)
        | (go_at_call 50; refine (K1.out _ (H.out.step hb)).mono ?_; rintro e w2 ⟨rfl, hb9⟩; replace hb := bel hb hb9; have HB2 := Lib.hid (HB.out.step hb9); clear hb9; have g1 : w2.cell? ⟨w.heap.size, 1, none⟩ = some (.int .i64 y) := (HB2.out.cell 1).trans (by rw [HG.out]; rfl); have g2 : w2.cell? ⟨w.heap.size, 2, none⟩ = some (.int .i64 m) := (HB2.out.cell 2).trans (by rw [HG.out]; rfl); have g3 : w2.cell? ⟨w.heap.size, 3, none⟩ = some (.int .i64 p) := (HB2.out.cell 3).trans (by rw [HG.out]; rfl))
        | (go_at_call 56; refine (KB.out _).mono ?_; rintro e w3 ⟨rfl, hb9⟩; replace hb := bel hb hb9; clear hb9))
      go_ret2
      exact ⟨by rw [HD1.out, HD2.out, HX.out]; rfl, hb⟩
    · have HX : Hid (x ≠ 0) := Lib.hid (by simpa using hx)
      go_enter Try.func38, Try.ntmps38
      go_wp2_with (first
        | (refine wpList_load_blk 29 (.tmp 2) rfl (w.heap.size) rfl (by kernel_rfl) (HB).out Try.underlying29 hgi ?_)
        | (go_at_call 50; refine (K1.out _ (H.out.step hb)).mono ?_; rintro e w2 ⟨rfl, hb9⟩; replace hb := bel hb hb9; have HB2 := Lib.hid (HB.out.step hb9); clear hb9; have g1 : w2.cell? ⟨w.heap.size, 1, none⟩ = some (.int .i64 y) := (HB2.out.cell 1).trans (by rw [HG.out]; rfl); have g2 : w2.cell? ⟨w.heap.size, 2, none⟩ = some (.int .i64 m) := (HB2.out.cell 2).trans (by rw [HG.out]; rfl); have g3 : w2.cell? ⟨w.heap.size, 3, none⟩ = some (.int .i64 p) := (HB2.out.cell 3).trans (by rw [HG.out]; rfl))
        | (go_at_call 56; refine (KB.out _).mono ?_; rintro e w3 ⟨rfl, hb9⟩; replace hb := bel hb hb9; clear hb9))
      go_ret2
      exact ⟨by rw [HD1.out, HD2.out, HZ.out HX.out, HT.out.resolve_left HX.out]; rfl, hb⟩
set_option maxRecDepth 100000 in
set_option maxHeartbeats 4000000 in
theorem shown_any (c d b : Int) (HG : Hid (gcs = #[.string cur, .int .i64 y, .int .i64 m, .int .i64 p, .slice cA cl.length cc, .int .i64 ro.investment, .int .i64 ro.goodwill, .int .i64 ro.associates, .int .i64 ro.inventory, .int .i64 ro.reserve, .int .i64 ro.minority, .int .i64 ro.retained, .int .i64 ro.acquired, .int .i64 ro.owners, .int .i64 ro.disposal, .int .i64 ro.associateProfit, .int .i64 ro.dividends, .int .i64 ro.minorityProfit, .int .i64 ro.difference, .int .i64 ro.margin, .slice eA el.length ec])) (h : GIn w cl cA el eA) (hn : cl.length ≤ 300000) :
    Calls Try.prog 23 #[.agg gcs, .int .i64 c, .int .i64 d, .int .i64 b] w (IntP (Cr.sh cl ro c d b) w) := by
  have H := Lib.hid h
  have hgi : (Try.prog.info? 29).map (·.size) = some gcs.size := by rw [HG.out]; exact grp_size
  have hb : Below w.heap.size w (w.alloc (.cells gcs 29)) := (Below.refl _ _).alloc (Nat.le_refl _) _
  have HB := Lib.hid (Blk.new w 29 gcs)
  have K1 := Lib.hid (fun W h => result_any gcs cur y m p cl cA cc ro el eA ec W c HG h hn)
  clear h
  have HD : Hid (Cr.sh cl ro c d b = if decide (d < b) && resB cl c then ro.retained else c) := Lib.hid rfl
  generalize Cr.sh cl ro c d b = s at *
  generalize resB cl c = rb at *
  by_cases h0 : d < b
  · cases rb
    · have HE : Hid (s = c) := Lib.hid (by rw [HD.out]; simp)
      go_enter Try.func23, Try.ntmps23
      go_wp2_with (first
        | (refine wpList_load_blk 29 (.tmp 4) rfl (w.heap.size) rfl (by kernel_rfl) (HB).out Try.underlying29 hgi ?_)
        | (go_at_call 29; refine (K1.out _ (H.out.step hb)).mono ?_; rintro e w2 ⟨rfl, hb9⟩; replace hb := bel hb hb9; clear hb9))
      go_ret
      exact ⟨by rw [HE.out]; rfl, hb⟩
    · have HE : Hid (s = ro.retained) := Lib.hid (by rw [HD.out]; simp [h0])
      go_enter Try.func23, Try.ntmps23
      go_wp2_with (first
        | (refine wpList_load_blk 29 (.tmp 4) rfl (w.heap.size) rfl (by kernel_rfl) (HB).out Try.underlying29 hgi ?_)
        | (go_at_call 29; refine (K1.out _ (H.out.step hb)).mono ?_; rintro e w2 ⟨rfl, hb9⟩; replace hb := bel hb hb9; have HB2 := Lib.hid (HB.out.step hb9); clear hb9; have g11 : w2.cell? ⟨w.heap.size, 11, none⟩ = some (.int .i64 ro.retained) := (HB2.out.cell 11).trans (by rw [HG.out]; rfl)))
      go_ret
      exact ⟨by rw [HE.out]; rfl, hb⟩
  · have HE : Hid (s = c) := Lib.hid (by rw [HD.out]; simp [h0])
    have h0' : decide (d < b) = false := by simpa using h0
    go_enter Try.func23, Try.ntmps23
    go_wp2_with fail
    go_ret
    exact ⟨by rw [HE.out]; rfl, hb⟩
end
end Go.Proofs.Ythfbpbbepogllaa
/- Dated amounts: what is shown, and its sums. No walk. -/
namespace Go.Proofs.Ythfbpbbepogllaa
set_option linter.unusedVariables false
set_option linter.unusedSimpArgs false
open Go.RowKit

structure DatR where
  account : Int
  date : Int
  amount : Int
instance inhDatR : Inhabited DatR := ⟨⟨0, 0, 0⟩⟩
def DatR.cells (x : DatR) : List Value := [.int .i64 x.account, .int .i64 x.date, .int .i64 x.amount]
theorem DatR.len (x : DatR) : x.cells.length = 3 := rfl
theorem DatR.at_ {w : World} {B : Nat} {A : Option Addr} {l : List DatR} (h : Rd w B 3 A l.length (cellsOf DatR.cells l)) {k : Nat} (hk : k < l.length) :
    ∃ b o, A = some ⟨b, o, none⟩ ∧ b < B ∧ w.cell? ⟨b, o + k * 3, none⟩ = some (.int .i64 l[k].account) ∧ w.cell? ⟨b, o + k * 3 + 1, none⟩ = some (.int .i64 l[k].date) ∧ w.cell? ⟨b, o + k * 3 + 2, none⟩ = some (.int .i64 l[k].amount) := by
  obtain ⟨b, o, e, hb, hc⟩ := rd_at (f := DatR.cells) (sz := 3) (fun _ => rfl) h hk
  exact ⟨b, o, e, hb, hc 0 _ rfl, hc 1 _ rfl, hc 2 _ rfl⟩
theorem DatR.one (x : DatR) : ∀ u ∈ x.cells, u.oneCell' = true := by
  intro u hu
  simp only [DatR.cells, List.mem_cons, List.not_mem_nil, or_false] at hu
  rcases hu with rfl | rfl | rfl
  all_goals rfl
def DatR.Ok (_w : World) (x : DatR) : Prop := Wf x.account ∧ Wf x.date ∧ Wf x.amount
namespace Cr
def notAm (x : DatR) : Bool := !amV x.amount
/-- the error of dated amounts -/
def vE (V : Bool) (Y M P q : Int) (cl : List Acc) (l : List DatR) : Int :=
  if ckE V Y M P q = 0 then (if l.all (fun x => Ch.fnB cl x.account) then (if l.any notAm then 1 else 0) else 8) else ckE V Y M P q
/-- the first day of the fiscal year, or 0 behind an error -/
def vB (V : Bool) (Y M P q : Int) (cl : List Acc) (l : List DatR) : Int := if vE V Y M P q cl l = 0 then bg V Y M P q else 0
/-- the sum of the amounts for which a word is true -/
def tot (F : DatR → Bool) (l : List DatR) : Int := (l.map fun x => if F x then x.amount else 0).sum
def toE (V : Bool) (Y M P q : Int) (cl : List Acc) (F : DatR → Bool) (l : List DatR) : Int := if vE V Y M P q cl l = 0 then (if amV (tot F l) then 0 else 2) else vE V Y M P q cl l
def toV (V : Bool) (Y M P q : Int) (cl : List Acc) (F : DatR → Bool) (l : List DatR) : Int := if toE V Y M P q cl F l = 0 then tot F l else 0
/-- shown on an income or expense account; shown on another one than its own -/
def isRes (cl : List Acc) (ro : RolesR) (b : Int) (x : DatR) : Bool := resB cl (sh cl ro x.account x.date b)
def isRet (cl : List Acc) (ro : RolesR) (b : Int) (x : DatR) : Bool := x.account != sh cl ro x.account x.date b
theorem ret_flip (cl : List Acc) (ro : RolesR) (b : Int) (x : DatR) : (sh cl ro x.account x.date b != x.account) = isRet cl ro b x := by
  unfold isRet
  rw [Bool.eq_iff_iff]
  simp only [bne_iff_ne, ne_eq]
  exact not_congr eq_comm
theorem tot_take (F : DatR → Bool) (l : List DatR) (k : Nat) (h : k < l.length) : tot F (l.take (k + 1)) = tot F (l.take k) + if F l[k] then l[k].amount else 0 := by
  unfold tot
  rw [List.take_succ_eq_append_getElem h, List.map_append, List.sum_append]
  simp
theorem tot_bd (F : DatR → Bool) (l : List DatR) (h : l.any notAm = false) : ∀ k, k ≤ l.length → -(1000000000000 * k) ≤ tot F (l.take k) ∧ tot F (l.take k) ≤ 1000000000000 * k := by
  intro k
  induction k with
  | zero => intro _; simp [tot]
  | succ k ih =>
    intro hk
    have h1 := ih (by omega)
    rw [tot_take F l k (by omega)]
    have h2 := List.any_eq_false.1 h (l[k]'(by omega)) (List.getElem_mem _)
    unfold notAm at h2
    have h3 := amV_is (by simpa using h2)
    split <;> omega
theorem vE_zero {V : Bool} {Y M P q : Int} {cl : List Acc} {l : List DatR} (h : vE V Y M P q cl l = 0) : l.any notAm = false := by
  unfold vE at h
  split at h
  · split at h
    · split at h
      · cases h
      · rename_i h1
        simpa using h1
    · cases h
  · rename_i h1
    exact absurd h h1
theorem all_no {cl : List Acc} {l : List DatR} {k : Nat} (hk : k < l.length) (h : Ch.fnB cl l[k].account = false) : l.all (fun x => Ch.fnB cl x.account) = false := by
  rw [List.all_eq_false]
  exact ⟨l[k], List.getElem_mem hk, by rw [h]; simp⟩
theorem all_yes {cl : List Acc} {l : List DatR} (h : ∀ j (hj : j < l.length), Ch.fnB cl l[j].account = true) : l.all (fun x => Ch.fnB cl x.account) = true := by
  rw [List.all_eq_true]
  intro x hx
  obtain ⟨j, hj, rfl⟩ := List.mem_iff_getElem.1 hx
  exact h j hj
theorem any_yes {l : List DatR} {k : Nat} (hk : k < l.length) (h : amV l[k].amount = false) : l.any notAm = true := by
  rw [List.any_eq_true]
  exact ⟨l[k], List.getElem_mem hk, by unfold notAm; rw [h]; rfl⟩
theorem any_no {l : List DatR} (h : ∀ j (hj : j < l.length), amV l[j].amount = true) : l.any notAm = false := by
  rw [List.any_eq_false]
  intro x hx
  obtain ⟨j, hj, rfl⟩ := List.mem_iff_getElem.1 hx
  unfold notAm
  rw [h j hj]; simp
end Cr
end Go.Proofs.Ythfbpbbepogllaa
/- The walks of carry.amounts and of its reference's valid. -/
namespace Go.Proofs.Ythfbpbbepogllaa
set_option linter.unusedVariables false
set_option linter.unusedSimpArgs false
open Go.RowKit

theorem camount_any (n : Int) (w : World) : Calls Try.prog 26 #[.int .i64 n] w (fun e w' => e = .returned (.bool (amV n)) ∧ w = w') := by
  have HE : Hid (amV n = (decide (-1000000000000 ≤ n) && decide (n ≤ 1000000000000))) := Lib.hid rfl
  by_cases h1 : -1000000000000 ≤ n
  · by_cases h2 : n ≤ 1000000000000
    all_goals
      go_enter Try.func26, Try.ntmps26
      go_wp2_with fail
      go_ret
      exact ⟨ret_bool (by rw [HE.out]; simp [h1, h2] <;> omega), rfl⟩
  · go_enter Try.func26, Try.ntmps26
    go_wp2_with fail
    go_ret
    exact ⟨ret_bool (by rw [HE.out]; simp [h1] <;> omega), rfl⟩
theorem am1_any (x : DatR) (w : World) : Calls Try.prog 41 #[.agg #[.int .i64 x.account, .int .i64 x.date, .int .i64 x.amount]] w (BoolPost (Cr.notAm x) w) := by
  have hb : Below w.heap.size w (w.alloc (.cells #[.int .i64 x.account, .int .i64 x.date, .int .i64 x.amount] 90)) := (Below.refl _ _).alloc (Nat.le_refl _) _
  have HB := Lib.hid hb
  clear hb
  have HD : Hid (Cr.notAm x = !amV x.amount) := Lib.hid rfl
  go_enter Try.func41, Try.ntmps41
  go_wp2_with (go_at_call 26; refine (camount_any _ _).mono ?_; rintro e w2 ⟨rfl, rfl⟩)
  go_ret
  exact ⟨by rw [HD.out]; rfl, HB.out⟩
set_option maxHeartbeats 1000000 in
theorem idxDat_any (l : List DatR) (A : Option Addr) (lc : Nat) (w : World) (hr : Rd w w.heap.size 3 A l.length (cellsOf DatR.cells l)) (hn : l.length ≤ 1000000) :
    Calls Try.prog 59 #[.slice A l.length lc, .func (.func 41) #[] #[]] w (fun e w' => e = .returned (.int .i64 (fidx Cr.notAm l)) ∧ Below w.heap.size w w') := by
  have hb := Below.refl w.heap.size w
  have HR := Lib.hid hr
  clear hr
  go_enter Try.func59, Try.ntmps59
  go_wp2_with fail
  go_loopw [5, 8] (fun _ t wr => ∃ k : Nat, k ≤ l.length ∧ (∀ j (h : j < k) (h1 : j < l.length), Cr.notAm (l[j]'h1) = false) ∧ t = .int .i64 k ∧ Below w.heap.size w wr) (fun _ t _ => l.length - (intOf t).toNat)
  case atStart => exact ⟨0, by omega, fun j h => by omega, rfl, hb⟩
  case round =>
    clear hb
    obtain ⟨k, hk, hno, rfl, hb⟩ := hrel
    have HN := Lib.hid hno
    clear hno
    by_cases hlt : k < l.length
    · obtain ⟨b, o, hA, hbo, f0, f1, f2⟩ := DatR.at_ (HR.out.below hb (Nat.le_refl _)) hlt
      subst hA
      cases hq : Cr.notAm l[k]
      · have HQ := Lib.hid hq
        go_wp2_with (go_at_call 41; refine ((am1_any l[k] _)).mono ?_; rintro e w2 ⟨rfl, hb2⟩; replace hb := bel hb hb2; clear hb2)
        go_roundw
        case rel =>
          refine ⟨k + 1, by omega, fun j h h1 => ?_, by go_num, hb⟩
          by_cases e : j = k
          · subst e; exact HQ.out
          · exact HN.out j (by omega) h1
        case measure => simp [intOf]; omega
      · have HE : Hid (fidx Cr.notAm l = k) := Lib.hid (fidx_hit k hlt (fun j hj => HN.out j hj (by omega)) hq)
        go_wp2_with (go_at_call 41; refine ((am1_any l[k] _)).mono ?_; rintro e w2 ⟨rfl, hb2⟩; replace hb := bel hb hb2; clear hb2)
        go_ret
        exact ⟨ret_int HE.out.symm, hb⟩
    · have HE : Hid (fidx Cr.notAm l = -1) := Lib.hid (fidx_miss fun j hj => HN.out j (by omega) hj)
      go_wp2_with fail
      go_ret
      exact ⟨ret_int HE.out.symm, hb⟩
theorem hasDat_any (l : List DatR) (A : Option Addr) (lc : Nat) (w : World) (hr : Rd w w.heap.size 3 A l.length (cellsOf DatR.cells l)) (hn : l.length ≤ 1000000) :
    Calls Try.prog 40 #[.slice A l.length lc, .func (.func 41) #[] #[]] w (BoolPost (l.any Cr.notAm) w) := by
  have HE := Lib.hid (fidx_any Cr.notAm l).symm
  generalize l.any Cr.notAm = v at *
  have K := Lib.hid (idxDat_any l A lc w hr hn)
  clear hr
  generalize fidx Cr.notAm l = i at *
  by_cases h0 : 0 ≤ i
  · go_enter Try.func40, Try.ntmps40
    go_wp2_with (go_at_call 59; refine K.out.mono ?_; rintro e w2 ⟨rfl, hb2⟩)
    go_ret
    exact ⟨by rw [HE.out]; simp [h0], hb2⟩
  · go_enter Try.func40, Try.ntmps40
    go_wp2_with (go_at_call 59; refine K.out.mono ?_; rintro e w2 ⟨rfl, hb2⟩)
    go_ret
    exact ⟨by rw [HE.out]; simp [h0], hb2⟩
section
variable (gcs : Array Value) (cur : ByteArray) (y m p : Int) (cl : List Acc) (cA : Option Addr) (cc : Nat) (ro : RolesR) (el : List EntR) (eA : Option Addr) (ec : Nat) (w : World)
set_option maxRecDepth 100000 in
set_option maxHeartbeats 8000000 in
theorem amounts_any (l : List DatR) (A : Option Addr) (lc : Nat) (q : Int) (HG : Hid (gcs = #[.string cur, .int .i64 y, .int .i64 m, .int .i64 p, .slice cA cl.length cc, .int .i64 ro.investment, .int .i64 ro.goodwill, .int .i64 ro.associates, .int .i64 ro.inventory, .int .i64 ro.reserve, .int .i64 ro.minority, .int .i64 ro.retained, .int .i64 ro.acquired, .int .i64 ro.owners, .int .i64 ro.disposal, .int .i64 ro.associateProfit, .int .i64 ro.dividends, .int .i64 ro.minorityProfit, .int .i64 ro.difference, .int .i64 ro.margin, .slice eA el.length ec])) (h : GIn w cl cA el eA) (hF : FewOk cur cl el) (hr : Rd w w.heap.size 3 A l.length (cellsOf DatR.cells l)) (hl : l.length ≤ 1000) :
    Calls Try.prog 22 #[.agg gcs, .slice A l.length lc, .int .i64 q] w (Two (Cr.vB (Gr.gv cur cl ro el (Cal.ok y m p)) y m p q cl l) (Cr.vE (Gr.gv cur cl ro el (Cal.ok y m p)) y m p q cl l) w) := by
  have hn : cl.length ≤ 300000 := by have := hF.ch; omega
  have H := Lib.hid h
  have HR := Lib.hid hr
  have hgi : (Try.prog.info? 29).map (·.size) = some gcs.size := by rw [HG.out]; exact grp_size
  have hb : Below w.heap.size w (w.alloc (.cells gcs 29)) := (Below.refl _ _).alloc (Nat.le_refl _) _
  have HB := Lib.hid (Blk.new w 29 gcs)
  have K1 := Lib.hid (fun W h => ccheck_any gcs cur y m p cl cA cc ro el eA ec W q HG h hF)
  clear h hF hr
  generalize Gr.gv cur cl ro el (Cal.ok y m p) = V at *
  have HE : Hid (Cr.vE V y m p q cl l = if Cr.ckE V y m p q = 0 then (if l.all (fun x => Ch.fnB cl x.account) then (if l.any Cr.notAm then 1 else 0) else 8) else Cr.ckE V y m p q) := Lib.hid rfl
  have HVB : Hid (Cr.vB V y m p q cl l = if Cr.vE V y m p q cl l = 0 then Cr.bg V y m p q else 0) := Lib.hid rfl
  generalize Cr.vB V y m p q cl l = vb at *
  generalize Cr.vE V y m p q cl l = ve at *
  generalize Cr.ckE V y m p q = ck at *
  generalize Cr.bg V y m p q = bg at *
  cases hx : (ck != 0)
  · have hck : ck = 0 := by simpa using hx
    rw [hck, if_pos rfl] at HE
    clear hck
    go_enter Try.func22, Try.ntmps22
    go_wp2_with (first
      | (refine wpList_load_blk 29 (.tmp 3) rfl (w.heap.size) rfl (by kernel_rfl) (HB).out Try.underlying29 hgi ?_)
      | (go_at_call 38; refine (K1.out _ (H.out.step hb)).mono ?_; rintro e w2 ⟨rfl, hb9⟩; replace hb := bel hb hb9; have HB2 := Lib.hid (HB.out.step hb9); clear hb9))
    go_loopw [25] (fun t wr => ∃ k : Nat, k ≤ l.length ∧ (∀ j (h : j < l.length), j < k → Ch.fnB cl l[j].account = true) ∧ t = .int .i64 k ∧ Below w2.heap.size w2 wr) (fun t _ => l.length - (intOf t).toNat)
    case atStart => exact ⟨0, by omega, fun j _ h => by omega, rfl, Below.refl _ _⟩
    case round =>
      obtain ⟨k, hk, hno, rfl, hbr⟩ := hrel
      have HN := Lib.hid hno
      clear hno
      have hbw := bel hb hbr
      have hz := hbr.size
      by_cases hlt : k < l.length
      · obtain ⟨b, o, hA, hbo, f0, f1, f2⟩ := DatR.at_ (Rd.now HR.out hbw) hlt
        subst hA
        have HNO := Lib.hid (Cr.all_no (cl := cl) hlt)
        have HBr := Lib.hid ((HB2.out.step hbr).alloc (.cells #[.int .i64 l[k].account, .int .i64 l[k].date, .int .i64 l[k].amount] 90))
        have hbr1 := hbr.alloc hz (.cells #[.int .i64 l[k].account, .int .i64 l[k].date, .int .i64 l[k].amount] 90)
        have hbw1 := bel hb hbr1
        have K2 := Lib.hid (fun W h => account_any gcs cur y m p cl cA cc ro el _ ec W l[k].account HG h hn)
        unfold AccPost at K2
        generalize Ch.fnV cl l[k].account = a at *
        cases hf : Ch.fnB cl l[k].account
        · have HV : Hid (ve = 8) := Lib.hid (by rw [HE.out, HNO.out hf]; rfl)
          rw [hf] at K2
          clear hf
          go_wp2_with (first
            | (refine wpList_load_blk 29 (.tmp 3) rfl (w.heap.size) rfl (by kernel_rfl) (HBr).out Try.underlying29 hgi ?_)
            | (go_at_call 39; refine (K2.out _ (H.out.step hbw1)).mono ?_; rintro e w3 ⟨rfl, hb9⟩; have hb3 := (bel hbw1 hb9).alloc (bel hbw1 hb9).size (.cells #[.int .i64 a.code, .int .i64 a.kind, .int .i64 a.basis, .int .i64 a.parent] 99); clear hb9))
          go_ret2
          exact ⟨by rw [HVB.out, HV.out]; rfl, hb3⟩
        · have HF := Lib.hid hf
          rw [hf] at K2
          clear hf
          go_wp2_with (first
            | (refine wpList_load_blk 29 (.tmp 3) rfl (w.heap.size) rfl (by kernel_rfl) (HBr).out Try.underlying29 hgi ?_)
            | (go_at_call 39; refine (K2.out _ (H.out.step hbw1)).mono ?_; rintro e w3 ⟨rfl, hb9⟩; have hb3 := (bel hbr1 hb9).alloc (bel hbr1 hb9).size (.cells #[.int .i64 a.code, .int .i64 a.kind, .int .i64 a.basis, .int .i64 a.parent] 99); clear hb9))
          go_roundw
          case rel =>
            refine ⟨k + 1, by omega, fun j hj hjk => ?_, by go_num, hb3⟩
            by_cases e : j = k
            · subst e; exact HF.out
            · exact HN.out j hj (by omega)
          case measure => simp [intOf]; omega
      · have HALL := Lib.hid (Cr.all_yes (cl := cl) (l := l) fun j hj => HN.out j hj (by omega))
        have K3 := Lib.hid (fun W h => hasDat_any l A lc W h (by omega))
        rw [HALL.out, if_pos rfl] at HE
        clear HALL
        cases ha : l.any Cr.notAm
        · have HV : Hid (ve = 0) := Lib.hid (by rw [HE.out, ha]; rfl)
          rw [ha] at K3
          clear ha
          go_wp2_with (go_at_call 40; refine (K3.out _ (Rd.now HR.out hbw)).mono ?_; rintro e w3 ⟨rfl, hb9⟩; replace hbw := bel hbw hb9; clear hb9)
          go_ret2
          exact ⟨by rw [HVB.out, HV.out]; rfl, hbw⟩
        · have HV : Hid (ve = 1) := Lib.hid (by rw [HE.out, ha]; rfl)
          rw [ha] at K3
          clear ha
          go_wp2_with (go_at_call 40; refine (K3.out _ (Rd.now HR.out hbw)).mono ?_; rintro e w3 ⟨rfl, hb9⟩; replace hbw := bel hbw hb9; clear hb9)
          go_ret2
          exact ⟨by rw [HVB.out, HV.out]; rfl, hbw⟩
  · have hne : ck ≠ 0 := by simpa using hx
    have HV : Hid (ve = ck) := Lib.hid (by rw [HE.out, if_neg hne])
    have HV0 : Hid (vb = 0) := Lib.hid (by rw [HVB.out, HV.out, if_neg hne])
    clear hne
    go_enter Try.func22, Try.ntmps22
    go_wp2_with (first
      | (refine wpList_load_blk 29 (.tmp 3) rfl (w.heap.size) rfl (by kernel_rfl) (HB).out Try.underlying29 hgi ?_)
      | (go_at_call 38; refine (K1.out _ (H.out.step hb)).mono ?_; rintro e w2 ⟨rfl, hb9⟩; replace hb := bel hb hb9; clear hb9))
    go_ret2
    exact ⟨by rw [HV0.out, HV.out]; rfl, hb⟩
end
end Go.Proofs.Ythfbpbbepogllaa
/- The walk of the reference's valid (dated amounts). -/
namespace Go.Proofs.Ythfbpbbepogllaa
set_option linter.unusedVariables false
set_option linter.unusedSimpArgs false
open Go.RowKit

section
variable (gcs : Array Value) (cur : ByteArray) (y m p : Int) (cl : List Acc) (cA : Option Addr) (cc : Nat) (ro : RolesR) (el : List EntR) (eA : Option Addr) (ec : Nat) (w : World)
end
end Go.Proofs.Ythfbpbbepogllaa
/- The walks of carry.total, Result and Retained. -/
namespace Go.Proofs.Ythfbpbbepogllaa
set_option linter.unusedVariables false
set_option linter.unusedSimpArgs false
open Go.RowKit

theorem res1_any (gcs : Array Value) (cur : ByteArray) (y m p : Int) (cl : List Acc) (cA : Option Addr) (cc : Nat) (ro : RolesR) (el : List EntR) (eA : Option Addr) (ec : Nat) (w : World) (a c : Int) (g : Nat) (HG : Hid (gcs = #[.string cur, .int .i64 y, .int .i64 m, .int .i64 p, .slice cA cl.length cc, .int .i64 ro.investment, .int .i64 ro.goodwill, .int .i64 ro.associates, .int .i64 ro.inventory, .int .i64 ro.reserve, .int .i64 ro.minority, .int .i64 ro.retained, .int .i64 ro.acquired, .int .i64 ro.owners, .int .i64 ro.disposal, .int .i64 ro.associateProfit, .int .i64 ro.dividends, .int .i64 ro.minorityProfit, .int .i64 ro.difference, .int .i64 ro.margin, .slice eA el.length ec])) (h : GIn w cl cA el eA) (hn : cl.length ≤ 300000) (hB : Blk w g 29 gcs) :
    Calls Try.prog 28 #[.int .i64 a, .int .i64 c, .pointer (some ⟨g, 0, none⟩)] w (BoolPost (resB cl c) w) := by
  have hgi : (Try.prog.info? 29).map (·.size) = some gcs.size := by rw [HG.out]; exact grp_size
  have HB := Lib.hid hB
  have K := Lib.hid (result_any gcs cur y m p cl cA cc ro el eA ec w c HG h hn)
  clear hB h
  go_enter Try.func28, Try.ntmps28
  go_wp2_with (first
    | (refine wpList_load_blk 29 (.tmp 2) rfl (g) rfl (by kernel_rfl) (HB).out Try.underlying29 hgi ?_)
    | (go_at_call 29; refine K.out.mono ?_; rintro e w2 ⟨rfl, hb⟩))
  go_ret
  exact ⟨rfl, hb⟩
section
variable (gcs : Array Value) (cur : ByteArray) (y m p : Int) (cl : List Acc) (cA : Option Addr) (cc : Nat) (ro : RolesR) (el : List EntR) (eA : Option Addr) (ec : Nat) (w : World)
set_option maxRecDepth 100000 in
set_option maxHeartbeats 8000000 in
theorem totalRes_any (F : DatR → Bool) (l : List DatR) (A : Option Addr) (lc : Nat) (q : Int) (g : Nat) (HG : Hid (gcs = #[.string cur, .int .i64 y, .int .i64 m, .int .i64 p, .slice cA cl.length cc, .int .i64 ro.investment, .int .i64 ro.goodwill, .int .i64 ro.associates, .int .i64 ro.inventory, .int .i64 ro.reserve, .int .i64 ro.minority, .int .i64 ro.retained, .int .i64 ro.acquired, .int .i64 ro.owners, .int .i64 ro.disposal, .int .i64 ro.associateProfit, .int .i64 ro.dividends, .int .i64 ro.minorityProfit, .int .i64 ro.difference, .int .i64 ro.margin, .slice eA el.length ec])) (h : GIn w cl cA el eA) (hF : FewOk cur cl el) (hr : Rd w w.heap.size 3 A l.length (cellsOf DatR.cells l)) (hl : l.length ≤ 1000)
    (hc : ∀ x ∈ l, ∀ W, Below w.heap.size w W → Calls Try.prog 28 #[.int .i64 x.account, .int .i64 (Cr.sh cl ro x.account x.date (Cr.bg (Gr.gv cur cl ro el (Cal.ok y m p)) y m p q)), .pointer (some ⟨g, 0, none⟩)] W (BoolPost (F x) W)) :
    Calls Try.prog 27 #[.agg gcs, .slice A l.length lc, .int .i64 q, .func (.func 28) #[] #[.pointer (some ⟨g, 0, none⟩)]] w (Two (Cr.toV (Gr.gv cur cl ro el (Cal.ok y m p)) y m p q cl F l) (Cr.toE (Gr.gv cur cl ro el (Cal.ok y m p)) y m p q cl F l) w) := by
  have hn : cl.length ≤ 300000 := by have := hF.ch; omega
  have H := Lib.hid h
  have HR := Lib.hid hr
  have HC := Lib.hid hc
  have hgi : (Try.prog.info? 29).map (·.size) = some gcs.size := by rw [HG.out]; exact grp_size
  have hb : Below w.heap.size w (w.alloc (.cells gcs 29)) := (Below.refl _ _).alloc (Nat.le_refl _) _
  have HB := Lib.hid (Blk.new w 29 gcs)
  have K1 := Lib.hid (fun W h h2 => amounts_any gcs cur y m p cl cA cc ro el eA ec W l A lc q HG h hF h2 hl)
  clear h hF hr hc
  generalize Gr.gv cur cl ro el (Cal.ok y m p) = V at *
  have HNA := Lib.hid (Cr.vE_zero (V := V) (Y := y) (M := m) (P := p) (q := q) (cl := cl) (l := l))
  have HE : Hid (Cr.toE V y m p q cl F l = if Cr.vE V y m p q cl l = 0 then (if amV (Cr.tot F l) then 0 else 2) else Cr.vE V y m p q cl l) := Lib.hid rfl
  have HV : Hid (Cr.toV V y m p q cl F l = if Cr.toE V y m p q cl F l = 0 then Cr.tot F l else 0) := Lib.hid rfl
  have HVB : Hid (Cr.vB V y m p q cl l = if Cr.vE V y m p q cl l = 0 then Cr.bg V y m p q else 0) := Lib.hid rfl
  generalize Cr.toV V y m p q cl F l = tv at *
  generalize Cr.toE V y m p q cl F l = te at *
  generalize Cr.vB V y m p q cl l = vb at *
  generalize Cr.vE V y m p q cl l = ve at *
  generalize Cr.bg V y m p q = bg at *
  cases hx : (ve != 0)
  · have hve : ve = 0 := by simpa using hx
    rw [hve, if_pos rfl] at HE HVB
    have HBD := Lib.hid (Cr.tot_bd F l (HNA.out hve))
    have HNA2 := Lib.hid (HNA.out hve)
    clear hve
    go_enter Try.func27, Try.ntmps27
    go_wp2_with (first
      | (refine wpList_load_blk 29 (.tmp 4) rfl (w.heap.size) rfl (by kernel_rfl) (HB).out Try.underlying29 hgi ?_)
      | (go_at_call 22; refine (K1.out _ (H.out.step hb) (Rd.now HR.out hb)).mono ?_; rintro e w2 ⟨rfl, hb9⟩; replace hb := bel hb hb9; have HB2 := Lib.hid (HB.out.step hb9); clear hb9))
    go_loopw [12, 27] (fun s t wr => ∃ k : Nat, k ≤ l.length ∧ s = .int .i64 (Cr.tot F (l.take k)) ∧ t = .int .i64 k ∧ Below w2.heap.size w2 wr) (fun _ t _ => l.length - (intOf t).toNat)
    case atStart => exact ⟨0, by omega, rfl, rfl, Below.refl _ _⟩
    case round =>
      obtain ⟨k, hk, rfl, rfl, hbr⟩ := hrel
      have hbw := bel hb hbr
      have hz := hbr.size
      have hbd := HBD.out k hk
      by_cases hlt : k < l.length
      · obtain ⟨b, o, hA, hbo, f0, f1, f2⟩ := DatR.at_ (Rd.now HR.out hbw) hlt
        subst hA
        have HTT := Lib.hid (Cr.tot_take F l k hlt)
        have hmem := List.getElem_mem hlt
        have ham : -1000000000000 ≤ l[k].amount ∧ l[k].amount ≤ 1000000000000 := by
          have h2 := List.any_eq_false.1 HNA2.out l[k] hmem
          unfold Cr.notAm at h2
          exact amV_is (by simpa using h2)
        have HMEM := Lib.hid hmem
        clear hmem
        generalize hx : l[k] = x at *
        clear hx
        obtain ⟨xa, xd, xm⟩ := x
        dsimp only at *
        have hbr1 := hbr.alloc hz (.cells #[.int .i64 xa, .int .i64 xd, .int .i64 xm] 90)
        have hbw1 := bel hb hbr1
        have HBr := Lib.hid ((HB2.out.step hbr).alloc (.cells #[.int .i64 xa, .int .i64 xd, .int .i64 xm] 90))
        have HX := Lib.hid (Blk.new wr 90 #[.int .i64 xa, .int .i64 xd, .int .i64 xm])
        have K2 := Lib.hid (fun W h => shown_any gcs cur y m p cl cA cc ro el _ ec W xa xd vb HG h hn)
        have K3 := Lib.hid (fun W h => HC.out ⟨xa, xd, xm⟩ HMEM.out W h)
        rw [← HVB.out] at K3
        dsimp only at K3
        generalize Cr.sh cl ro xa xd vb = pl at *
        generalize F ⟨xa, xd, xm⟩ = fx at *
        generalize Cr.tot F (l.take k) = s at *
        have q0 : ∀ d : Later (wr.alloc (.cells #[.int .i64 xa, .int .i64 xd, .int .i64 xm] 90)), d.now.cell? ⟨wr.heap.size, 0, none⟩ = some (.int .i64 xa) := fun d => d.cell HX.out.lt (HX.out.cell 0)
        have q1 : ∀ d : Later (wr.alloc (.cells #[.int .i64 xa, .int .i64 xd, .int .i64 xm] 90)), d.now.cell? ⟨wr.heap.size, 1, none⟩ = some (.int .i64 xd) := fun d => d.cell HX.out.lt (HX.out.cell 1)
        go_wp2_with fail
        refine wp_region_later (by kernel_rfl) (by kernel_rfl) ?_
        (repeat (go_big_quiet_step ((fail)))); refine quiet_load_blk 29 (.tmp 4) rfl (w.heap.size) rfl (by kernel_rfl) (HBr).out Try.underlying29 hgi ?_; (try simp only [Act.put, List.setIfInBounds_toArray, List.set_cons_zero, List.set_cons_succ])
        (repeat (go_big_quiet_step ((fail)))); go_big_quiet_step ((go_at_call 23; exact Later.call _ (K2.out _ (H.out.step (bel hbw1 (Later.below _))))))
        (repeat (go_big_quiet_step ((fail)))); go_big_quiet_step ((go_at_call 28; exact Later.call _ (K3.out _ (bel hbw1 (Later.below _)))))
        (repeat (go_big_quiet_step ((fail)))); refine wpQuiet_nil ?_; rintro _ ⟨dq, rfl⟩
        have hbe := bel hbr1 dq.below
        have r2 := (HX.out.step dq.below).cell 2
        clear q0 q1 f0 f1 f2
        cases fx
        · go_wp2_with fail
          go_roundw
          case rel => exact ⟨k + 1, by omega, by rw [HTT.out]; simp, by go_num, hbe⟩
          case measure => simp [intOf]; omega
        · go_wp2_with fail
          go_roundw
          case rel => exact ⟨k + 1, by omega, by rw [HTT.out]; simp, by go_num, hbe⟩
          case measure => simp [intOf]; omega
      · have HT : Hid (Cr.tot F (l.take k) = Cr.tot F l) := Lib.hid (by rw [List.take_of_length_le (by omega)])
        rw [HT.out] at hbd ⊢
        generalize Cr.tot F l = s at *
        cases ha : amV s
        · have HE2 : Hid (te = 2) := Lib.hid (by rw [HE.out, ha]; rfl)
          have HV2 : Hid (tv = 0) := Lib.hid (by rw [HV.out, HE2.out]; rfl)
          have HA := Lib.hid ha
          clear ha
          go_wp2_with (go_at_call 26; refine (camount_any _ _).mono ?_; rintro e w2 ⟨rfl, rfl⟩; rw [HA.out])
          go_ret2
          exact ⟨by rw [HE2.out, HV2.out]; rfl, hbw⟩
        · have HE2 : Hid (te = 0) := Lib.hid (by rw [HE.out, ha]; rfl)
          have HV2 : Hid (tv = s) := Lib.hid (by rw [HV.out, HE2.out]; rfl)
          have HA := Lib.hid ha
          clear ha
          go_wp2_with (go_at_call 26; refine (camount_any _ _).mono ?_; rintro e w2 ⟨rfl, rfl⟩; rw [HA.out])
          go_ret2
          exact ⟨by rw [HE2.out, HV2.out]; rfl, hbw⟩
  · have hne : ve ≠ 0 := by simpa using hx
    have HE2 : Hid (te = ve) := Lib.hid (by rw [HE.out, if_neg hne])
    have HV2 : Hid (tv = 0) := Lib.hid (by rw [HV.out, HE2.out, if_neg hne])
    clear hne
    go_enter Try.func27, Try.ntmps27
    go_wp2_with (first
      | (refine wpList_load_blk 29 (.tmp 4) rfl (w.heap.size) rfl (by kernel_rfl) (HB).out Try.underlying29 hgi ?_)
      | (go_at_call 22; refine (K1.out _ (H.out.step hb) (Rd.now HR.out hb)).mono ?_; rintro e w2 ⟨rfl, hb9⟩; replace hb := bel hb hb9; clear hb9))
    go_ret2
    exact ⟨by rw [HE2.out, HV2.out]; rfl, hb⟩
end
end Go.Proofs.Ythfbpbbepogllaa
/- The walks of carry.Result and Retained, and of their references. -/
namespace Go.Proofs.Ythfbpbbepogllaa
set_option linter.unusedVariables false
set_option linter.unusedSimpArgs false
open Go.RowKit

theorem bg_is {V : Bool} {Y M P q : Int} {cl : List Acc} {l : List DatR} (h : Cr.vE V Y M P q cl l = 0) : Cr.bg V Y M P q = Cal.beV Y M P q := by
  unfold Cr.vE at h
  split at h
  · rename_i h1
    unfold Cr.ckE at h1
    unfold Cr.bg
    cases V
    · simp at h1
    · rfl
  · rename_i h1
    exact absurd h h1
section
variable (gcs : Array Value) (cur : ByteArray) (y m p : Int) (cl : List Acc) (cA : Option Addr) (cc : Nat) (ro : RolesR) (el : List EntR) (eA : Option Addr) (ec : Nat) (w : World)
def RTwo (F : Int → DatR → Bool) (V : Bool) (y m p q : Int) (cl : List Acc) (l : List DatR) (w : World) : Ending → World → Prop := Two (Cr.toV V y m p q cl (F (Cr.bg V y m p q)) l) (Cr.toE V y m p q cl (F (Cr.bg V y m p q)) l) w
set_option maxRecDepth 100000 in
set_option maxHeartbeats 4000000 in
theorem cres_any (l : List DatR) (A : Option Addr) (lc : Nat) (q : Int) (HG : Hid (gcs = #[.string cur, .int .i64 y, .int .i64 m, .int .i64 p, .slice cA cl.length cc, .int .i64 ro.investment, .int .i64 ro.goodwill, .int .i64 ro.associates, .int .i64 ro.inventory, .int .i64 ro.reserve, .int .i64 ro.minority, .int .i64 ro.retained, .int .i64 ro.acquired, .int .i64 ro.owners, .int .i64 ro.disposal, .int .i64 ro.associateProfit, .int .i64 ro.dividends, .int .i64 ro.minorityProfit, .int .i64 ro.difference, .int .i64 ro.margin, .slice eA el.length ec])) (h : GIn w cl cA el eA) (hF : FewOk cur cl el) (hr : Rd w w.heap.size 3 A l.length (cellsOf DatR.cells l)) (hl : l.length ≤ 1000) :
    Calls Try.prog 12 #[.agg gcs, .slice A l.length lc, .int .i64 q] w (RTwo (Cr.isRes cl ro) (Gr.gv cur cl ro el (Cal.ok y m p)) y m p q cl l w) := by
  have hn : cl.length ≤ 300000 := by have := hF.ch; omega
  have hgi : (Try.prog.info? 29).map (·.size) = some gcs.size := by rw [HG.out]; exact grp_size
  have hb : Below w.heap.size w (w.alloc (.cells gcs 29)) := (Below.refl _ _).alloc (Nat.le_refl _) _
  have HB := Lib.hid (Blk.new w 29 gcs)
  have K1 := Lib.hid (totalRes_any gcs cur y m p cl cA cc ro el eA ec (w.alloc (.cells gcs 29)) (Cr.isRes cl ro (Cr.bg (Gr.gv cur cl ro el (Cal.ok y m p)) y m p q)) l A lc q w.heap.size HG (h.step hb) hF (Rd.now hr hb) hl (fun x _ W hW => res1_any gcs cur y m p cl cA cc ro el eA ec W _ _ w.heap.size HG (h.step (bel hb hW)) hn (HB.out.step hW)))
  clear h hF hr
  unfold RTwo
  generalize Gr.gv cur cl ro el (Cal.ok y m p) = V at *
  generalize Cr.toV V y m p q cl (Cr.isRes cl ro (Cr.bg V y m p q)) l = tv at *
  generalize Cr.toE V y m p q cl (Cr.isRes cl ro (Cr.bg V y m p q)) l = te at *
  go_enter Try.func12, Try.ntmps12
  go_wp2_with (first
    | (refine wpList_load_blk 29 (.tmp 3) rfl (w.heap.size) rfl (by kernel_rfl) (HB).out Try.underlying29 hgi ?_)
    | (go_at_call 27; refine K1.out.mono ?_; rintro e w2 ⟨rfl, hb9⟩; replace hb := bel hb hb9; clear hb9))
  go_ret2
  exact ⟨rfl, hb⟩
end
end Go.Proofs.Ythfbpbbepogllaa
/- The walks of carry.Place, of its reference, of the law's own 'awake'. -/
namespace Go.Proofs.Ythfbpbbepogllaa
set_option linter.unusedVariables false
set_option linter.unusedSimpArgs false
open Go.RowKit

section
variable (gcs : Array Value) (cur : ByteArray) (y m p : Int) (cl : List Acc) (cA : Option Addr) (cc : Nat) (ro : RolesR) (el : List EntR) (eA : Option Addr) (ec : Nat) (w : World)
set_option maxRecDepth 100000 in
set_option maxHeartbeats 4000000 in
theorem cplace_any (c d q : Int) (HG : Hid (gcs = #[.string cur, .int .i64 y, .int .i64 m, .int .i64 p, .slice cA cl.length cc, .int .i64 ro.investment, .int .i64 ro.goodwill, .int .i64 ro.associates, .int .i64 ro.inventory, .int .i64 ro.reserve, .int .i64 ro.minority, .int .i64 ro.retained, .int .i64 ro.acquired, .int .i64 ro.owners, .int .i64 ro.disposal, .int .i64 ro.associateProfit, .int .i64 ro.dividends, .int .i64 ro.minorityProfit, .int .i64 ro.difference, .int .i64 ro.margin, .slice eA el.length ec])) (h : GIn w cl cA el eA) (hF : FewOk cur cl el) :
    Calls Try.prog 21 #[.agg gcs, .int .i64 c, .int .i64 d, .int .i64 q] w (Two (Cr.plV (Gr.gv cur cl ro el (Cal.ok y m p)) y m p q cl ro c d) (Cr.plE (Gr.gv cur cl ro el (Cal.ok y m p)) y m p q cl c) w) := by
  have hn : cl.length ≤ 300000 := by have := hF.ch; omega
  have H := Lib.hid h
  have hgi : (Try.prog.info? 29).map (·.size) = some gcs.size := by rw [HG.out]; exact grp_size
  have hb : Below w.heap.size w (w.alloc (.cells gcs 29)) := (Below.refl _ _).alloc (Nat.le_refl _) _
  have HB := Lib.hid (Blk.new w 29 gcs)
  have K1 := Lib.hid (fun W h => ccheck_any gcs cur y m p cl cA cc ro el eA ec W q HG h hF)
  have K2 := Lib.hid (fun W h => account_any gcs cur y m p cl cA cc ro el eA ec W c HG h hn)
  have HBG : Hid (Cr.ckE (Gr.gv cur cl ro el (Cal.ok y m p)) y m p q = 0 → Cr.bg (Gr.gv cur cl ro el (Cal.ok y m p)) y m p q = Cal.beV y m p q) := Lib.hid (fun h => by
    unfold Cr.ckE at h
    unfold Cr.bg
    cases hv : Gr.gv cur cl ro el (Cal.ok y m p) <;> rw [hv] at h <;> simp_all)
  clear h hF
  generalize Gr.gv cur cl ro el (Cal.ok y m p) = V at *
  have HV : Hid (Cr.plV V y m p q cl ro c d = if Cr.plE V y m p q cl c = 0 then Cr.sh cl ro c d (Cr.bg V y m p q) else 0) := Lib.hid rfl
  have HE : Hid (Cr.plE V y m p q cl c = if Cr.ckE V y m p q = 0 then (if Ch.fnB cl c then 0 else 8) else Cr.ckE V y m p q) := Lib.hid rfl
  generalize Cr.plE V y m p q cl c = pe at *
  generalize Cr.plV V y m p q cl ro c d = pv at *
  generalize Cr.ckE V y m p q = ck at *
  have K3 := Lib.hid (fun W h => shown_any gcs cur y m p cl cA cc ro el eA ec W c d (Cr.bg V y m p q) HG h hn)
  unfold AccPost at K2
  generalize Cr.bg V y m p q = b at *
  generalize Ch.fnV cl c = a at *
  generalize Ch.fnB cl c = fb at *
  cases hx : (ck != 0)
  · have hck : ck = 0 := by simpa using hx
    have HBB := Lib.hid (HBG.out hck)
    rw [hck, if_pos rfl] at HE
    clear hck HBG
    cases fb
    · have HE2 : Hid (pe = 8) := Lib.hid (by rw [HE.out]; rfl)
      have HV2 : Hid (pv = 0) := Lib.hid (by rw [HV.out, HE2.out]; rfl)
      go_enter Try.func21, Try.ntmps21
      go_wp2_with (first
        | (refine wpList_load_blk 29 (.tmp 4) rfl (w.heap.size) rfl (by kernel_rfl) (HB).out Try.underlying29 hgi ?_)
        | (go_at_call 38; refine (K1.out _ (H.out.step hb)).mono ?_; rintro e w2 ⟨rfl, hb9⟩; replace hb := bel hb hb9; have HB2 := Lib.hid (HB.out.step hb9); clear hb9)
        | (refine wpList_load_blk 29 (.tmp 4) rfl (w.heap.size) rfl (by kernel_rfl) (HB2).out Try.underlying29 hgi ?_)
        | (go_at_call 39; refine (K2.out _ (H.out.step hb)).mono ?_; rintro e w3 ⟨rfl, hb9⟩; have hb3 := (bel hb hb9).alloc (bel hb hb9).size (.cells #[.int .i64 a.code, .int .i64 a.kind, .int .i64 a.basis, .int .i64 a.parent] 99); have HB3 := Lib.hid ((HB2.out.step hb9).alloc (.cells #[.int .i64 a.code, .int .i64 a.kind, .int .i64 a.basis, .int .i64 a.parent] 99)); clear hb9))
      go_ret2
      exact ⟨by rw [HE2.out, HV2.out]; rfl, hb3⟩
    · have HE2 : Hid (pe = 0) := Lib.hid (by rw [HE.out]; rfl)
      have HV2 : Hid (pv = Cr.sh cl ro c d b) := Lib.hid (by rw [HV.out, HE2.out]; rfl)
      go_enter Try.func21, Try.ntmps21
      go_wp2_with (first
        | (refine wpList_load_blk 29 (.tmp 4) rfl (w.heap.size) rfl (by kernel_rfl) (HB).out Try.underlying29 hgi ?_)
        | (go_at_call 38; refine (K1.out _ (H.out.step hb)).mono ?_; rintro e w2 ⟨rfl, hb9⟩; replace hb := bel hb hb9; have HB2 := Lib.hid (HB.out.step hb9); clear hb9)
        | (refine wpList_load_blk 29 (.tmp 4) rfl (w.heap.size) rfl (by kernel_rfl) (HB2).out Try.underlying29 hgi ?_)
        | (go_at_call 39; refine (K2.out _ (H.out.step hb)).mono ?_; rintro e w3 ⟨rfl, hb9⟩; have hb3 := (bel hb hb9).alloc (bel hb hb9).size (.cells #[.int .i64 a.code, .int .i64 a.kind, .int .i64 a.basis, .int .i64 a.parent] 99); have HB3 := Lib.hid ((HB2.out.step hb9).alloc (.cells #[.int .i64 a.code, .int .i64 a.kind, .int .i64 a.basis, .int .i64 a.parent] 99)); clear hb9)
        | (refine wpList_load_blk 29 (.tmp 4) rfl (w.heap.size) rfl (by kernel_rfl) (HB3).out Try.underlying29 hgi ?_)
        | (go_at_call 23; refine (K3.out _ (H.out.step hb3)).mono ?_; rintro e w4 ⟨rfl, hb9⟩; have hb4 := bel hb3 hb9; clear hb9))
      go_ret2
      exact ⟨by rw [HE2.out, HV2.out, HBB.out]; rfl, hb4⟩
  · have HE2 : Hid (pe = ck) := Lib.hid (by rw [HE.out, if_neg (by simpa using hx)])
    have HV2 : Hid (pv = 0) := Lib.hid (by rw [HV.out, HE2.out, if_neg (by simpa using hx)])
    go_enter Try.func21, Try.ntmps21
    go_wp2_with (first
      | (refine wpList_load_blk 29 (.tmp 4) rfl (w.heap.size) rfl (by kernel_rfl) (HB).out Try.underlying29 hgi ?_)
      | (go_at_call 38; refine (K1.out _ (H.out.step hb)).mono ?_; rintro e w2 ⟨rfl, hb9⟩; replace hb := bel hb hb9; clear hb9))
    go_ret2
    exact ⟨by rw [HE2.out, HV2.out]; rfl, hb⟩
end
end Go.Proofs.Ythfbpbbepogllaa
/- The law's own 'awake', and the walks of CarryPlace and CarryOwn. -/
namespace Go.Proofs.Ythfbpbbepogllaa
set_option linter.unusedVariables false
set_option linter.unusedSimpArgs false
open Go.RowKit

theorem samplace_any (c d q pv pe : Int) (gcs : Array Value) (cA : Option Addr) (cc : Nat) (s1 s2 s3 s4 : Sl Acc) (r1 r2 r3 r4 : Sl LinkR) (eA : Option Addr) (ec : Nat) (w : World) (hg : gcs = gcells Sam.eur 2026 1 36 Sam.chart cA cc Sam.ro (Sam.ents s1 s2 s3 s4 r1 r2 r3 r4) eA ec)
    (hG : GIn w Sam.chart cA (Sam.ents s1 s2 s3 s4 r1 r2 r3 r4) eA) (h1 : Cr.plV true 2026 1 36 q Sam.chart Sam.ro c d = pv) (h2 : Cr.plE true 2026 1 36 q Sam.chart c = pe) :
    Calls Try.prog 21 #[.agg gcs, .int .i64 c, .int .i64 d, .int .i64 q] w (Two pv pe w) := by
  have := cplace_any gcs Sam.eur 2026 1 36 Sam.chart cA cc Sam.ro (Sam.ents s1 s2 s3 s4 r1 r2 r3 r4) eA ec w c d q (Lib.hid hg) hG (Sam.small s1 s2 s3 s4 r1 r2 r3 r4)
  rw [Sam.good, h1, h2] at this
  exact this
set_option maxRecDepth 100000 in
set_option maxHeartbeats 4000000 in
theorem car_awake (w : World) : Calls Try.prog 8 #[] w (BoolPost true w) := by
  have hb := Below.refl w.heap.size w
  go_enter Try.func8, Try.ntmps8
  go_wp2_with fail
  refine (sample_any w).mono ?_
  rintro e w2 ⟨gcs, cA, cc, s1, s2, s3, s4, r1, r2, r3, r4, eA, ec, rfl, hg, hG, hb2⟩
  replace hb := bel hb hb2
  have K := Lib.hid (samplace_any 4000 20818 11 4000 0 gcs cA cc s1 s2 s3 s4 r1 r2 r3 r4 eA ec w2 hg hG (by kernel_rfl) (by kernel_rfl))
  clear hg hG hb2
  go_wp2_with (go_at_call 21; refine K.out.mono ?_; rintro e w3 ⟨rfl, hb3⟩; replace hb := bel hb hb3; clear hb3)
  refine (sample_any w3).mono ?_
  rintro e w4 ⟨gcs, cA, cc, s1, s2, s3, s4, r1, r2, r3, r4, eA, ec, rfl, hg, hG, hb2⟩
  replace hb := bel hb hb2
  clear K
  have K := Lib.hid (samplace_any 4000 20818 12 3300 0 gcs cA cc s1 s2 s3 s4 r1 r2 r3 r4 eA ec w4 hg hG (by kernel_rfl) (by kernel_rfl))
  clear hg hG hb2
  go_wp2_with (go_at_call 21; refine K.out.mono ?_; rintro e w5 ⟨rfl, hb3⟩; replace hb := bel hb hb3; clear hb3)
  go_ret
  exact ⟨rfl, hb⟩
section
variable (cur : ByteArray) (y m p : Int) (cl : List Acc) (cA : Option Addr) (cc : Nat) (ro : RolesR) (el : List EntR) (eA : Option Addr) (ec : Nat) (w : World)
end
theorem found_code {cl : List Acc} {c : Int} (h : Ch.fnB cl c = true) : (Ch.fnV cl c).code = c := by
  unfold Ch.fnB at h
  rw [Option.isSome_iff_exists] at h
  obtain ⟨a, ha⟩ := h
  unfold Ch.fnV
  rw [ha]
  exact (Ch.find_some cl c a ha).2
theorem own_place {y m p q c d : Int} {cl : List Acc} {ro : RolesR} (hV : Cal.ok y m p = true) (h0 : 0 ≤ q) (h1 : q < p) (hf : Ch.fnB cl c = true) (hr : resB cl c = false) : Cr.plV true y m p q cl ro c d = c ∧ Cr.plE true y m p q cl c = 0 := by
  have hk : Cr.ckE true y m p q = 0 := by
    unfold Cr.ckE Cal.ckE
    rw [if_pos rfl, if_pos hV, if_pos ⟨h0, h1⟩]
  have he : Cr.plE true y m p q cl c = 0 := by
    unfold Cr.plE
    rw [if_pos hk, if_pos hf]
  refine ⟨?_, he⟩
  unfold Cr.plV Cr.sh
  rw [if_pos he, hr]
  simp
section
variable (cur : ByteArray) (y m p : Int) (cl : List Acc) (cA : Option Addr) (cc : Nat) (ro : RolesR) (el : List EntR) (eA : Option Addr) (ec : Nat) (w : World)
end
end Go.Proofs.Ythfbpbbepogllaa
/- The walk of CarryResult. -/
namespace Go.Proofs.Ythfbpbbepogllaa
set_option linter.unusedVariables false
set_option linter.unusedSimpArgs false
open Go.RowKit

theorem dat_mk (r : List Int) (h : r.length = 3) : ∃ a : DatR, DatR.cells a = r.map (Value.int .i64) := by
  match r, h with
  | [a, b, c], _ => exact ⟨⟨a, b, c⟩, rfl⟩
theorem dat_info : (Try.prog.info? 90).map (fun i => (i.zero, i.size, i.bytes)) = some (some (.agg #[.int .i64 0, .int .i64 0, .int .i64 0]), 3, 24) := by kernel_rfl
def OwnDats (l : List DatR) (w : World) (e : Ending) (w' : World) : Prop := ∃ v, e = .returned v ∧ w'.ownsRow w.heap.size 90 3 v l.length (cellsOf DatR.cells l) ∧ Below w.heap.size w w'
set_option maxHeartbeats 4000000 in
theorem to_any (l : List DatR) (A : Option Addr) (lc : Nat) (w : World) (hr : Rd w w.heap.size 3 A l.length (cellsOf DatR.cells l)) (hl : l.length ≤ 1000) :
    Calls Try.prog 11 #[.slice A l.length lc] w (OwnDats l w) := by
  obtain ⟨i0, hi, hz0, hz1, hz2⟩ := info_parts dat_info
  have hb := Below.refl w.heap.size w
  have HR := Lib.hid hr
  clear hr
  go_enter Try.func11, Try.ntmps11
  go_wp2_with fail
  go_loopw [3, 8] (fun v t wr => ∃ k : Nat, k ≤ l.length ∧ t = .int .i64 k ∧ wr.ownsRow w.heap.size 90 3 v (l.take k).length (cellsOf DatR.cells (l.take k)) ∧ Below w.heap.size w wr) (fun _ t _ => l.length - (intOf t).toNat)
  case atStart => exact ⟨0, by omega, rfl, World.ownsRow_nil _ _ _ _, hb⟩
  case round =>
    clear hb
    obtain ⟨k, hk, rfl, ho, hb⟩ := hrel
    have hz := hb.size
    by_cases hlt : k < l.length
    · obtain ⟨b, o, hA, hbo, f0, f1, f2⟩ := DatR.at_ (HR.out.below hb (Nat.le_refl _)) hlt
      subst hA
      have HSN : Hid (l.take k ++ [l[k]] = l.take (k + 1)) := Lib.hid (List.take_succ_eq_append_getElem hlt).symm
      have hln : (l.take k).length ≤ 1000 := by rw [List.length_take]; omega
      have HO := Lib.hid ho
      clear ho
      generalize hx : l[k] = x at *
      clear hx
      obtain ⟨xa, xd, xm⟩ := x
      dsimp only at *
      have hb1 := (hb.alloc hz (.cells #[.int .i64 xa, .int .i64 xd, .int .i64 xm] 56)).alloc (hb.alloc hz (.cells #[.int .i64 xa, .int .i64 xd, .int .i64 xm] 56)).size (.cells #[.int .i64 xa, .int .i64 xd, .int .i64 xm] 90)
      have ho1 := (HO.out.alloc (.cells #[.int .i64 xa, .int .i64 xd, .int .i64 xm] 56)).alloc (.cells #[.int .i64 xa, .int .i64 xd, .int .i64 xm] 90)
      have HN := Lib.hid (Blk.newAt (w := wr.alloc (.cells #[.int .i64 xa, .int .i64 xd, .int .i64 xm] 56)) (g := wr.heap.size + 1) (t := 90) (cs := #[.int .i64 xa, .int .i64 xd, .int .i64 xm]) (by simp))
      go_wp2_with (at_builtin; refine wpList_append_rec DatR.cells 3 DatR.len DatR.one rfl (.tmp 12) (.tmp 14) 52 rfl w.heap.size 90 i0 (.agg #[.int .i64 0, .int .i64 0, .int .i64 0]) 24 Try.underlying52 hi hz0 hz1 hz2 rfl (by decide) _ (l.take k) rfl ho1 (wr.heap.size + 1) 1 ⟨xa, xd, xm⟩ _ rfl HN.out rfl (by simp only [maxLen]; omega) (by omega) hb1.size ?_; intro v4 w4 ho4 hg4)
      have hb4 := bel_own hb1 hb1.size ho1 hg4
      clear hg4 ho1 hb1
      go_wp2_with fail
      go_roundw
      case rel => exact ⟨k + 1, by omega, by go_num, own_cast ho4 HSN.out, hb4⟩
      case measure => simp [intOf]; omega
    · have HE : Hid (l.take k = l) := Lib.hid (List.take_of_length_le (by omega))
      rw [HE.out] at ho
      go_wp2_with fail
      go_ret
      exact ⟨_, rfl, ho, hb⟩
section
variable (cur : ByteArray) (y m p : Int) (cl : List Acc) (cA : Option Addr) (cc : Nat) (ro : RolesR) (el : List EntR) (eA : Option Addr) (ec : Nat) (w : World)
end
end Go.Proofs.Ythfbpbbepogllaa
