/- Texts of this claim, put together. -/
import Derived.Test.YthfbpbbepogllaaGreatJAU
import Derived.Test.YthfbpbbepogllaaGreatJAH
import Derived.Deep.DeepCutAuto
/- The walks of carry.check, shown, Place, and of their references. -/
namespace Go.Proofs.YthfbpbbepogllaaGreat
set_option linter.unusedVariables false
set_option linter.unusedSimpArgs false
open Go.RowKit

namespace Cr
/-- the error of a group and a period -/
def ckE (V : Bool) (Y M P q : Int) : Int := if V then Cal.ckE Y M P q else 1
/-- the first day of the fiscal year -/
def bg (V : Bool) (Y M P q : Int) : Int := if V then Cal.beV Y M P q else 0
/-- where an amount is shown -/
def sh (cl : List Acc) (ro : RolesR) (c d b : Int) : Int := if decide (d < b) && resB cl c then ro.retained else c
def plE (V : Bool) (Y M P q : Int) (cl : List Acc) (c : Int) : Int := if ckE V Y M P q = 0 then (if Ch.fnB cl c then 0 else 8) else ckE V Y M P q
def plV (V : Bool) (Y M P q : Int) (cl : List Acc) (ro : RolesR) (c d : Int) : Int := if plE V Y M P q cl c = 0 then sh cl ro c d (bg V Y M P q) else 0
end Cr
theorem gv_cal {cur : ByteArray} {cl : List Acc} {ro : RolesR} {el : List EntR} {cal : Bool} (h : Gr.gv cur cl ro el cal = true) : cal = true := by
  unfold Gr.gv at h
  simp only [Bool.and_eq_true] at h
  exact h.2.1
theorem ck_two {Y M P q : Int} (h : Cal.ok Y M P = true) : Cal.ckE Y M P q = 0 ∨ Cal.ckE Y M P q = 2 := by
  unfold Cal.ckE
  rw [if_pos h]
  split
  · exact .inl rfl
  · exact .inr rfl
theorem be_zero {Y M P q : Int} (h : Cal.ckE Y M P q ≠ 0) : Cal.beV Y M P q = 0 := by
  unfold Cal.beV
  rw [if_neg h]
def Two (a b : Int) (w : World) (e : Ending) (w' : World) : Prop := e = .returned (.tuple #[.int .i64 a, .int .i64 b]) ∧ Below w.heap.size w w'
def IntP (a : Int) (w : World) (e : Ending) (w' : World) : Prop := e = .returned (.int .i64 a) ∧ Below w.heap.size w w'
section
variable (gcs : Array Value) (cur : ByteArray) (y m p : Int) (cl : List Acc) (cA : Option Addr) (cc : Nat) (ro : RolesR) (el : List EntR) (eA : Option Addr) (ec : Nat) (w : World)
set_option maxRecDepth 100000 in
set_option maxHeartbeats 4000000 in
theorem ccheck_any (q : Int) (HG : Hid (gcs = #[.string cur, .int .i64 y, .int .i64 m, .int .i64 p, .slice cA cl.length cc, .int .i64 ro.investment, .int .i64 ro.goodwill, .int .i64 ro.associates, .int .i64 ro.inventory, .int .i64 ro.reserve, .int .i64 ro.minority, .int .i64 ro.retained, .int .i64 ro.acquired, .int .i64 ro.owners, .int .i64 ro.disposal, .int .i64 ro.associateProfit, .int .i64 ro.dividends, .int .i64 ro.minorityProfit, .int .i64 ro.difference, .int .i64 ro.margin, .slice eA el.length ec])) (h : GIn w cl cA el eA) (hF : FewOk cur cl el) :
    Calls Tryz.prog 84 #[.agg gcs, .int .i64 q] w (Two (Cr.bg (Gr.gv cur cl ro el (Cal.ok y m p)) y m p q) (Cr.ckE (Gr.gv cur cl ro el (Cal.ok y m p)) y m p q) w) := by
  have H := Lib.hid h
  have hgi : (Tryz.prog.info? 29).map (·.size) = some gcs.size := by rw [HG.out]; exact grp_size
  have hb : Below w.heap.size w (w.alloc (.cells gcs 29)) := (Below.refl _ _).alloc (Nat.le_refl _) _
  have HB := Lib.hid (Blk.new w 29 gcs)
  have K1 := Lib.hid (fun W h => gvalid_any gcs cur y m p cl cA cc ro el eA ec W HG h hF)
  have HC := Lib.hid (gv_cal (cur := cur) (cl := cl) (ro := ro) (el := el) (cal := Cal.ok y m p))
  clear h hF
  generalize Gr.gv cur cl ro el (Cal.ok y m p) = V at *
  cases V
  · go_enter Tryz.func84, Tryz.ntmps84
    go_wp2_with (first
      | (refine wpList_load_blk 29 (.tmp 2) rfl (w.heap.size) rfl (by kernel_rfl) (HB).out Tryz.underlying29 hgi ?_)
      | (go_at_call 49; refine (K1.out _ (H.out.step hb)).mono ?_; rintro e w2 ⟨rfl, hb9⟩; replace hb := bel hb hb9; clear hb9))
    go_ret2
    exact ⟨rfl, hb⟩
  · have HT := Lib.hid (ck_two (q := q) (HC.out rfl))
    have HZ := Lib.hid (be_zero (Y := y) (M := m) (P := p) (q := q))
    have KB := Lib.hid (fun W => cal_Begin y m p q W)
    have HD1 : Hid (Cr.bg true y m p q = Cal.beV y m p q) := Lib.hid rfl
    have HD2 : Hid (Cr.ckE true y m p q = Cal.ckE y m p q) := Lib.hid rfl
    generalize Cal.beV y m p q = v at *
    generalize Cal.ckE y m p q = x at *
    generalize Cr.bg true y m p q = bg at *
    generalize Cr.ckE true y m p q = ck at *
    cases hx : (x != 0)
    · have HX : Hid (x = 0) := Lib.hid (by simpa using hx)
      go_enter Tryz.func84, Tryz.ntmps84
      go_wp2_with (first
        | (refine wpList_load_blk 29 (.tmp 2) rfl (w.heap.size) rfl (by kernel_rfl) (HB).out Tryz.underlying29 hgi ?_)
        | (go_at_call 49; refine (K1.out _ (H.out.step hb)).mono ?_; rintro e w2 ⟨rfl, hb9⟩; replace hb := bel hb hb9; have HB2 := Lib.hid (HB.out.step hb9); clear hb9; have g1 : w2.cell? ⟨w.heap.size, 1, none⟩ = some (.int .i64 y) := (HB2.out.cell 1).trans (by rw [HG.out]; rfl); have g2 : w2.cell? ⟨w.heap.size, 2, none⟩ = some (.int .i64 m) := (HB2.out.cell 2).trans (by rw [HG.out]; rfl); have g3 : w2.cell? ⟨w.heap.size, 3, none⟩ = some (.int .i64 p) := (HB2.out.cell 3).trans (by rw [HG.out]; rfl))
        | (go_at_call 119; refine (KB.out _).mono ?_; rintro e w3 ⟨rfl, hb9⟩; replace hb := bel hb hb9; clear hb9))
      go_ret2
      exact ⟨by rw [HD1.out, HD2.out, HX.out]; rfl, hb⟩
    · have HX : Hid (x ≠ 0) := Lib.hid (by simpa using hx)
      go_enter Tryz.func84, Tryz.ntmps84
      go_wp2_with (first
        | (refine wpList_load_blk 29 (.tmp 2) rfl (w.heap.size) rfl (by kernel_rfl) (HB).out Tryz.underlying29 hgi ?_)
        | (go_at_call 49; refine (K1.out _ (H.out.step hb)).mono ?_; rintro e w2 ⟨rfl, hb9⟩; replace hb := bel hb hb9; have HB2 := Lib.hid (HB.out.step hb9); clear hb9; have g1 : w2.cell? ⟨w.heap.size, 1, none⟩ = some (.int .i64 y) := (HB2.out.cell 1).trans (by rw [HG.out]; rfl); have g2 : w2.cell? ⟨w.heap.size, 2, none⟩ = some (.int .i64 m) := (HB2.out.cell 2).trans (by rw [HG.out]; rfl); have g3 : w2.cell? ⟨w.heap.size, 3, none⟩ = some (.int .i64 p) := (HB2.out.cell 3).trans (by rw [HG.out]; rfl))
        | (go_at_call 119; refine (KB.out _).mono ?_; rintro e w3 ⟨rfl, hb9⟩; replace hb := bel hb hb9; clear hb9))
      go_ret2
      exact ⟨by rw [HD1.out, HD2.out, HZ.out HX.out, HT.out.resolve_left HX.out]; rfl, hb⟩
set_option maxRecDepth 100000 in
set_option maxHeartbeats 4000000 in
theorem rccheck_any (q : Int) (HG : Hid (gcs = #[.string cur, .int .i64 y, .int .i64 m, .int .i64 p, .slice cA cl.length cc, .int .i64 ro.investment, .int .i64 ro.goodwill, .int .i64 ro.associates, .int .i64 ro.inventory, .int .i64 ro.reserve, .int .i64 ro.minority, .int .i64 ro.retained, .int .i64 ro.acquired, .int .i64 ro.owners, .int .i64 ro.disposal, .int .i64 ro.associateProfit, .int .i64 ro.dividends, .int .i64 ro.minorityProfit, .int .i64 ro.difference, .int .i64 ro.margin, .slice eA el.length ec])) (h : GIn w cl cA el eA) (hF : FewOk cur cl el) :
    Calls Tryz.prog 91 #[.agg gcs, .int .i64 q] w (IntP (Cr.ckE (Gr.gv cur cl ro el (Cal.ok y m p)) y m p q) w) := by
  have H := Lib.hid h
  have hgi : (Tryz.prog.info? 29).map (·.size) = some gcs.size := by rw [HG.out]; exact grp_size
  have hb : Below w.heap.size w (w.alloc (.cells gcs 29)) := (Below.refl _ _).alloc (Nat.le_refl _) _
  have HB := Lib.hid (Blk.new w 29 gcs)
  have K1 := Lib.hid (fun W h => rgvalid_any gcs cur y m p cl cA cc ro el eA ec W HG h hF)
  have HC := Lib.hid (gv_cal (cur := cur) (cl := cl) (ro := ro) (el := el) (cal := Cal.ok y m p))
  clear h hF
  generalize Gr.gv cur cl ro el (Cal.ok y m p) = V at *
  cases V
  · go_enter Tryz.func91, Tryz.ntmps91
    go_wp2_with (first
      | (refine wpList_load_blk 29 (.tmp 2) rfl (w.heap.size) rfl (by kernel_rfl) (HB).out Tryz.underlying29 hgi ?_)
      | (go_at_call 30; refine (K1.out _ (H.out.step hb)).mono ?_; rintro e w2 ⟨rfl, hb9⟩; replace hb := bel hb hb9; clear hb9))
    go_ret
    exact ⟨rfl, hb⟩
  · have HD : Hid (Cr.ckE true y m p q = if 0 ≤ q ∧ q < p then 0 else 2) := Lib.hid (by unfold Cr.ckE Cal.ckE; rw [if_pos rfl, if_pos (HC.out rfl)])
    generalize Cr.ckE true y m p q = ck at *
    by_cases h0 : 0 ≤ q
    · by_cases h1 : q < p
      · have HE : Hid (ck = 0) := Lib.hid (by rw [HD.out, if_pos ⟨h0, h1⟩])
        go_enter Tryz.func91, Tryz.ntmps91
        go_wp2_with (first
          | (refine wpList_load_blk 29 (.tmp 2) rfl (w.heap.size) rfl (by kernel_rfl) (HB).out Tryz.underlying29 hgi ?_)
          | (go_at_call 30; refine (K1.out _ (H.out.step hb)).mono ?_; rintro e w2 ⟨rfl, hb9⟩; replace hb := bel hb hb9; have HB2 := Lib.hid (HB.out.step hb9); clear hb9; have g3 : w2.cell? ⟨w.heap.size, 3, none⟩ = some (.int .i64 p) := (HB2.out.cell 3).trans (by rw [HG.out]; rfl)))
        go_ret
        exact ⟨by rw [HE.out]; rfl, hb⟩
      · have HE : Hid (ck = 2) := Lib.hid (by rw [HD.out, if_neg (by omega)])
        have h1' : p ≤ q := by omega
        go_enter Tryz.func91, Tryz.ntmps91
        go_wp2_with (first
          | (refine wpList_load_blk 29 (.tmp 2) rfl (w.heap.size) rfl (by kernel_rfl) (HB).out Tryz.underlying29 hgi ?_)
          | (go_at_call 30; refine (K1.out _ (H.out.step hb)).mono ?_; rintro e w2 ⟨rfl, hb9⟩; replace hb := bel hb hb9; have HB2 := Lib.hid (HB.out.step hb9); clear hb9; have g3 : w2.cell? ⟨w.heap.size, 3, none⟩ = some (.int .i64 p) := (HB2.out.cell 3).trans (by rw [HG.out]; rfl)))
        go_ret
        exact ⟨by rw [HE.out]; rfl, hb⟩
    · have HE : Hid (ck = 2) := Lib.hid (by rw [HD.out, if_neg (by omega)])
      have h0' : q < 0 := by omega
      go_enter Tryz.func91, Tryz.ntmps91
      go_wp2_with (first
        | (refine wpList_load_blk 29 (.tmp 2) rfl (w.heap.size) rfl (by kernel_rfl) (HB).out Tryz.underlying29 hgi ?_)
        | (go_at_call 30; refine (K1.out _ (H.out.step hb)).mono ?_; rintro e w2 ⟨rfl, hb9⟩; replace hb := bel hb hb9; have HB2 := Lib.hid (HB.out.step hb9); clear hb9; have g3 : w2.cell? ⟨w.heap.size, 3, none⟩ = some (.int .i64 p) := (HB2.out.cell 3).trans (by rw [HG.out]; rfl)))
      go_ret
      exact ⟨by rw [HE.out]; rfl, hb⟩
set_option maxRecDepth 100000 in
set_option maxHeartbeats 4000000 in
theorem shown_any (c d b : Int) (HG : Hid (gcs = #[.string cur, .int .i64 y, .int .i64 m, .int .i64 p, .slice cA cl.length cc, .int .i64 ro.investment, .int .i64 ro.goodwill, .int .i64 ro.associates, .int .i64 ro.inventory, .int .i64 ro.reserve, .int .i64 ro.minority, .int .i64 ro.retained, .int .i64 ro.acquired, .int .i64 ro.owners, .int .i64 ro.disposal, .int .i64 ro.associateProfit, .int .i64 ro.dividends, .int .i64 ro.minorityProfit, .int .i64 ro.difference, .int .i64 ro.margin, .slice eA el.length ec])) (h : GIn w cl cA el eA) (hn : cl.length ≤ 300000) :
    Calls Tryz.prog 55 #[.agg gcs, .int .i64 c, .int .i64 d, .int .i64 b] w (IntP (Cr.sh cl ro c d b) w) := by
  have H := Lib.hid h
  have hgi : (Tryz.prog.info? 29).map (·.size) = some gcs.size := by rw [HG.out]; exact grp_size
  have hb : Below w.heap.size w (w.alloc (.cells gcs 29)) := (Below.refl _ _).alloc (Nat.le_refl _) _
  have HB := Lib.hid (Blk.new w 29 gcs)
  have K1 := Lib.hid (fun W h => result_any gcs cur y m p cl cA cc ro el eA ec W c HG h hn)
  clear h
  have HD : Hid (Cr.sh cl ro c d b = if decide (d < b) && resB cl c then ro.retained else c) := Lib.hid rfl
  generalize Cr.sh cl ro c d b = s at *
  generalize resB cl c = rb at *
  by_cases h0 : d < b
  · cases rb
    · have HE : Hid (s = c) := Lib.hid (by rw [HD.out]; simp)
      go_enter Tryz.func55, Tryz.ntmps55
      go_wp2_with (first
        | (refine wpList_load_blk 29 (.tmp 4) rfl (w.heap.size) rfl (by kernel_rfl) (HB).out Tryz.underlying29 hgi ?_)
        | (go_at_call 69; refine (K1.out _ (H.out.step hb)).mono ?_; rintro e w2 ⟨rfl, hb9⟩; replace hb := bel hb hb9; clear hb9))
      go_ret
      exact ⟨by rw [HE.out]; rfl, hb⟩
    · have HE : Hid (s = ro.retained) := Lib.hid (by rw [HD.out]; simp [h0])
      go_enter Tryz.func55, Tryz.ntmps55
      go_wp2_with (first
        | (refine wpList_load_blk 29 (.tmp 4) rfl (w.heap.size) rfl (by kernel_rfl) (HB).out Tryz.underlying29 hgi ?_)
        | (go_at_call 69; refine (K1.out _ (H.out.step hb)).mono ?_; rintro e w2 ⟨rfl, hb9⟩; replace hb := bel hb hb9; have HB2 := Lib.hid (HB.out.step hb9); clear hb9; have g11 : w2.cell? ⟨w.heap.size, 11, none⟩ = some (.int .i64 ro.retained) := (HB2.out.cell 11).trans (by rw [HG.out]; rfl)))
      go_ret
      exact ⟨by rw [HE.out]; rfl, hb⟩
  · have HE : Hid (s = c) := Lib.hid (by rw [HD.out]; simp [h0])
    have h0' : decide (d < b) = false := by simpa using h0
    go_enter Tryz.func55, Tryz.ntmps55
    go_wp2_with fail
    go_ret
    exact ⟨by rw [HE.out]; rfl, hb⟩
set_option maxRecDepth 100000 in
set_option maxHeartbeats 4000000 in
theorem rshown_any (c d q : Int) (HG : Hid (gcs = #[.string cur, .int .i64 y, .int .i64 m, .int .i64 p, .slice cA cl.length cc, .int .i64 ro.investment, .int .i64 ro.goodwill, .int .i64 ro.associates, .int .i64 ro.inventory, .int .i64 ro.reserve, .int .i64 ro.minority, .int .i64 ro.retained, .int .i64 ro.acquired, .int .i64 ro.owners, .int .i64 ro.disposal, .int .i64 ro.associateProfit, .int .i64 ro.dividends, .int .i64 ro.minorityProfit, .int .i64 ro.difference, .int .i64 ro.margin, .slice eA el.length ec])) (h : GIn w cl cA el eA) (hn : cl.length ≤ 300000) :
    Calls Tryz.prog 60 #[.agg gcs, .int .i64 c, .int .i64 d, .int .i64 q] w (IntP (Cr.sh cl ro c d (Cal.beV y m p q)) w) := by
  have H := Lib.hid h
  have hgi : (Tryz.prog.info? 29).map (·.size) = some gcs.size := by rw [HG.out]; exact grp_size
  have hb : Below w.heap.size w (w.alloc (.cells gcs 29)) := (Below.refl _ _).alloc (Nat.le_refl _) _
  have HB := Lib.hid (Blk.new w 29 gcs)
  have K1 := Lib.hid (fun W h => rresult_any gcs cur y m p cl cA cc ro el eA ec W c HG h hn)
  have KB := Lib.hid (fun W => rcal_Begin y m p q W)
  clear h
  have HD : Hid (Cr.sh cl ro c d (Cal.beV y m p q) = if decide (d < Cal.beV y m p q) && resB cl c then ro.retained else c) := Lib.hid rfl
  generalize Cr.sh cl ro c d (Cal.beV y m p q) = s at *
  generalize Cal.beV y m p q = b at *
  generalize Cal.ckE y m p q = x at *
  generalize resB cl c = rb at *
  have e1 : (w.alloc (.cells gcs 29)).cell? ⟨w.heap.size, 1, none⟩ = some (.int .i64 y) := (HB.out.cell 1).trans (by rw [HG.out]; rfl); have e2 : (w.alloc (.cells gcs 29)).cell? ⟨w.heap.size, 2, none⟩ = some (.int .i64 m) := (HB.out.cell 2).trans (by rw [HG.out]; rfl); have e3 : (w.alloc (.cells gcs 29)).cell? ⟨w.heap.size, 3, none⟩ = some (.int .i64 p) := (HB.out.cell 3).trans (by rw [HG.out]; rfl)
  cases rb
  · have HE : Hid (s = c) := Lib.hid (by rw [HD.out]; simp)
    go_enter Tryz.func60, Tryz.ntmps60
    go_wp2_with (first
      | (go_at_call 93; refine (KB.out _).mono ?_; rintro e w3 ⟨rfl, hb9⟩; replace hb := bel hb hb9; have HB3 := Lib.hid (HB.out.step hb9); clear hb9)
      | (refine wpList_load_blk 29 (.tmp 4) rfl (w.heap.size) rfl (by kernel_rfl) (HB3).out Tryz.underlying29 hgi ?_)
      | (go_at_call 94; refine (K1.out _ (H.out.step hb)).mono ?_; rintro e w2 ⟨rfl, hb9⟩; replace hb := bel hb hb9; clear hb9))
    go_ret
    exact ⟨by rw [HE.out]; rfl, hb⟩
  · by_cases h0 : d < b
    · have HE : Hid (s = ro.retained) := Lib.hid (by rw [HD.out]; simp [h0])
      go_enter Tryz.func60, Tryz.ntmps60
      go_wp2_with (first
        | (go_at_call 93; refine (KB.out _).mono ?_; rintro e w3 ⟨rfl, hb9⟩; replace hb := bel hb hb9; have HB3 := Lib.hid (HB.out.step hb9); clear hb9)
        | (refine wpList_load_blk 29 (.tmp 4) rfl (w.heap.size) rfl (by kernel_rfl) (HB3).out Tryz.underlying29 hgi ?_)
        | (go_at_call 94; refine (K1.out _ (H.out.step hb)).mono ?_; rintro e w2 ⟨rfl, hb9⟩; replace hb := bel hb hb9; have HB2 := Lib.hid (HB3.out.step hb9); clear hb9; have g11 : w2.cell? ⟨w.heap.size, 11, none⟩ = some (.int .i64 ro.retained) := (HB2.out.cell 11).trans (by rw [HG.out]; rfl)))
      go_ret
      exact ⟨by rw [HE.out]; rfl, hb⟩
    · have HE : Hid (s = c) := Lib.hid (by rw [HD.out]; simp [h0])
      have h0' : decide (d < b) = false := by simpa using h0
      go_enter Tryz.func60, Tryz.ntmps60
      go_wp2_with (first
        | (go_at_call 93; refine (KB.out _).mono ?_; rintro e w3 ⟨rfl, hb9⟩; replace hb := bel hb hb9; have HB3 := Lib.hid (HB.out.step hb9); clear hb9)
        | (refine wpList_load_blk 29 (.tmp 4) rfl (w.heap.size) rfl (by kernel_rfl) (HB3).out Tryz.underlying29 hgi ?_)
        | (go_at_call 94; refine (K1.out _ (H.out.step hb)).mono ?_; rintro e w2 ⟨rfl, hb9⟩; replace hb := bel hb hb9; clear hb9))
      go_ret
      exact ⟨by rw [HE.out]; rfl, hb⟩
end
end Go.Proofs.YthfbpbbepogllaaGreat
/- Dated amounts: what is shown, and its sums. No walk. -/
namespace Go.Proofs.YthfbpbbepogllaaGreat
set_option linter.unusedVariables false
set_option linter.unusedSimpArgs false
open Go.RowKit

structure DatR where
  account : Int
  date : Int
  amount : Int
instance inhDatR : Inhabited DatR := ⟨⟨0, 0, 0⟩⟩
def DatR.cells (x : DatR) : List Value := [.int .i64 x.account, .int .i64 x.date, .int .i64 x.amount]
theorem DatR.len (x : DatR) : x.cells.length = 3 := rfl
theorem DatR.at_ {w : World} {B : Nat} {A : Option Addr} {l : List DatR} (h : Rd w B 3 A l.length (cellsOf DatR.cells l)) {k : Nat} (hk : k < l.length) :
    ∃ b o, A = some ⟨b, o, none⟩ ∧ b < B ∧ w.cell? ⟨b, o + k * 3, none⟩ = some (.int .i64 l[k].account) ∧ w.cell? ⟨b, o + k * 3 + 1, none⟩ = some (.int .i64 l[k].date) ∧ w.cell? ⟨b, o + k * 3 + 2, none⟩ = some (.int .i64 l[k].amount) := by
  obtain ⟨b, o, e, hb, hc⟩ := rd_at (f := DatR.cells) (sz := 3) (fun _ => rfl) h hk
  exact ⟨b, o, e, hb, hc 0 _ rfl, hc 1 _ rfl, hc 2 _ rfl⟩
theorem DatR.one (x : DatR) : ∀ u ∈ x.cells, u.oneCell' = true := by
  intro u hu
  simp only [DatR.cells, List.mem_cons, List.not_mem_nil, or_false] at hu
  rcases hu with rfl | rfl | rfl
  all_goals rfl
def DatR.Ok (_w : World) (x : DatR) : Prop := Wf x.account ∧ Wf x.date ∧ Wf x.amount
namespace Cr
def notAm (x : DatR) : Bool := !amV x.amount
/-- the error of dated amounts -/
def vE (V : Bool) (Y M P q : Int) (cl : List Acc) (l : List DatR) : Int :=
  if ckE V Y M P q = 0 then (if l.all (fun x => Ch.fnB cl x.account) then (if l.any notAm then 1 else 0) else 8) else ckE V Y M P q
/-- the first day of the fiscal year, or 0 behind an error -/
def vB (V : Bool) (Y M P q : Int) (cl : List Acc) (l : List DatR) : Int := if vE V Y M P q cl l = 0 then bg V Y M P q else 0
/-- the sum of the amounts for which a word is true -/
def tot (F : DatR → Bool) (l : List DatR) : Int := (l.map fun x => if F x then x.amount else 0).sum
def toE (V : Bool) (Y M P q : Int) (cl : List Acc) (F : DatR → Bool) (l : List DatR) : Int := if vE V Y M P q cl l = 0 then (if amV (tot F l) then 0 else 2) else vE V Y M P q cl l
def toV (V : Bool) (Y M P q : Int) (cl : List Acc) (F : DatR → Bool) (l : List DatR) : Int := if toE V Y M P q cl F l = 0 then tot F l else 0
/-- shown on an income or expense account; shown on another one than its own -/
def isRes (cl : List Acc) (ro : RolesR) (b : Int) (x : DatR) : Bool := resB cl (sh cl ro x.account x.date b)
def isRet (cl : List Acc) (ro : RolesR) (b : Int) (x : DatR) : Bool := x.account != sh cl ro x.account x.date b
theorem ret_flip (cl : List Acc) (ro : RolesR) (b : Int) (x : DatR) : (sh cl ro x.account x.date b != x.account) = isRet cl ro b x := by
  unfold isRet
  rw [Bool.eq_iff_iff]
  simp only [bne_iff_ne, ne_eq]
  exact not_congr eq_comm
theorem tot_take (F : DatR → Bool) (l : List DatR) (k : Nat) (h : k < l.length) : tot F (l.take (k + 1)) = tot F (l.take k) + if F l[k] then l[k].amount else 0 := by
  unfold tot
  rw [List.take_succ_eq_append_getElem h, List.map_append, List.sum_append]
  simp
theorem tot_bd (F : DatR → Bool) (l : List DatR) (h : l.any notAm = false) : ∀ k, k ≤ l.length → -(1000000000000 * k) ≤ tot F (l.take k) ∧ tot F (l.take k) ≤ 1000000000000 * k := by
  intro k
  induction k with
  | zero => intro _; simp [tot]
  | succ k ih =>
    intro hk
    have h1 := ih (by omega)
    rw [tot_take F l k (by omega)]
    have h2 := List.any_eq_false.1 h (l[k]'(by omega)) (List.getElem_mem _)
    unfold notAm at h2
    have h3 := amV_is (by simpa using h2)
    split <;> omega
theorem vE_zero {V : Bool} {Y M P q : Int} {cl : List Acc} {l : List DatR} (h : vE V Y M P q cl l = 0) : l.any notAm = false := by
  unfold vE at h
  split at h
  · split at h
    · split at h
      · cases h
      · rename_i h1
        simpa using h1
    · cases h
  · rename_i h1
    exact absurd h h1
theorem all_no {cl : List Acc} {l : List DatR} {k : Nat} (hk : k < l.length) (h : Ch.fnB cl l[k].account = false) : l.all (fun x => Ch.fnB cl x.account) = false := by
  rw [List.all_eq_false]
  exact ⟨l[k], List.getElem_mem hk, by rw [h]; simp⟩
theorem all_yes {cl : List Acc} {l : List DatR} (h : ∀ j (hj : j < l.length), Ch.fnB cl l[j].account = true) : l.all (fun x => Ch.fnB cl x.account) = true := by
  rw [List.all_eq_true]
  intro x hx
  obtain ⟨j, hj, rfl⟩ := List.mem_iff_getElem.1 hx
  exact h j hj
theorem any_yes {l : List DatR} {k : Nat} (hk : k < l.length) (h : amV l[k].amount = false) : l.any notAm = true := by
  rw [List.any_eq_true]
  exact ⟨l[k], List.getElem_mem hk, by unfold notAm; rw [h]; rfl⟩
theorem any_no {l : List DatR} (h : ∀ j (hj : j < l.length), amV l[j].amount = true) : l.any notAm = false := by
  rw [List.any_eq_false]
  intro x hx
  obtain ⟨j, hj, rfl⟩ := List.mem_iff_getElem.1 hx
  unfold notAm
  rw [h j hj]; simp
end Cr
end Go.Proofs.YthfbpbbepogllaaGreat
/- The walks of carry.amounts and of its reference's valid. -/
namespace Go.Proofs.YthfbpbbepogllaaGreat
set_option linter.unusedVariables false
set_option linter.unusedSimpArgs false
open Go.RowKit

theorem camount_any (n : Int) (w : World) : Calls Tryz.prog 58 #[.int .i64 n] w (fun e w' => e = .returned (.bool (amV n)) ∧ w = w') := by
  have HE : Hid (amV n = (decide (-1000000000000 ≤ n) && decide (n ≤ 1000000000000))) := Lib.hid rfl
  by_cases h1 : -1000000000000 ≤ n
  · by_cases h2 : n ≤ 1000000000000
    all_goals
      go_enter Tryz.func58, Tryz.ntmps58
      go_wp2_with fail
      go_ret
      exact ⟨ret_bool (by rw [HE.out]; simp [h1, h2] <;> omega), rfl⟩
  · go_enter Tryz.func58, Tryz.ntmps58
    go_wp2_with fail
    go_ret
    exact ⟨ret_bool (by rw [HE.out]; simp [h1] <;> omega), rfl⟩
theorem cramount_any (n : Int) (w : World) : Calls Tryz.prog 61 #[.int .i64 n] w (fun e w' => e = .returned (.bool (amV n)) ∧ w = w') := by
  have HE : Hid (amV n = (decide (-1000000000000 ≤ n) && decide (n ≤ 1000000000000))) := Lib.hid rfl
  by_cases h1 : -1000000000000 ≤ n
  · by_cases h2 : n ≤ 1000000000000
    all_goals
      go_enter Tryz.func61, Tryz.ntmps61
      go_wp2_with fail
      go_ret
      exact ⟨ret_bool (by rw [HE.out]; simp [h1, h2] <;> omega), rfl⟩
  · go_enter Tryz.func61, Tryz.ntmps61
    go_wp2_with fail
    go_ret
    exact ⟨ret_bool (by rw [HE.out]; simp [h1] <;> omega), rfl⟩
theorem am1_any (x : DatR) (w : World) : Calls Tryz.prog 87 #[.agg #[.int .i64 x.account, .int .i64 x.date, .int .i64 x.amount]] w (BoolPost (Cr.notAm x) w) := by
  have hb : Below w.heap.size w (w.alloc (.cells #[.int .i64 x.account, .int .i64 x.date, .int .i64 x.amount] 120)) := (Below.refl _ _).alloc (Nat.le_refl _) _
  have HB := Lib.hid hb
  clear hb
  have HD : Hid (Cr.notAm x = !amV x.amount) := Lib.hid rfl
  go_enter Tryz.func87, Tryz.ntmps87
  go_wp2_with (go_at_call 58; refine (camount_any _ _).mono ?_; rintro e w2 ⟨rfl, rfl⟩)
  go_ret
  exact ⟨by rw [HD.out]; rfl, HB.out⟩
set_option maxHeartbeats 1000000 in
theorem idxDat_any (l : List DatR) (A : Option Addr) (lc : Nat) (w : World) (hr : Rd w w.heap.size 3 A l.length (cellsOf DatR.cells l)) (hn : l.length ≤ 1000000) :
    Calls Tryz.prog 122 #[.slice A l.length lc, .func (.func 87) #[] #[]] w (fun e w' => e = .returned (.int .i64 (fidx Cr.notAm l)) ∧ Below w.heap.size w w') := by
  have hb := Below.refl w.heap.size w
  have HR := Lib.hid hr
  clear hr
  go_enter Tryz.func122, Tryz.ntmps122
  go_wp2_with fail
  go_loopw [5, 8] (fun _ t wr => ∃ k : Nat, k ≤ l.length ∧ (∀ j (h : j < k) (h1 : j < l.length), Cr.notAm (l[j]'h1) = false) ∧ t = .int .i64 k ∧ Below w.heap.size w wr) (fun _ t _ => l.length - (intOf t).toNat)
  case atStart => exact ⟨0, by omega, fun j h => by omega, rfl, hb⟩
  case round =>
    clear hb
    obtain ⟨k, hk, hno, rfl, hb⟩ := hrel
    have HN := Lib.hid hno
    clear hno
    by_cases hlt : k < l.length
    · obtain ⟨b, o, hA, hbo, f0, f1, f2⟩ := DatR.at_ (HR.out.below hb (Nat.le_refl _)) hlt
      subst hA
      cases hq : Cr.notAm l[k]
      · have HQ := Lib.hid hq
        go_wp2_with (go_at_call 87; refine ((am1_any l[k] _)).mono ?_; rintro e w2 ⟨rfl, hb2⟩; replace hb := bel hb hb2; clear hb2)
        go_roundw
        case rel =>
          refine ⟨k + 1, by omega, fun j h h1 => ?_, by go_num, hb⟩
          by_cases e : j = k
          · subst e; exact HQ.out
          · exact HN.out j (by omega) h1
        case measure => simp [intOf]; omega
      · have HE : Hid (fidx Cr.notAm l = k) := Lib.hid (fidx_hit k hlt (fun j hj => HN.out j hj (by omega)) hq)
        go_wp2_with (go_at_call 87; refine ((am1_any l[k] _)).mono ?_; rintro e w2 ⟨rfl, hb2⟩; replace hb := bel hb hb2; clear hb2)
        go_ret
        exact ⟨ret_int HE.out.symm, hb⟩
    · have HE : Hid (fidx Cr.notAm l = -1) := Lib.hid (fidx_miss fun j hj => HN.out j (by omega) hj)
      go_wp2_with fail
      go_ret
      exact ⟨ret_int HE.out.symm, hb⟩
theorem hasDat_any (l : List DatR) (A : Option Addr) (lc : Nat) (w : World) (hr : Rd w w.heap.size 3 A l.length (cellsOf DatR.cells l)) (hn : l.length ≤ 1000000) :
    Calls Tryz.prog 86 #[.slice A l.length lc, .func (.func 87) #[] #[]] w (BoolPost (l.any Cr.notAm) w) := by
  have HE := Lib.hid (fidx_any Cr.notAm l).symm
  generalize l.any Cr.notAm = v at *
  have K := Lib.hid (idxDat_any l A lc w hr hn)
  clear hr
  generalize fidx Cr.notAm l = i at *
  by_cases h0 : 0 ≤ i
  · go_enter Tryz.func86, Tryz.ntmps86
    go_wp2_with (go_at_call 122; refine K.out.mono ?_; rintro e w2 ⟨rfl, hb2⟩)
    go_ret
    exact ⟨by rw [HE.out]; simp [h0], hb2⟩
  · go_enter Tryz.func86, Tryz.ntmps86
    go_wp2_with (go_at_call 122; refine K.out.mono ?_; rintro e w2 ⟨rfl, hb2⟩)
    go_ret
    exact ⟨by rw [HE.out]; simp [h0], hb2⟩
section
variable (gcs : Array Value) (cur : ByteArray) (y m p : Int) (cl : List Acc) (cA : Option Addr) (cc : Nat) (ro : RolesR) (el : List EntR) (eA : Option Addr) (ec : Nat) (w : World)
set_option maxRecDepth 100000 in
set_option maxHeartbeats 8000000 in
theorem amounts_any (l : List DatR) (A : Option Addr) (lc : Nat) (q : Int) (HG : Hid (gcs = #[.string cur, .int .i64 y, .int .i64 m, .int .i64 p, .slice cA cl.length cc, .int .i64 ro.investment, .int .i64 ro.goodwill, .int .i64 ro.associates, .int .i64 ro.inventory, .int .i64 ro.reserve, .int .i64 ro.minority, .int .i64 ro.retained, .int .i64 ro.acquired, .int .i64 ro.owners, .int .i64 ro.disposal, .int .i64 ro.associateProfit, .int .i64 ro.dividends, .int .i64 ro.minorityProfit, .int .i64 ro.difference, .int .i64 ro.margin, .slice eA el.length ec])) (h : GIn w cl cA el eA) (hF : FewOk cur cl el) (hr : Rd w w.heap.size 3 A l.length (cellsOf DatR.cells l)) (hl : l.length ≤ 1000) :
    Calls Tryz.prog 54 #[.agg gcs, .slice A l.length lc, .int .i64 q] w (Two (Cr.vB (Gr.gv cur cl ro el (Cal.ok y m p)) y m p q cl l) (Cr.vE (Gr.gv cur cl ro el (Cal.ok y m p)) y m p q cl l) w) := by
  have hn : cl.length ≤ 300000 := by have := hF.ch; omega
  have H := Lib.hid h
  have HR := Lib.hid hr
  have hgi : (Tryz.prog.info? 29).map (·.size) = some gcs.size := by rw [HG.out]; exact grp_size
  have hb : Below w.heap.size w (w.alloc (.cells gcs 29)) := (Below.refl _ _).alloc (Nat.le_refl _) _
  have HB := Lib.hid (Blk.new w 29 gcs)
  have K1 := Lib.hid (fun W h => ccheck_any gcs cur y m p cl cA cc ro el eA ec W q HG h hF)
  clear h hF hr
  generalize Gr.gv cur cl ro el (Cal.ok y m p) = V at *
  have HE : Hid (Cr.vE V y m p q cl l = if Cr.ckE V y m p q = 0 then (if l.all (fun x => Ch.fnB cl x.account) then (if l.any Cr.notAm then 1 else 0) else 8) else Cr.ckE V y m p q) := Lib.hid rfl
  have HVB : Hid (Cr.vB V y m p q cl l = if Cr.vE V y m p q cl l = 0 then Cr.bg V y m p q else 0) := Lib.hid rfl
  generalize Cr.vB V y m p q cl l = vb at *
  generalize Cr.vE V y m p q cl l = ve at *
  generalize Cr.ckE V y m p q = ck at *
  generalize Cr.bg V y m p q = bg at *
  cases hx : (ck != 0)
  · have hck : ck = 0 := by simpa using hx
    rw [hck, if_pos rfl] at HE
    clear hck
    go_enter Tryz.func54, Tryz.ntmps54
    go_wp2_with (first
      | (refine wpList_load_blk 29 (.tmp 3) rfl (w.heap.size) rfl (by kernel_rfl) (HB).out Tryz.underlying29 hgi ?_)
      | (go_at_call 84; refine (K1.out _ (H.out.step hb)).mono ?_; rintro e w2 ⟨rfl, hb9⟩; replace hb := bel hb hb9; have HB2 := Lib.hid (HB.out.step hb9); clear hb9))
    go_loopw [25] (fun t wr => ∃ k : Nat, k ≤ l.length ∧ (∀ j (h : j < l.length), j < k → Ch.fnB cl l[j].account = true) ∧ t = .int .i64 k ∧ Below w2.heap.size w2 wr) (fun t _ => l.length - (intOf t).toNat)
    case atStart => exact ⟨0, by omega, fun j _ h => by omega, rfl, Below.refl _ _⟩
    case round =>
      obtain ⟨k, hk, hno, rfl, hbr⟩ := hrel
      have HN := Lib.hid hno
      clear hno
      have hbw := bel hb hbr
      have hz := hbr.size
      by_cases hlt : k < l.length
      · obtain ⟨b, o, hA, hbo, f0, f1, f2⟩ := DatR.at_ (Rd.now HR.out hbw) hlt
        subst hA
        have HNO := Lib.hid (Cr.all_no (cl := cl) hlt)
        have HBr := Lib.hid ((HB2.out.step hbr).alloc (.cells #[.int .i64 l[k].account, .int .i64 l[k].date, .int .i64 l[k].amount] 120))
        have hbr1 := hbr.alloc hz (.cells #[.int .i64 l[k].account, .int .i64 l[k].date, .int .i64 l[k].amount] 120)
        have hbw1 := bel hb hbr1
        have K2 := Lib.hid (fun W h => account_any gcs cur y m p cl cA cc ro el _ ec W l[k].account HG h hn)
        unfold AccPost at K2
        generalize Ch.fnV cl l[k].account = a at *
        cases hf : Ch.fnB cl l[k].account
        · have HV : Hid (ve = 8) := Lib.hid (by rw [HE.out, HNO.out hf]; rfl)
          rw [hf] at K2
          clear hf
          go_wp2_with (first
            | (refine wpList_load_blk 29 (.tmp 3) rfl (w.heap.size) rfl (by kernel_rfl) (HBr).out Tryz.underlying29 hgi ?_)
            | (go_at_call 85; refine (K2.out _ (H.out.step hbw1)).mono ?_; rintro e w3 ⟨rfl, hb9⟩; have hb3 := (bel hbw1 hb9).alloc (bel hbw1 hb9).size (.cells #[.int .i64 a.code, .int .i64 a.kind, .int .i64 a.basis, .int .i64 a.parent] 129); clear hb9))
          go_ret2
          exact ⟨by rw [HVB.out, HV.out]; rfl, hb3⟩
        · have HF := Lib.hid hf
          rw [hf] at K2
          clear hf
          go_wp2_with (first
            | (refine wpList_load_blk 29 (.tmp 3) rfl (w.heap.size) rfl (by kernel_rfl) (HBr).out Tryz.underlying29 hgi ?_)
            | (go_at_call 85; refine (K2.out _ (H.out.step hbw1)).mono ?_; rintro e w3 ⟨rfl, hb9⟩; have hb3 := (bel hbr1 hb9).alloc (bel hbr1 hb9).size (.cells #[.int .i64 a.code, .int .i64 a.kind, .int .i64 a.basis, .int .i64 a.parent] 129); clear hb9))
          go_roundw
          case rel =>
            refine ⟨k + 1, by omega, fun j hj hjk => ?_, by go_num, hb3⟩
            by_cases e : j = k
            · subst e; exact HF.out
            · exact HN.out j hj (by omega)
          case measure => simp [intOf]; omega
      · have HALL := Lib.hid (Cr.all_yes (cl := cl) (l := l) fun j hj => HN.out j hj (by omega))
        have K3 := Lib.hid (fun W h => hasDat_any l A lc W h (by omega))
        rw [HALL.out, if_pos rfl] at HE
        clear HALL
        cases ha : l.any Cr.notAm
        · have HV : Hid (ve = 0) := Lib.hid (by rw [HE.out, ha]; rfl)
          rw [ha] at K3
          clear ha
          go_wp2_with (go_at_call 86; refine (K3.out _ (Rd.now HR.out hbw)).mono ?_; rintro e w3 ⟨rfl, hb9⟩; replace hbw := bel hbw hb9; clear hb9)
          go_ret2
          exact ⟨by rw [HVB.out, HV.out]; rfl, hbw⟩
        · have HV : Hid (ve = 1) := Lib.hid (by rw [HE.out, ha]; rfl)
          rw [ha] at K3
          clear ha
          go_wp2_with (go_at_call 86; refine (K3.out _ (Rd.now HR.out hbw)).mono ?_; rintro e w3 ⟨rfl, hb9⟩; replace hbw := bel hbw hb9; clear hb9)
          go_ret2
          exact ⟨by rw [HVB.out, HV.out]; rfl, hbw⟩
  · have hne : ck ≠ 0 := by simpa using hx
    have HV : Hid (ve = ck) := Lib.hid (by rw [HE.out, if_neg hne])
    have HV0 : Hid (vb = 0) := Lib.hid (by rw [HVB.out, HV.out, if_neg hne])
    clear hne
    go_enter Tryz.func54, Tryz.ntmps54
    go_wp2_with (first
      | (refine wpList_load_blk 29 (.tmp 3) rfl (w.heap.size) rfl (by kernel_rfl) (HB).out Tryz.underlying29 hgi ?_)
      | (go_at_call 84; refine (K1.out _ (H.out.step hb)).mono ?_; rintro e w2 ⟨rfl, hb9⟩; replace hb := bel hb hb9; clear hb9))
    go_ret2
    exact ⟨by rw [HV0.out, HV.out]; rfl, hb⟩
end
end Go.Proofs.YthfbpbbepogllaaGreat
/- The walk of the reference's valid (dated amounts). -/
namespace Go.Proofs.YthfbpbbepogllaaGreat
set_option linter.unusedVariables false
set_option linter.unusedSimpArgs false
open Go.RowKit

section
variable (gcs : Array Value) (cur : ByteArray) (y m p : Int) (cl : List Acc) (cA : Option Addr) (cc : Nat) (ro : RolesR) (el : List EntR) (eA : Option Addr) (ec : Nat) (w : World)
set_option maxRecDepth 100000 in
set_option maxHeartbeats 8000000 in
theorem rdvalid_any (l : List DatR) (A : Option Addr) (lc : Nat) (q : Int) (HG : Hid (gcs = #[.string cur, .int .i64 y, .int .i64 m, .int .i64 p, .slice cA cl.length cc, .int .i64 ro.investment, .int .i64 ro.goodwill, .int .i64 ro.associates, .int .i64 ro.inventory, .int .i64 ro.reserve, .int .i64 ro.minority, .int .i64 ro.retained, .int .i64 ro.acquired, .int .i64 ro.owners, .int .i64 ro.disposal, .int .i64 ro.associateProfit, .int .i64 ro.dividends, .int .i64 ro.minorityProfit, .int .i64 ro.difference, .int .i64 ro.margin, .slice eA el.length ec])) (h : GIn w cl cA el eA) (hF : FewOk cur cl el) (hr : Rd w w.heap.size 3 A l.length (cellsOf DatR.cells l)) (hl : l.length ≤ 1000) :
    Calls Tryz.prog 59 #[.agg gcs, .slice A l.length lc, .int .i64 q] w (IntP (Cr.vE (Gr.gv cur cl ro el (Cal.ok y m p)) y m p q cl l) w) := by
  have hn : cl.length ≤ 300000 := by have := hF.ch; omega
  have H := Lib.hid h
  have HR := Lib.hid hr
  have hgi : (Tryz.prog.info? 29).map (·.size) = some gcs.size := by rw [HG.out]; exact grp_size
  have hb : Below w.heap.size w (w.alloc (.cells gcs 29)) := (Below.refl _ _).alloc (Nat.le_refl _) _
  have HB := Lib.hid (Blk.new w 29 gcs)
  have K1 := Lib.hid (fun W h => rccheck_any gcs cur y m p cl cA cc ro el eA ec W q HG h hF)
  clear h hF hr
  generalize Gr.gv cur cl ro el (Cal.ok y m p) = V at *
  have HE : Hid (Cr.vE V y m p q cl l = if Cr.ckE V y m p q = 0 then (if l.all (fun x => Ch.fnB cl x.account) then (if l.any Cr.notAm then 1 else 0) else 8) else Cr.ckE V y m p q) := Lib.hid rfl
  generalize Cr.vE V y m p q cl l = ve at *
  generalize Cr.ckE V y m p q = ck at *
  cases hx : (ck != 0)
  · have hck : ck = 0 := by simpa using hx
    rw [hck, if_pos rfl] at HE
    clear hck
    go_enter Tryz.func59, Tryz.ntmps59
    go_wp2_with (first
      | (refine wpList_load_blk 29 (.tmp 3) rfl (w.heap.size) rfl (by kernel_rfl) (HB).out Tryz.underlying29 hgi ?_)
      | (go_at_call 91; refine (K1.out _ (H.out.step hb)).mono ?_; rintro e w2 ⟨rfl, hb9⟩; replace hb := bel hb hb9; have HB2 := Lib.hid (HB.out.step hb9); clear hb9))
    go_loopw [8] (fun t wr => ∃ k : Nat, k ≤ l.length ∧ (∀ j (h : j < l.length), j < k → Ch.fnB cl l[j].account = true) ∧ t = .int .i64 k ∧ Below w2.heap.size w2 wr) (fun t _ => l.length - (intOf t).toNat)
    case atStart => exact ⟨0, by omega, fun j _ h => by omega, rfl, Below.refl _ _⟩
    case round =>
      obtain ⟨k, hk, hno, rfl, hbr⟩ := hrel
      obtain ⟨wo, rfl⟩ : ∃ wo : World, wo = wr := ⟨_, rfl⟩
      have HN := Lib.hid hno
      clear hno
      have hbw := bel hb hbr
      by_cases hlt : k < l.length
      · obtain ⟨b, o, hA, hbo, f0, f1, f2⟩ := DatR.at_ (Rd.now HR.out hbw) hlt
        subst hA
        have HNO := Lib.hid (Cr.all_no (cl := cl) hlt)
        have HBr := Lib.hid (HB2.out.step hbr)
        have K2 := Lib.hid (fun W h => raccount_any gcs cur y m p cl cA cc ro el _ ec W l[k].account HG h hn)
        have q0 : ∀ d : Later wo, d.now.cell? ⟨b, o + k * 3, none⟩ = some (.int .i64 l[k].account) := fun d => d.cell hbo f0
        clear f0 f1 f2
        unfold AccPost at K2
        generalize Ch.fnV cl l[k].account = a at *
        generalize hfb : Ch.fnB cl l[k].account = fb at *
        have HFB := Lib.hid hfb
        clear hfb
        go_upto_region 7 with fail
        go_cut [9, 10] (fun s6 s7 wx => ∃ g : Nat, s6 = .pointer (some ⟨g, 0, none⟩) ∧ s7 = .bool fb ∧ Blk wx g 129 #[.int .i64 a.code, .int .i64 a.kind, .int .i64 a.basis, .int .i64 a.parent] ∧ Below wo.heap.size wo wx)
        case first =>
          refine rel_begin (n := 13) (wo) (by kernel_rfl) rfl ?_; have hC := Near.drew (wo)
          refine rel_load_blk (i := 0) rfl 29 (.tmp 3) rfl (w.heap.size) rfl (by kernel_rfl) (by kernel_rfl) (by kernel_rfl) rfl (fun _ _ _ _ h => h) hC (HBr).out Tryz.underlying29 hgi ?_; (try simp only [Act.put, List.setIfInBounds_toArray, List.set_cons_zero, List.set_cons_succ])
          (first | (refine rel_want (i := 1) rfl rfl (by kernel_rfl) (by kernel_rfl) (by kernel_rfl) rfl (fun _ _ _ _ h => h) hC ?_; intro K hK; go_big_quiet_op; go_big_quiet_on) | (refine rel_skip (i := 1) rfl (by kernel_rfl) (by kernel_rfl) (by kernel_rfl) rfl (fun _ _ _ _ h => h) hC ?_; simp only [Act.put, List.setIfInBounds_toArray, List.set_cons_zero, List.set_cons_succ])); (first | (refine rel_want (i := 2) rfl rfl (by kernel_rfl) (by kernel_rfl) (by kernel_rfl) rfl (fun _ _ _ _ h => h) hC ?_; intro K hK; go_big_quiet_op; go_big_quiet_on) | (refine rel_skip (i := 2) rfl (by kernel_rfl) (by kernel_rfl) (by kernel_rfl) rfl (fun _ _ _ _ h => h) hC ?_; simp only [Act.put, List.setIfInBounds_toArray, List.set_cons_zero, List.set_cons_succ])); (first | (refine rel_want (i := 3) rfl rfl (by kernel_rfl) (by kernel_rfl) (by kernel_rfl) rfl (fun _ _ _ _ h => h) hC ?_; intro K hK; go_big_quiet_op; go_big_quiet_on) | (refine rel_skip (i := 3) rfl (by kernel_rfl) (by kernel_rfl) (by kernel_rfl) rfl (fun _ _ _ _ h => h) hC ?_; simp only [Act.put, List.setIfInBounds_toArray, List.set_cons_zero, List.set_cons_succ])); (first | (refine rel_want (i := 4) rfl rfl (by kernel_rfl) (by kernel_rfl) (by kernel_rfl) rfl (fun _ _ _ _ h => h) hC ?_; intro K hK; go_big_quiet_op; go_big_quiet_on) | (refine rel_skip (i := 4) rfl (by kernel_rfl) (by kernel_rfl) (by kernel_rfl) rfl (fun _ _ _ _ h => h) hC ?_; simp only [Act.put, List.setIfInBounds_toArray, List.set_cons_zero, List.set_cons_succ])); (first | (refine rel_want (i := 5) rfl rfl (by kernel_rfl) (by kernel_rfl) (by kernel_rfl) rfl (fun _ _ _ _ h => h) hC ?_; intro K hK; go_big_quiet_op; go_big_quiet_on) | (refine rel_skip (i := 5) rfl (by kernel_rfl) (by kernel_rfl) (by kernel_rfl) rfl (fun _ _ _ _ h => h) hC ?_; simp only [Act.put, List.setIfInBounds_toArray, List.set_cons_zero, List.set_cons_succ]))
          refine rel_calls (is := [6, 10]) (by kernel_rfl) (by simp) ?_
          intro j hj
          simp only [List.mem_cons, List.not_mem_nil, or_false] at hj
          rcases hj with rfl | rfl
          · refine ⟨_, rfl, rfl, ?_⟩
            intro K hK
            go_simp
            go_at_call 92
            refine (K2.out _ (H.out.step (bel hbw hC.below))).mono ?_
            rintro e w5 ⟨rfl, hb5⟩
            (try go_wp2_with fail)
            replace hC := hC.on hb5
            refine hK _ _ hC (fun _ => ?_)
            clear hK K
            (try simp only [Act.put, List.setIfInBounds_toArray, List.set_cons_zero, List.set_cons_succ])
            (first | (refine rel_want (i := 7) rfl rfl (by kernel_rfl) (by kernel_rfl) (by kernel_rfl) rfl (fun _ _ _ _ h => h) hC ?_; intro K hK; go_big_quiet_op; go_big_quiet_on) | (refine rel_skip (i := 7) rfl (by kernel_rfl) (by kernel_rfl) (by kernel_rfl) rfl (fun _ _ _ _ h => h) hC ?_; simp only [Act.put, List.setIfInBounds_toArray, List.set_cons_zero, List.set_cons_succ])); (first | (refine rel_want (i := 8) rfl rfl (by kernel_rfl) (by kernel_rfl) (by kernel_rfl) rfl (fun _ _ _ _ h => h) hC ?_; intro K hK; go_big_quiet_op; go_big_quiet_on) | (refine rel_skip (i := 8) rfl (by kernel_rfl) (by kernel_rfl) (by kernel_rfl) rfl (fun _ _ _ _ h => h) hC ?_; simp only [Act.put, List.setIfInBounds_toArray, List.set_cons_zero, List.set_cons_succ])); (first | (refine rel_want (i := 9) rfl rfl (by kernel_rfl) (by kernel_rfl) (by kernel_rfl) rfl (fun _ _ _ _ h => h) hC ?_; intro K hK; go_big_quiet_op; go_big_quiet_on) | (refine rel_skip (i := 9) rfl (by kernel_rfl) (by kernel_rfl) (by kernel_rfl) rfl (fun _ _ _ _ h => h) hC ?_; simp only [Act.put, List.setIfInBounds_toArray, List.set_cons_zero, List.set_cons_succ]))
            have hC5 := hC.below
            refine rel_call (i := 10) (by kernel_rfl) rfl rfl ?_; intro K hK; go_simp; have hC2 := hC.below; refine hK _ _ (Near.of (by repeat (first | exact hC2 | refine Below.alloc ?_ (by have hbs := hC2.size; first | omega | (simp; done) | (simp at hbs ⊢; omega)) _ | refine Below.drew ?_ | refine below_drewN_ ?_ _))) ?_; clear hK K hC hC2; intro hC; (try simp only [Act.put, List.setIfInBounds_toArray, List.set_cons_zero, List.set_cons_succ])
            refine rel_call (i := 11) (by kernel_rfl) rfl rfl ?_
            intro K hK
            go_simp
            refine hK _ _ (Near.of (hC5.alloc hC5.size _)) ?_
            clear hK K hC
            intro hC
            (try simp only [Act.put, List.setIfInBounds_toArray, List.set_cons_zero, List.set_cons_succ])
            (first | (refine rel_want (i := 12) rfl rfl (by kernel_rfl) (by kernel_rfl) (by kernel_rfl) rfl (fun _ _ _ _ h => h) hC ?_; intro K hK; go_big_quiet_op; go_big_quiet_on) | (refine rel_skip (i := 12) rfl (by kernel_rfl) (by kernel_rfl) (by kernel_rfl) rfl (fun _ _ _ _ h => h) hC ?_; simp only [Act.put, List.setIfInBounds_toArray, List.set_cons_zero, List.set_cons_succ]))
            refine wpAnyH_done (by kernel_rfl) ?_ _
            go_wp2_with fail
            go_meet
            exact ⟨w5.heap.size, rfl, rfl, Blk.new w5 _ _, hC5.alloc hC5.size _⟩
          · refine ⟨_, rfl, rfl, ?_⟩
            intro K hK
            go_simp
            have hC4 : Below (wo).heap.size (wo) ((wo).alloc (.cells #[.int .i64 0, .int .i64 0, .int .i64 0, .int .i64 0] 129)).drew := ((Below.refl _ _).alloc (Nat.le_refl _) _).drew
            have hX := (Blk.new (wo) 129 #[.int .i64 0, .int .i64 0, .int .i64 0, .int .i64 0]).drew
            refine hK _ _ (Near.of hC4) (fun hC => ?_)
            clear hK K
            generalize ((wo).alloc (.cells #[.int .i64 0, .int .i64 0, .int .i64 0, .int .i64 0] 129)).drew = w4 at *
            (try simp only [Act.put, List.setIfInBounds_toArray, List.set_cons_zero, List.set_cons_succ])
            refine rel_call (i := 6) (by kernel_rfl) rfl rfl ?_
            intro K hK
            go_simp
            go_at_call 92
            refine (K2.out _ (H.out.step (bel hbw hC.below))).mono ?_
            rintro e w5 ⟨rfl, hb5⟩
            (try go_wp2_with fail)
            replace hC := hC.on hb5
            replace hX := hX.step hb5
            refine hK _ _ hC (fun _ => ?_)
            clear hK K
            (try simp only [Act.put, List.setIfInBounds_toArray, List.set_cons_zero, List.set_cons_succ])
            (first | (refine rel_want (i := 7) rfl rfl (by kernel_rfl) (by kernel_rfl) (by kernel_rfl) rfl (fun _ _ _ _ h => h) hC ?_; intro K hK; go_big_quiet_op; go_big_quiet_on) | (refine rel_skip (i := 7) rfl (by kernel_rfl) (by kernel_rfl) (by kernel_rfl) rfl (fun _ _ _ _ h => h) hC ?_; simp only [Act.put, List.setIfInBounds_toArray, List.set_cons_zero, List.set_cons_succ])); (first | (refine rel_want (i := 8) rfl rfl (by kernel_rfl) (by kernel_rfl) (by kernel_rfl) rfl (fun _ _ _ _ h => h) hC ?_; intro K hK; go_big_quiet_op; go_big_quiet_on) | (refine rel_skip (i := 8) rfl (by kernel_rfl) (by kernel_rfl) (by kernel_rfl) rfl (fun _ _ _ _ h => h) hC ?_; simp only [Act.put, List.setIfInBounds_toArray, List.set_cons_zero, List.set_cons_succ])); (first | (refine rel_want (i := 9) rfl rfl (by kernel_rfl) (by kernel_rfl) (by kernel_rfl) rfl (fun _ _ _ _ h => h) hC ?_; intro K hK; go_big_quiet_op; go_big_quiet_on) | (refine rel_skip (i := 9) rfl (by kernel_rfl) (by kernel_rfl) (by kernel_rfl) rfl (fun _ _ _ _ h => h) hC ?_; simp only [Act.put, List.setIfInBounds_toArray, List.set_cons_zero, List.set_cons_succ]))
            refine rel_call (i := 11) (by kernel_rfl) rfl rfl ?_
            intro K hK
            have g0 : w5.cell? ⟨(wo).heap.size, 0, none⟩ = some (.int .i64 0) := hX.cell 0
            have g1 : w5.cell? ⟨(wo).heap.size, 1, none⟩ = some (.int .i64 0) := hX.cell 1
            have g2 : w5.cell? ⟨(wo).heap.size, 2, none⟩ = some (.int .i64 0) := hX.cell 2
            have g3 : w5.cell? ⟨(wo).heap.size, 3, none⟩ = some (.int .i64 0) := hX.cell 3
            have h0 : w5.frozen? ⟨(wo).heap.size, 0, none⟩ = false := hX.frozen 0
            have h1 : w5.frozen? ⟨(wo).heap.size, 1, none⟩ = false := hX.frozen 1
            have h2 : w5.frozen? ⟨(wo).heap.size, 2, none⟩ = false := hX.frozen 2
            have h3 : w5.frozen? ⟨(wo).heap.size, 3, none⟩ = false := hX.frozen 3
            go_simp
            have hZ : Below (wo).heap.size (wo) ((((w5.setCell ⟨(wo).heap.size, 0, none⟩ (.int .i64 a.code)).setCell ⟨(wo).heap.size, 1, none⟩ (.int .i64 a.kind)).setCell ⟨(wo).heap.size, 2, none⟩ (.int .i64 a.basis)).setCell ⟨(wo).heap.size, 3, none⟩ (.int .i64 a.parent)) :=
              (((hC.below.setCell (by simp) _).setCell (by simp) _).setCell (by simp) _).setCell (by simp) _
            have hY := (((hX.set_ 0 (.int .i64 a.code)).set_ 1 (.int .i64 a.kind)).set_ 2 (.int .i64 a.basis)).set_ 3 (.int .i64 a.parent)
            refine hK _ _ (Near.of hZ) ?_
            clear hC
            intro hC
            clear hK K g0 g1 g2 g3 h0 h1 h2 h3
            generalize ((((w5.setCell ⟨(wo).heap.size, 0, none⟩ (.int .i64 a.code)).setCell ⟨(wo).heap.size, 1, none⟩ (.int .i64 a.kind)).setCell ⟨(wo).heap.size, 2, none⟩ (.int .i64 a.basis)).setCell ⟨(wo).heap.size, 3, none⟩ (.int .i64 a.parent)) = w6 at *
            (try simp only [Act.put, List.setIfInBounds_toArray, List.set_cons_zero, List.set_cons_succ])
            (first | (refine rel_want (i := 12) rfl rfl (by kernel_rfl) (by kernel_rfl) (by kernel_rfl) rfl (fun _ _ _ _ h => h) hC ?_; intro K hK; go_big_quiet_op; go_big_quiet_on) | (refine rel_skip (i := 12) rfl (by kernel_rfl) (by kernel_rfl) (by kernel_rfl) rfl (fun _ _ _ _ h => h) hC ?_; simp only [Act.put, List.setIfInBounds_toArray, List.set_cons_zero, List.set_cons_succ]))
            refine wpAnyH_done (by kernel_rfl) ?_ _
            go_wp2_with fail
            go_meet
            exact ⟨(wo).heap.size, rfl, rfl, hY, hZ⟩
        case rest =>
          obtain ⟨g, rfl, rfl, hAc, hb9⟩ := hcut
          have hbx := bel hbr hb9
          clear q0 hAc
          cases fb
          · have HV : Hid (ve = 8) := Lib.hid (by rw [HE.out, HNO.out rfl]; rfl)
            have hbe := bel hb hbx
            go_wp2_with fail
            go_ret
            exact ⟨by rw [HV.out]; rfl, hbe⟩
          · go_wp2_with fail
            go_roundw
            case rel =>
              refine ⟨k + 1, by omega, fun j hj hjk => ?_, by go_num, hbx⟩
              by_cases e : j = k
              · subst e; exact HFB.out
              · exact HN.out j hj (by omega)
            case measure => simp [intOf]; omega
      · have HALL := Lib.hid (Cr.all_yes (cl := cl) (l := l) fun j hj => HN.out j hj (by omega))
        rw [HALL.out, if_pos rfl] at HE
        clear HALL
        go_wp2_with fail
        go_loopw [11] (fun t wr => ∃ k : Nat, k ≤ l.length ∧ (∀ j (h : j < l.length), j < k → amV l[j].amount = true) ∧ t = .int .i64 k ∧ wo = wr) (fun t _ => l.length - (intOf t).toNat)
        case atStart => exact ⟨0, by omega, fun j _ h => by omega, rfl, rfl⟩
        case round =>
          obtain ⟨k2, hk2, hno2, rfl, rfl⟩ := hrel
          have HN2 := Lib.hid hno2
          clear hno2
          by_cases hlt2 : k2 < l.length
          · obtain ⟨b, o, hA, hbo, f0, f1, f2⟩ := DatR.at_ (Rd.now HR.out hbw) hlt2
            subst hA
            have HYES := Lib.hid (Cr.any_yes hlt2)
            cases ha : amV l[k2].amount
            · have HV : Hid (ve = 1) := Lib.hid (by rw [HE.out, HYES.out ha]; rfl)
              have HA := Lib.hid ha
              clear ha
              go_wp2_with (go_at_call 61; refine (cramount_any _ _).mono ?_; rintro e w2 ⟨rfl, rfl⟩; rw [HA.out])
              go_ret
              exact ⟨by rw [HV.out]; rfl, hbw⟩
            · have HA := Lib.hid ha
              clear ha
              go_wp2_with (go_at_call 61; refine (cramount_any _ _).mono ?_; rintro e w2 ⟨rfl, rfl⟩; rw [HA.out])
              go_roundw
              case rel =>
                refine ⟨k2 + 1, by omega, fun j hj hjk => ?_, by go_num, trivial⟩
                by_cases e : j = k2
                · subst e; exact HA.out
                · exact HN2.out j hj (by omega)
              case measure => simp [intOf]; omega
          · have HV : Hid (ve = 0) := Lib.hid (by rw [HE.out, Cr.any_no fun j hj => HN2.out j hj (by omega)]; rfl)
            go_wp2_with fail
            go_ret
            exact ⟨by rw [HV.out]; rfl, hbw⟩
  · have hne : ck ≠ 0 := by simpa using hx
    have HV : Hid (ve = ck) := Lib.hid (by rw [HE.out, if_neg hne])
    clear hne
    go_enter Tryz.func59, Tryz.ntmps59
    go_wp2_with (first
      | (refine wpList_load_blk 29 (.tmp 3) rfl (w.heap.size) rfl (by kernel_rfl) (HB).out Tryz.underlying29 hgi ?_)
      | (go_at_call 91; refine (K1.out _ (H.out.step hb)).mono ?_; rintro e w2 ⟨rfl, hb9⟩; replace hb := bel hb hb9; clear hb9))
    go_ret
    exact ⟨by rw [HV.out]; rfl, hb⟩
end
end Go.Proofs.YthfbpbbepogllaaGreat
