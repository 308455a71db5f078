/- Texts of this claim, put together. -/
import Derived.Test.YtpklnlpeedkmdaaGrpWalksRZ
import Derived.Test.YtpklnlpeedkmdaaApiZ
import Derived.Test.YtpklnlpeedkmdaaJAG
import Derived.Test.YtpklnlpeedkmdaaChecked
/- The walks of carry.check, shown, Place, and of their references. -/
namespace Go.Proofs.Ytpklnlpeedkmdaa
set_option linter.unusedVariables false
set_option linter.unusedSimpArgs false
open Go.RowKit

namespace Cr
/-- the error of a group and a period -/
def ckE (V : Bool) (Y M P q : Int) : Int := if V then Cal.ckE Y M P q else 1
/-- the first day of the fiscal year -/
def bg (V : Bool) (Y M P q : Int) : Int := if V then Cal.beV Y M P q else 0
/-- where an amount is shown -/
def sh (cl : List Acc) (ro : RolesR) (c d b : Int) : Int := if decide (d < b) && resB cl c then ro.retained else c
def plE (V : Bool) (Y M P q : Int) (cl : List Acc) (c : Int) : Int := if ckE V Y M P q = 0 then (if Ch.fnB cl c then 0 else 8) else ckE V Y M P q
def plV (V : Bool) (Y M P q : Int) (cl : List Acc) (ro : RolesR) (c d : Int) : Int := if plE V Y M P q cl c = 0 then sh cl ro c d (bg V Y M P q) else 0
end Cr
theorem gv_cal {cur : ByteArray} {cl : List Acc} {ro : RolesR} {el : List EntR} {cal : Bool} (h : Gr.gv cur cl ro el cal = true) : cal = true := by
  unfold Gr.gv at h
  simp only [Bool.and_eq_true] at h
  exact h.2.1
theorem ck_two {Y M P q : Int} (h : Cal.ok Y M P = true) : Cal.ckE Y M P q = 0 ∨ Cal.ckE Y M P q = 2 := by
  unfold Cal.ckE
  rw [if_pos h]
  split
  · exact .inl rfl
  · exact .inr rfl
theorem be_zero {Y M P q : Int} (h : Cal.ckE Y M P q ≠ 0) : Cal.beV Y M P q = 0 := by
  unfold Cal.beV
  rw [if_neg h]
def Two (a b : Int) (w : World) (e : Ending) (w' : World) : Prop := e = .returned (.tuple #[.int .i64 a, .int .i64 b]) ∧ Below w.heap.size w w'
def IntP (a : Int) (w : World) (e : Ending) (w' : World) : Prop := e = .returned (.int .i64 a) ∧ Below w.heap.size w w'
section
variable (gcs : Array Value) (cur : ByteArray) (y m p : Int) (cl : List Acc) (cA : Option Addr) (cc : Nat) (ro : RolesR) (el : List EntR) (eA : Option Addr) (ec : Nat) (w : World)
set_option maxRecDepth 100000 in
set_option maxHeartbeats 4000000 in
theorem ccheck_any (q : Int) (HG : Hid (gcs = #[.string cur, .int .i64 y, .int .i64 m, .int .i64 p, .slice cA cl.length cc, .int .i64 ro.investment, .int .i64 ro.goodwill, .int .i64 ro.associates, .int .i64 ro.inventory, .int .i64 ro.reserve, .int .i64 ro.minority, .int .i64 ro.retained, .int .i64 ro.acquired, .int .i64 ro.owners, .int .i64 ro.disposal, .int .i64 ro.associateProfit, .int .i64 ro.dividends, .int .i64 ro.minorityProfit, .int .i64 ro.difference, .int .i64 ro.margin, .slice eA el.length ec])) (h : GIn w cl cA el eA) (hF : FewOk cur cl el) :
    Calls Try.prog 55 #[.agg gcs, .int .i64 q] w (Two (Cr.bg (Gr.gv cur cl ro el (Cal.ok y m p)) y m p q) (Cr.ckE (Gr.gv cur cl ro el (Cal.ok y m p)) y m p q) w) := by
  have H := Lib.hid h
  have hgi : (Try.prog.info? 29).map (·.size) = some gcs.size := by rw [HG.out]; exact grp_size
  have hb : Below w.heap.size w (w.alloc (.cells gcs 29)) := (Below.refl _ _).alloc (Nat.le_refl _) _
  have HB := Lib.hid (Blk.new w 29 gcs)
  have K1 := Lib.hid (fun W h => gvalid_any gcs cur y m p cl cA cc ro el eA ec W HG h hF)
  have HC := Lib.hid (gv_cal (cur := cur) (cl := cl) (ro := ro) (el := el) (cal := Cal.ok y m p))
  clear h hF
  generalize Gr.gv cur cl ro el (Cal.ok y m p) = V at *
  cases V
  · go_enter Try.func55, Try.ntmps55
    go_wp2_with (first
      | (refine wpList_load_blk 29 (.tmp 2) rfl (w.heap.size) rfl (by kernel_rfl) (HB).out Try.underlying29 hgi ?_)
      | (go_at_call 29; refine (K1.out _ (H.out.step hb)).mono ?_; rintro e w2 ⟨rfl, hb9⟩; replace hb := bel hb hb9; clear hb9))
    go_ret2
    exact ⟨rfl, hb⟩
  · have HT := Lib.hid (ck_two (q := q) (HC.out rfl))
    have HZ := Lib.hid (be_zero (Y := y) (M := m) (P := p) (q := q))
    have KB := Lib.hid (fun W => cal_Begin y m p q W)
    have HD1 : Hid (Cr.bg true y m p q = Cal.beV y m p q) := Lib.hid rfl
    have HD2 : Hid (Cr.ckE true y m p q = Cal.ckE y m p q) := Lib.hid rfl
    generalize Cal.beV y m p q = v at *
    generalize Cal.ckE y m p q = x at *
    generalize Cr.bg true y m p q = bg at *
    generalize Cr.ckE true y m p q = ck at *
    cases hx : (x != 0)
    · have HX : Hid (x = 0) := Lib.hid (by simpa using hx)
      go_enter Try.func55, Try.ntmps55
      go_wp2_with (first
        | (refine wpList_load_blk 29 (.tmp 2) rfl (w.heap.size) rfl (by kernel_rfl) (HB).out Try.underlying29 hgi ?_)
        | (go_at_call 29; refine (K1.out _ (H.out.step hb)).mono ?_; rintro e w2 ⟨rfl, hb9⟩; replace hb := bel hb hb9; have HB2 := Lib.hid (HB.out.step hb9); clear hb9; have g1 : w2.cell? ⟨w.heap.size, 1, none⟩ = some (.int .i64 y) := (HB2.out.cell 1).trans (by rw [HG.out]; rfl); have g2 : w2.cell? ⟨w.heap.size, 2, none⟩ = some (.int .i64 m) := (HB2.out.cell 2).trans (by rw [HG.out]; rfl); have g3 : w2.cell? ⟨w.heap.size, 3, none⟩ = some (.int .i64 p) := (HB2.out.cell 3).trans (by rw [HG.out]; rfl))
        | (go_at_call 89; refine (KB.out _).mono ?_; rintro e w3 ⟨rfl, hb9⟩; replace hb := bel hb hb9; clear hb9))
      go_ret2
      exact ⟨by rw [HD1.out, HD2.out, HX.out]; rfl, hb⟩
    · have HX : Hid (x ≠ 0) := Lib.hid (by simpa using hx)
      go_enter Try.func55, Try.ntmps55
      go_wp2_with (first
        | (refine wpList_load_blk 29 (.tmp 2) rfl (w.heap.size) rfl (by kernel_rfl) (HB).out Try.underlying29 hgi ?_)
        | (go_at_call 29; refine (K1.out _ (H.out.step hb)).mono ?_; rintro e w2 ⟨rfl, hb9⟩; replace hb := bel hb hb9; have HB2 := Lib.hid (HB.out.step hb9); clear hb9; have g1 : w2.cell? ⟨w.heap.size, 1, none⟩ = some (.int .i64 y) := (HB2.out.cell 1).trans (by rw [HG.out]; rfl); have g2 : w2.cell? ⟨w.heap.size, 2, none⟩ = some (.int .i64 m) := (HB2.out.cell 2).trans (by rw [HG.out]; rfl); have g3 : w2.cell? ⟨w.heap.size, 3, none⟩ = some (.int .i64 p) := (HB2.out.cell 3).trans (by rw [HG.out]; rfl))
        | (go_at_call 89; refine (KB.out _).mono ?_; rintro e w3 ⟨rfl, hb9⟩; replace hb := bel hb hb9; clear hb9))
      go_ret2
      exact ⟨by rw [HD1.out, HD2.out, HZ.out HX.out, HT.out.resolve_left HX.out]; rfl, hb⟩
set_option maxRecDepth 100000 in
set_option maxHeartbeats 4000000 in
theorem rccheck_any (q : Int) (HG : Hid (gcs = #[.string cur, .int .i64 y, .int .i64 m, .int .i64 p, .slice cA cl.length cc, .int .i64 ro.investment, .int .i64 ro.goodwill, .int .i64 ro.associates, .int .i64 ro.inventory, .int .i64 ro.reserve, .int .i64 ro.minority, .int .i64 ro.retained, .int .i64 ro.acquired, .int .i64 ro.owners, .int .i64 ro.disposal, .int .i64 ro.associateProfit, .int .i64 ro.dividends, .int .i64 ro.minorityProfit, .int .i64 ro.difference, .int .i64 ro.margin, .slice eA el.length ec])) (h : GIn w cl cA el eA) (hF : FewOk cur cl el) :
    Calls Try.prog 57 #[.agg gcs, .int .i64 q] w (IntP (Cr.ckE (Gr.gv cur cl ro el (Cal.ok y m p)) y m p q) w) := by
  have H := Lib.hid h
  have hgi : (Try.prog.info? 29).map (·.size) = some gcs.size := by rw [HG.out]; exact grp_size
  have hb : Below w.heap.size w (w.alloc (.cells gcs 29)) := (Below.refl _ _).alloc (Nat.le_refl _) _
  have HB := Lib.hid (Blk.new w 29 gcs)
  have K1 := Lib.hid (fun W h => rgvalid_any gcs cur y m p cl cA cc ro el eA ec W HG h hF)
  have HC := Lib.hid (gv_cal (cur := cur) (cl := cl) (ro := ro) (el := el) (cal := Cal.ok y m p))
  clear h hF
  generalize Gr.gv cur cl ro el (Cal.ok y m p) = V at *
  cases V
  · go_enter Try.func57, Try.ntmps57
    go_wp2_with (first
      | (refine wpList_load_blk 29 (.tmp 2) rfl (w.heap.size) rfl (by kernel_rfl) (HB).out Try.underlying29 hgi ?_)
      | (go_at_call 19; refine (K1.out _ (H.out.step hb)).mono ?_; rintro e w2 ⟨rfl, hb9⟩; replace hb := bel hb hb9; clear hb9))
    go_ret
    exact ⟨rfl, hb⟩
  · have HD : Hid (Cr.ckE true y m p q = if 0 ≤ q ∧ q < p then 0 else 2) := Lib.hid (by unfold Cr.ckE Cal.ckE; rw [if_pos rfl, if_pos (HC.out rfl)])
    generalize Cr.ckE true y m p q = ck at *
    by_cases h0 : 0 ≤ q
    · by_cases h1 : q < p
      · have HE : Hid (ck = 0) := Lib.hid (by rw [HD.out, if_pos ⟨h0, h1⟩])
        go_enter Try.func57, Try.ntmps57
        go_wp2_with (first
          | (refine wpList_load_blk 29 (.tmp 2) rfl (w.heap.size) rfl (by kernel_rfl) (HB).out Try.underlying29 hgi ?_)
          | (go_at_call 19; refine (K1.out _ (H.out.step hb)).mono ?_; rintro e w2 ⟨rfl, hb9⟩; replace hb := bel hb hb9; have HB2 := Lib.hid (HB.out.step hb9); clear hb9; have g3 : w2.cell? ⟨w.heap.size, 3, none⟩ = some (.int .i64 p) := (HB2.out.cell 3).trans (by rw [HG.out]; rfl)))
        go_ret
        exact ⟨by rw [HE.out]; rfl, hb⟩
      · have HE : Hid (ck = 2) := Lib.hid (by rw [HD.out, if_neg (by omega)])
        have h1' : p ≤ q := by omega
        go_enter Try.func57, Try.ntmps57
        go_wp2_with (first
          | (refine wpList_load_blk 29 (.tmp 2) rfl (w.heap.size) rfl (by kernel_rfl) (HB).out Try.underlying29 hgi ?_)
          | (go_at_call 19; refine (K1.out _ (H.out.step hb)).mono ?_; rintro e w2 ⟨rfl, hb9⟩; replace hb := bel hb hb9; have HB2 := Lib.hid (HB.out.step hb9); clear hb9; have g3 : w2.cell? ⟨w.heap.size, 3, none⟩ = some (.int .i64 p) := (HB2.out.cell 3).trans (by rw [HG.out]; rfl)))
        go_ret
        exact ⟨by rw [HE.out]; rfl, hb⟩
    · have HE : Hid (ck = 2) := Lib.hid (by rw [HD.out, if_neg (by omega)])
      have h0' : q < 0 := by omega
      go_enter Try.func57, Try.ntmps57
      go_wp2_with (first
        | (refine wpList_load_blk 29 (.tmp 2) rfl (w.heap.size) rfl (by kernel_rfl) (HB).out Try.underlying29 hgi ?_)
        | (go_at_call 19; refine (K1.out _ (H.out.step hb)).mono ?_; rintro e w2 ⟨rfl, hb9⟩; replace hb := bel hb hb9; have HB2 := Lib.hid (HB.out.step hb9); clear hb9; have g3 : w2.cell? ⟨w.heap.size, 3, none⟩ = some (.int .i64 p) := (HB2.out.cell 3).trans (by rw [HG.out]; rfl)))
      go_ret
      exact ⟨by rw [HE.out]; rfl, hb⟩
set_option maxRecDepth 100000 in
set_option maxHeartbeats 4000000 in
theorem shown_any (c d b : Int) (HG : Hid (gcs = #[.string cur, .int .i64 y, .int .i64 m, .int .i64 p, .slice cA cl.length cc, .int .i64 ro.investment, .int .i64 ro.goodwill, .int .i64 ro.associates, .int .i64 ro.inventory, .int .i64 ro.reserve, .int .i64 ro.minority, .int .i64 ro.retained, .int .i64 ro.acquired, .int .i64 ro.owners, .int .i64 ro.disposal, .int .i64 ro.associateProfit, .int .i64 ro.dividends, .int .i64 ro.minorityProfit, .int .i64 ro.difference, .int .i64 ro.margin, .slice eA el.length ec])) (h : GIn w cl cA el eA) (hn : cl.length ≤ 100000) :
    Calls Try.prog 56 #[.agg gcs, .int .i64 c, .int .i64 d, .int .i64 b] w (IntP (Cr.sh cl ro c d b) w) := by
  have H := Lib.hid h
  have hgi : (Try.prog.info? 29).map (·.size) = some gcs.size := by rw [HG.out]; exact grp_size
  have hb : Below w.heap.size w (w.alloc (.cells gcs 29)) := (Below.refl _ _).alloc (Nat.le_refl _) _
  have HB := Lib.hid (Blk.new w 29 gcs)
  have K1 := Lib.hid (fun W h => result_any gcs cur y m p cl cA cc ro el eA ec W c HG h hn)
  clear h
  have HD : Hid (Cr.sh cl ro c d b = if decide (d < b) && resB cl c then ro.retained else c) := Lib.hid rfl
  generalize Cr.sh cl ro c d b = s at *
  generalize resB cl c = rb at *
  by_cases h0 : d < b
  · cases rb
    · have HE : Hid (s = c) := Lib.hid (by rw [HD.out]; simp)
      go_enter Try.func56, Try.ntmps56
      go_wp2_with (first
        | (refine wpList_load_blk 29 (.tmp 4) rfl (w.heap.size) rfl (by kernel_rfl) (HB).out Try.underlying29 hgi ?_)
        | (go_at_call 25; refine (K1.out _ (H.out.step hb)).mono ?_; rintro e w2 ⟨rfl, hb9⟩; replace hb := bel hb hb9; clear hb9))
      go_ret
      exact ⟨by rw [HE.out]; rfl, hb⟩
    · have HE : Hid (s = ro.retained) := Lib.hid (by rw [HD.out]; simp [h0])
      go_enter Try.func56, Try.ntmps56
      go_wp2_with (first
        | (refine wpList_load_blk 29 (.tmp 4) rfl (w.heap.size) rfl (by kernel_rfl) (HB).out Try.underlying29 hgi ?_)
        | (go_at_call 25; refine (K1.out _ (H.out.step hb)).mono ?_; rintro e w2 ⟨rfl, hb9⟩; replace hb := bel hb hb9; have HB2 := Lib.hid (HB.out.step hb9); clear hb9; have g11 : w2.cell? ⟨w.heap.size, 11, none⟩ = some (.int .i64 ro.retained) := (HB2.out.cell 11).trans (by rw [HG.out]; rfl)))
      go_ret
      exact ⟨by rw [HE.out]; rfl, hb⟩
  · have HE : Hid (s = c) := Lib.hid (by rw [HD.out]; simp [h0])
    have h0' : decide (d < b) = false := by simpa using h0
    go_enter Try.func56, Try.ntmps56
    go_wp2_with fail
    go_ret
    exact ⟨by rw [HE.out]; rfl, hb⟩
set_option maxRecDepth 100000 in
set_option maxHeartbeats 4000000 in
theorem rshown_any (c d q : Int) (HG : Hid (gcs = #[.string cur, .int .i64 y, .int .i64 m, .int .i64 p, .slice cA cl.length cc, .int .i64 ro.investment, .int .i64 ro.goodwill, .int .i64 ro.associates, .int .i64 ro.inventory, .int .i64 ro.reserve, .int .i64 ro.minority, .int .i64 ro.retained, .int .i64 ro.acquired, .int .i64 ro.owners, .int .i64 ro.disposal, .int .i64 ro.associateProfit, .int .i64 ro.dividends, .int .i64 ro.minorityProfit, .int .i64 ro.difference, .int .i64 ro.margin, .slice eA el.length ec])) (h : GIn w cl cA el eA) (hn : cl.length ≤ 100000) :
    Calls Try.prog 58 #[.agg gcs, .int .i64 c, .int .i64 d, .int .i64 q] w (IntP (Cr.sh cl ro c d (Cal.beV y m p q)) w) := by
  have H := Lib.hid h
  have hgi : (Try.prog.info? 29).map (·.size) = some gcs.size := by rw [HG.out]; exact grp_size
  have hb : Below w.heap.size w (w.alloc (.cells gcs 29)) := (Below.refl _ _).alloc (Nat.le_refl _) _
  have HB := Lib.hid (Blk.new w 29 gcs)
  have K1 := Lib.hid (fun W h => rresult_any gcs cur y m p cl cA cc ro el eA ec W c HG h hn)
  have KB := Lib.hid (fun W => rcal_Begin y m p q W)
  clear h
  have HD : Hid (Cr.sh cl ro c d (Cal.beV y m p q) = if decide (d < Cal.beV y m p q) && resB cl c then ro.retained else c) := Lib.hid rfl
  generalize Cr.sh cl ro c d (Cal.beV y m p q) = s at *
  generalize Cal.beV y m p q = b at *
  generalize Cal.ckE y m p q = x at *
  generalize resB cl c = rb at *
  have e1 : (w.alloc (.cells gcs 29)).cell? ⟨w.heap.size, 1, none⟩ = some (.int .i64 y) := (HB.out.cell 1).trans (by rw [HG.out]; rfl); have e2 : (w.alloc (.cells gcs 29)).cell? ⟨w.heap.size, 2, none⟩ = some (.int .i64 m) := (HB.out.cell 2).trans (by rw [HG.out]; rfl); have e3 : (w.alloc (.cells gcs 29)).cell? ⟨w.heap.size, 3, none⟩ = some (.int .i64 p) := (HB.out.cell 3).trans (by rw [HG.out]; rfl)
  cases rb
  · have HE : Hid (s = c) := Lib.hid (by rw [HD.out]; simp)
    go_enter Try.func58, Try.ntmps58
    go_wp2_with (first
      | (go_at_call 90; refine (KB.out _).mono ?_; rintro e w3 ⟨rfl, hb9⟩; replace hb := bel hb hb9; have HB3 := Lib.hid (HB.out.step hb9); clear hb9)
      | (refine wpList_load_blk 29 (.tmp 4) rfl (w.heap.size) rfl (by kernel_rfl) (HB3).out Try.underlying29 hgi ?_)
      | (go_at_call 26; refine (K1.out _ (H.out.step hb)).mono ?_; rintro e w2 ⟨rfl, hb9⟩; replace hb := bel hb hb9; clear hb9))
    go_ret
    exact ⟨by rw [HE.out]; rfl, hb⟩
  · by_cases h0 : d < b
    · have HE : Hid (s = ro.retained) := Lib.hid (by rw [HD.out]; simp [h0])
      go_enter Try.func58, Try.ntmps58
      go_wp2_with (first
        | (go_at_call 90; refine (KB.out _).mono ?_; rintro e w3 ⟨rfl, hb9⟩; replace hb := bel hb hb9; have HB3 := Lib.hid (HB.out.step hb9); clear hb9)
        | (refine wpList_load_blk 29 (.tmp 4) rfl (w.heap.size) rfl (by kernel_rfl) (HB3).out Try.underlying29 hgi ?_)
        | (go_at_call 26; refine (K1.out _ (H.out.step hb)).mono ?_; rintro e w2 ⟨rfl, hb9⟩; replace hb := bel hb hb9; have HB2 := Lib.hid (HB3.out.step hb9); clear hb9; have g11 : w2.cell? ⟨w.heap.size, 11, none⟩ = some (.int .i64 ro.retained) := (HB2.out.cell 11).trans (by rw [HG.out]; rfl)))
      go_ret
      exact ⟨by rw [HE.out]; rfl, hb⟩
    · have HE : Hid (s = c) := Lib.hid (by rw [HD.out]; simp [h0])
      have h0' : decide (d < b) = false := by simpa using h0
      go_enter Try.func58, Try.ntmps58
      go_wp2_with (first
        | (go_at_call 90; refine (KB.out _).mono ?_; rintro e w3 ⟨rfl, hb9⟩; replace hb := bel hb hb9; have HB3 := Lib.hid (HB.out.step hb9); clear hb9)
        | (refine wpList_load_blk 29 (.tmp 4) rfl (w.heap.size) rfl (by kernel_rfl) (HB3).out Try.underlying29 hgi ?_)
        | (go_at_call 26; refine (K1.out _ (H.out.step hb)).mono ?_; rintro e w2 ⟨rfl, hb9⟩; replace hb := bel hb hb9; clear hb9))
      go_ret
      exact ⟨by rw [HE.out]; rfl, hb⟩
end
end Go.Proofs.Ytpklnlpeedkmdaa
/- The walks of account and sampleChart: the chart of the sample group. -/
namespace Go.Proofs.Ytpklnlpeedkmdaa
set_option linter.unusedVariables false
set_option linter.unusedSimpArgs false
open Go.RowKit

theorem Blk.ne_own {w : World} {g : Nat} {t e : TypeId} {cs : Array Value} {base sz : Nat} {v : Value} {n : Nat} {xs : List Value} (h : Blk w g t cs) (ho : w.ownsRow base e sz v n xs) (hne : t ≠ e) : some g ≠ v.ownBlock := by
  rcases ho.2 with ⟨rfl, _⟩ | ⟨g', cap, cur, rfl, _, hg, _⟩
  · simp [Value.ownBlock]
  · simp only [Value.ownBlock, ne_eq, Option.some.injEq]
    rintro rfl
    unfold Blk at h
    rw [hg] at h
    simp at h
    exact hne h.2.symm
theorem own_cast {w : World} {base : Nat} {e : TypeId} {α : Type} {f : α → List Value} {sz : Nat} {v : Value} {l l' : List α} (h : w.ownsRow base e sz v l.length (cellsOf f l)) (hl : l = l') : w.ownsRow base e sz v l'.length (cellsOf f l') := by
  subst hl; exact h
theorem Acc.one (x : Acc) : ∀ u ∈ x.cells, u.oneCell' = true := by
  intro u hu
  simp only [Acc.cells, Ch.cells1, List.mem_cons, List.not_mem_nil, or_false] at hu
  rcases hu with rfl | rfl | rfl | rfl
  all_goals rfl
theorem Acc.info : (Try.prog.info? 45).map (fun i => (i.zero, i.size, i.bytes)) = some (some (.agg #[.int .i64 0, .int .i64 0, .int .i64 0, .int .i64 0]), 4, 32) := by kernel_rfl
def pairC (x : Int × Int) : List Value := [.int .i64 x.1, .int .i64 x.2]
namespace Sam
def ta : List (Int × Int) := [(1000, 0), (1010, 1000), (1100, 1000), (1200, 1000)]
def tb : List Int := [1300, 1500, 1600, 1700]
def td : List Int := [3000, 3100, 3200, 3300, 3400, 3500]
def te : List (Int × Int) := [(4000, 0), (4100, 4000), (4500, 0), (4600, 0), (4700, 0)]
def tf : List Int := [5000, 5100, 5500, 5600, 5700]
def mp (kd bs : Int) (x : Int × Int) : Acc := ⟨x.1, kd, bs, x.2⟩
def mi (kd bs : Int) (c : Int) : Acc := ⟨c, kd, bs, 0⟩
def s0 : List Acc := []
def s1 : List Acc := s0 ++ ta.map (mp 1 1)
def s2 : List Acc := s1 ++ tb.map (mi 1 3)
def s3 : List Acc := s2 ++ [⟨2000, 2, 1, 0⟩, ⟨2100, 2, 1, 2000⟩]
def s4 : List Acc := s3 ++ td.map (mi 3 3)
def s5 : List Acc := s4 ++ te.map (mp 4 2)
/-- the chart of the sample group -/
def chart : List Acc := s5 ++ tf.map (mi 5 2)
end Sam
theorem gaccount_any (c kd bs pr : Int) (w : World) : Calls Try.prog 109 #[.int .i64 c, .int .i64 kd, .int .i64 bs, .int .i64 pr] w fun e w' => e = .returned (.agg #[.int .i64 c, .int .i64 kd, .int .i64 bs, .int .i64 pr]) ∧ Below w.heap.size w w' := by
  have hb : Below w.heap.size w (w.alloc (.cells #[.int .i64 c, .int .i64 kd, .int .i64 bs, .int .i64 pr] 45)) := (Below.refl _ _).alloc (Nat.le_refl _) _
  go_enter Try.func109, Try.ntmps109
  go_wp2
  refine bodyPost_ret (v := .agg #[.int .i64 c, .int .i64 kd, .int .i64 bs, .int .i64 pr]) (by simp [results, Try.results109, go_sem]) rfl ?_
  exact ⟨rfl, hb⟩
theorem sam_len {α : Type} (P : List Acc) (X : List α) (f : α → Acc) (k : Nat) (h : P.length ≤ 50) (hk : k ≤ 10) : (P ++ (X.map f).take k).length ≤ 100 := by
  rw [List.length_append]
  have := List.length_take_le k (X.map f)
  omega
theorem sam_snoc {α : Type} (P : List Acc) (X : List α) (f : α → Acc) (k : Nat) (h : k < X.length) : P ++ (X.map f).take k ++ [f X[k]] = P ++ (X.map f).take (k + 1) := by
  rw [List.append_assoc, List.take_succ_eq_append_getElem (by simpa using h), List.getElem_map]
set_option maxRecDepth 100000 in
set_option maxHeartbeats 16000000 in
theorem sampleChart_any (w : World) : Calls Try.prog 87 #[] w fun e w' => ∃ v, e = .returned v ∧ w'.ownsRow w.heap.size 45 4 v Sam.chart.length (cellsOf Acc.cells Sam.chart) ∧ Below w.heap.size w w' := by
  obtain ⟨i0, hi, hz0, hz1, hz2⟩ := info_parts Acc.info
  have hb := Below.refl w.heap.size w
  have ho : w.ownsRow w.heap.size 45 4 (.slice none 0 0) (Sam.s0).length (cellsOf Acc.cells Sam.s0) := World.ownsRow_nil _ _ _ _
  go_enter Try.func87, Try.ntmps87
  go_wp2_with fail
  go_loopw [1, 18] (fun v t wr => ∃ k : Nat, k ≤ 4 ∧ t = .int .i64 k ∧ wr.ownsRow w.heap.size 45 4 v (Sam.s0 ++ (Sam.ta.map (Sam.mp 1 1)).take k).length (cellsOf Acc.cells (Sam.s0 ++ (Sam.ta.map (Sam.mp 1 1)).take k)) ∧ Blk wr w.heap.size 53 (cellsOf pairC Sam.ta).toArray ∧ Below w.heap.size w wr) (fun _ t _ => 4 - (intOf t).toNat)
  case atStart => exact ⟨0, by omega, rfl, own_cast (ho.alloc _) (by simp), Blk.new _ _ _, hb.alloc hb.size _⟩
  case round =>
    clear ho hb
    obtain ⟨k, hk, rfl, ho, hT, hb⟩ := hrel
    have hz := hb.size
    by_cases hlt : k < 4
    · have hln : (Sam.s0 ++ (Sam.ta.map (Sam.mp 1 1)).take k).length ≤ 100 := sam_len Sam.s0 Sam.ta (Sam.mp 1 1) k (by decide) (by omega)
      have hxl : k < Sam.ta.length := hlt
      have HSN := Lib.hid (sam_snoc Sam.s0 Sam.ta (Sam.mp 1 1) k hxl)
      obtain ⟨b, o, hA, hbo, hcs⟩ := rd_at (f := pairC) (sz := 2) (fun _ => rfl) (Rd.of_blk (sz := 2) (n := (Sam.ta).length) hT (xs := cellsOf pairC Sam.ta) (by simp) (by rw [cellsOf_len (sz := 2) (fun _ => rfl)])) hxl
      injection hA with hA
      injection hA with hA1 hA2
      subst hA1 hA2
      have f0 := hcs 0 _ rfl
      have f1 := hcs 1 _ rfl
      simp only [Nat.zero_add, Nat.add_zero] at f0 f1
      have HT := Lib.hid hT
      have HO := Lib.hid ho
      clear hT ho hcs
      generalize hxk : (Sam.ta)[k] = c at *
      have HXK := Lib.hid hxk
      clear hxk
      obtain ⟨c, d⟩ := c
      dsimp only at *
      have hb1 := hb.alloc hz (.cells #[.int .i64 c, .int .i64 d] 53)
      go_wp2_with (first
        | (go_at_call 109; refine (gaccount_any _ _ _ _ _).mono ?_; rintro e w2 ⟨rfl, hb2⟩; have ho3 := (own_step (HO.out.alloc (.cells #[.int .i64 c, .int .i64 d] 53)) hb2).alloc (.cells #[.int .i64 c, .int .i64 1, .int .i64 1, .int .i64 d] 45); have hT3 := ((HT.out.alloc (.cells #[.int .i64 c, .int .i64 d] 53)).step hb2).alloc (.cells #[.int .i64 c, .int .i64 1, .int .i64 1, .int .i64 d] 45); have hb3 := (bel hb1 hb2).alloc (bel hb1 hb2).size (.cells #[.int .i64 c, .int .i64 1, .int .i64 1, .int .i64 d] 45); clear hb2)
        | (at_builtin; refine wpList_append_rec Acc.cells 4 (fun _ => rfl) Acc.one rfl (.tmp 22) (.tmp 28) 24 rfl w.heap.size 45 i0 (.agg #[.int .i64 0, .int .i64 0, .int .i64 0, .int .i64 0]) 32 Try.underlying24 hi hz0 hz1 hz2 rfl (by decide) _ (Sam.s0 ++ (Sam.ta.map (Sam.mp 1 1)).take k) rfl (ho3) (w2).heap.size 1 (Sam.mp 1 1 (c, d)) _ rfl (Blk.new (w2) _ _) rfl (by simp only [maxLen]; omega) (by omega) (hb3).size ?_; intro v4 w4 ho4 hg4))
      have hb4 := bel_own (hb3) (hb3).size ho3 hg4
      have hT4 := hT3.grown hg4 (hT3.ne_own ho3 (by decide))
      clear hg4 ho3 hT3
      go_wp2_with fail
      go_roundw
      case rel => exact ⟨k + 1, by omega, by go_num, own_cast ho4 HSN.out, hT4, hb4⟩
      case measure => simp [intOf]; omega
    · replace ho := own_cast (l' := Sam.s1) ho (by rw [show k = 4 by omega]; rfl)
      obtain ⟨wA, rfl⟩ : ∃ x : World, x = wr := ⟨_, rfl⟩
      obtain ⟨kA, rfl⟩ : ∃ x : Nat, x = k := ⟨_, rfl⟩
      have HKA : Hid (kA = 4) := Lib.hid (by omega)
      clear hT hz
      go_wp2_with fail
      go_loopw [1, 33] (fun v t wr => ∃ k : Nat, k ≤ 4 ∧ t = .int .i64 k ∧ wr.ownsRow w.heap.size 45 4 v (Sam.s1 ++ (Sam.tb.map (Sam.mi 1 3)).take k).length (cellsOf Acc.cells (Sam.s1 ++ (Sam.tb.map (Sam.mi 1 3)).take k)) ∧ Blk wr wA.heap.size 3 (intCells Sam.tb).toArray ∧ Below w.heap.size w wr) (fun _ t _ => 4 - (intOf t).toNat)
      case atStart => exact ⟨0, by omega, rfl, own_cast (ho.alloc _) (by simp), Blk.new _ _ _, hb.alloc hb.size _⟩
      case round =>
        clear ho hb
        obtain ⟨k, hk, rfl, ho, hT, hb⟩ := hrel
        have hz := hb.size
        by_cases hlt : k < 4
        · have hln : (Sam.s1 ++ (Sam.tb.map (Sam.mi 1 3)).take k).length ≤ 100 := sam_len Sam.s1 Sam.tb (Sam.mi 1 3) k (by decide) (by omega)
          have hxl : k < Sam.tb.length := hlt
          have HSN := Lib.hid (sam_snoc Sam.s1 Sam.tb (Sam.mi 1 3) k hxl)
          obtain ⟨b, o, hA, hbo, f0⟩ := int_at (Rd.of_blk (sz := 1) (n := (Sam.tb).length) hT (xs := intCells Sam.tb) (by simp) (by rw [intCells_len, Nat.mul_one])) hxl
          injection hA with hA
          injection hA with hA1 hA2
          subst hA1 hA2
          rw [Nat.zero_add] at f0
          have HT := Lib.hid hT
          have HO := Lib.hid ho
          clear hT ho
          generalize hxk : (Sam.tb)[k] = c at *
          have HXK := Lib.hid hxk
          clear hxk
          go_wp2_with (first
            | (go_at_call 109; refine (gaccount_any _ _ _ _ _).mono ?_; rintro e w2 ⟨rfl, hb2⟩; have ho3 := (own_step HO.out hb2).alloc (.cells #[.int .i64 c, .int .i64 1, .int .i64 3, .int .i64 0] 45); have hT3 := (HT.out.step hb2).alloc (.cells #[.int .i64 c, .int .i64 1, .int .i64 3, .int .i64 0] 45); have hb3 := (bel hb hb2).alloc (bel hb hb2).size (.cells #[.int .i64 c, .int .i64 1, .int .i64 3, .int .i64 0] 45); clear hb2)
            | (at_builtin; refine wpList_append_rec Acc.cells 4 (fun _ => rfl) Acc.one rfl (.tmp 37) (.tmp 40) 24 rfl w.heap.size 45 i0 (.agg #[.int .i64 0, .int .i64 0, .int .i64 0, .int .i64 0]) 32 Try.underlying24 hi hz0 hz1 hz2 rfl (by decide) _ (Sam.s1 ++ (Sam.tb.map (Sam.mi 1 3)).take k) rfl (ho3) (w2).heap.size 1 (Sam.mi 1 3 c) _ rfl (Blk.new (w2) _ _) rfl (by simp only [maxLen]; omega) (by omega) (hb3).size ?_; intro v4 w4 ho4 hg4))
          have hb4 := bel_own (hb3) (hb3).size ho3 hg4
          have hT4 := hT3.grown hg4 (hT3.ne_own ho3 (by decide))
          clear hg4 ho3 hT3
          go_wp2_with fail
          go_roundw
          case rel => exact ⟨k + 1, by omega, by go_num, own_cast ho4 HSN.out, hT4, hb4⟩
          case measure => simp [intOf]; omega
        · replace ho := own_cast (l' := Sam.s2) ho (by rw [show k = 4 by omega]; rfl)
          obtain ⟨wB, rfl⟩ : ∃ x : World, x = wr := ⟨_, rfl⟩
          obtain ⟨kB, rfl⟩ : ∃ x : Nat, x = k := ⟨_, rfl⟩
          have HKB : Hid (kB = 4) := Lib.hid (by omega)
          clear hT hz
          have HO := Lib.hid ho
          clear ho
          go_wp2_with fail
          refine (gaccount_any 2000 2 1 0 wB).mono ?_
          rintro e w2 ⟨rfl, hb2⟩
          have ho2 := Lib.hid (own_step HO.out hb2)
          replace hb := bel hb hb2
          clear hb2 HO
          go_wp2_with fail
          refine (gaccount_any 2100 2 1 2000 w2).mono ?_
          rintro e w3 ⟨rfl, hb3⟩
          have ho3 := (own_step ho2.out hb3).alloc (.cells #[.int .i64 2000, .int .i64 2, .int .i64 1, .int .i64 0, .int .i64 2100, .int .i64 2, .int .i64 1, .int .i64 2000] 45)
          replace hb := (bel hb hb3).alloc (bel hb hb3).size (.cells #[.int .i64 2000, .int .i64 2, .int .i64 1, .int .i64 0, .int .i64 2100, .int .i64 2, .int .i64 1, .int .i64 2000] 45)
          clear hb3 ho2
          have hr3 := Rd.of_blk (sz := 4) (n := 2) (Blk.new w3 45 #[.int .i64 2000, .int .i64 2, .int .i64 1, .int .i64 0, .int .i64 2100, .int .i64 2, .int .i64 1, .int .i64 2000]) (xs := cellsOf Acc.cells [⟨2000, 2, 1, 0⟩, ⟨2100, 2, 1, 2000⟩]) rfl rfl
          go_wp2_with (at_builtin; refine wpList_append_any _ rfl (.tmp 43) (.tmp 46) 24 rfl w.heap.size 45 i0 (.agg #[.int .i64 0, .int .i64 0, .int .i64 0, .int .i64 0]) 4 32 Try.underlying24 hi hz0 hz1 hz2 rfl (by decide) _ (Sam.s2).length (cellsOf Acc.cells Sam.s2) rfl ho3 _ (some ⟨w3.heap.size, 0, none⟩) 2 2 _ rfl hr3 (cells_one Acc.one _) (by decide) (by decide) hb.size ?_; intro v4 w4 ho4 hg4)
          have hb4 := bel_own hb hb.size ho3 hg4
          rw [← cellsOf_app] at ho4
          have ho5 : w4.ownsRow w.heap.size 45 4 v4 (Sam.s3).length (cellsOf Acc.cells Sam.s3) := ho4
          clear hg4 ho3 hr3 hb ho4
          obtain ⟨hb, ho⟩ : Below w.heap.size w w4 ∧ w4.ownsRow w.heap.size 45 4 v4 (Sam.s3).length (cellsOf Acc.cells Sam.s3) := ⟨hb4, ho5⟩
          clear hb4 ho5
          go_wp2_with fail
          go_loopw [1, 50] (fun v t wr => ∃ k : Nat, k ≤ 6 ∧ t = .int .i64 k ∧ wr.ownsRow w.heap.size 45 4 v (Sam.s3 ++ (Sam.td.map (Sam.mi 3 3)).take k).length (cellsOf Acc.cells (Sam.s3 ++ (Sam.td.map (Sam.mi 3 3)).take k)) ∧ Blk wr w4.heap.size 3 (intCells Sam.td).toArray ∧ Below w.heap.size w wr) (fun _ t _ => 6 - (intOf t).toNat)
          case atStart => exact ⟨0, by omega, rfl, own_cast (ho.alloc _) (by simp), Blk.new _ _ _, hb.alloc hb.size _⟩
          case round =>
            clear ho hb
            obtain ⟨k, hk, rfl, ho, hT, hb⟩ := hrel
            have hz := hb.size
            by_cases hlt : k < 6
            · have hln : (Sam.s3 ++ (Sam.td.map (Sam.mi 3 3)).take k).length ≤ 100 := sam_len Sam.s3 Sam.td (Sam.mi 3 3) k (by decide) (by omega)
              have hxl : k < Sam.td.length := hlt
              have HSN := Lib.hid (sam_snoc Sam.s3 Sam.td (Sam.mi 3 3) k hxl)
              obtain ⟨b, o, hA, hbo, f0⟩ := int_at (Rd.of_blk (sz := 1) (n := (Sam.td).length) hT (xs := intCells Sam.td) (by simp) (by rw [intCells_len, Nat.mul_one])) hxl
              injection hA with hA
              injection hA with hA1 hA2
              subst hA1 hA2
              rw [Nat.zero_add] at f0
              have HT := Lib.hid hT
              have HO := Lib.hid ho
              clear hT ho
              generalize hxk : (Sam.td)[k] = c at *
              have HXK := Lib.hid hxk
              clear hxk
              go_wp2_with (first
                | (go_at_call 109; refine (gaccount_any _ _ _ _ _).mono ?_; rintro e w2 ⟨rfl, hb2⟩; have ho3 := (own_step HO.out hb2).alloc (.cells #[.int .i64 c, .int .i64 3, .int .i64 3, .int .i64 0] 45); have hT3 := (HT.out.step hb2).alloc (.cells #[.int .i64 c, .int .i64 3, .int .i64 3, .int .i64 0] 45); have hb3 := (bel hb hb2).alloc (bel hb hb2).size (.cells #[.int .i64 c, .int .i64 3, .int .i64 3, .int .i64 0] 45); clear hb2)
                | (at_builtin; refine wpList_append_rec Acc.cells 4 (fun _ => rfl) Acc.one rfl (.tmp 54) (.tmp 57) 24 rfl w.heap.size 45 i0 (.agg #[.int .i64 0, .int .i64 0, .int .i64 0, .int .i64 0]) 32 Try.underlying24 hi hz0 hz1 hz2 rfl (by decide) _ (Sam.s3 ++ (Sam.td.map (Sam.mi 3 3)).take k) rfl (ho3) (w2).heap.size 1 (Sam.mi 3 3 c) _ rfl (Blk.new (w2) _ _) rfl (by simp only [maxLen]; omega) (by omega) (hb3).size ?_; intro v4 w4 ho4 hg4))
              have hb4 := bel_own (hb3) (hb3).size ho3 hg4
              have hT4 := hT3.grown hg4 (hT3.ne_own ho3 (by decide))
              clear hg4 ho3 hT3
              go_wp2_with fail
              go_roundw
              case rel => exact ⟨k + 1, by omega, by go_num, own_cast ho4 HSN.out, hT4, hb4⟩
              case measure => simp [intOf]; omega
            · replace ho := own_cast (l' := Sam.s4) ho (by rw [show k = 6 by omega]; rfl)
              obtain ⟨wC, rfl⟩ : ∃ x : World, x = wr := ⟨_, rfl⟩
              obtain ⟨kC, rfl⟩ : ∃ x : Nat, x = k := ⟨_, rfl⟩
              have HKC : Hid (kC = 6) := Lib.hid (by omega)
              clear hT hz
              go_wp2_with fail
              go_loopw [1, 67] (fun v t wr => ∃ k : Nat, k ≤ 5 ∧ t = .int .i64 k ∧ wr.ownsRow w.heap.size 45 4 v (Sam.s4 ++ (Sam.te.map (Sam.mp 4 2)).take k).length (cellsOf Acc.cells (Sam.s4 ++ (Sam.te.map (Sam.mp 4 2)).take k)) ∧ Blk wr wC.heap.size 53 (cellsOf pairC Sam.te).toArray ∧ Below w.heap.size w wr) (fun _ t _ => 5 - (intOf t).toNat)
              case atStart => exact ⟨0, by omega, rfl, own_cast (ho.alloc _) (by simp), Blk.new _ _ _, hb.alloc hb.size _⟩
              case round =>
                clear ho hb
                obtain ⟨k, hk, rfl, ho, hT, hb⟩ := hrel
                have hz := hb.size
                by_cases hlt : k < 5
                · have hln : (Sam.s4 ++ (Sam.te.map (Sam.mp 4 2)).take k).length ≤ 100 := sam_len Sam.s4 Sam.te (Sam.mp 4 2) k (by decide) (by omega)
                  have hxl : k < Sam.te.length := hlt
                  have HSN := Lib.hid (sam_snoc Sam.s4 Sam.te (Sam.mp 4 2) k hxl)
                  obtain ⟨b, o, hA, hbo, hcs⟩ := rd_at (f := pairC) (sz := 2) (fun _ => rfl) (Rd.of_blk (sz := 2) (n := (Sam.te).length) hT (xs := cellsOf pairC Sam.te) (by simp) (by rw [cellsOf_len (sz := 2) (fun _ => rfl)])) hxl
                  injection hA with hA
                  injection hA with hA1 hA2
                  subst hA1 hA2
                  have f0 := hcs 0 _ rfl
                  have f1 := hcs 1 _ rfl
                  simp only [Nat.zero_add, Nat.add_zero] at f0 f1
                  have HT := Lib.hid hT
                  have HO := Lib.hid ho
                  clear hT ho hcs
                  generalize hxk : (Sam.te)[k] = c at *
                  have HXK := Lib.hid hxk
                  clear hxk
                  obtain ⟨c, d⟩ := c
                  dsimp only at *
                  have hb1 := hb.alloc hz (.cells #[.int .i64 c, .int .i64 d] 53)
                  go_wp2_with (first
                    | (go_at_call 109; refine (gaccount_any _ _ _ _ _).mono ?_; rintro e w2 ⟨rfl, hb2⟩; have ho3 := (own_step (HO.out.alloc (.cells #[.int .i64 c, .int .i64 d] 53)) hb2).alloc (.cells #[.int .i64 c, .int .i64 4, .int .i64 2, .int .i64 d] 45); have hT3 := ((HT.out.alloc (.cells #[.int .i64 c, .int .i64 d] 53)).step hb2).alloc (.cells #[.int .i64 c, .int .i64 4, .int .i64 2, .int .i64 d] 45); have hb3 := (bel hb1 hb2).alloc (bel hb1 hb2).size (.cells #[.int .i64 c, .int .i64 4, .int .i64 2, .int .i64 d] 45); clear hb2)
                    | (at_builtin; refine wpList_append_rec Acc.cells 4 (fun _ => rfl) Acc.one rfl (.tmp 71) (.tmp 77) 24 rfl w.heap.size 45 i0 (.agg #[.int .i64 0, .int .i64 0, .int .i64 0, .int .i64 0]) 32 Try.underlying24 hi hz0 hz1 hz2 rfl (by decide) _ (Sam.s4 ++ (Sam.te.map (Sam.mp 4 2)).take k) rfl (ho3) (w2).heap.size 1 (Sam.mp 4 2 (c, d)) _ rfl (Blk.new (w2) _ _) rfl (by simp only [maxLen]; omega) (by omega) (hb3).size ?_; intro v4 w4 ho4 hg4))
                  have hb4 := bel_own (hb3) (hb3).size ho3 hg4
                  have hT4 := hT3.grown hg4 (hT3.ne_own ho3 (by decide))
                  clear hg4 ho3 hT3
                  go_wp2_with fail
                  go_roundw
                  case rel => exact ⟨k + 1, by omega, by go_num, own_cast ho4 HSN.out, hT4, hb4⟩
                  case measure => simp [intOf]; omega
                · replace ho := own_cast (l' := Sam.s5) ho (by rw [show k = 5 by omega]; rfl)
                  obtain ⟨wD, rfl⟩ : ∃ x : World, x = wr := ⟨_, rfl⟩
                  obtain ⟨kD, rfl⟩ : ∃ x : Nat, x = k := ⟨_, rfl⟩
                  have HKD : Hid (kD = 5) := Lib.hid (by omega)
                  clear hT hz
                  go_wp2_with fail
                  go_loopw [1, 82] (fun v t wr => ∃ k : Nat, k ≤ 5 ∧ t = .int .i64 k ∧ wr.ownsRow w.heap.size 45 4 v (Sam.s5 ++ (Sam.tf.map (Sam.mi 5 2)).take k).length (cellsOf Acc.cells (Sam.s5 ++ (Sam.tf.map (Sam.mi 5 2)).take k)) ∧ Blk wr wD.heap.size 3 (intCells Sam.tf).toArray ∧ Below w.heap.size w wr) (fun _ t _ => 5 - (intOf t).toNat)
                  case atStart => exact ⟨0, by omega, rfl, own_cast (ho.alloc _) (by simp), Blk.new _ _ _, hb.alloc hb.size _⟩
                  case round =>
                    clear ho hb
                    obtain ⟨k, hk, rfl, ho, hT, hb⟩ := hrel
                    have hz := hb.size
                    by_cases hlt : k < 5
                    · have hln : (Sam.s5 ++ (Sam.tf.map (Sam.mi 5 2)).take k).length ≤ 100 := sam_len Sam.s5 Sam.tf (Sam.mi 5 2) k (by decide) (by omega)
                      have hxl : k < Sam.tf.length := hlt
                      have HSN := Lib.hid (sam_snoc Sam.s5 Sam.tf (Sam.mi 5 2) k hxl)
                      obtain ⟨b, o, hA, hbo, f0⟩ := int_at (Rd.of_blk (sz := 1) (n := (Sam.tf).length) hT (xs := intCells Sam.tf) (by simp) (by rw [intCells_len, Nat.mul_one])) hxl
                      injection hA with hA
                      injection hA with hA1 hA2
                      subst hA1 hA2
                      rw [Nat.zero_add] at f0
                      have HT := Lib.hid hT
                      have HO := Lib.hid ho
                      clear hT ho
                      generalize hxk : (Sam.tf)[k] = c at *
                      have HXK := Lib.hid hxk
                      clear hxk
                      go_wp2_with (first
                        | (go_at_call 109; refine (gaccount_any _ _ _ _ _).mono ?_; rintro e w2 ⟨rfl, hb2⟩; have ho3 := (own_step HO.out hb2).alloc (.cells #[.int .i64 c, .int .i64 5, .int .i64 2, .int .i64 0] 45); have hT3 := (HT.out.step hb2).alloc (.cells #[.int .i64 c, .int .i64 5, .int .i64 2, .int .i64 0] 45); have hb3 := (bel hb hb2).alloc (bel hb hb2).size (.cells #[.int .i64 c, .int .i64 5, .int .i64 2, .int .i64 0] 45); clear hb2)
                        | (at_builtin; refine wpList_append_rec Acc.cells 4 (fun _ => rfl) Acc.one rfl (.tmp 86) (.tmp 89) 24 rfl w.heap.size 45 i0 (.agg #[.int .i64 0, .int .i64 0, .int .i64 0, .int .i64 0]) 32 Try.underlying24 hi hz0 hz1 hz2 rfl (by decide) _ (Sam.s5 ++ (Sam.tf.map (Sam.mi 5 2)).take k) rfl (ho3) (w2).heap.size 1 (Sam.mi 5 2 c) _ rfl (Blk.new (w2) _ _) rfl (by simp only [maxLen]; omega) (by omega) (hb3).size ?_; intro v4 w4 ho4 hg4))
                      have hb4 := bel_own (hb3) (hb3).size ho3 hg4
                      have hT4 := hT3.grown hg4 (hT3.ne_own ho3 (by decide))
                      clear hg4 ho3 hT3
                      go_wp2_with fail
                      go_roundw
                      case rel => exact ⟨k + 1, by omega, by go_num, own_cast ho4 HSN.out, hT4, hb4⟩
                      case measure => simp [intOf]; omega
                    · replace ho := own_cast (l' := Sam.chart) ho (by rw [show k = 5 by omega]; rfl)
                      obtain ⟨wE, rfl⟩ : ∃ x : World, x = wr := ⟨_, rfl⟩
                      obtain ⟨kE, rfl⟩ : ∃ x : Nat, x = k := ⟨_, rfl⟩
                      have HKE : Hid (kE = 5) := Lib.hid (by omega)
                      clear hT hz
                      go_wp2_with fail
                      go_ret
                      exact ⟨_, rfl, ho, hb⟩
end Go.Proofs.Ytpklnlpeedkmdaa
