/- Texts of this claim, put together. -/
import Derived.Test.YtnddoehhcpejjaaGreatJrnWalksFZ
import Derived.Test.YtnddoehhcpejjaaGreatJAU
import Derived.Test.YtnddoehhcpejjaaGreatJAP
import Derived.Test.YtnddoehhcpejjaaGreatJBI
import Derived.Deep.DeepCutAuto
/- The walks of the reference's line and shape. -/
namespace Go.Proofs.YtnddoehhcpejjaaGreat
set_option linter.unusedVariables false
set_option linter.unusedSimpArgs false
open Go.RowKit

namespace Jn
theorem form_no {V : Bool} {n : Int} {x : EntryR} (h : ¬ HeadOk V n x) : formB V n x = false := by
  have := fm_no h
  unfold fmE at this
  cases hf : formB V n x
  · rfl
  · rw [hf] at this; simp at this
theorem form_line {V : Bool} {n : Int} {x : EntryR} {k : Nat} (hk : k < x.lines.l.length) (h : lineB n x.entity x.lines.l[k] = false) : formB V n x = false := by
  have := fm_line (V := V) hk h
  unfold fmE at this
  cases hf : formB V n x
  · rfl
  · rw [hf] at this; simp at this
theorem form_yes {V : Bool} {n : Int} {x : EntryR} (h : HeadOk V n x) (h2 : ∀ k (hk : k < x.lines.l.length), lineB n x.entity x.lines.l[k] = true) : formB V n x = true := by
  have := fm_yes h h2
  unfold fmE at this
  cases hf : formB V n x
  · rw [hf] at this; simp at this
  · rfl
end Jn
section
variable (gcs : Array Value) (cur : ByteArray) (y m p : Int) (cl : List Acc) (cA : Option Addr) (cc : Nat) (ro : RolesR) (el : List EntR) (eA : Option Addr) (ec : Nat) (w : World) (id en da kd fo : Int) (tx : ByteArray) (ll : List LineR) (lA : Option Addr) (lc : Nat)
set_option maxRecDepth 100000 in
set_option maxHeartbeats 4000000 in
theorem rline_any (HG : Hid (gcs = #[.string cur, .int .i64 y, .int .i64 m, .int .i64 p, .slice cA cl.length cc, .int .i64 ro.investment, .int .i64 ro.goodwill, .int .i64 ro.associates, .int .i64 ro.inventory, .int .i64 ro.reserve, .int .i64 ro.minority, .int .i64 ro.retained, .int .i64 ro.acquired, .int .i64 ro.owners, .int .i64 ro.disposal, .int .i64 ro.associateProfit, .int .i64 ro.dividends, .int .i64 ro.minorityProfit, .int .i64 ro.difference, .int .i64 ro.margin, .slice eA el.length ec])) (la lm lp : Int) : Calls Tryz.prog 130 #[.agg gcs, .int .i64 en, .agg #[.int .i64 la, .int .i64 lm, .int .i64 lp]] w (BoolPost (Jn.lineB el.length en ⟨la, lm, lp⟩) w) := by
  have hb : Below w.heap.size w ((w.alloc (.cells gcs 29)).alloc (.cells #[.int .i64 la, .int .i64 lm, .int .i64 lp] 69)) := ((Below.refl _ _).alloc (Nat.le_refl _) _).alloc (by simp) _
  have HB := Lib.hid ((Blk.new w 29 gcs).alloc (.cells #[.int .i64 la, .int .i64 lm, .int .i64 lp] 69))
  have HL := Lib.hid (blk_new2 w (.cells gcs 29) 69 #[.int .i64 la, .int .i64 lm, .int .i64 lp])
  have HD : Hid (Jn.lineB el.length en ⟨la, lm, lp⟩ = (!(lm == 0) && amV lm && (decide (lp = -1) || decide (0 ≤ lp) && decide (lp < (el.length : Int)) && !(lp == en)))) := Lib.hid rfl
  generalize Jn.lineB el.length en ⟨la, lm, lp⟩ = X at *
  go_enter Tryz.func130, Tryz.ntmps130
  go_upto_region 1 with fail
  generalize (w.alloc (.cells gcs 29)).alloc (.cells #[.int .i64 la, .int .i64 lm, .int .i64 lp] 69) = W at *
  have l1 : W.cell? ⟨w.heap.size + 1, 1, none⟩ = some (.int .i64 lm) := HL.out.cell 1
  have l2 : W.cell? ⟨w.heap.size + 1, 2, none⟩ = some (.int .i64 lp) := HL.out.cell 2
  have g20 : W.cell? ⟨w.heap.size, 20, none⟩ = some (.slice eA el.length ec) := (HB.out.cell 20).trans (by rw [HG.out]; rfl)
  cases a1 : (lm == 0)
  · cases ham : amV lm
    · have HE : Hid (X = false) := Lib.hid (by rw [HD.out, ham]; simp)
      have HAM := Lib.hid ham
      clear ham
      go_wp2_with (go_at_call 137; refine (rmoney_any lm _).mono ?_; rintro e w9 ⟨rfl, rfl⟩; (try rw [HAM.out]))
      go_ret
      exact ⟨by rw [HE.out]; rfl, hb⟩
    · rw [a1, ham] at HD
      have HAM := Lib.hid ham
      clear ham
      cases b1 : (lp == -1)
      · have b1' : decide (lp = -1) = false := by simpa using b1
        rw [b1'] at HD
        clear b1'
        by_cases b2 : 0 ≤ lp
        · by_cases b3 : lp < (el.length : Int)
          · cases b4 : (lp == en)
            · have b4' : (lp != en) = true := by simpa using b4
              have HE : Hid (X = true) := Lib.hid (by rw [HD.out, b4]; simp [b2, b3])
              clear b4
              go_wp2_with (go_at_call 137; refine (rmoney_any lm _).mono ?_; rintro e w9 ⟨rfl, rfl⟩; (try rw [HAM.out]))
              go_ret
              exact ⟨by rw [HE.out]; rfl, hb⟩
            · have b4' : (lp != en) = false := by simpa using b4
              have HE : Hid (X = false) := Lib.hid (by rw [HD.out, b4]; simp)
              clear b4
              go_wp2_with (go_at_call 137; refine (rmoney_any lm _).mono ?_; rintro e w9 ⟨rfl, rfl⟩; (try rw [HAM.out]))
              go_ret
              exact ⟨by rw [HE.out]; rfl, hb⟩
          · have HE : Hid (X = false) := Lib.hid (by rw [HD.out]; simp [b3])
            go_wp2_with (go_at_call 137; refine (rmoney_any lm _).mono ?_; rintro e w9 ⟨rfl, rfl⟩; (try rw [HAM.out]))
            go_ret
            exact ⟨by rw [HE.out]; rfl, hb⟩
        · have HE : Hid (X = false) := Lib.hid (by rw [HD.out]; simp [b2])
          go_wp2_with (go_at_call 137; refine (rmoney_any lm _).mono ?_; rintro e w9 ⟨rfl, rfl⟩; (try rw [HAM.out]))
          go_ret
          exact ⟨by rw [HE.out]; rfl, hb⟩
      · have b1' : decide (lp = -1) = true := by simpa using b1
        have HE : Hid (X = true) := Lib.hid (by rw [HD.out, b1']; rfl)
        clear b1'
        go_wp2_with (go_at_call 137; refine (rmoney_any lm _).mono ?_; rintro e w9 ⟨rfl, rfl⟩; (try rw [HAM.out]))
        go_ret
        exact ⟨by rw [HE.out]; rfl, hb⟩
  · have HE : Hid (X = false) := Lib.hid (by rw [HD.out, a1]; rfl)
    go_wp2_with (go_at_call 137; refine (rmoney_any lm _).mono ?_; rintro e w9 ⟨rfl, rfl⟩; (try rw [HAM.out]))
    go_ret
    exact ⟨by rw [HE.out]; rfl, hb⟩
set_option maxRecDepth 100000 in
set_option maxHeartbeats 16000000 in
theorem shape_any (HG : Hid (gcs = #[.string cur, .int .i64 y, .int .i64 m, .int .i64 p, .slice cA cl.length cc, .int .i64 ro.investment, .int .i64 ro.goodwill, .int .i64 ro.associates, .int .i64 ro.inventory, .int .i64 ro.reserve, .int .i64 ro.minority, .int .i64 ro.retained, .int .i64 ro.acquired, .int .i64 ro.owners, .int .i64 ro.disposal, .int .i64 ro.associateProfit, .int .i64 ro.dividends, .int .i64 ro.minorityProfit, .int .i64 ro.difference, .int .i64 ro.margin, .slice eA el.length ec])) (h : GIn w cl cA el eA) (hF : FewOk cur cl el) (htx : tx.size ≤ maxLen) (hr : Rd w w.heap.size 3 lA ll.length (cellsOf LineR.cells ll)) (hn : ll.length ≤ 1000) :
    Calls Tryz.prog 105 #[.agg gcs, .agg #[.int .i64 id, .int .i64 en, .int .i64 da, .int .i64 kd, .int .i64 fo, .string tx, .slice lA ll.length lc]] w (BoolPost (Jn.formB (Gr.gv cur cl ro el (Cal.ok y m p)) el.length ⟨id, en, da, kd, fo, tx, ⟨ll, lA, lc⟩⟩) w) := by
  have hel := hF.en
  have H := Lib.hid h
  have HR := Lib.hid hr
  have HVC := Lib.hid (fun W (h : GIn W cl cA el eA) => rgvalid_any gcs cur y m p cl cA cc ro el eA ec W HG h hF)
  clear h hF hr
  have hgi : (Tryz.prog.info? 29).map (·.size) = some gcs.size := by rw [HG.out]; exact grp_size
  have hb : Below w.heap.size w ((w.alloc (.cells gcs 29)).alloc (.cells #[.int .i64 id, .int .i64 en, .int .i64 da, .int .i64 kd, .int .i64 fo, .string tx, .slice lA ll.length lc] 67)) := ((Below.refl _ _).alloc (Nat.le_refl _) _).alloc (by simp) _
  have HB := Lib.hid ((Blk.new w 29 gcs).alloc (.cells #[.int .i64 id, .int .i64 en, .int .i64 da, .int .i64 kd, .int .i64 fo, .string tx, .slice lA ll.length lc] 67))
  have HP := Lib.hid (blk_new2 w (.cells gcs 29) 67 #[.int .i64 id, .int .i64 en, .int .i64 da, .int .i64 kd, .int .i64 fo, .string tx, .slice lA ll.length lc])
  generalize Gr.gv cur cl ro el (Cal.ok y m p) = V at *
  generalize hX : Jn.formB V el.length ⟨id, en, da, kd, fo, tx, ⟨ll, lA, lc⟩⟩ = X at *
  have HX := Lib.hid hX
  clear hX
  go_enter Tryz.func105, Tryz.ntmps105
  go_upto_region 1 with fail
  generalize (w.alloc (.cells gcs 29)).alloc (.cells #[.int .i64 id, .int .i64 en, .int .i64 da, .int .i64 kd, .int .i64 fo, .string tx, .slice lA ll.length lc] 67) = W at *
  cases V
  · have HE : Hid (X = false) := Lib.hid (by rw [← HX.out]; exact Jn.form_no (fun h => by cases h.v))
    go_wp2_with
      (first
        | (refine wpList_load_blk 29 (.tmp 2) rfl (w.heap.size) rfl (by kernel_rfl) (HB).out Tryz.underlying29 hgi ?_)
        | (go_at_call 48; refine (HVC.out _ (H.out.step hb)).mono ?_; rintro e w3 ⟨rfl, hb3⟩; have HB3 := Lib.hid (HB.out.step hb3); have HP3 := Lib.hid (HP.out.step hb3); replace hb := bel hb hb3; clear hb3; have k0 : w3.cell? ⟨w.heap.size + 1, 0, none⟩ = some (.int .i64 id) := HP3.out.cell 0; have k1 : w3.cell? ⟨w.heap.size + 1, 1, none⟩ = some (.int .i64 en) := HP3.out.cell 1; have k3 : w3.cell? ⟨w.heap.size + 1, 3, none⟩ = some (.int .i64 kd) := HP3.out.cell 3; have k4 : w3.cell? ⟨w.heap.size + 1, 4, none⟩ = some (.int .i64 fo) := HP3.out.cell 4; have k5 : w3.cell? ⟨w.heap.size + 1, 5, none⟩ = some (.string tx) := HP3.out.cell 5; have k6 : w3.cell? ⟨w.heap.size + 1, 6, none⟩ = some (.slice lA ll.length lc) := HP3.out.cell 6; have g20 : w3.cell? ⟨w.heap.size, 20, none⟩ = some (.slice eA el.length ec) := (HB3.out.cell 20).trans (by rw [HG.out]; rfl))
        | (go_at_call 129; refine (rplain_any tx _ htx).mono ?_; rintro e w9 ⟨rfl, rfl⟩; (try rw [HPL.out])))
    go_ret
    exact ⟨by rw [HE.out]; rfl, hb⟩
  by_cases h1 : id < 1
  · have HE : Hid (X = false) := Lib.hid (by rw [← HX.out]; exact Jn.form_no (fun h => by have a1 := h.id; have a2 := h.e0; have a3 := h.e1; have a4 := h.k0; have a5 := h.k1; have a8 := h.l0; have a9 := h.l1; dsimp only at *; omega))
    go_wp2_with
      (first
        | (refine wpList_load_blk 29 (.tmp 2) rfl (w.heap.size) rfl (by kernel_rfl) (HB).out Tryz.underlying29 hgi ?_)
        | (go_at_call 48; refine (HVC.out _ (H.out.step hb)).mono ?_; rintro e w3 ⟨rfl, hb3⟩; have HB3 := Lib.hid (HB.out.step hb3); have HP3 := Lib.hid (HP.out.step hb3); replace hb := bel hb hb3; clear hb3; have k0 : w3.cell? ⟨w.heap.size + 1, 0, none⟩ = some (.int .i64 id) := HP3.out.cell 0; have k1 : w3.cell? ⟨w.heap.size + 1, 1, none⟩ = some (.int .i64 en) := HP3.out.cell 1; have k3 : w3.cell? ⟨w.heap.size + 1, 3, none⟩ = some (.int .i64 kd) := HP3.out.cell 3; have k4 : w3.cell? ⟨w.heap.size + 1, 4, none⟩ = some (.int .i64 fo) := HP3.out.cell 4; have k5 : w3.cell? ⟨w.heap.size + 1, 5, none⟩ = some (.string tx) := HP3.out.cell 5; have k6 : w3.cell? ⟨w.heap.size + 1, 6, none⟩ = some (.slice lA ll.length lc) := HP3.out.cell 6; have g20 : w3.cell? ⟨w.heap.size, 20, none⟩ = some (.slice eA el.length ec) := (HB3.out.cell 20).trans (by rw [HG.out]; rfl))
        | (go_at_call 129; refine (rplain_any tx _ htx).mono ?_; rintro e w9 ⟨rfl, rfl⟩; (try rw [HPL.out])))
    go_ret
    exact ⟨by rw [HE.out]; rfl, hb⟩
  by_cases h2 : en < 0
  · have HE : Hid (X = false) := Lib.hid (by rw [← HX.out]; exact Jn.form_no (fun h => by have a1 := h.id; have a2 := h.e0; have a3 := h.e1; have a4 := h.k0; have a5 := h.k1; have a8 := h.l0; have a9 := h.l1; dsimp only at *; omega))
    go_wp2_with
      (first
        | (refine wpList_load_blk 29 (.tmp 2) rfl (w.heap.size) rfl (by kernel_rfl) (HB).out Tryz.underlying29 hgi ?_)
        | (go_at_call 48; refine (HVC.out _ (H.out.step hb)).mono ?_; rintro e w3 ⟨rfl, hb3⟩; have HB3 := Lib.hid (HB.out.step hb3); have HP3 := Lib.hid (HP.out.step hb3); replace hb := bel hb hb3; clear hb3; have k0 : w3.cell? ⟨w.heap.size + 1, 0, none⟩ = some (.int .i64 id) := HP3.out.cell 0; have k1 : w3.cell? ⟨w.heap.size + 1, 1, none⟩ = some (.int .i64 en) := HP3.out.cell 1; have k3 : w3.cell? ⟨w.heap.size + 1, 3, none⟩ = some (.int .i64 kd) := HP3.out.cell 3; have k4 : w3.cell? ⟨w.heap.size + 1, 4, none⟩ = some (.int .i64 fo) := HP3.out.cell 4; have k5 : w3.cell? ⟨w.heap.size + 1, 5, none⟩ = some (.string tx) := HP3.out.cell 5; have k6 : w3.cell? ⟨w.heap.size + 1, 6, none⟩ = some (.slice lA ll.length lc) := HP3.out.cell 6; have g20 : w3.cell? ⟨w.heap.size, 20, none⟩ = some (.slice eA el.length ec) := (HB3.out.cell 20).trans (by rw [HG.out]; rfl))
        | (go_at_call 129; refine (rplain_any tx _ htx).mono ?_; rintro e w9 ⟨rfl, rfl⟩; (try rw [HPL.out])))
    go_ret
    exact ⟨by rw [HE.out]; rfl, hb⟩
  by_cases h4 : (el.length : Int) ≤ en
  · have HE : Hid (X = false) := Lib.hid (by rw [← HX.out]; exact Jn.form_no (fun h => by have a1 := h.id; have a2 := h.e0; have a3 := h.e1; have a4 := h.k0; have a5 := h.k1; have a8 := h.l0; have a9 := h.l1; dsimp only at *; omega))
    go_wp2_with
      (first
        | (refine wpList_load_blk 29 (.tmp 2) rfl (w.heap.size) rfl (by kernel_rfl) (HB).out Tryz.underlying29 hgi ?_)
        | (go_at_call 48; refine (HVC.out _ (H.out.step hb)).mono ?_; rintro e w3 ⟨rfl, hb3⟩; have HB3 := Lib.hid (HB.out.step hb3); have HP3 := Lib.hid (HP.out.step hb3); replace hb := bel hb hb3; clear hb3; have k0 : w3.cell? ⟨w.heap.size + 1, 0, none⟩ = some (.int .i64 id) := HP3.out.cell 0; have k1 : w3.cell? ⟨w.heap.size + 1, 1, none⟩ = some (.int .i64 en) := HP3.out.cell 1; have k3 : w3.cell? ⟨w.heap.size + 1, 3, none⟩ = some (.int .i64 kd) := HP3.out.cell 3; have k4 : w3.cell? ⟨w.heap.size + 1, 4, none⟩ = some (.int .i64 fo) := HP3.out.cell 4; have k5 : w3.cell? ⟨w.heap.size + 1, 5, none⟩ = some (.string tx) := HP3.out.cell 5; have k6 : w3.cell? ⟨w.heap.size + 1, 6, none⟩ = some (.slice lA ll.length lc) := HP3.out.cell 6; have g20 : w3.cell? ⟨w.heap.size, 20, none⟩ = some (.slice eA el.length ec) := (HB3.out.cell 20).trans (by rw [HG.out]; rfl))
        | (go_at_call 129; refine (rplain_any tx _ htx).mono ?_; rintro e w9 ⟨rfl, rfl⟩; (try rw [HPL.out])))
    go_ret
    exact ⟨by rw [HE.out]; rfl, hb⟩
  by_cases h5 : kd < 1
  · have HE : Hid (X = false) := Lib.hid (by rw [← HX.out]; exact Jn.form_no (fun h => by have a1 := h.id; have a2 := h.e0; have a3 := h.e1; have a4 := h.k0; have a5 := h.k1; have a8 := h.l0; have a9 := h.l1; dsimp only at *; omega))
    go_wp2_with
      (first
        | (refine wpList_load_blk 29 (.tmp 2) rfl (w.heap.size) rfl (by kernel_rfl) (HB).out Tryz.underlying29 hgi ?_)
        | (go_at_call 48; refine (HVC.out _ (H.out.step hb)).mono ?_; rintro e w3 ⟨rfl, hb3⟩; have HB3 := Lib.hid (HB.out.step hb3); have HP3 := Lib.hid (HP.out.step hb3); replace hb := bel hb hb3; clear hb3; have k0 : w3.cell? ⟨w.heap.size + 1, 0, none⟩ = some (.int .i64 id) := HP3.out.cell 0; have k1 : w3.cell? ⟨w.heap.size + 1, 1, none⟩ = some (.int .i64 en) := HP3.out.cell 1; have k3 : w3.cell? ⟨w.heap.size + 1, 3, none⟩ = some (.int .i64 kd) := HP3.out.cell 3; have k4 : w3.cell? ⟨w.heap.size + 1, 4, none⟩ = some (.int .i64 fo) := HP3.out.cell 4; have k5 : w3.cell? ⟨w.heap.size + 1, 5, none⟩ = some (.string tx) := HP3.out.cell 5; have k6 : w3.cell? ⟨w.heap.size + 1, 6, none⟩ = some (.slice lA ll.length lc) := HP3.out.cell 6; have g20 : w3.cell? ⟨w.heap.size, 20, none⟩ = some (.slice eA el.length ec) := (HB3.out.cell 20).trans (by rw [HG.out]; rfl))
        | (go_at_call 129; refine (rplain_any tx _ htx).mono ?_; rintro e w9 ⟨rfl, rfl⟩; (try rw [HPL.out])))
    go_ret
    exact ⟨by rw [HE.out]; rfl, hb⟩
  by_cases h6 : 3 < kd
  · have HE : Hid (X = false) := Lib.hid (by rw [← HX.out]; exact Jn.form_no (fun h => by have a1 := h.id; have a2 := h.e0; have a3 := h.e1; have a4 := h.k0; have a5 := h.k1; have a8 := h.l0; have a9 := h.l1; dsimp only at *; omega))
    go_wp2_with
      (first
        | (refine wpList_load_blk 29 (.tmp 2) rfl (w.heap.size) rfl (by kernel_rfl) (HB).out Tryz.underlying29 hgi ?_)
        | (go_at_call 48; refine (HVC.out _ (H.out.step hb)).mono ?_; rintro e w3 ⟨rfl, hb3⟩; have HB3 := Lib.hid (HB.out.step hb3); have HP3 := Lib.hid (HP.out.step hb3); replace hb := bel hb hb3; clear hb3; have k0 : w3.cell? ⟨w.heap.size + 1, 0, none⟩ = some (.int .i64 id) := HP3.out.cell 0; have k1 : w3.cell? ⟨w.heap.size + 1, 1, none⟩ = some (.int .i64 en) := HP3.out.cell 1; have k3 : w3.cell? ⟨w.heap.size + 1, 3, none⟩ = some (.int .i64 kd) := HP3.out.cell 3; have k4 : w3.cell? ⟨w.heap.size + 1, 4, none⟩ = some (.int .i64 fo) := HP3.out.cell 4; have k5 : w3.cell? ⟨w.heap.size + 1, 5, none⟩ = some (.string tx) := HP3.out.cell 5; have k6 : w3.cell? ⟨w.heap.size + 1, 6, none⟩ = some (.slice lA ll.length lc) := HP3.out.cell 6; have g20 : w3.cell? ⟨w.heap.size, 20, none⟩ = some (.slice eA el.length ec) := (HB3.out.cell 20).trans (by rw [HG.out]; rfl))
        | (go_at_call 129; refine (rplain_any tx _ htx).mono ?_; rintro e w9 ⟨rfl, rfl⟩; (try rw [HPL.out])))
    go_ret
    exact ⟨by rw [HE.out]; rfl, hb⟩
  have h3 : 0 ≤ en := by omega
  by_cases h7 : kd = 3
  · have e7 : (kd == 3) = true := by simpa using h7
    have e8 : (kd != 3) = false := by simpa using h7
    have HK := Lib.hid h7
    clear h7
    by_cases h77 : fo < 1
    · have HE : Hid (X = false) := Lib.hid (by rw [← HX.out]; exact Jn.form_no (fun h => by have := h.of3 HK.out; dsimp only at this; omega))
      go_wp2_with
        (first
          | (refine wpList_load_blk 29 (.tmp 2) rfl (w.heap.size) rfl (by kernel_rfl) (HB).out Tryz.underlying29 hgi ?_)
          | (go_at_call 48; refine (HVC.out _ (H.out.step hb)).mono ?_; rintro e w3 ⟨rfl, hb3⟩; have HB3 := Lib.hid (HB.out.step hb3); have HP3 := Lib.hid (HP.out.step hb3); replace hb := bel hb hb3; clear hb3; have k0 : w3.cell? ⟨w.heap.size + 1, 0, none⟩ = some (.int .i64 id) := HP3.out.cell 0; have k1 : w3.cell? ⟨w.heap.size + 1, 1, none⟩ = some (.int .i64 en) := HP3.out.cell 1; have k3 : w3.cell? ⟨w.heap.size + 1, 3, none⟩ = some (.int .i64 kd) := HP3.out.cell 3; have k4 : w3.cell? ⟨w.heap.size + 1, 4, none⟩ = some (.int .i64 fo) := HP3.out.cell 4; have k5 : w3.cell? ⟨w.heap.size + 1, 5, none⟩ = some (.string tx) := HP3.out.cell 5; have k6 : w3.cell? ⟨w.heap.size + 1, 6, none⟩ = some (.slice lA ll.length lc) := HP3.out.cell 6; have g20 : w3.cell? ⟨w.heap.size, 20, none⟩ = some (.slice eA el.length ec) := (HB3.out.cell 20).trans (by rw [HG.out]; rfl))
          | (go_at_call 129; refine (rplain_any tx _ htx).mono ?_; rintro e w9 ⟨rfl, rfl⟩; (try rw [HPL.out])))
      go_ret
      exact ⟨by rw [HE.out]; rfl, hb⟩
    have HOF : Hid ((kd = 3 → 1 ≤ fo) ∧ (kd ≠ 3 → fo = 0)) := Lib.hid ⟨fun _ => by omega, fun h => absurd HK.out h⟩
    cases hpl : Jn.plainB tx
    · have HE : Hid (X = false) := Lib.hid (by rw [← HX.out]; exact Jn.form_no (fun h => by have := h.pl; rw [hpl] at this; cases this))
      have HPL := Lib.hid hpl
      clear hpl
      go_wp2_with
        (first
          | (refine wpList_load_blk 29 (.tmp 2) rfl (w.heap.size) rfl (by kernel_rfl) (HB).out Tryz.underlying29 hgi ?_)
          | (go_at_call 48; refine (HVC.out _ (H.out.step hb)).mono ?_; rintro e w3 ⟨rfl, hb3⟩; have HB3 := Lib.hid (HB.out.step hb3); have HP3 := Lib.hid (HP.out.step hb3); replace hb := bel hb hb3; clear hb3; have k0 : w3.cell? ⟨w.heap.size + 1, 0, none⟩ = some (.int .i64 id) := HP3.out.cell 0; have k1 : w3.cell? ⟨w.heap.size + 1, 1, none⟩ = some (.int .i64 en) := HP3.out.cell 1; have k3 : w3.cell? ⟨w.heap.size + 1, 3, none⟩ = some (.int .i64 kd) := HP3.out.cell 3; have k4 : w3.cell? ⟨w.heap.size + 1, 4, none⟩ = some (.int .i64 fo) := HP3.out.cell 4; have k5 : w3.cell? ⟨w.heap.size + 1, 5, none⟩ = some (.string tx) := HP3.out.cell 5; have k6 : w3.cell? ⟨w.heap.size + 1, 6, none⟩ = some (.slice lA ll.length lc) := HP3.out.cell 6; have g20 : w3.cell? ⟨w.heap.size, 20, none⟩ = some (.slice eA el.length ec) := (HB3.out.cell 20).trans (by rw [HG.out]; rfl))
          | (go_at_call 129; refine (rplain_any tx _ htx).mono ?_; rintro e w9 ⟨rfl, rfl⟩; (try rw [HPL.out])))
      go_ret
      exact ⟨by rw [HE.out]; rfl, hb⟩
    have HPL := Lib.hid hpl
    by_cases h8 : ll.length < 2
    · have HE : Hid (X = false) := Lib.hid (by rw [← HX.out]; exact Jn.form_no (fun h => by have a1 := h.id; have a2 := h.e0; have a3 := h.e1; have a4 := h.k0; have a5 := h.k1; have a8 := h.l0; have a9 := h.l1; dsimp only at *; omega))
      go_wp2_with
        (first
          | (refine wpList_load_blk 29 (.tmp 2) rfl (w.heap.size) rfl (by kernel_rfl) (HB).out Tryz.underlying29 hgi ?_)
          | (go_at_call 48; refine (HVC.out _ (H.out.step hb)).mono ?_; rintro e w3 ⟨rfl, hb3⟩; have HB3 := Lib.hid (HB.out.step hb3); have HP3 := Lib.hid (HP.out.step hb3); replace hb := bel hb hb3; clear hb3; have k0 : w3.cell? ⟨w.heap.size + 1, 0, none⟩ = some (.int .i64 id) := HP3.out.cell 0; have k1 : w3.cell? ⟨w.heap.size + 1, 1, none⟩ = some (.int .i64 en) := HP3.out.cell 1; have k3 : w3.cell? ⟨w.heap.size + 1, 3, none⟩ = some (.int .i64 kd) := HP3.out.cell 3; have k4 : w3.cell? ⟨w.heap.size + 1, 4, none⟩ = some (.int .i64 fo) := HP3.out.cell 4; have k5 : w3.cell? ⟨w.heap.size + 1, 5, none⟩ = some (.string tx) := HP3.out.cell 5; have k6 : w3.cell? ⟨w.heap.size + 1, 6, none⟩ = some (.slice lA ll.length lc) := HP3.out.cell 6; have g20 : w3.cell? ⟨w.heap.size, 20, none⟩ = some (.slice eA el.length ec) := (HB3.out.cell 20).trans (by rw [HG.out]; rfl))
          | (go_at_call 129; refine (rplain_any tx _ htx).mono ?_; rintro e w9 ⟨rfl, rfl⟩; (try rw [HPL.out])))
      go_ret
      exact ⟨by rw [HE.out]; rfl, hb⟩
    by_cases h9 : 40 < ll.length
    · have HE : Hid (X = false) := Lib.hid (by rw [← HX.out]; exact Jn.form_no (fun h => by have a1 := h.id; have a2 := h.e0; have a3 := h.e1; have a4 := h.k0; have a5 := h.k1; have a8 := h.l0; have a9 := h.l1; dsimp only at *; omega))
      go_wp2_with
        (first
          | (refine wpList_load_blk 29 (.tmp 2) rfl (w.heap.size) rfl (by kernel_rfl) (HB).out Tryz.underlying29 hgi ?_)
          | (go_at_call 48; refine (HVC.out _ (H.out.step hb)).mono ?_; rintro e w3 ⟨rfl, hb3⟩; have HB3 := Lib.hid (HB.out.step hb3); have HP3 := Lib.hid (HP.out.step hb3); replace hb := bel hb hb3; clear hb3; have k0 : w3.cell? ⟨w.heap.size + 1, 0, none⟩ = some (.int .i64 id) := HP3.out.cell 0; have k1 : w3.cell? ⟨w.heap.size + 1, 1, none⟩ = some (.int .i64 en) := HP3.out.cell 1; have k3 : w3.cell? ⟨w.heap.size + 1, 3, none⟩ = some (.int .i64 kd) := HP3.out.cell 3; have k4 : w3.cell? ⟨w.heap.size + 1, 4, none⟩ = some (.int .i64 fo) := HP3.out.cell 4; have k5 : w3.cell? ⟨w.heap.size + 1, 5, none⟩ = some (.string tx) := HP3.out.cell 5; have k6 : w3.cell? ⟨w.heap.size + 1, 6, none⟩ = some (.slice lA ll.length lc) := HP3.out.cell 6; have g20 : w3.cell? ⟨w.heap.size, 20, none⟩ = some (.slice eA el.length ec) := (HB3.out.cell 20).trans (by rw [HG.out]; rfl))
          | (go_at_call 129; refine (rplain_any tx _ htx).mono ?_; rintro e w9 ⟨rfl, rfl⟩; (try rw [HPL.out])))
      go_ret
      exact ⟨by rw [HE.out]; rfl, hb⟩
    have HHD : Hid (Jn.HeadOk true el.length ⟨id, en, da, kd, fo, tx, ⟨ll, lA, lc⟩⟩) := Lib.hid ⟨rfl, by dsimp only; omega, by dsimp only; omega, by dsimp only; omega, by dsimp only; omega, by dsimp only; omega, HOF.out.1, HOF.out.2, hpl, by dsimp only; omega, by dsimp only; omega⟩
    clear hpl
    go_wp2_with
      (first
        | (refine wpList_load_blk 29 (.tmp 2) rfl (w.heap.size) rfl (by kernel_rfl) (HB).out Tryz.underlying29 hgi ?_)
        | (go_at_call 48; refine (HVC.out _ (H.out.step hb)).mono ?_; rintro e w3 ⟨rfl, hb3⟩; have HB3 := Lib.hid (HB.out.step hb3); have HP3 := Lib.hid (HP.out.step hb3); replace hb := bel hb hb3; clear hb3; have k0 : w3.cell? ⟨w.heap.size + 1, 0, none⟩ = some (.int .i64 id) := HP3.out.cell 0; have k1 : w3.cell? ⟨w.heap.size + 1, 1, none⟩ = some (.int .i64 en) := HP3.out.cell 1; have k3 : w3.cell? ⟨w.heap.size + 1, 3, none⟩ = some (.int .i64 kd) := HP3.out.cell 3; have k4 : w3.cell? ⟨w.heap.size + 1, 4, none⟩ = some (.int .i64 fo) := HP3.out.cell 4; have k5 : w3.cell? ⟨w.heap.size + 1, 5, none⟩ = some (.string tx) := HP3.out.cell 5; have k6 : w3.cell? ⟨w.heap.size + 1, 6, none⟩ = some (.slice lA ll.length lc) := HP3.out.cell 6; have g20 : w3.cell? ⟨w.heap.size, 20, none⟩ = some (.slice eA el.length ec) := (HB3.out.cell 20).trans (by rw [HG.out]; rfl))
        | (go_at_call 129; refine (rplain_any tx _ htx).mono ?_; rintro e w9 ⟨rfl, rfl⟩; (try rw [HPL.out])))
    go_loopw [5] (fun t wr => ∃ k : Nat, k ≤ ll.length ∧ (∀ j (h : j < k) (h2 : j < ll.length), Jn.lineB el.length en (ll[j]'h2) = true) ∧ t = .int .i64 k ∧ Blk wr w.heap.size 29 gcs ∧ Blk wr (w.heap.size + 1) 67 #[.int .i64 id, .int .i64 en, .int .i64 da, .int .i64 kd, .int .i64 fo, .string tx, .slice lA ll.length lc] ∧ Below w.heap.size w wr) (fun t _ => ll.length - (intOf t).toNat)
    case atStart => exact ⟨0, by omega, fun j h => by omega, rfl, HB3.out, HP3.out, hb⟩
    case round =>
      clear hb k0 k1 k3 k4 k5 k6 g20 HP3 HB3
      obtain ⟨k, hk, hno, rfl, hB, hP, hb⟩ := hrel
      have HN := Lib.hid hno
      have HBr := Lib.hid hB
      have HPr := Lib.hid hP
      have hz := hb.size
      have k6 : wr.cell? ⟨w.heap.size + 1, 6, none⟩ = some (.slice lA ll.length lc) := HPr.out.cell 6
      clear hno hB hP
      by_cases hlt : k < ll.length
      · obtain ⟨b, o, hA, hbo, f0, f1, f2⟩ := LineR.at_ (Rd.now HR.out hb) hlt
        subst hA
        have HST : Hid (Jn.lineB el.length en ll[k] = true → ∀ j (h : j < k + 1) (h2 : j < ll.length), Jn.lineB el.length en (ll[j]'h2) = true) := Lib.hid (fun hq j h h1 => by
          by_cases e : j = k
          · subst e; exact hq
          · exact HN.out j (by omega) h1)
        have HNO := Lib.hid (fun (hq : Jn.lineB el.length en ll[k] = false) => Jn.form_line (V := true) (n := el.length) (x := ⟨id, en, da, kd, fo, tx, ⟨ll, some ⟨b, o, none⟩, lc⟩⟩) (k := k) hlt hq)
        generalize ll[k] = u at *
        obtain ⟨la, lm, lp⟩ := u
        dsimp only at f0 f1 f2
        have q0 : ∀ d : Later wr, d.now.cell? ⟨b, o + k * 3, none⟩ = some (.int .i64 la) := fun d => d.cell hbo f0
        have q1 : ∀ d : Later wr, d.now.cell? ⟨b, o + k * 3 + 1, none⟩ = some (.int .i64 lm) := fun d => d.cell hbo f1
        have q2 : ∀ d : Later wr, d.now.cell? ⟨b, o + k * 3 + 2, none⟩ = some (.int .i64 lp) := fun d => d.cell hbo f2
        have p1 : ∀ d : Later wr, d.now.cell? ⟨w.heap.size + 1, 1, none⟩ = some (.int .i64 en) := fun d => d.cell HPr.out.lt (HPr.out.cell 1)
        have p6 : ∀ d : Later wr, d.now.cell? ⟨w.heap.size + 1, 6, none⟩ = some (.slice (some ⟨b, o, none⟩) ll.length lc) := fun d => d.cell HPr.out.lt (HPr.out.cell 6)
        have KL := Lib.hid (fun W => rline_any gcs cur y m p cl cA cc ro el eA ec W en HG la lm lp)
        clear f0 f1 f2
        go_upto_region 8 with fail
        clear k6
        cases hlb : Jn.lineB el.length en ⟨la, lm, lp⟩
        · have HE : Hid (X = false) := Lib.hid (by rw [← HX.out]; exact HNO.out hlb)
          rw [hlb] at KL
          clear hlb
          refine wp_region_later (by kernel_rfl) (by kernel_rfl) ?_
          (repeat (go_big_quiet_step ((fail)))); refine quiet_load_blk 29 (.tmp 2) rfl (w.heap.size) rfl (by kernel_rfl) (HBr).out Tryz.underlying29 hgi ?_; (try simp only [Act.put, List.setIfInBounds_toArray, List.set_cons_zero, List.set_cons_succ])
          (repeat (go_big_quiet_step ((fail)))); go_big_quiet_step ((go_at_call 130; exact Later.call _ (KL.out _)))
          (repeat (go_big_quiet_step ((fail)))); refine wpQuiet_nil ?_; rintro _ ⟨dq, rfl⟩
          have hbe := bel hb dq.below
          go_wp2_with fail
          go_ret
          exact ⟨by rw [HE.out]; rfl, hbe⟩
        · have HE := Lib.hid (HST.out hlb)
          rw [hlb] at KL
          clear hlb
          refine wp_region_later (by kernel_rfl) (by kernel_rfl) ?_
          (repeat (go_big_quiet_step ((fail)))); refine quiet_load_blk 29 (.tmp 2) rfl (w.heap.size) rfl (by kernel_rfl) (HBr).out Tryz.underlying29 hgi ?_; (try simp only [Act.put, List.setIfInBounds_toArray, List.set_cons_zero, List.set_cons_succ])
          (repeat (go_big_quiet_step ((fail)))); go_big_quiet_step ((go_at_call 130; exact Later.call _ (KL.out _)))
          (repeat (go_big_quiet_step ((fail)))); refine wpQuiet_nil ?_; rintro _ ⟨dq, rfl⟩
          have hbe := bel hb dq.below
          have HBx := Lib.hid (HBr.out.step dq.below)
          have HPx := Lib.hid (HPr.out.step dq.below)
          go_wp2_with fail
          go_roundw
          case rel => exact ⟨k + 1, by omega, HE.out, by go_num, HBx.out, HPx.out, hbe⟩
          case measure => simp [intOf]; omega
      · have HE : Hid (X = true) := Lib.hid (by rw [← HX.out]; exact Jn.form_yes HHD.out (fun j hj => HN.out j (by dsimp only at hj; omega) hj))
        go_wp2_with fail
        go_ret
        exact ⟨by rw [HE.out]; rfl, hb⟩
  have e7 : (kd == 3) = false := by simpa using h7
  have e8 : (kd != 3) = true := by simpa using h7
  have HK := Lib.hid h7
  clear h7
  by_cases h78 : fo = 0
  · have e9 : (fo != 0) = false := by simpa using h78
    have HOF : Hid ((kd = 3 → 1 ≤ fo) ∧ (kd ≠ 3 → fo = 0)) := Lib.hid ⟨fun h => absurd h HK.out, fun _ => h78⟩
    clear h78
    cases hpl : Jn.plainB tx
    · have HE : Hid (X = false) := Lib.hid (by rw [← HX.out]; exact Jn.form_no (fun h => by have := h.pl; rw [hpl] at this; cases this))
      have HPL := Lib.hid hpl
      clear hpl
      go_wp2_with
        (first
          | (refine wpList_load_blk 29 (.tmp 2) rfl (w.heap.size) rfl (by kernel_rfl) (HB).out Tryz.underlying29 hgi ?_)
          | (go_at_call 48; refine (HVC.out _ (H.out.step hb)).mono ?_; rintro e w3 ⟨rfl, hb3⟩; have HB3 := Lib.hid (HB.out.step hb3); have HP3 := Lib.hid (HP.out.step hb3); replace hb := bel hb hb3; clear hb3; have k0 : w3.cell? ⟨w.heap.size + 1, 0, none⟩ = some (.int .i64 id) := HP3.out.cell 0; have k1 : w3.cell? ⟨w.heap.size + 1, 1, none⟩ = some (.int .i64 en) := HP3.out.cell 1; have k3 : w3.cell? ⟨w.heap.size + 1, 3, none⟩ = some (.int .i64 kd) := HP3.out.cell 3; have k4 : w3.cell? ⟨w.heap.size + 1, 4, none⟩ = some (.int .i64 fo) := HP3.out.cell 4; have k5 : w3.cell? ⟨w.heap.size + 1, 5, none⟩ = some (.string tx) := HP3.out.cell 5; have k6 : w3.cell? ⟨w.heap.size + 1, 6, none⟩ = some (.slice lA ll.length lc) := HP3.out.cell 6; have g20 : w3.cell? ⟨w.heap.size, 20, none⟩ = some (.slice eA el.length ec) := (HB3.out.cell 20).trans (by rw [HG.out]; rfl))
          | (go_at_call 129; refine (rplain_any tx _ htx).mono ?_; rintro e w9 ⟨rfl, rfl⟩; (try rw [HPL.out])))
      go_ret
      exact ⟨by rw [HE.out]; rfl, hb⟩
    have HPL := Lib.hid hpl
    by_cases h8 : ll.length < 2
    · have HE : Hid (X = false) := Lib.hid (by rw [← HX.out]; exact Jn.form_no (fun h => by have a1 := h.id; have a2 := h.e0; have a3 := h.e1; have a4 := h.k0; have a5 := h.k1; have a8 := h.l0; have a9 := h.l1; dsimp only at *; omega))
      go_wp2_with
        (first
          | (refine wpList_load_blk 29 (.tmp 2) rfl (w.heap.size) rfl (by kernel_rfl) (HB).out Tryz.underlying29 hgi ?_)
          | (go_at_call 48; refine (HVC.out _ (H.out.step hb)).mono ?_; rintro e w3 ⟨rfl, hb3⟩; have HB3 := Lib.hid (HB.out.step hb3); have HP3 := Lib.hid (HP.out.step hb3); replace hb := bel hb hb3; clear hb3; have k0 : w3.cell? ⟨w.heap.size + 1, 0, none⟩ = some (.int .i64 id) := HP3.out.cell 0; have k1 : w3.cell? ⟨w.heap.size + 1, 1, none⟩ = some (.int .i64 en) := HP3.out.cell 1; have k3 : w3.cell? ⟨w.heap.size + 1, 3, none⟩ = some (.int .i64 kd) := HP3.out.cell 3; have k4 : w3.cell? ⟨w.heap.size + 1, 4, none⟩ = some (.int .i64 fo) := HP3.out.cell 4; have k5 : w3.cell? ⟨w.heap.size + 1, 5, none⟩ = some (.string tx) := HP3.out.cell 5; have k6 : w3.cell? ⟨w.heap.size + 1, 6, none⟩ = some (.slice lA ll.length lc) := HP3.out.cell 6; have g20 : w3.cell? ⟨w.heap.size, 20, none⟩ = some (.slice eA el.length ec) := (HB3.out.cell 20).trans (by rw [HG.out]; rfl))
          | (go_at_call 129; refine (rplain_any tx _ htx).mono ?_; rintro e w9 ⟨rfl, rfl⟩; (try rw [HPL.out])))
      go_ret
      exact ⟨by rw [HE.out]; rfl, hb⟩
    by_cases h9 : 40 < ll.length
    · have HE : Hid (X = false) := Lib.hid (by rw [← HX.out]; exact Jn.form_no (fun h => by have a1 := h.id; have a2 := h.e0; have a3 := h.e1; have a4 := h.k0; have a5 := h.k1; have a8 := h.l0; have a9 := h.l1; dsimp only at *; omega))
      go_wp2_with
        (first
          | (refine wpList_load_blk 29 (.tmp 2) rfl (w.heap.size) rfl (by kernel_rfl) (HB).out Tryz.underlying29 hgi ?_)
          | (go_at_call 48; refine (HVC.out _ (H.out.step hb)).mono ?_; rintro e w3 ⟨rfl, hb3⟩; have HB3 := Lib.hid (HB.out.step hb3); have HP3 := Lib.hid (HP.out.step hb3); replace hb := bel hb hb3; clear hb3; have k0 : w3.cell? ⟨w.heap.size + 1, 0, none⟩ = some (.int .i64 id) := HP3.out.cell 0; have k1 : w3.cell? ⟨w.heap.size + 1, 1, none⟩ = some (.int .i64 en) := HP3.out.cell 1; have k3 : w3.cell? ⟨w.heap.size + 1, 3, none⟩ = some (.int .i64 kd) := HP3.out.cell 3; have k4 : w3.cell? ⟨w.heap.size + 1, 4, none⟩ = some (.int .i64 fo) := HP3.out.cell 4; have k5 : w3.cell? ⟨w.heap.size + 1, 5, none⟩ = some (.string tx) := HP3.out.cell 5; have k6 : w3.cell? ⟨w.heap.size + 1, 6, none⟩ = some (.slice lA ll.length lc) := HP3.out.cell 6; have g20 : w3.cell? ⟨w.heap.size, 20, none⟩ = some (.slice eA el.length ec) := (HB3.out.cell 20).trans (by rw [HG.out]; rfl))
          | (go_at_call 129; refine (rplain_any tx _ htx).mono ?_; rintro e w9 ⟨rfl, rfl⟩; (try rw [HPL.out])))
      go_ret
      exact ⟨by rw [HE.out]; rfl, hb⟩
    have HHD : Hid (Jn.HeadOk true el.length ⟨id, en, da, kd, fo, tx, ⟨ll, lA, lc⟩⟩) := Lib.hid ⟨rfl, by dsimp only; omega, by dsimp only; omega, by dsimp only; omega, by dsimp only; omega, by dsimp only; omega, HOF.out.1, HOF.out.2, hpl, by dsimp only; omega, by dsimp only; omega⟩
    clear hpl
    go_wp2_with
      (first
        | (refine wpList_load_blk 29 (.tmp 2) rfl (w.heap.size) rfl (by kernel_rfl) (HB).out Tryz.underlying29 hgi ?_)
        | (go_at_call 48; refine (HVC.out _ (H.out.step hb)).mono ?_; rintro e w3 ⟨rfl, hb3⟩; have HB3 := Lib.hid (HB.out.step hb3); have HP3 := Lib.hid (HP.out.step hb3); replace hb := bel hb hb3; clear hb3; have k0 : w3.cell? ⟨w.heap.size + 1, 0, none⟩ = some (.int .i64 id) := HP3.out.cell 0; have k1 : w3.cell? ⟨w.heap.size + 1, 1, none⟩ = some (.int .i64 en) := HP3.out.cell 1; have k3 : w3.cell? ⟨w.heap.size + 1, 3, none⟩ = some (.int .i64 kd) := HP3.out.cell 3; have k4 : w3.cell? ⟨w.heap.size + 1, 4, none⟩ = some (.int .i64 fo) := HP3.out.cell 4; have k5 : w3.cell? ⟨w.heap.size + 1, 5, none⟩ = some (.string tx) := HP3.out.cell 5; have k6 : w3.cell? ⟨w.heap.size + 1, 6, none⟩ = some (.slice lA ll.length lc) := HP3.out.cell 6; have g20 : w3.cell? ⟨w.heap.size, 20, none⟩ = some (.slice eA el.length ec) := (HB3.out.cell 20).trans (by rw [HG.out]; rfl))
        | (go_at_call 129; refine (rplain_any tx _ htx).mono ?_; rintro e w9 ⟨rfl, rfl⟩; (try rw [HPL.out])))
    go_loopw [5] (fun t wr => ∃ k : Nat, k ≤ ll.length ∧ (∀ j (h : j < k) (h2 : j < ll.length), Jn.lineB el.length en (ll[j]'h2) = true) ∧ t = .int .i64 k ∧ Blk wr w.heap.size 29 gcs ∧ Blk wr (w.heap.size + 1) 67 #[.int .i64 id, .int .i64 en, .int .i64 da, .int .i64 kd, .int .i64 fo, .string tx, .slice lA ll.length lc] ∧ Below w.heap.size w wr) (fun t _ => ll.length - (intOf t).toNat)
    case atStart => exact ⟨0, by omega, fun j h => by omega, rfl, HB3.out, HP3.out, hb⟩
    case round =>
      clear hb k0 k1 k3 k4 k5 k6 g20 HP3 HB3
      obtain ⟨k, hk, hno, rfl, hB, hP, hb⟩ := hrel
      have HN := Lib.hid hno
      have HBr := Lib.hid hB
      have HPr := Lib.hid hP
      have hz := hb.size
      have k6 : wr.cell? ⟨w.heap.size + 1, 6, none⟩ = some (.slice lA ll.length lc) := HPr.out.cell 6
      clear hno hB hP
      by_cases hlt : k < ll.length
      · obtain ⟨b, o, hA, hbo, f0, f1, f2⟩ := LineR.at_ (Rd.now HR.out hb) hlt
        subst hA
        have HST : Hid (Jn.lineB el.length en ll[k] = true → ∀ j (h : j < k + 1) (h2 : j < ll.length), Jn.lineB el.length en (ll[j]'h2) = true) := Lib.hid (fun hq j h h1 => by
          by_cases e : j = k
          · subst e; exact hq
          · exact HN.out j (by omega) h1)
        have HNO := Lib.hid (fun (hq : Jn.lineB el.length en ll[k] = false) => Jn.form_line (V := true) (n := el.length) (x := ⟨id, en, da, kd, fo, tx, ⟨ll, some ⟨b, o, none⟩, lc⟩⟩) (k := k) hlt hq)
        generalize ll[k] = u at *
        obtain ⟨la, lm, lp⟩ := u
        dsimp only at f0 f1 f2
        have q0 : ∀ d : Later wr, d.now.cell? ⟨b, o + k * 3, none⟩ = some (.int .i64 la) := fun d => d.cell hbo f0
        have q1 : ∀ d : Later wr, d.now.cell? ⟨b, o + k * 3 + 1, none⟩ = some (.int .i64 lm) := fun d => d.cell hbo f1
        have q2 : ∀ d : Later wr, d.now.cell? ⟨b, o + k * 3 + 2, none⟩ = some (.int .i64 lp) := fun d => d.cell hbo f2
        have p1 : ∀ d : Later wr, d.now.cell? ⟨w.heap.size + 1, 1, none⟩ = some (.int .i64 en) := fun d => d.cell HPr.out.lt (HPr.out.cell 1)
        have p6 : ∀ d : Later wr, d.now.cell? ⟨w.heap.size + 1, 6, none⟩ = some (.slice (some ⟨b, o, none⟩) ll.length lc) := fun d => d.cell HPr.out.lt (HPr.out.cell 6)
        have KL := Lib.hid (fun W => rline_any gcs cur y m p cl cA cc ro el eA ec W en HG la lm lp)
        clear f0 f1 f2
        go_upto_region 8 with fail
        clear k6
        cases hlb : Jn.lineB el.length en ⟨la, lm, lp⟩
        · have HE : Hid (X = false) := Lib.hid (by rw [← HX.out]; exact HNO.out hlb)
          rw [hlb] at KL
          clear hlb
          refine wp_region_later (by kernel_rfl) (by kernel_rfl) ?_
          (repeat (go_big_quiet_step ((fail)))); refine quiet_load_blk 29 (.tmp 2) rfl (w.heap.size) rfl (by kernel_rfl) (HBr).out Tryz.underlying29 hgi ?_; (try simp only [Act.put, List.setIfInBounds_toArray, List.set_cons_zero, List.set_cons_succ])
          (repeat (go_big_quiet_step ((fail)))); go_big_quiet_step ((go_at_call 130; exact Later.call _ (KL.out _)))
          (repeat (go_big_quiet_step ((fail)))); refine wpQuiet_nil ?_; rintro _ ⟨dq, rfl⟩
          have hbe := bel hb dq.below
          go_wp2_with fail
          go_ret
          exact ⟨by rw [HE.out]; rfl, hbe⟩
        · have HE := Lib.hid (HST.out hlb)
          rw [hlb] at KL
          clear hlb
          refine wp_region_later (by kernel_rfl) (by kernel_rfl) ?_
          (repeat (go_big_quiet_step ((fail)))); refine quiet_load_blk 29 (.tmp 2) rfl (w.heap.size) rfl (by kernel_rfl) (HBr).out Tryz.underlying29 hgi ?_; (try simp only [Act.put, List.setIfInBounds_toArray, List.set_cons_zero, List.set_cons_succ])
          (repeat (go_big_quiet_step ((fail)))); go_big_quiet_step ((go_at_call 130; exact Later.call _ (KL.out _)))
          (repeat (go_big_quiet_step ((fail)))); refine wpQuiet_nil ?_; rintro _ ⟨dq, rfl⟩
          have hbe := bel hb dq.below
          have HBx := Lib.hid (HBr.out.step dq.below)
          have HPx := Lib.hid (HPr.out.step dq.below)
          go_wp2_with fail
          go_roundw
          case rel => exact ⟨k + 1, by omega, HE.out, by go_num, HBx.out, HPx.out, hbe⟩
          case measure => simp [intOf]; omega
      · have HE : Hid (X = true) := Lib.hid (by rw [← HX.out]; exact Jn.form_yes HHD.out (fun j hj => HN.out j (by dsimp only at hj; omega) hj))
        go_wp2_with fail
        go_ret
        exact ⟨by rw [HE.out]; rfl, hb⟩
  have e9 : (fo != 0) = true := by simpa using h78
  have HE : Hid (X = false) := Lib.hid (by rw [← HX.out]; exact Jn.form_no (fun h => h78 (h.of0 HK.out)))
  clear h78
  go_wp2_with
    (first
      | (refine wpList_load_blk 29 (.tmp 2) rfl (w.heap.size) rfl (by kernel_rfl) (HB).out Tryz.underlying29 hgi ?_)
      | (go_at_call 48; refine (HVC.out _ (H.out.step hb)).mono ?_; rintro e w3 ⟨rfl, hb3⟩; have HB3 := Lib.hid (HB.out.step hb3); have HP3 := Lib.hid (HP.out.step hb3); replace hb := bel hb hb3; clear hb3; have k0 : w3.cell? ⟨w.heap.size + 1, 0, none⟩ = some (.int .i64 id) := HP3.out.cell 0; have k1 : w3.cell? ⟨w.heap.size + 1, 1, none⟩ = some (.int .i64 en) := HP3.out.cell 1; have k3 : w3.cell? ⟨w.heap.size + 1, 3, none⟩ = some (.int .i64 kd) := HP3.out.cell 3; have k4 : w3.cell? ⟨w.heap.size + 1, 4, none⟩ = some (.int .i64 fo) := HP3.out.cell 4; have k5 : w3.cell? ⟨w.heap.size + 1, 5, none⟩ = some (.string tx) := HP3.out.cell 5; have k6 : w3.cell? ⟨w.heap.size + 1, 6, none⟩ = some (.slice lA ll.length lc) := HP3.out.cell 6; have g20 : w3.cell? ⟨w.heap.size, 20, none⟩ = some (.slice eA el.length ec) := (HB3.out.cell 20).trans (by rw [HG.out]; rfl))
      | (go_at_call 129; refine (rplain_any tx _ htx).mono ?_; rintro e w9 ⟨rfl, rfl⟩; (try rw [HPL.out])))
  go_ret
  exact ⟨by rw [HE.out]; rfl, hb⟩
end
end Go.Proofs.YtnddoehhcpejjaaGreat
