/- Texts of this claim, put together. -/
import Derived.Test.YtnddoehhcpejjaaGreatJAQ
import Derived.Test.YtnddoehhcpejjaaGreatJrnMathEZ
import Derived.Test.YtnddoehhcpejjaaGreatJAO
import Derived.Test.YtnddoehhcpejjaaGreatJAS
import Derived.Deep.DeepCutAuto
/- The walk of an entry's form. -/
namespace Go.Proofs.YtnddoehhcpejjaaGreat
set_option linter.unusedVariables false
set_option linter.unusedSimpArgs false
open Go.RowKit

def IntPost (n : Int) (w : World) (e : Ending) (w' : World) : Prop := e = .returned (.int .i64 n) ∧ Below w.heap.size w w'
section
variable (gcs : Array Value) (cur : ByteArray) (y m p : Int) (cl : List Acc) (cA : Option Addr) (cc : Nat) (ro : RolesR) (el : List EntR) (eA : Option Addr) (ec : Nat) (w : World) (id en da kd fo : Int) (tx : ByteArray) (ll : List LineR) (lA : Option Addr) (lc : Nat)
set_option maxRecDepth 100000 in
set_option maxHeartbeats 8000000 in
theorem formed_any (HG : Hid (gcs = #[.string cur, .int .i64 y, .int .i64 m, .int .i64 p, .slice cA cl.length cc, .int .i64 ro.investment, .int .i64 ro.goodwill, .int .i64 ro.associates, .int .i64 ro.inventory, .int .i64 ro.reserve, .int .i64 ro.minority, .int .i64 ro.retained, .int .i64 ro.acquired, .int .i64 ro.owners, .int .i64 ro.disposal, .int .i64 ro.associateProfit, .int .i64 ro.dividends, .int .i64 ro.minorityProfit, .int .i64 ro.difference, .int .i64 ro.margin, .slice eA el.length ec])) (h : GIn w cl cA el eA) (hF : FewOk cur cl el) (htx : tx.size ≤ maxLen) (hr : Rd w w.heap.size 3 lA ll.length (cellsOf LineR.cells ll)) (hn : ll.length ≤ 1000) :
    Calls Tryz.prog 64 #[.agg gcs, .agg #[.int .i64 id, .int .i64 en, .int .i64 da, .int .i64 kd, .int .i64 fo, .string tx, .slice lA ll.length lc]] w (IntPost (Jn.fmE (Gr.gv cur cl ro el (Cal.ok y m p)) el.length ⟨id, en, da, kd, fo, tx, ⟨ll, lA, lc⟩⟩) w) := by
  have hel := hF.en
  have H := Lib.hid h
  have HR := Lib.hid hr
  have HVC := Lib.hid (fun W (h : GIn W cl cA el eA) => gvalid_any gcs cur y m p cl cA cc ro el eA ec W HG h hF)
  clear h hF hr
  have hgi : (Tryz.prog.info? 29).map (·.size) = some gcs.size := by rw [HG.out]; exact grp_size
  have hb : Below w.heap.size w ((w.alloc (.cells gcs 29)).alloc (.cells #[.int .i64 id, .int .i64 en, .int .i64 da, .int .i64 kd, .int .i64 fo, .string tx, .slice lA ll.length lc] 67)) := ((Below.refl _ _).alloc (Nat.le_refl _) _).alloc (by simp) _
  have HB := Lib.hid ((Blk.new w 29 gcs).alloc (.cells #[.int .i64 id, .int .i64 en, .int .i64 da, .int .i64 kd, .int .i64 fo, .string tx, .slice lA ll.length lc] 67))
  have HP := Lib.hid (blk_new2 w (.cells gcs 29) 67 #[.int .i64 id, .int .i64 en, .int .i64 da, .int .i64 kd, .int .i64 fo, .string tx, .slice lA ll.length lc])
  generalize Gr.gv cur cl ro el (Cal.ok y m p) = V at *
  generalize hX : Jn.fmE V el.length ⟨id, en, da, kd, fo, tx, ⟨ll, lA, lc⟩⟩ = X at *
  have HX := Lib.hid hX
  clear hX
  go_enter Tryz.func64, Tryz.ntmps64
  go_upto_region 1 with fail
  generalize (w.alloc (.cells gcs 29)).alloc (.cells #[.int .i64 id, .int .i64 en, .int .i64 da, .int .i64 kd, .int .i64 fo, .string tx, .slice lA ll.length lc] 67) = W at *
  have g20 : W.cell? ⟨w.heap.size, 20, none⟩ = some (.slice eA el.length ec) := (HB.out.cell 20).trans (by rw [HG.out]; rfl)
  cases V
  · have HE : Hid (X = 1) := Lib.hid (by rw [← HX.out]; exact Jn.fm_no (fun h => by cases h.v))
    go_wp2_with
      (first
        | (refine wpList_load_blk 29 (.tmp 2) rfl (w.heap.size) rfl (by kernel_rfl) (HB).out Tryz.underlying29 hgi ?_)
        | (go_at_call 38; refine (HVC.out _ (H.out.step hb)).mono ?_; rintro e w3 ⟨rfl, hb3⟩; have HB3 := Lib.hid (HB.out.step hb3); have HP3 := Lib.hid (HP.out.step hb3); replace hb := bel hb hb3; clear hb3; have k0 : w3.cell? ⟨w.heap.size + 1, 0, none⟩ = some (.int .i64 id) := HP3.out.cell 0; have k1 : w3.cell? ⟨w.heap.size + 1, 1, none⟩ = some (.int .i64 en) := HP3.out.cell 1; have k3 : w3.cell? ⟨w.heap.size + 1, 3, none⟩ = some (.int .i64 kd) := HP3.out.cell 3; have k4 : w3.cell? ⟨w.heap.size + 1, 4, none⟩ = some (.int .i64 fo) := HP3.out.cell 4; have k5 : w3.cell? ⟨w.heap.size + 1, 5, none⟩ = some (.string tx) := HP3.out.cell 5; have k6 : w3.cell? ⟨w.heap.size + 1, 6, none⟩ = some (.slice lA ll.length lc) := HP3.out.cell 6)
        | (go_at_call 93; refine (plain_any tx _ htx).mono ?_; rintro e w9 ⟨rfl, rfl⟩; (try rw [HPL.out])))
    go_ret
    exact ⟨by rw [HE.out]; rfl, hb⟩
  by_cases h1 : id < 1
  · have HE : Hid (X = 1) := Lib.hid (by rw [← HX.out]; exact Jn.fm_no (fun h => by have a1 := h.id; have a2 := h.e0; have a3 := h.e1; have a4 := h.k0; have a5 := h.k1; have a8 := h.l0; have a9 := h.l1; dsimp only at *; omega))
    go_wp2_with
      (first
        | (refine wpList_load_blk 29 (.tmp 2) rfl (w.heap.size) rfl (by kernel_rfl) (HB).out Tryz.underlying29 hgi ?_)
        | (go_at_call 38; refine (HVC.out _ (H.out.step hb)).mono ?_; rintro e w3 ⟨rfl, hb3⟩; have HB3 := Lib.hid (HB.out.step hb3); have HP3 := Lib.hid (HP.out.step hb3); replace hb := bel hb hb3; clear hb3; have k0 : w3.cell? ⟨w.heap.size + 1, 0, none⟩ = some (.int .i64 id) := HP3.out.cell 0; have k1 : w3.cell? ⟨w.heap.size + 1, 1, none⟩ = some (.int .i64 en) := HP3.out.cell 1; have k3 : w3.cell? ⟨w.heap.size + 1, 3, none⟩ = some (.int .i64 kd) := HP3.out.cell 3; have k4 : w3.cell? ⟨w.heap.size + 1, 4, none⟩ = some (.int .i64 fo) := HP3.out.cell 4; have k5 : w3.cell? ⟨w.heap.size + 1, 5, none⟩ = some (.string tx) := HP3.out.cell 5; have k6 : w3.cell? ⟨w.heap.size + 1, 6, none⟩ = some (.slice lA ll.length lc) := HP3.out.cell 6)
        | (go_at_call 93; refine (plain_any tx _ htx).mono ?_; rintro e w9 ⟨rfl, rfl⟩; (try rw [HPL.out])))
    go_ret
    exact ⟨by rw [HE.out]; rfl, hb⟩
  by_cases h2 : en < 0
  · have HE : Hid (X = 1) := Lib.hid (by rw [← HX.out]; exact Jn.fm_no (fun h => by have a1 := h.id; have a2 := h.e0; have a3 := h.e1; have a4 := h.k0; have a5 := h.k1; have a8 := h.l0; have a9 := h.l1; dsimp only at *; omega))
    go_wp2_with
      (first
        | (refine wpList_load_blk 29 (.tmp 2) rfl (w.heap.size) rfl (by kernel_rfl) (HB).out Tryz.underlying29 hgi ?_)
        | (go_at_call 38; refine (HVC.out _ (H.out.step hb)).mono ?_; rintro e w3 ⟨rfl, hb3⟩; have HB3 := Lib.hid (HB.out.step hb3); have HP3 := Lib.hid (HP.out.step hb3); replace hb := bel hb hb3; clear hb3; have k0 : w3.cell? ⟨w.heap.size + 1, 0, none⟩ = some (.int .i64 id) := HP3.out.cell 0; have k1 : w3.cell? ⟨w.heap.size + 1, 1, none⟩ = some (.int .i64 en) := HP3.out.cell 1; have k3 : w3.cell? ⟨w.heap.size + 1, 3, none⟩ = some (.int .i64 kd) := HP3.out.cell 3; have k4 : w3.cell? ⟨w.heap.size + 1, 4, none⟩ = some (.int .i64 fo) := HP3.out.cell 4; have k5 : w3.cell? ⟨w.heap.size + 1, 5, none⟩ = some (.string tx) := HP3.out.cell 5; have k6 : w3.cell? ⟨w.heap.size + 1, 6, none⟩ = some (.slice lA ll.length lc) := HP3.out.cell 6)
        | (go_at_call 93; refine (plain_any tx _ htx).mono ?_; rintro e w9 ⟨rfl, rfl⟩; (try rw [HPL.out])))
    go_ret
    exact ⟨by rw [HE.out]; rfl, hb⟩
  by_cases h4 : (el.length : Int) ≤ en
  · have HE : Hid (X = 1) := Lib.hid (by rw [← HX.out]; exact Jn.fm_no (fun h => by have a1 := h.id; have a2 := h.e0; have a3 := h.e1; have a4 := h.k0; have a5 := h.k1; have a8 := h.l0; have a9 := h.l1; dsimp only at *; omega))
    go_wp2_with
      (first
        | (refine wpList_load_blk 29 (.tmp 2) rfl (w.heap.size) rfl (by kernel_rfl) (HB).out Tryz.underlying29 hgi ?_)
        | (go_at_call 38; refine (HVC.out _ (H.out.step hb)).mono ?_; rintro e w3 ⟨rfl, hb3⟩; have HB3 := Lib.hid (HB.out.step hb3); have HP3 := Lib.hid (HP.out.step hb3); replace hb := bel hb hb3; clear hb3; have k0 : w3.cell? ⟨w.heap.size + 1, 0, none⟩ = some (.int .i64 id) := HP3.out.cell 0; have k1 : w3.cell? ⟨w.heap.size + 1, 1, none⟩ = some (.int .i64 en) := HP3.out.cell 1; have k3 : w3.cell? ⟨w.heap.size + 1, 3, none⟩ = some (.int .i64 kd) := HP3.out.cell 3; have k4 : w3.cell? ⟨w.heap.size + 1, 4, none⟩ = some (.int .i64 fo) := HP3.out.cell 4; have k5 : w3.cell? ⟨w.heap.size + 1, 5, none⟩ = some (.string tx) := HP3.out.cell 5; have k6 : w3.cell? ⟨w.heap.size + 1, 6, none⟩ = some (.slice lA ll.length lc) := HP3.out.cell 6)
        | (go_at_call 93; refine (plain_any tx _ htx).mono ?_; rintro e w9 ⟨rfl, rfl⟩; (try rw [HPL.out])))
    go_ret
    exact ⟨by rw [HE.out]; rfl, hb⟩
  by_cases h5 : kd < 1
  · have HE : Hid (X = 1) := Lib.hid (by rw [← HX.out]; exact Jn.fm_no (fun h => by have a1 := h.id; have a2 := h.e0; have a3 := h.e1; have a4 := h.k0; have a5 := h.k1; have a8 := h.l0; have a9 := h.l1; dsimp only at *; omega))
    go_wp2_with
      (first
        | (refine wpList_load_blk 29 (.tmp 2) rfl (w.heap.size) rfl (by kernel_rfl) (HB).out Tryz.underlying29 hgi ?_)
        | (go_at_call 38; refine (HVC.out _ (H.out.step hb)).mono ?_; rintro e w3 ⟨rfl, hb3⟩; have HB3 := Lib.hid (HB.out.step hb3); have HP3 := Lib.hid (HP.out.step hb3); replace hb := bel hb hb3; clear hb3; have k0 : w3.cell? ⟨w.heap.size + 1, 0, none⟩ = some (.int .i64 id) := HP3.out.cell 0; have k1 : w3.cell? ⟨w.heap.size + 1, 1, none⟩ = some (.int .i64 en) := HP3.out.cell 1; have k3 : w3.cell? ⟨w.heap.size + 1, 3, none⟩ = some (.int .i64 kd) := HP3.out.cell 3; have k4 : w3.cell? ⟨w.heap.size + 1, 4, none⟩ = some (.int .i64 fo) := HP3.out.cell 4; have k5 : w3.cell? ⟨w.heap.size + 1, 5, none⟩ = some (.string tx) := HP3.out.cell 5; have k6 : w3.cell? ⟨w.heap.size + 1, 6, none⟩ = some (.slice lA ll.length lc) := HP3.out.cell 6)
        | (go_at_call 93; refine (plain_any tx _ htx).mono ?_; rintro e w9 ⟨rfl, rfl⟩; (try rw [HPL.out])))
    go_ret
    exact ⟨by rw [HE.out]; rfl, hb⟩
  by_cases h6 : 3 < kd
  · have HE : Hid (X = 1) := Lib.hid (by rw [← HX.out]; exact Jn.fm_no (fun h => by have a1 := h.id; have a2 := h.e0; have a3 := h.e1; have a4 := h.k0; have a5 := h.k1; have a8 := h.l0; have a9 := h.l1; dsimp only at *; omega))
    go_wp2_with
      (first
        | (refine wpList_load_blk 29 (.tmp 2) rfl (w.heap.size) rfl (by kernel_rfl) (HB).out Tryz.underlying29 hgi ?_)
        | (go_at_call 38; refine (HVC.out _ (H.out.step hb)).mono ?_; rintro e w3 ⟨rfl, hb3⟩; have HB3 := Lib.hid (HB.out.step hb3); have HP3 := Lib.hid (HP.out.step hb3); replace hb := bel hb hb3; clear hb3; have k0 : w3.cell? ⟨w.heap.size + 1, 0, none⟩ = some (.int .i64 id) := HP3.out.cell 0; have k1 : w3.cell? ⟨w.heap.size + 1, 1, none⟩ = some (.int .i64 en) := HP3.out.cell 1; have k3 : w3.cell? ⟨w.heap.size + 1, 3, none⟩ = some (.int .i64 kd) := HP3.out.cell 3; have k4 : w3.cell? ⟨w.heap.size + 1, 4, none⟩ = some (.int .i64 fo) := HP3.out.cell 4; have k5 : w3.cell? ⟨w.heap.size + 1, 5, none⟩ = some (.string tx) := HP3.out.cell 5; have k6 : w3.cell? ⟨w.heap.size + 1, 6, none⟩ = some (.slice lA ll.length lc) := HP3.out.cell 6)
        | (go_at_call 93; refine (plain_any tx _ htx).mono ?_; rintro e w9 ⟨rfl, rfl⟩; (try rw [HPL.out])))
    go_ret
    exact ⟨by rw [HE.out]; rfl, hb⟩
  have h3 : 0 ≤ en := by omega
  by_cases h7 : kd = 3
  · have e7 : (kd == 3) = true := by simpa using h7
    have e8 : (kd != 3) = false := by simpa using h7
    have HK := Lib.hid h7
    clear h7
    by_cases h77 : fo < 1
    · have HE : Hid (X = 1) := Lib.hid (by rw [← HX.out]; exact Jn.fm_no (fun h => by have := h.of3 HK.out; dsimp only at this; omega))
      go_wp2_with
        (first
          | (refine wpList_load_blk 29 (.tmp 2) rfl (w.heap.size) rfl (by kernel_rfl) (HB).out Tryz.underlying29 hgi ?_)
          | (go_at_call 38; refine (HVC.out _ (H.out.step hb)).mono ?_; rintro e w3 ⟨rfl, hb3⟩; have HB3 := Lib.hid (HB.out.step hb3); have HP3 := Lib.hid (HP.out.step hb3); replace hb := bel hb hb3; clear hb3; have k0 : w3.cell? ⟨w.heap.size + 1, 0, none⟩ = some (.int .i64 id) := HP3.out.cell 0; have k1 : w3.cell? ⟨w.heap.size + 1, 1, none⟩ = some (.int .i64 en) := HP3.out.cell 1; have k3 : w3.cell? ⟨w.heap.size + 1, 3, none⟩ = some (.int .i64 kd) := HP3.out.cell 3; have k4 : w3.cell? ⟨w.heap.size + 1, 4, none⟩ = some (.int .i64 fo) := HP3.out.cell 4; have k5 : w3.cell? ⟨w.heap.size + 1, 5, none⟩ = some (.string tx) := HP3.out.cell 5; have k6 : w3.cell? ⟨w.heap.size + 1, 6, none⟩ = some (.slice lA ll.length lc) := HP3.out.cell 6)
          | (go_at_call 93; refine (plain_any tx _ htx).mono ?_; rintro e w9 ⟨rfl, rfl⟩; (try rw [HPL.out])))
      go_ret
      exact ⟨by rw [HE.out]; rfl, hb⟩
    have HOF : Hid ((kd = 3 → 1 ≤ fo) ∧ (kd ≠ 3 → fo = 0)) := Lib.hid ⟨fun _ => by omega, fun h => absurd HK.out h⟩
    cases hpl : Jn.plainB tx
    · have HE : Hid (X = 1) := Lib.hid (by rw [← HX.out]; exact Jn.fm_no (fun h => by have := h.pl; rw [hpl] at this; cases this))
      have HPL := Lib.hid hpl
      go_wp2_with
        (first
          | (refine wpList_load_blk 29 (.tmp 2) rfl (w.heap.size) rfl (by kernel_rfl) (HB).out Tryz.underlying29 hgi ?_)
          | (go_at_call 38; refine (HVC.out _ (H.out.step hb)).mono ?_; rintro e w3 ⟨rfl, hb3⟩; have HB3 := Lib.hid (HB.out.step hb3); have HP3 := Lib.hid (HP.out.step hb3); replace hb := bel hb hb3; clear hb3; have k0 : w3.cell? ⟨w.heap.size + 1, 0, none⟩ = some (.int .i64 id) := HP3.out.cell 0; have k1 : w3.cell? ⟨w.heap.size + 1, 1, none⟩ = some (.int .i64 en) := HP3.out.cell 1; have k3 : w3.cell? ⟨w.heap.size + 1, 3, none⟩ = some (.int .i64 kd) := HP3.out.cell 3; have k4 : w3.cell? ⟨w.heap.size + 1, 4, none⟩ = some (.int .i64 fo) := HP3.out.cell 4; have k5 : w3.cell? ⟨w.heap.size + 1, 5, none⟩ = some (.string tx) := HP3.out.cell 5; have k6 : w3.cell? ⟨w.heap.size + 1, 6, none⟩ = some (.slice lA ll.length lc) := HP3.out.cell 6)
          | (go_at_call 93; refine (plain_any tx _ htx).mono ?_; rintro e w9 ⟨rfl, rfl⟩; (try rw [HPL.out])))
      go_ret
      exact ⟨by rw [HE.out]; rfl, hb⟩
    by_cases h8 : ll.length < 2
    · have HE : Hid (X = 1) := Lib.hid (by rw [← HX.out]; exact Jn.fm_no (fun h => by have a1 := h.id; have a2 := h.e0; have a3 := h.e1; have a4 := h.k0; have a5 := h.k1; have a8 := h.l0; have a9 := h.l1; dsimp only at *; omega))
      go_wp2_with
        (first
          | (refine wpList_load_blk 29 (.tmp 2) rfl (w.heap.size) rfl (by kernel_rfl) (HB).out Tryz.underlying29 hgi ?_)
          | (go_at_call 38; refine (HVC.out _ (H.out.step hb)).mono ?_; rintro e w3 ⟨rfl, hb3⟩; have HB3 := Lib.hid (HB.out.step hb3); have HP3 := Lib.hid (HP.out.step hb3); replace hb := bel hb hb3; clear hb3; have k0 : w3.cell? ⟨w.heap.size + 1, 0, none⟩ = some (.int .i64 id) := HP3.out.cell 0; have k1 : w3.cell? ⟨w.heap.size + 1, 1, none⟩ = some (.int .i64 en) := HP3.out.cell 1; have k3 : w3.cell? ⟨w.heap.size + 1, 3, none⟩ = some (.int .i64 kd) := HP3.out.cell 3; have k4 : w3.cell? ⟨w.heap.size + 1, 4, none⟩ = some (.int .i64 fo) := HP3.out.cell 4; have k5 : w3.cell? ⟨w.heap.size + 1, 5, none⟩ = some (.string tx) := HP3.out.cell 5; have k6 : w3.cell? ⟨w.heap.size + 1, 6, none⟩ = some (.slice lA ll.length lc) := HP3.out.cell 6)
          | (go_at_call 93; refine (plain_any tx _ htx).mono ?_; rintro e w9 ⟨rfl, rfl⟩; (try rw [HPL.out])))
      go_ret
      exact ⟨by rw [HE.out]; rfl, hb⟩
    by_cases h9 : 40 < ll.length
    · have HE : Hid (X = 1) := Lib.hid (by rw [← HX.out]; exact Jn.fm_no (fun h => by have a1 := h.id; have a2 := h.e0; have a3 := h.e1; have a4 := h.k0; have a5 := h.k1; have a8 := h.l0; have a9 := h.l1; dsimp only at *; omega))
      go_wp2_with
        (first
          | (refine wpList_load_blk 29 (.tmp 2) rfl (w.heap.size) rfl (by kernel_rfl) (HB).out Tryz.underlying29 hgi ?_)
          | (go_at_call 38; refine (HVC.out _ (H.out.step hb)).mono ?_; rintro e w3 ⟨rfl, hb3⟩; have HB3 := Lib.hid (HB.out.step hb3); have HP3 := Lib.hid (HP.out.step hb3); replace hb := bel hb hb3; clear hb3; have k0 : w3.cell? ⟨w.heap.size + 1, 0, none⟩ = some (.int .i64 id) := HP3.out.cell 0; have k1 : w3.cell? ⟨w.heap.size + 1, 1, none⟩ = some (.int .i64 en) := HP3.out.cell 1; have k3 : w3.cell? ⟨w.heap.size + 1, 3, none⟩ = some (.int .i64 kd) := HP3.out.cell 3; have k4 : w3.cell? ⟨w.heap.size + 1, 4, none⟩ = some (.int .i64 fo) := HP3.out.cell 4; have k5 : w3.cell? ⟨w.heap.size + 1, 5, none⟩ = some (.string tx) := HP3.out.cell 5; have k6 : w3.cell? ⟨w.heap.size + 1, 6, none⟩ = some (.slice lA ll.length lc) := HP3.out.cell 6)
          | (go_at_call 93; refine (plain_any tx _ htx).mono ?_; rintro e w9 ⟨rfl, rfl⟩; (try rw [HPL.out])))
      go_ret
      exact ⟨by rw [HE.out]; rfl, hb⟩
    have HHD : Hid (Jn.HeadOk true el.length ⟨id, en, da, kd, fo, tx, ⟨ll, lA, lc⟩⟩) := Lib.hid ⟨rfl, by dsimp only; omega, by dsimp only; omega, by dsimp only; omega, by dsimp only; omega, by dsimp only; omega, HOF.out.1, HOF.out.2, hpl, by dsimp only; omega, by dsimp only; omega⟩
    have HPL := Lib.hid hpl
    clear hpl
    go_wp2_with
      (first
        | (refine wpList_load_blk 29 (.tmp 2) rfl (w.heap.size) rfl (by kernel_rfl) (HB).out Tryz.underlying29 hgi ?_)
        | (go_at_call 38; refine (HVC.out _ (H.out.step hb)).mono ?_; rintro e w3 ⟨rfl, hb3⟩; have HB3 := Lib.hid (HB.out.step hb3); have HP3 := Lib.hid (HP.out.step hb3); replace hb := bel hb hb3; clear hb3; have k0 : w3.cell? ⟨w.heap.size + 1, 0, none⟩ = some (.int .i64 id) := HP3.out.cell 0; have k1 : w3.cell? ⟨w.heap.size + 1, 1, none⟩ = some (.int .i64 en) := HP3.out.cell 1; have k3 : w3.cell? ⟨w.heap.size + 1, 3, none⟩ = some (.int .i64 kd) := HP3.out.cell 3; have k4 : w3.cell? ⟨w.heap.size + 1, 4, none⟩ = some (.int .i64 fo) := HP3.out.cell 4; have k5 : w3.cell? ⟨w.heap.size + 1, 5, none⟩ = some (.string tx) := HP3.out.cell 5; have k6 : w3.cell? ⟨w.heap.size + 1, 6, none⟩ = some (.slice lA ll.length lc) := HP3.out.cell 6)
        | (go_at_call 93; refine (plain_any tx _ htx).mono ?_; rintro e w9 ⟨rfl, rfl⟩; (try rw [HPL.out])))

    go_loopw [64] (fun t wr => ∃ k : Nat, k ≤ ll.length ∧ (∀ j (h : j < k) (h2 : j < ll.length), Jn.lineB el.length en (ll[j]'h2) = true) ∧ t = .int .i64 k ∧ Blk wr (w.heap.size + 1) 67 #[.int .i64 id, .int .i64 en, .int .i64 da, .int .i64 kd, .int .i64 fo, .string tx, .slice lA ll.length lc] ∧ Below w.heap.size w wr) (fun t _ => ll.length - (intOf t).toNat)
    case atStart => exact ⟨0, by omega, fun j h => by omega, rfl, HP3.out, hb⟩
    case round =>
      clear hb k0 k1 k3 k4 k5 k6 HP3
      obtain ⟨k, hk, hno, rfl, hP, hb⟩ := hrel
      have HN := Lib.hid hno
      have HPr := Lib.hid hP
      have hz := hb.size
      clear hno hP
      by_cases hlt : k < ll.length
      · obtain ⟨b, o, hA, hbo, f0, f1, f2⟩ := LineR.at_ (Rd.now HR.out hb) hlt
        subst hA
        have HST : Hid (Jn.lineB el.length en ll[k] = true → ∀ j (h : j < k + 1) (h2 : j < ll.length), Jn.lineB el.length en (ll[j]'h2) = true) := Lib.hid (fun hq j h h1 => by
          by_cases e : j = k
          · subst e; exact hq
          · exact HN.out j (by omega) h1)
        obtain ⟨u, hu⟩ : ∃ u, u = ll[k] := ⟨_, rfl⟩
        rw [← hu] at f0 f1 f2 HST
        obtain ⟨la, lm, lp⟩ := u
        have HLK : Hid (ll[k] = ⟨la, lm, lp⟩) := Lib.hid hu.symm
        clear hu
        dsimp only at *
        have HP1 := Lib.hid (HPr.out.alloc (.cells #[.int .i64 la, .int .i64 lm, .int .i64 lp] 69))
        have k1 : (wr.alloc (.cells #[.int .i64 la, .int .i64 lm, .int .i64 lp] 69)).cell? ⟨w.heap.size + 1, 1, none⟩ = some (.int .i64 en) := HP1.out.cell 1
        have hb1 := hb.alloc hz (.cells #[.int .i64 la, .int .i64 lm, .int .i64 lp] 69)
        by_cases a1 : lm = 0
        · have b1 : (lm == 0) = true := by simpa using a1
          subst a1
          have HE : Hid (X = 1) := Lib.hid (by rw [← HX.out]; refine Jn.fm_line (k := k) hlt ?_; dsimp only; rw [HLK.out]; rfl)
          go_wp2_with fail
          go_ret
          exact ⟨by rw [HE.out]; rfl, hb1⟩
        have b1 : (lm == 0) = false := by simpa using a1
        cases ham : amV lm
        · have HE : Hid (X = 1) := Lib.hid (by rw [← HX.out]; refine Jn.fm_line (k := k) hlt ?_; dsimp only; rw [HLK.out]; exact Jn.line_no (by omega) h3 (fun h => by have a2 := h.am; dsimp only at a2; rw [ham] at a2; cases a2))
          have HAM := Lib.hid ham
          clear ham
          go_wp2_with (go_at_call 55; refine (money_any lm _).mono ?_; rintro e w9 ⟨rfl, rfl⟩; rw [HAM.out])
          go_ret
          exact ⟨by rw [HE.out]; rfl, hb1⟩
        have HA1 := Lib.hid a1
        clear a1
        by_cases a2 : lp < -1
        · have HE : Hid (X = 1) := Lib.hid (by rw [← HX.out]; refine Jn.fm_line (k := k) hlt ?_; dsimp only; rw [HLK.out]; exact Jn.line_no (by omega) h3 (fun h => by have a1 := h.nz; have a2 := h.p0; have a3 := h.p1; have a4 := h.pe; dsimp only at *; omega))
          go_wp2_with (go_at_call 55; refine (money_any lm _).mono ?_; rintro e w9 ⟨rfl, rfl⟩)
          go_ret
          exact ⟨by rw [HE.out]; rfl, hb1⟩
        by_cases a3 : (el.length : Int) ≤ lp
        · have HE : Hid (X = 1) := Lib.hid (by rw [← HX.out]; refine Jn.fm_line (k := k) hlt ?_; dsimp only; rw [HLK.out]; exact Jn.line_no (by omega) h3 (fun h => by have a1 := h.nz; have a2 := h.p0; have a3 := h.p1; have a4 := h.pe; dsimp only at *; omega))
          go_wp2_with (go_at_call 55; refine (money_any lm _).mono ?_; rintro e w9 ⟨rfl, rfl⟩)
          go_ret
          exact ⟨by rw [HE.out]; rfl, hb1⟩
        by_cases a4 : lp = en
        · have b4 : (lp == en) = true := by simpa using a4
          have HE : Hid (X = 1) := Lib.hid (by rw [← HX.out]; refine Jn.fm_line (k := k) hlt ?_; dsimp only; rw [HLK.out]; exact Jn.line_no (by omega) h3 (fun h => h.pe a4))
          clear a4
          go_wp2_with (go_at_call 55; refine (money_any lm _).mono ?_; rintro e w9 ⟨rfl, rfl⟩)
          go_ret
          exact ⟨by rw [HE.out]; rfl, hb1⟩
        have b4 : (lp == en) = false := by simpa using a4
        have HE := Lib.hid (HST.out ((Jn.line_iff (by omega) h3).2 ⟨HA1.out, ham, by dsimp only; omega, by dsimp only; omega, a4⟩))
        have HAM := Lib.hid ham
        clear ham a4
        go_wp2_with (go_at_call 55; refine (money_any lm _).mono ?_; rintro e w9 ⟨rfl, rfl⟩; rw [HAM.out])
        go_roundw
        case rel => exact ⟨k + 1, by omega, HE.out, by go_num, HP1.out, hb1⟩
        case measure => simp [intOf]; omega
      · have HE : Hid (X = 0) := Lib.hid (by rw [← HX.out]; exact Jn.fm_yes HHD.out (fun j hj => HN.out j (by dsimp only at hj; omega) hj))
        go_wp2_with fail
        go_ret
        exact ⟨by rw [HE.out]; rfl, hb⟩
  have e7 : (kd == 3) = false := by simpa using h7
  have e8 : (kd != 3) = true := by simpa using h7
  have HK := Lib.hid h7
  clear h7
  by_cases h78 : fo = 0
  · have e9 : (fo != 0) = false := by simpa using h78
    have HOF : Hid ((kd = 3 → 1 ≤ fo) ∧ (kd ≠ 3 → fo = 0)) := Lib.hid ⟨fun h => absurd h HK.out, fun _ => h78⟩
    clear h78
    cases hpl : Jn.plainB tx
    · have HE : Hid (X = 1) := Lib.hid (by rw [← HX.out]; exact Jn.fm_no (fun h => by have := h.pl; rw [hpl] at this; cases this))
      have HPL := Lib.hid hpl
      go_wp2_with
        (first
          | (refine wpList_load_blk 29 (.tmp 2) rfl (w.heap.size) rfl (by kernel_rfl) (HB).out Tryz.underlying29 hgi ?_)
          | (go_at_call 38; refine (HVC.out _ (H.out.step hb)).mono ?_; rintro e w3 ⟨rfl, hb3⟩; have HB3 := Lib.hid (HB.out.step hb3); have HP3 := Lib.hid (HP.out.step hb3); replace hb := bel hb hb3; clear hb3; have k0 : w3.cell? ⟨w.heap.size + 1, 0, none⟩ = some (.int .i64 id) := HP3.out.cell 0; have k1 : w3.cell? ⟨w.heap.size + 1, 1, none⟩ = some (.int .i64 en) := HP3.out.cell 1; have k3 : w3.cell? ⟨w.heap.size + 1, 3, none⟩ = some (.int .i64 kd) := HP3.out.cell 3; have k4 : w3.cell? ⟨w.heap.size + 1, 4, none⟩ = some (.int .i64 fo) := HP3.out.cell 4; have k5 : w3.cell? ⟨w.heap.size + 1, 5, none⟩ = some (.string tx) := HP3.out.cell 5; have k6 : w3.cell? ⟨w.heap.size + 1, 6, none⟩ = some (.slice lA ll.length lc) := HP3.out.cell 6)
          | (go_at_call 93; refine (plain_any tx _ htx).mono ?_; rintro e w9 ⟨rfl, rfl⟩; (try rw [HPL.out])))
      go_ret
      exact ⟨by rw [HE.out]; rfl, hb⟩
    by_cases h8 : ll.length < 2
    · have HE : Hid (X = 1) := Lib.hid (by rw [← HX.out]; exact Jn.fm_no (fun h => by have a1 := h.id; have a2 := h.e0; have a3 := h.e1; have a4 := h.k0; have a5 := h.k1; have a8 := h.l0; have a9 := h.l1; dsimp only at *; omega))
      go_wp2_with
        (first
          | (refine wpList_load_blk 29 (.tmp 2) rfl (w.heap.size) rfl (by kernel_rfl) (HB).out Tryz.underlying29 hgi ?_)
          | (go_at_call 38; refine (HVC.out _ (H.out.step hb)).mono ?_; rintro e w3 ⟨rfl, hb3⟩; have HB3 := Lib.hid (HB.out.step hb3); have HP3 := Lib.hid (HP.out.step hb3); replace hb := bel hb hb3; clear hb3; have k0 : w3.cell? ⟨w.heap.size + 1, 0, none⟩ = some (.int .i64 id) := HP3.out.cell 0; have k1 : w3.cell? ⟨w.heap.size + 1, 1, none⟩ = some (.int .i64 en) := HP3.out.cell 1; have k3 : w3.cell? ⟨w.heap.size + 1, 3, none⟩ = some (.int .i64 kd) := HP3.out.cell 3; have k4 : w3.cell? ⟨w.heap.size + 1, 4, none⟩ = some (.int .i64 fo) := HP3.out.cell 4; have k5 : w3.cell? ⟨w.heap.size + 1, 5, none⟩ = some (.string tx) := HP3.out.cell 5; have k6 : w3.cell? ⟨w.heap.size + 1, 6, none⟩ = some (.slice lA ll.length lc) := HP3.out.cell 6)
          | (go_at_call 93; refine (plain_any tx _ htx).mono ?_; rintro e w9 ⟨rfl, rfl⟩; (try rw [HPL.out])))
      go_ret
      exact ⟨by rw [HE.out]; rfl, hb⟩
    by_cases h9 : 40 < ll.length
    · have HE : Hid (X = 1) := Lib.hid (by rw [← HX.out]; exact Jn.fm_no (fun h => by have a1 := h.id; have a2 := h.e0; have a3 := h.e1; have a4 := h.k0; have a5 := h.k1; have a8 := h.l0; have a9 := h.l1; dsimp only at *; omega))
      go_wp2_with
        (first
          | (refine wpList_load_blk 29 (.tmp 2) rfl (w.heap.size) rfl (by kernel_rfl) (HB).out Tryz.underlying29 hgi ?_)
          | (go_at_call 38; refine (HVC.out _ (H.out.step hb)).mono ?_; rintro e w3 ⟨rfl, hb3⟩; have HB3 := Lib.hid (HB.out.step hb3); have HP3 := Lib.hid (HP.out.step hb3); replace hb := bel hb hb3; clear hb3; have k0 : w3.cell? ⟨w.heap.size + 1, 0, none⟩ = some (.int .i64 id) := HP3.out.cell 0; have k1 : w3.cell? ⟨w.heap.size + 1, 1, none⟩ = some (.int .i64 en) := HP3.out.cell 1; have k3 : w3.cell? ⟨w.heap.size + 1, 3, none⟩ = some (.int .i64 kd) := HP3.out.cell 3; have k4 : w3.cell? ⟨w.heap.size + 1, 4, none⟩ = some (.int .i64 fo) := HP3.out.cell 4; have k5 : w3.cell? ⟨w.heap.size + 1, 5, none⟩ = some (.string tx) := HP3.out.cell 5; have k6 : w3.cell? ⟨w.heap.size + 1, 6, none⟩ = some (.slice lA ll.length lc) := HP3.out.cell 6)
          | (go_at_call 93; refine (plain_any tx _ htx).mono ?_; rintro e w9 ⟨rfl, rfl⟩; (try rw [HPL.out])))
      go_ret
      exact ⟨by rw [HE.out]; rfl, hb⟩
    have HHD : Hid (Jn.HeadOk true el.length ⟨id, en, da, kd, fo, tx, ⟨ll, lA, lc⟩⟩) := Lib.hid ⟨rfl, by dsimp only; omega, by dsimp only; omega, by dsimp only; omega, by dsimp only; omega, by dsimp only; omega, HOF.out.1, HOF.out.2, hpl, by dsimp only; omega, by dsimp only; omega⟩
    have HPL := Lib.hid hpl
    clear hpl
    go_wp2_with
      (first
        | (refine wpList_load_blk 29 (.tmp 2) rfl (w.heap.size) rfl (by kernel_rfl) (HB).out Tryz.underlying29 hgi ?_)
        | (go_at_call 38; refine (HVC.out _ (H.out.step hb)).mono ?_; rintro e w3 ⟨rfl, hb3⟩; have HB3 := Lib.hid (HB.out.step hb3); have HP3 := Lib.hid (HP.out.step hb3); replace hb := bel hb hb3; clear hb3; have k0 : w3.cell? ⟨w.heap.size + 1, 0, none⟩ = some (.int .i64 id) := HP3.out.cell 0; have k1 : w3.cell? ⟨w.heap.size + 1, 1, none⟩ = some (.int .i64 en) := HP3.out.cell 1; have k3 : w3.cell? ⟨w.heap.size + 1, 3, none⟩ = some (.int .i64 kd) := HP3.out.cell 3; have k4 : w3.cell? ⟨w.heap.size + 1, 4, none⟩ = some (.int .i64 fo) := HP3.out.cell 4; have k5 : w3.cell? ⟨w.heap.size + 1, 5, none⟩ = some (.string tx) := HP3.out.cell 5; have k6 : w3.cell? ⟨w.heap.size + 1, 6, none⟩ = some (.slice lA ll.length lc) := HP3.out.cell 6)
        | (go_at_call 93; refine (plain_any tx _ htx).mono ?_; rintro e w9 ⟨rfl, rfl⟩; (try rw [HPL.out])))

    go_loopw [64] (fun t wr => ∃ k : Nat, k ≤ ll.length ∧ (∀ j (h : j < k) (h2 : j < ll.length), Jn.lineB el.length en (ll[j]'h2) = true) ∧ t = .int .i64 k ∧ Blk wr (w.heap.size + 1) 67 #[.int .i64 id, .int .i64 en, .int .i64 da, .int .i64 kd, .int .i64 fo, .string tx, .slice lA ll.length lc] ∧ Below w.heap.size w wr) (fun t _ => ll.length - (intOf t).toNat)
    case atStart => exact ⟨0, by omega, fun j h => by omega, rfl, HP3.out, hb⟩
    case round =>
      clear hb k0 k1 k3 k4 k5 k6 HP3
      obtain ⟨k, hk, hno, rfl, hP, hb⟩ := hrel
      have HN := Lib.hid hno
      have HPr := Lib.hid hP
      have hz := hb.size
      clear hno hP
      by_cases hlt : k < ll.length
      · obtain ⟨b, o, hA, hbo, f0, f1, f2⟩ := LineR.at_ (Rd.now HR.out hb) hlt
        subst hA
        have HST : Hid (Jn.lineB el.length en ll[k] = true → ∀ j (h : j < k + 1) (h2 : j < ll.length), Jn.lineB el.length en (ll[j]'h2) = true) := Lib.hid (fun hq j h h1 => by
          by_cases e : j = k
          · subst e; exact hq
          · exact HN.out j (by omega) h1)
        obtain ⟨u, hu⟩ : ∃ u, u = ll[k] := ⟨_, rfl⟩
        rw [← hu] at f0 f1 f2 HST
        obtain ⟨la, lm, lp⟩ := u
        have HLK : Hid (ll[k] = ⟨la, lm, lp⟩) := Lib.hid hu.symm
        clear hu
        dsimp only at *
        have HP1 := Lib.hid (HPr.out.alloc (.cells #[.int .i64 la, .int .i64 lm, .int .i64 lp] 69))
        have k1 : (wr.alloc (.cells #[.int .i64 la, .int .i64 lm, .int .i64 lp] 69)).cell? ⟨w.heap.size + 1, 1, none⟩ = some (.int .i64 en) := HP1.out.cell 1
        have hb1 := hb.alloc hz (.cells #[.int .i64 la, .int .i64 lm, .int .i64 lp] 69)
        by_cases a1 : lm = 0
        · have b1 : (lm == 0) = true := by simpa using a1
          subst a1
          have HE : Hid (X = 1) := Lib.hid (by rw [← HX.out]; refine Jn.fm_line (k := k) hlt ?_; dsimp only; rw [HLK.out]; rfl)
          go_wp2_with fail
          go_ret
          exact ⟨by rw [HE.out]; rfl, hb1⟩
        have b1 : (lm == 0) = false := by simpa using a1
        cases ham : amV lm
        · have HE : Hid (X = 1) := Lib.hid (by rw [← HX.out]; refine Jn.fm_line (k := k) hlt ?_; dsimp only; rw [HLK.out]; exact Jn.line_no (by omega) h3 (fun h => by have a2 := h.am; dsimp only at a2; rw [ham] at a2; cases a2))
          have HAM := Lib.hid ham
          clear ham
          go_wp2_with (go_at_call 55; refine (money_any lm _).mono ?_; rintro e w9 ⟨rfl, rfl⟩; rw [HAM.out])
          go_ret
          exact ⟨by rw [HE.out]; rfl, hb1⟩
        have HA1 := Lib.hid a1
        clear a1
        by_cases a2 : lp < -1
        · have HE : Hid (X = 1) := Lib.hid (by rw [← HX.out]; refine Jn.fm_line (k := k) hlt ?_; dsimp only; rw [HLK.out]; exact Jn.line_no (by omega) h3 (fun h => by have a1 := h.nz; have a2 := h.p0; have a3 := h.p1; have a4 := h.pe; dsimp only at *; omega))
          go_wp2_with (go_at_call 55; refine (money_any lm _).mono ?_; rintro e w9 ⟨rfl, rfl⟩)
          go_ret
          exact ⟨by rw [HE.out]; rfl, hb1⟩
        by_cases a3 : (el.length : Int) ≤ lp
        · have HE : Hid (X = 1) := Lib.hid (by rw [← HX.out]; refine Jn.fm_line (k := k) hlt ?_; dsimp only; rw [HLK.out]; exact Jn.line_no (by omega) h3 (fun h => by have a1 := h.nz; have a2 := h.p0; have a3 := h.p1; have a4 := h.pe; dsimp only at *; omega))
          go_wp2_with (go_at_call 55; refine (money_any lm _).mono ?_; rintro e w9 ⟨rfl, rfl⟩)
          go_ret
          exact ⟨by rw [HE.out]; rfl, hb1⟩
        by_cases a4 : lp = en
        · have b4 : (lp == en) = true := by simpa using a4
          have HE : Hid (X = 1) := Lib.hid (by rw [← HX.out]; refine Jn.fm_line (k := k) hlt ?_; dsimp only; rw [HLK.out]; exact Jn.line_no (by omega) h3 (fun h => h.pe a4))
          clear a4
          go_wp2_with (go_at_call 55; refine (money_any lm _).mono ?_; rintro e w9 ⟨rfl, rfl⟩)
          go_ret
          exact ⟨by rw [HE.out]; rfl, hb1⟩
        have b4 : (lp == en) = false := by simpa using a4
        have HE := Lib.hid (HST.out ((Jn.line_iff (by omega) h3).2 ⟨HA1.out, ham, by dsimp only; omega, by dsimp only; omega, a4⟩))
        have HAM := Lib.hid ham
        clear ham a4
        go_wp2_with (go_at_call 55; refine (money_any lm _).mono ?_; rintro e w9 ⟨rfl, rfl⟩; rw [HAM.out])
        go_roundw
        case rel => exact ⟨k + 1, by omega, HE.out, by go_num, HP1.out, hb1⟩
        case measure => simp [intOf]; omega
      · have HE : Hid (X = 0) := Lib.hid (by rw [← HX.out]; exact Jn.fm_yes HHD.out (fun j hj => HN.out j (by dsimp only at hj; omega) hj))
        go_wp2_with fail
        go_ret
        exact ⟨by rw [HE.out]; rfl, hb⟩
  have e9 : (fo != 0) = true := by simpa using h78
  have HE : Hid (X = 1) := Lib.hid (by rw [← HX.out]; exact Jn.fm_no (fun h => h78 (h.of0 HK.out)))
  clear h78
  go_wp2_with
    (first
      | (refine wpList_load_blk 29 (.tmp 2) rfl (w.heap.size) rfl (by kernel_rfl) (HB).out Tryz.underlying29 hgi ?_)
      | (go_at_call 38; refine (HVC.out _ (H.out.step hb)).mono ?_; rintro e w3 ⟨rfl, hb3⟩; have HB3 := Lib.hid (HB.out.step hb3); have HP3 := Lib.hid (HP.out.step hb3); replace hb := bel hb hb3; clear hb3; have k0 : w3.cell? ⟨w.heap.size + 1, 0, none⟩ = some (.int .i64 id) := HP3.out.cell 0; have k1 : w3.cell? ⟨w.heap.size + 1, 1, none⟩ = some (.int .i64 en) := HP3.out.cell 1; have k3 : w3.cell? ⟨w.heap.size + 1, 3, none⟩ = some (.int .i64 kd) := HP3.out.cell 3; have k4 : w3.cell? ⟨w.heap.size + 1, 4, none⟩ = some (.int .i64 fo) := HP3.out.cell 4; have k5 : w3.cell? ⟨w.heap.size + 1, 5, none⟩ = some (.string tx) := HP3.out.cell 5; have k6 : w3.cell? ⟨w.heap.size + 1, 6, none⟩ = some (.slice lA ll.length lc) := HP3.out.cell 6)
      | (go_at_call 93; refine (plain_any tx _ htx).mono ?_; rintro e w9 ⟨rfl, rfl⟩; (try rw [HPL.out])))
  go_ret
  exact ⟨by rw [HE.out]; rfl, hb⟩
end
end Go.Proofs.YtnddoehhcpejjaaGreat
