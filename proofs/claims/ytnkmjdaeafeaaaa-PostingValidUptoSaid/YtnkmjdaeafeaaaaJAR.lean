/- Texts of this claim, put together. -/
import Derived.Test.YtnkmjdaeafeaaaaJAQ
import Derived.Test.YtnkmjdaeafeaaaaJAN
import Derived.Test.YtnkmjdaeafeaaaaLibRZ
import Derived.Deep.DeepCutAuto
import Derived.Test.YtnkmjdaeafeaaaaJAO
/- The walk of Valid of a posting. -/
namespace Go.Proofs.Ytnkmjdaeafeaaaa
set_option linter.unusedVariables false
set_option linter.unusedSimpArgs false
open Go.RowKit

section
variable (gcs : Array Value) (cur : ByteArray) (y m p : Int) (cl : List Acc) (cA : Option Addr) (cc : Nat) (ro : RolesR) (el : List EntR) (eA : Option Addr) (ec : Nat) (w : World)
set_option maxRecDepth 100000 in
set_option maxHeartbeats 8000000 in
theorem pvalid_any (kd en ot ru : Int) (L : List Bal) (A : Option Addr) (c : Nat) (HG : Hid (gcs = #[.string cur, .int .i64 y, .int .i64 m, .int .i64 p, .slice cA cl.length cc, .int .i64 ro.investment, .int .i64 ro.goodwill, .int .i64 ro.associates, .int .i64 ro.inventory, .int .i64 ro.reserve, .int .i64 ro.minority, .int .i64 ro.retained, .int .i64 ro.acquired, .int .i64 ro.owners, .int .i64 ro.disposal, .int .i64 ro.associateProfit, .int .i64 ro.dividends, .int .i64 ro.minorityProfit, .int .i64 ro.difference, .int .i64 ro.margin, .slice eA el.length ec])) (h : GIn w cl cA el eA) (hF : FewOk cur cl el) (hr : Rd w w.heap.size 2 A L.length (cellsOf Bal.cells L)) (hL : L.length ≤ 200) :
    Calls Try.prog 22 #[.agg gcs, .agg #[.int .i64 kd, .int .i64 en, .int .i64 ot, .int .i64 ru, .slice A L.length c]] w (BoolPost (pv (Gr.gv cur cl ro el (Cal.ok y m p)) cl kd en ot ru L) w) := by
  have hn : cl.length ≤ 300000 := by have := hF.ch; omega
  have H := Lib.hid h
  have HR := Lib.hid hr
  have HVC := Lib.hid (fun W (h : GIn W cl cA el eA) => gvalid_any gcs cur y m p cl cA cc ro el eA ec W HG h hF)
  clear h hF hr
  have hgi : (Try.prog.info? 29).map (·.size) = some gcs.size := by rw [HG.out]; exact grp_size
  have hb : Below w.heap.size w ((w.alloc (.cells gcs 29)).alloc (.cells #[.int .i64 kd, .int .i64 en, .int .i64 ot, .int .i64 ru, .slice A L.length c] 55)) := ((Below.refl _ _).alloc (Nat.le_refl _) _).alloc (by simp) _
  have HB := Lib.hid ((Blk.new w 29 gcs).alloc (.cells #[.int .i64 kd, .int .i64 en, .int .i64 ot, .int .i64 ru, .slice A L.length c] 55))
  have HP := Lib.hid (blk_new2 w (.cells gcs 29) 55 #[.int .i64 kd, .int .i64 en, .int .i64 ot, .int .i64 ru, .slice A L.length c])
  generalize Gr.gv cur cl ro el (Cal.ok y m p) = V at *
  generalize hX : pv V cl kd en ot ru L = X at *
  have HX := Lib.hid hX
  clear hX
  go_enter Try.func22, Try.ntmps22
  go_upto_region 1 with fail
  generalize (w.alloc (.cells gcs 29)).alloc (.cells #[.int .i64 kd, .int .i64 en, .int .i64 ot, .int .i64 ru, .slice A L.length c] 55) = W at *
  cases V
  · have HE : Hid (X = false) := Lib.hid (by rw [← HX.out]; rfl)
    go_wp2_with
      (first
        | (refine wpList_load_blk 29 (.tmp 2) rfl (w.heap.size) rfl (by kernel_rfl) (HB).out Try.underlying29 hgi ?_)
        | (go_at_call 14; refine (HVC.out _ (H.out.step hb)).mono ?_; rintro e w3 ⟨rfl, hb3⟩; have HB3 := Lib.hid (HB.out.step hb3); have HP3 := Lib.hid (HP.out.step hb3); replace hb := bel hb hb3; clear hb3; have k0 : w3.cell? ⟨w.heap.size + 1, 0, none⟩ = some (.int .i64 kd) := HP3.out.cell 0; have k1 : w3.cell? ⟨w.heap.size + 1, 1, none⟩ = some (.int .i64 en) := HP3.out.cell 1; have k2 : w3.cell? ⟨w.heap.size + 1, 2, none⟩ = some (.int .i64 ot) := HP3.out.cell 2; have k3 : w3.cell? ⟨w.heap.size + 1, 3, none⟩ = some (.int .i64 ru) := HP3.out.cell 3; have k4 : w3.cell? ⟨w.heap.size + 1, 4, none⟩ = some (.slice A L.length c) := HP3.out.cell 4))
    go_ret
    exact ⟨by rw [HE.out]; rfl, hb⟩
  · by_cases h1 : kd < 1
    · have HE : Hid (X = false) := Lib.hid (by rw [← HX.out]; simp [pv, pvHead]; omega)
      go_wp2_with
        (first
          | (refine wpList_load_blk 29 (.tmp 2) rfl (w.heap.size) rfl (by kernel_rfl) (HB).out Try.underlying29 hgi ?_)
          | (go_at_call 14; refine (HVC.out _ (H.out.step hb)).mono ?_; rintro e w3 ⟨rfl, hb3⟩; have HB3 := Lib.hid (HB.out.step hb3); have HP3 := Lib.hid (HP.out.step hb3); replace hb := bel hb hb3; clear hb3; have k0 : w3.cell? ⟨w.heap.size + 1, 0, none⟩ = some (.int .i64 kd) := HP3.out.cell 0; have k1 : w3.cell? ⟨w.heap.size + 1, 1, none⟩ = some (.int .i64 en) := HP3.out.cell 1; have k2 : w3.cell? ⟨w.heap.size + 1, 2, none⟩ = some (.int .i64 ot) := HP3.out.cell 2; have k3 : w3.cell? ⟨w.heap.size + 1, 3, none⟩ = some (.int .i64 ru) := HP3.out.cell 3; have k4 : w3.cell? ⟨w.heap.size + 1, 4, none⟩ = some (.slice A L.length c) := HP3.out.cell 4))
      go_ret
      exact ⟨by rw [HE.out]; rfl, hb⟩
    · by_cases h2 : 10 < kd
      · have HE : Hid (X = false) := Lib.hid (by rw [← HX.out]; simp [pv, pvHead]; omega)
        go_wp2_with
          (first
            | (refine wpList_load_blk 29 (.tmp 2) rfl (w.heap.size) rfl (by kernel_rfl) (HB).out Try.underlying29 hgi ?_)
            | (go_at_call 14; refine (HVC.out _ (H.out.step hb)).mono ?_; rintro e w3 ⟨rfl, hb3⟩; have HB3 := Lib.hid (HB.out.step hb3); have HP3 := Lib.hid (HP.out.step hb3); replace hb := bel hb hb3; clear hb3; have k0 : w3.cell? ⟨w.heap.size + 1, 0, none⟩ = some (.int .i64 kd) := HP3.out.cell 0; have k1 : w3.cell? ⟨w.heap.size + 1, 1, none⟩ = some (.int .i64 en) := HP3.out.cell 1; have k2 : w3.cell? ⟨w.heap.size + 1, 2, none⟩ = some (.int .i64 ot) := HP3.out.cell 2; have k3 : w3.cell? ⟨w.heap.size + 1, 3, none⟩ = some (.int .i64 ru) := HP3.out.cell 3; have k4 : w3.cell? ⟨w.heap.size + 1, 4, none⟩ = some (.slice A L.length c) := HP3.out.cell 4))
        go_ret
        exact ⟨by rw [HE.out]; rfl, hb⟩
      · by_cases h3 : en < -1
        · have HE : Hid (X = false) := Lib.hid (by rw [← HX.out]; simp [pv, pvHead]; omega)
          go_wp2_with
            (first
              | (refine wpList_load_blk 29 (.tmp 2) rfl (w.heap.size) rfl (by kernel_rfl) (HB).out Try.underlying29 hgi ?_)
              | (go_at_call 14; refine (HVC.out _ (H.out.step hb)).mono ?_; rintro e w3 ⟨rfl, hb3⟩; have HB3 := Lib.hid (HB.out.step hb3); have HP3 := Lib.hid (HP.out.step hb3); replace hb := bel hb hb3; clear hb3; have k0 : w3.cell? ⟨w.heap.size + 1, 0, none⟩ = some (.int .i64 kd) := HP3.out.cell 0; have k1 : w3.cell? ⟨w.heap.size + 1, 1, none⟩ = some (.int .i64 en) := HP3.out.cell 1; have k2 : w3.cell? ⟨w.heap.size + 1, 2, none⟩ = some (.int .i64 ot) := HP3.out.cell 2; have k3 : w3.cell? ⟨w.heap.size + 1, 3, none⟩ = some (.int .i64 ru) := HP3.out.cell 3; have k4 : w3.cell? ⟨w.heap.size + 1, 4, none⟩ = some (.slice A L.length c) := HP3.out.cell 4))
          go_ret
          exact ⟨by rw [HE.out]; rfl, hb⟩
        · by_cases h4 : 11 < en
          · have HE : Hid (X = false) := Lib.hid (by rw [← HX.out]; simp [pv, pvHead]; omega)
            go_wp2_with
              (first
                | (refine wpList_load_blk 29 (.tmp 2) rfl (w.heap.size) rfl (by kernel_rfl) (HB).out Try.underlying29 hgi ?_)
                | (go_at_call 14; refine (HVC.out _ (H.out.step hb)).mono ?_; rintro e w3 ⟨rfl, hb3⟩; have HB3 := Lib.hid (HB.out.step hb3); have HP3 := Lib.hid (HP.out.step hb3); replace hb := bel hb hb3; clear hb3; have k0 : w3.cell? ⟨w.heap.size + 1, 0, none⟩ = some (.int .i64 kd) := HP3.out.cell 0; have k1 : w3.cell? ⟨w.heap.size + 1, 1, none⟩ = some (.int .i64 en) := HP3.out.cell 1; have k2 : w3.cell? ⟨w.heap.size + 1, 2, none⟩ = some (.int .i64 ot) := HP3.out.cell 2; have k3 : w3.cell? ⟨w.heap.size + 1, 3, none⟩ = some (.int .i64 ru) := HP3.out.cell 3; have k4 : w3.cell? ⟨w.heap.size + 1, 4, none⟩ = some (.slice A L.length c) := HP3.out.cell 4))
            go_ret
            exact ⟨by rw [HE.out]; rfl, hb⟩
          · by_cases h5 : ru < 0
            · have HE : Hid (X = false) := Lib.hid (by rw [← HX.out]; simp [pv, pvHead]; omega)
              go_wp2_with
                (first
                  | (refine wpList_load_blk 29 (.tmp 2) rfl (w.heap.size) rfl (by kernel_rfl) (HB).out Try.underlying29 hgi ?_)
                  | (go_at_call 14; refine (HVC.out _ (H.out.step hb)).mono ?_; rintro e w3 ⟨rfl, hb3⟩; have HB3 := Lib.hid (HB.out.step hb3); have HP3 := Lib.hid (HP.out.step hb3); replace hb := bel hb hb3; clear hb3; have k0 : w3.cell? ⟨w.heap.size + 1, 0, none⟩ = some (.int .i64 kd) := HP3.out.cell 0; have k1 : w3.cell? ⟨w.heap.size + 1, 1, none⟩ = some (.int .i64 en) := HP3.out.cell 1; have k2 : w3.cell? ⟨w.heap.size + 1, 2, none⟩ = some (.int .i64 ot) := HP3.out.cell 2; have k3 : w3.cell? ⟨w.heap.size + 1, 3, none⟩ = some (.int .i64 ru) := HP3.out.cell 3; have k4 : w3.cell? ⟨w.heap.size + 1, 4, none⟩ = some (.slice A L.length c) := HP3.out.cell 4))
              go_ret
              exact ⟨by rw [HE.out]; rfl, hb⟩
            · by_cases h6 : L.length = 0
              · have hl0 : ((L.length : Int) == 0) = true := by simpa using h6
                have HE : Hid (X = false) := Lib.hid (by rw [← HX.out]; simp [pv, pvHead]; omega)
                go_wp2_with
                  (first
                    | (refine wpList_load_blk 29 (.tmp 2) rfl (w.heap.size) rfl (by kernel_rfl) (HB).out Try.underlying29 hgi ?_)
                    | (go_at_call 14; refine (HVC.out _ (H.out.step hb)).mono ?_; rintro e w3 ⟨rfl, hb3⟩; have HB3 := Lib.hid (HB.out.step hb3); have HP3 := Lib.hid (HP.out.step hb3); replace hb := bel hb hb3; clear hb3; have k0 : w3.cell? ⟨w.heap.size + 1, 0, none⟩ = some (.int .i64 kd) := HP3.out.cell 0; have k1 : w3.cell? ⟨w.heap.size + 1, 1, none⟩ = some (.int .i64 en) := HP3.out.cell 1; have k2 : w3.cell? ⟨w.heap.size + 1, 2, none⟩ = some (.int .i64 ot) := HP3.out.cell 2; have k3 : w3.cell? ⟨w.heap.size + 1, 3, none⟩ = some (.int .i64 ru) := HP3.out.cell 3; have k4 : w3.cell? ⟨w.heap.size + 1, 4, none⟩ = some (.slice A L.length c) := HP3.out.cell 4))
                go_ret
                exact ⟨by rw [HE.out]; rfl, hb⟩
              · have hl0 : ((L.length : Int) == 0) = false := by simpa using h6
                go_upto_region 3 with
                  (first
                    | (refine wpList_load_blk 29 (.tmp 2) rfl (w.heap.size) rfl (by kernel_rfl) (HB).out Try.underlying29 hgi ?_)
                    | (go_at_call 14; refine (HVC.out _ (H.out.step hb)).mono ?_; rintro e w3 ⟨rfl, hb3⟩; have HB3 := Lib.hid (HB.out.step hb3); have HP3 := Lib.hid (HP.out.step hb3); replace hb := bel hb hb3; clear hb3; have k0 : w3.cell? ⟨w.heap.size + 1, 0, none⟩ = some (.int .i64 kd) := HP3.out.cell 0; have k1 : w3.cell? ⟨w.heap.size + 1, 1, none⟩ = some (.int .i64 en) := HP3.out.cell 1; have k2 : w3.cell? ⟨w.heap.size + 1, 2, none⟩ = some (.int .i64 ot) := HP3.out.cell 2; have k3 : w3.cell? ⟨w.heap.size + 1, 3, none⟩ = some (.int .i64 ru) := HP3.out.cell 3; have k4 : w3.cell? ⟨w.heap.size + 1, 4, none⟩ = some (.slice A L.length c) := HP3.out.cell 4))
                have HK0 := Lib.hid k0
                have HK2 := Lib.hid k2
                have HK4 := Lib.hid k4
                go_cut [65] (fun s65 wx => s65 = .bool (!pvOther kd ot) ∧ wx = w3)
                case first =>
                  by_cases h7 : kd = 3
                  · subst h7
                    by_cases h8 : ot < 1
                    · have HO : Hid (pvOther 3 ot = false) := Lib.hid (by simp [pvOther]; omega)
                      go_wp2_with fail
                      go_meet
                      exact ⟨by rw [HO.out]; rfl, rfl⟩
                    · have HO : Hid (pvOther 3 ot = true) := Lib.hid (by simp [pvOther]; omega)
                      go_wp2_with fail
                      go_meet
                      exact ⟨by rw [HO.out]; rfl, rfl⟩
                  · have e7 : (kd == 3) = false := by simpa using h7
                    have e8 : (kd != 3) = true := by simpa using h7
                    have HK := Lib.hid h7
                    clear h7
                    by_cases h9 : ot < -1
                    · have HO : Hid (pvOther kd ot = false) := Lib.hid (by simp [pvOther, HK.out]; omega)
                      go_wp2_with fail
                      go_meet
                      exact ⟨by rw [HO.out]; rfl, rfl⟩
                    · by_cases h10 : 12 ≤ ot
                      · have HO : Hid (pvOther kd ot = false) := Lib.hid (by simp [pvOther, HK.out]; omega)
                        go_wp2_with fail
                        go_meet
                        exact ⟨by rw [HO.out]; simp [h10], rfl⟩
                      · have HO : Hid (pvOther kd ot = true) := Lib.hid (by simp [pvOther, HK.out]; omega)
                        go_wp2_with fail
                        go_meet
                        exact ⟨by rw [HO.out]; simp [h10], rfl⟩
                case rest =>
                  obtain ⟨rfl, rfl⟩ := hcut
                  cases ho : pvOther kd ot
                  · have HE : Hid (X = false) := Lib.hid (by rw [← HX.out]; simp [pv, ho])
                    clear ho
                    go_wp2_with fail
                    go_ret
                    exact ⟨by rw [HE.out]; rfl, hb⟩
                  · have HO := Lib.hid ho
                    clear ho
                    simp only [Bool.not_true]
                    go_wp2_with fail
                    go_loopw [69] (fun t wr => ∃ k : Nat, k ≤ L.length ∧ (∀ j, j < k → pvPart cl L j = true) ∧ t = .int .i64 k ∧ Blk wr w.heap.size 29 gcs ∧ Blk wr (w.heap.size + 1) 55 #[.int .i64 kd, .int .i64 en, .int .i64 ot, .int .i64 ru, .slice A L.length c] ∧ Below w.heap.size w wr) (fun t _ => L.length - (intOf t).toNat)
                    case atStart => exact ⟨0, by omega, fun j h => by omega, rfl, HB3.out, HP3.out, hb⟩
                    case round =>
                      clear hb k0 k1 k2 k3 k4
                      obtain ⟨k, hk, hno, rfl, hB, hP, hb⟩ := hrel
                      have HN := Lib.hid hno
                      have HBr := Lib.hid hB
                      have HPr := Lib.hid hP
                      have hz := hb.size
                      have hlP := hP.lt
                      clear hno hB hP
                      by_cases hlt : k < L.length
                      · obtain ⟨b, o, hA, hbo, f0, f1⟩ := Bal.at_ (Rd.now HR.out hb) hlt
                        subst hA
                        have HXk : Hid (L.getD k default = L[k]) := Lib.hid (by rw [List.getD_eq_getElem?_getD, List.getElem?_eq_getElem hlt]; rfl)
                        generalize L[k] = x at *
                        obtain ⟨xc, xa⟩ := x
                        dsimp only at *
                        have HB1 := Lib.hid (HBr.out.alloc (.cells #[.int .i64 xc, .int .i64 xa] 129))
                        have HP1 := Lib.hid (HPr.out.alloc (.cells #[.int .i64 xc, .int .i64 xa] 129))
                        have HX1 := Lib.hid (Blk.new wr 129 #[.int .i64 xc, .int .i64 xa])
                        have hb1 := hb.alloc hz (.cells #[.int .i64 xc, .int .i64 xa] 129)
                        go_upto_region 9 with (first
                          | (refine wpList_load_blk 29 (.tmp 2) rfl (w.heap.size) rfl (by kernel_rfl) (HB1).out Try.underlying29 hgi ?_)
                          | (go_at_call 63; refine (account_any gcs cur y m p cl cA cc ro el eA ec _ xc HG (H.out.step hb1) hn).mono ?_; rintro e w5 ⟨rfl, hb9⟩; have hb5 := bel hb1 hb9; have HB5 := Lib.hid (HB1.out.step hb9); have HP5 := Lib.hid (HP1.out.step hb9); have HX5 := Lib.hid (HX1.out.step hb9); clear hb9))
                        have hb6 := hb5.alloc hb5.size (.cells #[.int .i64 (Ch.fnV cl xc).code, .int .i64 (Ch.fnV cl xc).kind, .int .i64 (Ch.fnV cl xc).basis, .int .i64 (Ch.fnV cl xc).parent] 124)
                        have HB6 := Lib.hid (HB5.out.alloc (.cells #[.int .i64 (Ch.fnV cl xc).code, .int .i64 (Ch.fnV cl xc).kind, .int .i64 (Ch.fnV cl xc).basis, .int .i64 (Ch.fnV cl xc).parent] 124))
                        have HP6 := Lib.hid (HP5.out.alloc (.cells #[.int .i64 (Ch.fnV cl xc).code, .int .i64 (Ch.fnV cl xc).kind, .int .i64 (Ch.fnV cl xc).basis, .int .i64 (Ch.fnV cl xc).parent] 124))
                        have HX6 := Lib.hid (HX5.out.alloc (.cells #[.int .i64 (Ch.fnV cl xc).code, .int .i64 (Ch.fnV cl xc).kind, .int .i64 (Ch.fnV cl xc).basis, .int .i64 (Ch.fnV cl xc).parent] 124))
                        generalize w5.alloc (.cells #[.int .i64 (Ch.fnV cl xc).code, .int .i64 (Ch.fnV cl xc).kind, .int .i64 (Ch.fnV cl xc).basis, .int .i64 (Ch.fnV cl xc).parent] 124) = W6 at *
                        have q0 : ∀ d : Later W6, d.now.cell? ⟨wr.heap.size, 0, none⟩ = some (.int .i64 xc) := fun d => d.cell HX6.out.lt (HX6.out.cell 0)
                        have q1 : ∀ d : Later W6, d.now.cell? ⟨wr.heap.size, 1, none⟩ = some (.int .i64 xa) := fun d => d.cell HX6.out.lt (HX6.out.cell 1)
                        have q4 : ∀ d : Later W6, d.now.cell? ⟨w.heap.size + 1, 4, none⟩ = some (.slice (some ⟨b, o, none⟩) L.length c) := fun d => d.cell HP6.out.lt (HP6.out.cell 4)
                        cases hfb : Ch.fnB cl xc
                        · have HE : Hid (X = false) := Lib.hid (by rw [← HX.out]; unfold pv; rw [allAt_no hlt (by unfold pvPart; rw [HXk.out]; simp [hfb])]; simp)
                          clear hfb
                          refine wp_region_later (by kernel_rfl) (by kernel_rfl) ?_
                          (repeat (go_big_quiet_step ((fail)))); refine wpQuiet_nil ?_; rintro _ ⟨dq, rfl⟩
                          have hbe := bel hb6 dq.below
                          go_wp2_with fail
                          go_ret
                          exact ⟨by rw [HE.out]; rfl, hbe⟩
                        · have HFB := Lib.hid hfb
                          clear hfb
                          by_cases hz0 : xa = 0
                          · have HE : Hid (X = false) := Lib.hid (by rw [← HX.out]; unfold pv; rw [allAt_no hlt (by unfold pvPart; rw [HXk.out]; simp [hz0])]; simp)
                            subst hz0
                            refine wp_region_later (by kernel_rfl) (by kernel_rfl) ?_
                            (repeat (go_big_quiet_step ((fail)))); refine wpQuiet_nil ?_; rintro _ ⟨dq, rfl⟩
                            have hbe := bel hb6 dq.below
                            go_wp2_with fail
                            go_ret
                            exact ⟨by rw [HE.out]; rfl, hbe⟩
                          · have e0 : (xa == 0) = false := by simpa using hz0
                            have HZ0 := Lib.hid hz0
                            clear hz0
                            cases ham : amV xa
                            · have HE : Hid (X = false) := Lib.hid (by rw [← HX.out]; unfold pv; rw [allAt_no hlt (by unfold pvPart; rw [HXk.out]; simp [ham])]; simp)
                              have HMV : Hid (∀ W, Calls Try.prog 64 #[.int .i64 xa] W (BoolPost false W)) := Lib.hid (fun W => (money_any xa W).mono fun e w' h => ⟨by rw [h.1, ham], h.2 ▸ Below.refl _ _⟩)
                              clear ham
                              refine wp_region_later (by kernel_rfl) (by kernel_rfl) ?_
                              (repeat (go_big_quiet_step ((fail)))); go_big_quiet_step ((go_at_call 64; exact Later.call _ (HMV.out _)))
                              (repeat (go_big_quiet_step ((fail)))); refine wpQuiet_nil ?_; rintro _ ⟨dq, rfl⟩
                              have hbe := bel hb6 dq.below
                              go_wp2_with fail
                              go_ret
                              exact ⟨by rw [HE.out]; rfl, hbe⟩
                            · have HMV : Hid (∀ W, Calls Try.prog 64 #[.int .i64 xa] W (BoolPost true W)) := Lib.hid (fun W => (money_any xa W).mono fun e w' h => ⟨by rw [h.1, ham], h.2 ▸ Below.refl _ _⟩)
                              have HAM := Lib.hid ham
                              clear ham
                              by_cases hk0 : k = 0
                              · have HPK : Hid (pvPart cl L k = true) := Lib.hid (by unfold pvPart; rw [HXk.out]; simp [HFB.out, HZ0.out, HAM.out, hk0])
                                have hk1 : k < 1 := by omega
                                have hk2 : (0 < k) = False := by simp; omega
                                have hk3 : decide (0 < k) = false := by simp; omega
                                clear hk0
                                refine wp_region_later (by kernel_rfl) (by kernel_rfl) ?_
                                (repeat (go_big_quiet_step ((fail)))); go_big_quiet_step ((go_at_call 64; exact Later.call _ (HMV.out _)))
                                (repeat (go_big_quiet_step ((fail)))); refine wpQuiet_nil ?_; rintro _ ⟨dq, rfl⟩
                                have hbe := bel hb6 dq.below
                                have hBe := HB6.out.step dq.below
                                have hPe := HP6.out.step dq.below
                                go_wp2_with fail
                                go_roundw
                                case rel =>
                                  refine ⟨k + 1, by omega, fun j hj => ?_, by go_num, hBe, hPe, hbe⟩
                                  by_cases ej : j = k
                                  · subst ej; exact HPK.out
                                  · exact HN.out j (by omega)
                                case measure => simp [intOf]; omega
                              · obtain ⟨q, hq⟩ : ∃ q : Nat, k = q + 1 := ⟨k - 1, by omega⟩
                                have hql : q < L.length := by omega
                                obtain ⟨b2, o2, hA2, hbq, g0, -⟩ := Bal.at_ HR.out hql
                                injection hA2 with hA2
                                injection hA2 with hA3 hA4
                                subst hA3 hA4
                                have HXq : Hid (L.getD (k - 1) default = L[q]) := Lib.hid (by subst hq; rw [Nat.add_sub_cancel, List.getD_eq_getElem?_getD, List.getElem?_eq_getElem hql]; rfl)
                                generalize L[q] = pr at *
                                obtain ⟨pc, pa⟩ := pr
                                dsimp only at *
                                have hpos : 0 < k := by omega
                                have ew : IntKind.i64.wrap ((k : Int) - 1) = (q : Int) := by rw [IntWalk.i64_in _ (by omega)]; omega
                                have ew2 : (k : Int) - 1 = (q : Int) := by omega
                                have HQ := Lib.hid hq
                                have q5 : ∀ d : Later W6, d.now.cell? ⟨b, o + q * 2, none⟩ = some (.int .i64 pc) := fun d => ((bel hb6 d.below).cell (p := ⟨b, o + q * 2, none⟩) hbq).trans g0
                                clear hq g0 hk0
                                by_cases hle : xc ≤ pc
                                · have HE : Hid (X = false) := Lib.hid (by rw [← HX.out]; unfold pv; rw [allAt_no hlt (by unfold pvPart; rw [HXk.out, HXq.out]; simp [HQ.out]; intros; omega)]; simp)
                                  refine wp_region_later (by kernel_rfl) (by kernel_rfl) ?_
                                  (repeat (go_big_quiet_step ((fail)))); go_big_quiet_step ((go_at_call 64; exact Later.call _ (HMV.out _)))
                                  (repeat (go_big_quiet_step ((fail)))); refine wpQuiet_nil ?_; rintro _ ⟨dq, rfl⟩
                                  have hbe := bel hb6 dq.below
                                  clear ew ew2
                                  go_wp2_with fail
                                  go_ret
                                  exact ⟨by rw [HE.out]; rfl, hbe⟩
                                · have HPK : Hid (pvPart cl L k = true) := Lib.hid (by unfold pvPart; rw [HXk.out, HXq.out]; simp [HFB.out, HZ0.out, HAM.out]; omega)
                                  refine wp_region_later (by kernel_rfl) (by kernel_rfl) ?_
                                  (repeat (go_big_quiet_step ((fail)))); go_big_quiet_step ((go_at_call 64; exact Later.call _ (HMV.out _)))
                                  (repeat (go_big_quiet_step ((fail)))); refine wpQuiet_nil ?_; rintro _ ⟨dq, rfl⟩
                                  have hbe := bel hb6 dq.below
                                  have hBe := HB6.out.step dq.below
                                  have hPe := HP6.out.step dq.below
                                  clear ew ew2
                                  go_wp2_with fail
                                  go_roundw
                                  case rel =>
                                    refine ⟨k + 1, by omega, fun j hj => ?_, by go_num, hBe, hPe, hbe⟩
                                    by_cases ej : j = k
                                    · subst ej; exact HPK.out
                                    · exact HN.out j (by omega)
                                  case measure => simp [intOf]; omega
                      · have HA : Hid (allAt L.length (pvPart cl L) = true) := Lib.hid (allAt_yes (fun j hj => HN.out j (by omega)))
                        have k0 : wr.cell? ⟨w.heap.size + 1, 0, none⟩ = some (.int .i64 kd) := HPr.out.cell 0
                        have k4 : wr.cell? ⟨w.heap.size + 1, 4, none⟩ = some (.slice A L.length c) := HPr.out.cell 4
                        have HXX : Hid (X = pvLast kd L) := Lib.hid (by rw [← HX.out]; unfold pv; rw [HA.out, HO.out]; simp [pvHead]; omega)
                        by_cases h7 : kd = 1 ∨ kd = 2
                        · have HE : Hid (X = decide (L.length = 1)) := Lib.hid (by rw [HXX.out]; unfold pvLast; rw [if_pos h7])
                          have hfin : ((L.length : Int) == 1) = decide (L.length = 1) := by rw [Bool.eq_iff_iff]; simp; omega
                          rcases h7 with rfl | rfl
                          · go_wp2_with fail
                            go_ret
                            exact ⟨by rw [HE.out]; first | rfl | (rw [← hfin]; rfl) | simp, hb⟩
                          · go_wp2_with fail
                            go_ret
                            exact ⟨by rw [HE.out]; first | rfl | (rw [← hfin]; rfl) | simp, hb⟩
                        · have n1 : (kd == 1) = false := by simp; omega
                          have n2 : (kd == 2) = false := by simp; omega
                          have HE : Hid (X = decide (sumW L = 0)) := Lib.hid (by rw [HXX.out]; unfold pvLast; rw [if_neg h7])
                          have HS := Lib.hid (sum_any L A c wr (Rd.now HR.out hb) (by omega))
                          clear h7
                          generalize sumW L = sw at *
                          go_wp2_with (go_at_call 65; refine HS.out.mono ?_; rintro e w7 ⟨rfl, hb9⟩; replace hb := bel hb hb9; clear hb9)
                          go_ret
                          exact ⟨by rw [HE.out]; first | rfl | simp, hb⟩
end
end Go.Proofs.Ytnkmjdaeafeaaaa
/- The walk of the reference's Valid of a posting. -/
namespace Go.Proofs.Ytnkmjdaeafeaaaa
set_option linter.unusedVariables false
set_option linter.unusedSimpArgs false
open Go.RowKit

section
variable (gcs : Array Value) (cur : ByteArray) (y m p : Int) (cl : List Acc) (cA : Option Addr) (cc : Nat) (ro : RolesR) (el : List EntR) (eA : Option Addr) (ec : Nat) (w : World)
set_option maxRecDepth 100000 in
set_option maxHeartbeats 8000000 in
theorem rpvalid_any (kd en ot ru : Int) (L : List Bal) (A : Option Addr) (c : Nat) (HG : Hid (gcs = #[.string cur, .int .i64 y, .int .i64 m, .int .i64 p, .slice cA cl.length cc, .int .i64 ro.investment, .int .i64 ro.goodwill, .int .i64 ro.associates, .int .i64 ro.inventory, .int .i64 ro.reserve, .int .i64 ro.minority, .int .i64 ro.retained, .int .i64 ro.acquired, .int .i64 ro.owners, .int .i64 ro.disposal, .int .i64 ro.associateProfit, .int .i64 ro.dividends, .int .i64 ro.minorityProfit, .int .i64 ro.difference, .int .i64 ro.margin, .slice eA el.length ec])) (h : GIn w cl cA el eA) (hF : FewOk cur cl el) (hr : Rd w w.heap.size 2 A L.length (cellsOf Bal.cells L)) (hL : L.length ≤ 200) :
    Calls Try.prog 23 #[.agg gcs, .agg #[.int .i64 kd, .int .i64 en, .int .i64 ot, .int .i64 ru, .slice A L.length c]] w (BoolPost (pv (Gr.gv cur cl ro el (Cal.ok y m p)) cl kd en ot ru L) w) := by
  have hn : cl.length ≤ 300000 := by have := hF.ch; omega
  have H := Lib.hid h
  have HR := Lib.hid hr
  have HVC := Lib.hid (fun W (h : GIn W cl cA el eA) => rgvalid_any gcs cur y m p cl cA cc ro el eA ec W HG h hF)
  clear h hF hr
  have hgi : (Try.prog.info? 29).map (·.size) = some gcs.size := by rw [HG.out]; exact grp_size
  have hb : Below w.heap.size w ((w.alloc (.cells gcs 29)).alloc (.cells #[.int .i64 kd, .int .i64 en, .int .i64 ot, .int .i64 ru, .slice A L.length c] 55)) := ((Below.refl _ _).alloc (Nat.le_refl _) _).alloc (by simp) _
  have HB := Lib.hid ((Blk.new w 29 gcs).alloc (.cells #[.int .i64 kd, .int .i64 en, .int .i64 ot, .int .i64 ru, .slice A L.length c] 55))
  have HP := Lib.hid (blk_new2 w (.cells gcs 29) 55 #[.int .i64 kd, .int .i64 en, .int .i64 ot, .int .i64 ru, .slice A L.length c])
  generalize Gr.gv cur cl ro el (Cal.ok y m p) = V at *
  generalize hX : pv V cl kd en ot ru L = X at *
  have HX := Lib.hid hX
  clear hX
  go_enter Try.func23, Try.ntmps23
  go_upto_region 1 with fail
  generalize (w.alloc (.cells gcs 29)).alloc (.cells #[.int .i64 kd, .int .i64 en, .int .i64 ot, .int .i64 ru, .slice A L.length c] 55) = W at *
  cases V
  · have HE : Hid (X = false) := Lib.hid (by rw [← HX.out]; rfl)
    go_wp2_with
      (first
        | (refine wpList_load_blk 29 (.tmp 2) rfl (w.heap.size) rfl (by kernel_rfl) (HB).out Try.underlying29 hgi ?_)
        | (go_at_call 12; refine (HVC.out _ (H.out.step hb)).mono ?_; rintro e w3 ⟨rfl, hb3⟩; have HB3 := Lib.hid (HB.out.step hb3); have HP3 := Lib.hid (HP.out.step hb3); replace hb := bel hb hb3; clear hb3; have k0 : w3.cell? ⟨w.heap.size + 1, 0, none⟩ = some (.int .i64 kd) := HP3.out.cell 0; have k1 : w3.cell? ⟨w.heap.size + 1, 1, none⟩ = some (.int .i64 en) := HP3.out.cell 1; have k2 : w3.cell? ⟨w.heap.size + 1, 2, none⟩ = some (.int .i64 ot) := HP3.out.cell 2; have k3 : w3.cell? ⟨w.heap.size + 1, 3, none⟩ = some (.int .i64 ru) := HP3.out.cell 3; have k4 : w3.cell? ⟨w.heap.size + 1, 4, none⟩ = some (.slice A L.length c) := HP3.out.cell 4))
    go_ret
    exact ⟨by rw [HE.out]; rfl, hb⟩
  · by_cases h1 : kd < 1
    · have HE : Hid (X = false) := Lib.hid (by rw [← HX.out]; simp [pv, pvHead]; omega)
      go_wp2_with
        (first
          | (refine wpList_load_blk 29 (.tmp 2) rfl (w.heap.size) rfl (by kernel_rfl) (HB).out Try.underlying29 hgi ?_)
          | (go_at_call 12; refine (HVC.out _ (H.out.step hb)).mono ?_; rintro e w3 ⟨rfl, hb3⟩; have HB3 := Lib.hid (HB.out.step hb3); have HP3 := Lib.hid (HP.out.step hb3); replace hb := bel hb hb3; clear hb3; have k0 : w3.cell? ⟨w.heap.size + 1, 0, none⟩ = some (.int .i64 kd) := HP3.out.cell 0; have k1 : w3.cell? ⟨w.heap.size + 1, 1, none⟩ = some (.int .i64 en) := HP3.out.cell 1; have k2 : w3.cell? ⟨w.heap.size + 1, 2, none⟩ = some (.int .i64 ot) := HP3.out.cell 2; have k3 : w3.cell? ⟨w.heap.size + 1, 3, none⟩ = some (.int .i64 ru) := HP3.out.cell 3; have k4 : w3.cell? ⟨w.heap.size + 1, 4, none⟩ = some (.slice A L.length c) := HP3.out.cell 4))
      go_ret
      exact ⟨by rw [HE.out]; rfl, hb⟩
    · by_cases h2 : 10 < kd
      · have HE : Hid (X = false) := Lib.hid (by rw [← HX.out]; simp [pv, pvHead]; omega)
        go_wp2_with
          (first
            | (refine wpList_load_blk 29 (.tmp 2) rfl (w.heap.size) rfl (by kernel_rfl) (HB).out Try.underlying29 hgi ?_)
            | (go_at_call 12; refine (HVC.out _ (H.out.step hb)).mono ?_; rintro e w3 ⟨rfl, hb3⟩; have HB3 := Lib.hid (HB.out.step hb3); have HP3 := Lib.hid (HP.out.step hb3); replace hb := bel hb hb3; clear hb3; have k0 : w3.cell? ⟨w.heap.size + 1, 0, none⟩ = some (.int .i64 kd) := HP3.out.cell 0; have k1 : w3.cell? ⟨w.heap.size + 1, 1, none⟩ = some (.int .i64 en) := HP3.out.cell 1; have k2 : w3.cell? ⟨w.heap.size + 1, 2, none⟩ = some (.int .i64 ot) := HP3.out.cell 2; have k3 : w3.cell? ⟨w.heap.size + 1, 3, none⟩ = some (.int .i64 ru) := HP3.out.cell 3; have k4 : w3.cell? ⟨w.heap.size + 1, 4, none⟩ = some (.slice A L.length c) := HP3.out.cell 4))
        go_ret
        exact ⟨by rw [HE.out]; rfl, hb⟩
      · by_cases h3 : en < -1
        · have HE : Hid (X = false) := Lib.hid (by rw [← HX.out]; simp [pv, pvHead]; omega)
          go_wp2_with
            (first
              | (refine wpList_load_blk 29 (.tmp 2) rfl (w.heap.size) rfl (by kernel_rfl) (HB).out Try.underlying29 hgi ?_)
              | (go_at_call 12; refine (HVC.out _ (H.out.step hb)).mono ?_; rintro e w3 ⟨rfl, hb3⟩; have HB3 := Lib.hid (HB.out.step hb3); have HP3 := Lib.hid (HP.out.step hb3); replace hb := bel hb hb3; clear hb3; have k0 : w3.cell? ⟨w.heap.size + 1, 0, none⟩ = some (.int .i64 kd) := HP3.out.cell 0; have k1 : w3.cell? ⟨w.heap.size + 1, 1, none⟩ = some (.int .i64 en) := HP3.out.cell 1; have k2 : w3.cell? ⟨w.heap.size + 1, 2, none⟩ = some (.int .i64 ot) := HP3.out.cell 2; have k3 : w3.cell? ⟨w.heap.size + 1, 3, none⟩ = some (.int .i64 ru) := HP3.out.cell 3; have k4 : w3.cell? ⟨w.heap.size + 1, 4, none⟩ = some (.slice A L.length c) := HP3.out.cell 4))
          go_ret
          exact ⟨by rw [HE.out]; rfl, hb⟩
        · by_cases h4 : 11 < en
          · have HE : Hid (X = false) := Lib.hid (by rw [← HX.out]; simp [pv, pvHead]; omega)
            go_wp2_with
              (first
                | (refine wpList_load_blk 29 (.tmp 2) rfl (w.heap.size) rfl (by kernel_rfl) (HB).out Try.underlying29 hgi ?_)
                | (go_at_call 12; refine (HVC.out _ (H.out.step hb)).mono ?_; rintro e w3 ⟨rfl, hb3⟩; have HB3 := Lib.hid (HB.out.step hb3); have HP3 := Lib.hid (HP.out.step hb3); replace hb := bel hb hb3; clear hb3; have k0 : w3.cell? ⟨w.heap.size + 1, 0, none⟩ = some (.int .i64 kd) := HP3.out.cell 0; have k1 : w3.cell? ⟨w.heap.size + 1, 1, none⟩ = some (.int .i64 en) := HP3.out.cell 1; have k2 : w3.cell? ⟨w.heap.size + 1, 2, none⟩ = some (.int .i64 ot) := HP3.out.cell 2; have k3 : w3.cell? ⟨w.heap.size + 1, 3, none⟩ = some (.int .i64 ru) := HP3.out.cell 3; have k4 : w3.cell? ⟨w.heap.size + 1, 4, none⟩ = some (.slice A L.length c) := HP3.out.cell 4))
            go_ret
            exact ⟨by rw [HE.out]; rfl, hb⟩
          · by_cases h5 : ru < 0
            · have HE : Hid (X = false) := Lib.hid (by rw [← HX.out]; simp [pv, pvHead]; omega)
              go_wp2_with
                (first
                  | (refine wpList_load_blk 29 (.tmp 2) rfl (w.heap.size) rfl (by kernel_rfl) (HB).out Try.underlying29 hgi ?_)
                  | (go_at_call 12; refine (HVC.out _ (H.out.step hb)).mono ?_; rintro e w3 ⟨rfl, hb3⟩; have HB3 := Lib.hid (HB.out.step hb3); have HP3 := Lib.hid (HP.out.step hb3); replace hb := bel hb hb3; clear hb3; have k0 : w3.cell? ⟨w.heap.size + 1, 0, none⟩ = some (.int .i64 kd) := HP3.out.cell 0; have k1 : w3.cell? ⟨w.heap.size + 1, 1, none⟩ = some (.int .i64 en) := HP3.out.cell 1; have k2 : w3.cell? ⟨w.heap.size + 1, 2, none⟩ = some (.int .i64 ot) := HP3.out.cell 2; have k3 : w3.cell? ⟨w.heap.size + 1, 3, none⟩ = some (.int .i64 ru) := HP3.out.cell 3; have k4 : w3.cell? ⟨w.heap.size + 1, 4, none⟩ = some (.slice A L.length c) := HP3.out.cell 4))
              go_ret
              exact ⟨by rw [HE.out]; rfl, hb⟩
            · by_cases h6 : L.length = 0
              · have hl0 : ((L.length : Int) == 0) = true := by simpa using h6
                have HE : Hid (X = false) := Lib.hid (by rw [← HX.out]; simp [pv, pvHead]; omega)
                go_wp2_with
                  (first
                    | (refine wpList_load_blk 29 (.tmp 2) rfl (w.heap.size) rfl (by kernel_rfl) (HB).out Try.underlying29 hgi ?_)
                    | (go_at_call 12; refine (HVC.out _ (H.out.step hb)).mono ?_; rintro e w3 ⟨rfl, hb3⟩; have HB3 := Lib.hid (HB.out.step hb3); have HP3 := Lib.hid (HP.out.step hb3); replace hb := bel hb hb3; clear hb3; have k0 : w3.cell? ⟨w.heap.size + 1, 0, none⟩ = some (.int .i64 kd) := HP3.out.cell 0; have k1 : w3.cell? ⟨w.heap.size + 1, 1, none⟩ = some (.int .i64 en) := HP3.out.cell 1; have k2 : w3.cell? ⟨w.heap.size + 1, 2, none⟩ = some (.int .i64 ot) := HP3.out.cell 2; have k3 : w3.cell? ⟨w.heap.size + 1, 3, none⟩ = some (.int .i64 ru) := HP3.out.cell 3; have k4 : w3.cell? ⟨w.heap.size + 1, 4, none⟩ = some (.slice A L.length c) := HP3.out.cell 4))
                go_ret
                exact ⟨by rw [HE.out]; rfl, hb⟩
              · have hl0 : ((L.length : Int) == 0) = false := by simpa using h6
                go_upto_region 3 with
                  (first
                    | (refine wpList_load_blk 29 (.tmp 2) rfl (w.heap.size) rfl (by kernel_rfl) (HB).out Try.underlying29 hgi ?_)
                    | (go_at_call 12; refine (HVC.out _ (H.out.step hb)).mono ?_; rintro e w3 ⟨rfl, hb3⟩; have HB3 := Lib.hid (HB.out.step hb3); have HP3 := Lib.hid (HP.out.step hb3); replace hb := bel hb hb3; clear hb3; have k0 : w3.cell? ⟨w.heap.size + 1, 0, none⟩ = some (.int .i64 kd) := HP3.out.cell 0; have k1 : w3.cell? ⟨w.heap.size + 1, 1, none⟩ = some (.int .i64 en) := HP3.out.cell 1; have k2 : w3.cell? ⟨w.heap.size + 1, 2, none⟩ = some (.int .i64 ot) := HP3.out.cell 2; have k3 : w3.cell? ⟨w.heap.size + 1, 3, none⟩ = some (.int .i64 ru) := HP3.out.cell 3; have k4 : w3.cell? ⟨w.heap.size + 1, 4, none⟩ = some (.slice A L.length c) := HP3.out.cell 4))
                have HK0 := Lib.hid k0
                have HK2 := Lib.hid k2
                have HK4 := Lib.hid k4
                go_cut [62] (fun s62 wx => s62 = .bool (!pvOther kd ot) ∧ wx = w3)
                case first =>
                  by_cases h7 : kd = 3
                  · subst h7
                    by_cases h8 : ot < 1
                    · have HO : Hid (pvOther 3 ot = false) := Lib.hid (by simp [pvOther]; omega)
                      go_wp2_with fail
                      go_meet
                      exact ⟨by rw [HO.out]; rfl, rfl⟩
                    · have HO : Hid (pvOther 3 ot = true) := Lib.hid (by simp [pvOther]; omega)
                      go_wp2_with fail
                      go_meet
                      exact ⟨by rw [HO.out]; rfl, rfl⟩
                  · have e7 : (kd == 3) = false := by simpa using h7
                    have e8 : (kd != 3) = true := by simpa using h7
                    have HK := Lib.hid h7
                    clear h7
                    by_cases h9 : ot < -1
                    · have HO : Hid (pvOther kd ot = false) := Lib.hid (by simp [pvOther, HK.out]; omega)
                      go_wp2_with fail
                      go_meet
                      exact ⟨by rw [HO.out]; rfl, rfl⟩
                    · by_cases h10 : 11 < ot
                      · have HO : Hid (pvOther kd ot = false) := Lib.hid (by simp [pvOther, HK.out]; omega)
                        go_wp2_with fail
                        go_meet
                        exact ⟨by rw [HO.out]; simp [h10], rfl⟩
                      · have HO : Hid (pvOther kd ot = true) := Lib.hid (by simp [pvOther, HK.out]; omega)
                        go_wp2_with fail
                        go_meet
                        exact ⟨by rw [HO.out]; simp [h10], rfl⟩
                case rest =>
                  obtain ⟨rfl, rfl⟩ := hcut
                  cases ho : pvOther kd ot
                  · have HE : Hid (X = false) := Lib.hid (by rw [← HX.out]; simp [pv, ho])
                    clear ho
                    go_wp2_with fail
                    go_ret
                    exact ⟨by rw [HE.out]; rfl, hb⟩
                  · have HO := Lib.hid ho
                    clear ho
                    simp only [Bool.not_true]
                    go_wp2_with fail
                    go_loopw [5] (fun t wr => ∃ k : Nat, k ≤ L.length ∧ (∀ j, j < k → pvPart cl L j = true) ∧ t = .int .i64 k ∧ Blk wr w.heap.size 29 gcs ∧ Blk wr (w.heap.size + 1) 55 #[.int .i64 kd, .int .i64 en, .int .i64 ot, .int .i64 ru, .slice A L.length c] ∧ Below w.heap.size w wr) (fun t _ => L.length - (intOf t).toNat)
                    case atStart => exact ⟨0, by omega, fun j h => by omega, rfl, HB3.out, HP3.out, hb⟩
                    case round =>
                      clear hb k0 k1 k2 k3 k4
                      obtain ⟨k, hk, hno, rfl, hB, hP, hb⟩ := hrel
                      have HN := Lib.hid hno
                      have HBr := Lib.hid hB
                      have HPr := Lib.hid hP
                      have hz := hb.size
                      have k4 : wr.cell? ⟨w.heap.size + 1, 4, none⟩ = some (.slice A L.length c) := hP.cell 4
                      clear hno hB hP
                      by_cases hlt : k < L.length
                      · obtain ⟨b, o, hA, hbo, f0, f1⟩ := Bal.at_ (Rd.now HR.out hb) hlt
                        subst hA
                        have HXk : Hid (L.getD k default = L[k]) := Lib.hid (by rw [List.getD_eq_getElem?_getD, List.getElem?_eq_getElem hlt]; rfl)
                        generalize L[k] = x at *
                        obtain ⟨xc, xa⟩ := x
                        dsimp only at *
                        have q0 : ∀ d : Later wr, d.now.cell? ⟨b, o + k * 2, none⟩ = some (.int .i64 xc) := fun d => d.cell hbo f0
                        have q1 : ∀ d : Later wr, d.now.cell? ⟨b, o + k * 2 + 1, none⟩ = some (.int .i64 xa) := fun d => d.cell hbo f1
                        have q4 : ∀ d : Later wr, d.now.cell? ⟨w.heap.size + 1, 4, none⟩ = some (.slice (some ⟨b, o, none⟩) L.length c) := fun d => d.cell HPr.out.lt (HPr.out.cell 4)
                        have q6 : ∀ d : Later wr, d.now.cell? ⟨w.heap.size, 4, none⟩ = some (.slice cA cl.length cc) := fun d => d.cell HBr.out.lt ((HBr.out.cell 4).trans (by rw [HG.out]; rfl))
                        have HHAS : Hid (∀ W, Below wr.heap.size wr W → Calls Try.prog 66 #[.slice cA cl.length cc, .int .i64 xc] W (BoolPost (Ch.fnB cl xc) W)) := Lib.hid (fun W h => has_any cl xc cA cc W (Rd.now (Rd.now H.out.ch hb) h) hn)
                        go_wp2_with fail
                        clear k4
                        cases hfb : Ch.fnB cl xc
                        · have HE : Hid (X = false) := Lib.hid (by rw [← HX.out]; unfold pv; rw [allAt_no hlt (by unfold pvPart; rw [HXk.out]; simp [hfb])]; simp)
                          rw [hfb] at HHAS
                          clear hfb
                          refine wp_region_later (by kernel_rfl) (by kernel_rfl) ?_
                          (repeat (go_big_quiet_step ((fail)))); go_big_quiet_step ((go_at_call 66; exact Later.call _ (HHAS.out _ (Later.below _))))
                          (repeat (go_big_quiet_step ((fail)))); refine wpQuiet_nil ?_; rintro _ ⟨dq, rfl⟩
                          have hbe := bel hb dq.below
                          go_wp2_with fail
                          go_ret
                          exact ⟨by rw [HE.out]; rfl, hbe⟩
                        · have HFB := Lib.hid hfb
                          rw [hfb] at HHAS
                          clear hfb
                          cases ham : amV xa
                          · have HE : Hid (X = false) := Lib.hid (by rw [← HX.out]; unfold pv; rw [allAt_no hlt (by unfold pvPart; rw [HXk.out]; simp [ham])]; simp)
                            have HMV : Hid (∀ W, Calls Try.prog 67 #[.int .i64 xa] W (BoolPost false W)) := Lib.hid (fun W => (rmoney_any xa W).mono fun e w' h => ⟨by rw [h.1, ham], h.2 ▸ Below.refl _ _⟩)
                            clear ham
                            refine wp_region_later (by kernel_rfl) (by kernel_rfl) ?_
                            (repeat (go_big_quiet_step ((fail)))); go_big_quiet_step ((go_at_call 66; exact Later.call _ (HHAS.out _ (Later.below _))))
                            (repeat (go_big_quiet_step ((fail)))); go_big_quiet_step ((go_at_call 67; exact Later.call _ (HMV.out _)))
                            (repeat (go_big_quiet_step ((fail)))); refine wpQuiet_nil ?_; rintro _ ⟨dq, rfl⟩
                            have hbe := bel hb dq.below
                            go_wp2_with fail
                            go_ret
                            exact ⟨by rw [HE.out]; rfl, hbe⟩
                          · have HMV : Hid (∀ W, Calls Try.prog 67 #[.int .i64 xa] W (BoolPost true W)) := Lib.hid (fun W => (rmoney_any xa W).mono fun e w' h => ⟨by rw [h.1, ham], h.2 ▸ Below.refl _ _⟩)
                            have HAM := Lib.hid ham
                            clear ham
                            by_cases hz0 : xa = 0
                            · have HE : Hid (X = false) := Lib.hid (by rw [← HX.out]; unfold pv; rw [allAt_no hlt (by unfold pvPart; rw [HXk.out]; simp [hz0])]; simp)
                              subst hz0
                              refine wp_region_later (by kernel_rfl) (by kernel_rfl) ?_
                              (repeat (go_big_quiet_step ((fail)))); go_big_quiet_step ((go_at_call 66; exact Later.call _ (HHAS.out _ (Later.below _))))
                              (repeat (go_big_quiet_step ((fail)))); go_big_quiet_step ((go_at_call 67; exact Later.call _ (HMV.out _)))
                              (repeat (go_big_quiet_step ((fail)))); refine wpQuiet_nil ?_; rintro _ ⟨dq, rfl⟩
                              have hbe := bel hb dq.below
                              go_wp2_with fail
                              go_ret
                              exact ⟨by rw [HE.out]; rfl, hbe⟩
                            · have e0 : (xa == 0) = false := by simpa using hz0
                              have HZ0 := Lib.hid hz0
                              clear hz0
                              by_cases hk0 : k = 0
                              · have HPK : Hid (pvPart cl L k = true) := Lib.hid (by unfold pvPart; rw [HXk.out]; simp [HFB.out, HZ0.out, HAM.out, hk0])
                                have hk1 : k < 1 := by omega
                                have hk2 : (0 < k) = False := by simp; omega
                                have hk3 : decide (0 < k) = false := by simp; omega
                                clear hk0
                                refine wp_region_later (by kernel_rfl) (by kernel_rfl) ?_
                                (repeat (go_big_quiet_step ((fail)))); go_big_quiet_step ((go_at_call 66; exact Later.call _ (HHAS.out _ (Later.below _))))
                                (repeat (go_big_quiet_step ((fail)))); go_big_quiet_step ((go_at_call 67; exact Later.call _ (HMV.out _)))
                                (repeat (go_big_quiet_step ((fail)))); refine wpQuiet_nil ?_; rintro _ ⟨dq, rfl⟩
                                have hbe := bel hb dq.below
                                have hBe := HBr.out.step dq.below
                                have hPe := HPr.out.step dq.below
                                go_wp2_with fail
                                go_roundw
                                case rel =>
                                  refine ⟨k + 1, by omega, fun j hj => ?_, by go_num, hBe, hPe, hbe⟩
                                  by_cases ej : j = k
                                  · subst ej; exact HPK.out
                                  · exact HN.out j (by omega)
                                case measure => simp [intOf]; omega
                              · obtain ⟨q, hq⟩ : ∃ q : Nat, k = q + 1 := ⟨k - 1, by omega⟩
                                have hql : q < L.length := by omega
                                obtain ⟨b2, o2, hA2, hbq, g0, -⟩ := Bal.at_ HR.out hql
                                injection hA2 with hA2
                                injection hA2 with hA3 hA4
                                subst hA3 hA4
                                have HXq : Hid (L.getD (k - 1) default = L[q]) := Lib.hid (by subst hq; rw [Nat.add_sub_cancel, List.getD_eq_getElem?_getD, List.getElem?_eq_getElem hql]; rfl)
                                generalize L[q] = pr at *
                                obtain ⟨pc, pa⟩ := pr
                                dsimp only at *
                                have hpos : 0 < k := by omega
                                have ew : IntKind.i64.wrap ((k : Int) - 1) = (q : Int) := by rw [IntWalk.i64_in _ (by omega)]; omega
                                have ew2 : (k : Int) - 1 = (q : Int) := by omega
                                have HQ := Lib.hid hq
                                have q5 : ∀ d : Later wr, d.now.cell? ⟨b, o + q * 2, none⟩ = some (.int .i64 pc) := fun d => ((bel hb d.below).cell (p := ⟨b, o + q * 2, none⟩) hbq).trans g0
                                clear hq g0 hk0
                                by_cases hle : xc ≤ pc
                                · have HE : Hid (X = false) := Lib.hid (by rw [← HX.out]; unfold pv; rw [allAt_no hlt (by unfold pvPart; rw [HXk.out, HXq.out]; simp [HQ.out]; intros; omega)]; simp)
                                  refine wp_region_later (by kernel_rfl) (by kernel_rfl) ?_
                                  (repeat (go_big_quiet_step ((fail)))); go_big_quiet_step ((go_at_call 66; exact Later.call _ (HHAS.out _ (Later.below _))))
                                  (repeat (go_big_quiet_step ((fail)))); go_big_quiet_step ((go_at_call 67; exact Later.call _ (HMV.out _)))
                                  (repeat (go_big_quiet_step ((fail)))); refine wpQuiet_nil ?_; rintro _ ⟨dq, rfl⟩
                                  have hbe := bel hb dq.below
                                  clear ew ew2
                                  go_wp2_with fail
                                  go_ret
                                  exact ⟨by rw [HE.out]; rfl, hbe⟩
                                · have HPK : Hid (pvPart cl L k = true) := Lib.hid (by unfold pvPart; rw [HXk.out, HXq.out]; simp [HFB.out, HZ0.out, HAM.out]; omega)
                                  refine wp_region_later (by kernel_rfl) (by kernel_rfl) ?_
                                  (repeat (go_big_quiet_step ((fail)))); go_big_quiet_step ((go_at_call 66; exact Later.call _ (HHAS.out _ (Later.below _))))
                                  (repeat (go_big_quiet_step ((fail)))); go_big_quiet_step ((go_at_call 67; exact Later.call _ (HMV.out _)))
                                  (repeat (go_big_quiet_step ((fail)))); refine wpQuiet_nil ?_; rintro _ ⟨dq, rfl⟩
                                  have hbe := bel hb dq.below
                                  have hBe := HBr.out.step dq.below
                                  have hPe := HPr.out.step dq.below
                                  clear ew ew2
                                  go_wp2_with fail
                                  go_roundw
                                  case rel =>
                                    refine ⟨k + 1, by omega, fun j hj => ?_, by go_num, hBe, hPe, hbe⟩
                                    by_cases ej : j = k
                                    · subst ej; exact HPK.out
                                    · exact HN.out j (by omega)
                                  case measure => simp [intOf]; omega
                      · have HA : Hid (allAt L.length (pvPart cl L) = true) := Lib.hid (allAt_yes (fun j hj => HN.out j (by omega)))
                        have k0 : wr.cell? ⟨w.heap.size + 1, 0, none⟩ = some (.int .i64 kd) := HPr.out.cell 0
                        have k4 : wr.cell? ⟨w.heap.size + 1, 4, none⟩ = some (.slice A L.length c) := HPr.out.cell 4
                        have HXX : Hid (X = pvLast kd L) := Lib.hid (by rw [← HX.out]; unfold pv; rw [HA.out, HO.out]; simp [pvHead]; omega)
                        by_cases h7 : kd = 1 ∨ kd = 2
                        · have HE : Hid (X = decide (L.length = 1)) := Lib.hid (by rw [HXX.out]; unfold pvLast; rw [if_pos h7])
                          have hfin : ((L.length : Int) == 1) = decide (L.length = 1) := by rw [Bool.eq_iff_iff]; simp; omega
                          rcases h7 with rfl | rfl
                          · go_wp2_with fail
                            go_ret
                            exact ⟨by rw [HE.out]; first | rfl | (rw [← hfin]; rfl) | simp, hb⟩
                          · go_wp2_with fail
                            go_ret
                            exact ⟨by rw [HE.out]; first | rfl | (rw [← hfin]; rfl) | simp, hb⟩
                        · have n1 : (kd == 1) = false := by simp; omega
                          have n2 : (kd == 2) = false := by simp; omega
                          have HE : Hid (X = decide (sumW L = 0)) := Lib.hid (by rw [HXX.out]; unfold pvLast; rw [if_neg h7])
                          have HS := Lib.hid (rsum_any L A c wr (Rd.now HR.out hb) (by omega))
                          clear h7
                          generalize sumW L = sw at *
                          go_wp2_with (go_at_call 68; refine HS.out.mono ?_; rintro e w7 ⟨rfl, hb9⟩; replace hb := bel hb hb9; clear hb9)
                          go_ret
                          exact ⟨by rw [HE.out]; first | rfl | simp, hb⟩
end
end Go.Proofs.Ytnkmjdaeafeaaaa
