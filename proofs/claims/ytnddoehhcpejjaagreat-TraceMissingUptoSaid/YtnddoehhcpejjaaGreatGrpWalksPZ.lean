/- Texts of this claim, put together. -/
import Derived.Test.YtnddoehhcpejjaaGreatJAO
import Derived.Test.YtnddoehhcpejjaaGreatJAD
import Derived.Deep.DeepCutAuto
/- The walk of the reference's books. -/
namespace Go.Proofs.YtnddoehhcpejjaaGreat
set_option linter.unusedVariables false
set_option linter.unusedSimpArgs false
open Go.RowKit

def Gr.bk (cur : ByteArray) (cl : List Acc) (ro : RolesR) (cal : Bool) : Bool := Gr.curV cur && (cal && Gr.accsV cl (Gr.roles ro))
theorem codeBefore_yes {R : List RoleR} {k j : Nat} (hk : k < R.length) (hj : j < k) (h1 : (R[j]'(by omega)).code = R[k].code) : Gr.codeBefore R k = true := by
  unfold Gr.codeBefore
  rw [getD_lt R k default hk, List.any_eq_true]
  refine ⟨R[j]'(by omega), ?_, by rw [h1]; simp⟩
  rw [List.mem_take_iff_getElem]
  exact ⟨j, by omega, rfl⟩
theorem codeBefore_no {R : List RoleR} {k : Nat} (hk : k < R.length) (h : ∀ j (hj : j < k), (R[j]'(by omega)).code ≠ R[k].code) : Gr.codeBefore R k = false := by
  unfold Gr.codeBefore
  rw [getD_lt R k default hk, List.any_eq_false]
  intro x hx
  rw [List.mem_take_iff_getElem] at hx
  obtain ⟨j, hj, rfl⟩ := hx
  have := h j (by omega)
  simpa using this
theorem bk_no {cur : ByteArray} {cl : List Acc} {ro : RolesR} {cal : Bool} (h : Gr.accsV cl (Gr.roles ro) = false) : Gr.bk cur cl ro cal = false := by
  unfold Gr.bk
  rw [h]
  simp
section
variable (gcs : Array Value) (cur : ByteArray) (y m p : Int) (cl : List Acc) (cA : Option Addr) (cc : Nat) (ro : RolesR) (el : List EntR) (eA : Option Addr) (ec : Nat) (w : World)
set_option maxRecDepth 100000 in
set_option maxHeartbeats 16000000 in
theorem books_any (HG : Hid (gcs = #[.string cur, .int .i64 y, .int .i64 m, .int .i64 p, .slice cA cl.length cc, .int .i64 ro.investment, .int .i64 ro.goodwill, .int .i64 ro.associates, .int .i64 ro.inventory, .int .i64 ro.reserve, .int .i64 ro.minority, .int .i64 ro.retained, .int .i64 ro.acquired, .int .i64 ro.owners, .int .i64 ro.disposal, .int .i64 ro.associateProfit, .int .i64 ro.dividends, .int .i64 ro.minorityProfit, .int .i64 ro.difference, .int .i64 ro.margin, .slice eA el.length ec])) (h : GIn w cl cA el eA) (hF : FewOk cur cl el) : Calls Tryz.prog 71 #[.agg gcs] w (BoolPost (Gr.bk cur cl ro (Cal.ok y m p)) w) := by
  have hn : cl.length ≤ 300000 := by have := hF.ch; omega
  have hcs : cur.size ≤ maxLen := hF.cur
  have H := Lib.hid h
  clear h hF
  have hgi : (Tryz.prog.info? 29).map (·.size) = some gcs.size := by rw [HG.out]; exact grp_size
  have hb : Below w.heap.size w (w.alloc (.cells gcs 29)) := (Below.refl _ _).alloc (Nat.le_refl _) _
  have HB := Lib.hid (Blk.new w 29 gcs)
  have e0 : (w.alloc (.cells gcs 29)).cell? ⟨w.heap.size, 0, none⟩ = some (.string cur) := (HB.out.cell 0).trans (by rw [HG.out]; rfl); have e1 : (w.alloc (.cells gcs 29)).cell? ⟨w.heap.size, 1, none⟩ = some (.int .i64 y) := (HB.out.cell 1).trans (by rw [HG.out]; rfl); have e2 : (w.alloc (.cells gcs 29)).cell? ⟨w.heap.size, 2, none⟩ = some (.int .i64 m) := (HB.out.cell 2).trans (by rw [HG.out]; rfl); have e3 : (w.alloc (.cells gcs 29)).cell? ⟨w.heap.size, 3, none⟩ = some (.int .i64 p) := (HB.out.cell 3).trans (by rw [HG.out]; rfl)
  have HD : Hid (Gr.bk cur cl ro (Cal.ok y m p) = (Gr.curV cur && (Cal.ok y m p && Gr.accsV cl (Gr.roles ro)))) := Lib.hid rfl
  generalize Gr.bk cur cl ro (Cal.ok y m p) = V at *
  cases hcu : Gr.curV cur
  · have HE : Hid (V = false) := Lib.hid (by rw [HD.out, hcu]; rfl)
    have HCU := Lib.hid hcu
    clear hcu
    go_enter Tryz.func71, Tryz.ntmps71
    go_wp2_with
      (go_at_call 98; refine ((rcurrency_any cur _ hcs)).mono ?_; rintro e w2 ⟨rfl, rfl⟩; rw [HCU.out])
    go_ret
    exact ⟨by rw [HE.out]; rfl, hb⟩
  · have HCU := Lib.hid hcu
    cases hca : Cal.ok y m p
    · have HE : Hid (V = false) := Lib.hid (by rw [HD.out, hca]; simp)
      have HCA := Lib.hid hca
      clear hcu hca
      go_enter Tryz.func71, Tryz.ntmps71
      go_wp2_with (first
        | (go_at_call 98; refine ((rcurrency_any cur _ hcs)).mono ?_; rintro e w2 ⟨rfl, rfl⟩; rw [HCU.out])
        | (go_at_call 78; refine (rcal_valid y m p _).mono ?_; rintro e w2 ⟨rfl, hb2⟩; rw [HCA.out]; replace hb := bel hb hb2; have HB2 := Lib.hid (HB.out.step hb2); clear hb2; have g4 : w2.cell? ⟨w.heap.size, 4, none⟩ = some (.slice cA cl.length cc) := (HB2.out.cell 4).trans (by rw [HG.out]; rfl)))
      go_ret
      exact ⟨by rw [HE.out]; rfl, hb⟩
    · have HCA := Lib.hid hca
      rw [hcu, hca, Bool.true_and, Bool.true_and] at HD
      clear hcu hca
      cases hva : Ch.validV cl true
      · have HE : Hid (V = false) := Lib.hid (by rw [HD.out]; unfold Gr.accsV; rw [hva]; rfl)
        have HVA := Lib.hid hva
        clear hva
        go_enter Tryz.func71, Tryz.ntmps71
        go_wp2_with (first
          | (go_at_call 98; refine ((rcurrency_any cur _ hcs)).mono ?_; rintro e w2 ⟨rfl, rfl⟩; rw [HCU.out])
          | (go_at_call 78; refine (rcal_valid y m p _).mono ?_; rintro e w2 ⟨rfl, hb2⟩; rw [HCA.out]; replace hb := bel hb hb2; have HB2 := Lib.hid (HB.out.step hb2); clear hb2; have g4 : w2.cell? ⟨w.heap.size, 4, none⟩ = some (.slice cA cl.length cc) := (HB2.out.cell 4).trans (by rw [HG.out]; rfl))
          | (go_at_call 99; refine (xvalid_gen cl true cA cc _ (H.out.step hb).ch hn).mono ?_; rintro e w3 ⟨rfl, hb3⟩; rw [HVA.out]; replace hb := bel hb hb3; have HB3 := Lib.hid (HB2.out.step hb3); clear hb3))
        go_ret
        exact ⟨by rw [HE.out]; rfl, hb⟩
      · have HVA := Lib.hid hva
        clear hva
        go_enter Tryz.func71, Tryz.ntmps71
        go_wp2_with (first
          | (go_at_call 98; refine ((rcurrency_any cur _ hcs)).mono ?_; rintro e w2 ⟨rfl, rfl⟩; rw [HCU.out])
          | (go_at_call 78; refine (rcal_valid y m p _).mono ?_; rintro e w2 ⟨rfl, hb2⟩; rw [HCA.out]; replace hb := bel hb hb2; have HB2 := Lib.hid (HB.out.step hb2); clear hb2; have g4 : w2.cell? ⟨w.heap.size, 4, none⟩ = some (.slice cA cl.length cc) := (HB2.out.cell 4).trans (by rw [HG.out]; rfl))
          | (go_at_call 99; refine (xvalid_gen cl true cA cc _ (H.out.step hb).ch hn).mono ?_; rintro e w3 ⟨rfl, hb3⟩; rw [HVA.out]; replace hb := bel hb hb3; have HB3 := Lib.hid (HB2.out.step hb3); clear hb3))
        clear e0 e1 e2 e3 g4 HB HB2
        go_loopw [3] (fun t wr => ∃ k : Nat, k ≤ cl.length ∧ (∀ j, j < k → Gr.based (cl.getD j Ch.zero) = true) ∧ t = .int .i64 k ∧ Below w3.heap.size w3 wr) (fun t _ => cl.length - (intOf t).toNat)
        case atStart => exact ⟨0, by omega, fun j h => by omega, rfl, Below.refl _ _⟩
        case round =>
          obtain ⟨k, hk, hno, rfl, hbr⟩ := hrel
          have HN := Lib.hid hno
          clear hno
          have HBr := Lib.hid (HB3.out.step hbr)
          have hbw := bel hb hbr
          have e4 : wr.cell? ⟨w.heap.size, 4, none⟩ = some (.slice cA cl.length cc) := (HBr.out.cell 4).trans (by rw [HG.out]; rfl)
          by_cases hlt : k < cl.length
          · obtain ⟨b, o, hA, hbo, f0, f1, f2, f3⟩ := Ch.at_ (Rd.now H.out.ch hbw) hlt
            subst hA
            cases hq : Gr.based cl[k]
            · have HE : Hid (V = false) := Lib.hid (by rw [HD.out]; unfold Gr.accsV Gr.basedAll; rw [allAt_no hlt (by rw [Ch.getD_at cl k hlt, hq])]; simp)
              have HQ := Lib.hid hq
              clear hq
              go_wp2_with (go_at_call 100; refine (rbased_any cl[k] _).mono ?_; rintro e w4 ⟨rfl, hb4⟩; rw [HQ.out]; replace hbw := bel hbw hb4; clear hb4)
              go_ret
              exact ⟨by rw [HE.out]; rfl, hbw⟩
            · have HO : Hid (Gr.based (cl.getD k Ch.zero) = true) := Lib.hid (by rw [Ch.getD_at cl k hlt, hq])
              have HQ := Lib.hid hq
              clear hq
              go_wp2_with (go_at_call 100; refine (rbased_any cl[k] _).mono ?_; rintro e w4 ⟨rfl, hb4⟩; rw [HQ.out]; replace hbr := bel hbr hb4; clear hb4)
              go_roundw
              case rel => exact ⟨k + 1, by omega, upto_succ HN.out HO.out, by go_num, hbr⟩
              case measure => simp [intOf]; omega
          · have HBA : Hid (Gr.basedAll cl = true) := Lib.hid (allAt_yes fun j hj => HN.out j (by omega))
            clear HB3 hb
            have g5 : wr.cell? ⟨w.heap.size, 5, none⟩ = some (.int .i64 ro.investment) := (HBr.out.cell 5).trans (by rw [HG.out]; rfl); have g6 : wr.cell? ⟨w.heap.size, 6, none⟩ = some (.int .i64 ro.goodwill) := (HBr.out.cell 6).trans (by rw [HG.out]; rfl); have g7 : wr.cell? ⟨w.heap.size, 7, none⟩ = some (.int .i64 ro.associates) := (HBr.out.cell 7).trans (by rw [HG.out]; rfl); have g8 : wr.cell? ⟨w.heap.size, 8, none⟩ = some (.int .i64 ro.inventory) := (HBr.out.cell 8).trans (by rw [HG.out]; rfl); have g9 : wr.cell? ⟨w.heap.size, 9, none⟩ = some (.int .i64 ro.reserve) := (HBr.out.cell 9).trans (by rw [HG.out]; rfl); have g10 : wr.cell? ⟨w.heap.size, 10, none⟩ = some (.int .i64 ro.minority) := (HBr.out.cell 10).trans (by rw [HG.out]; rfl); have g11 : wr.cell? ⟨w.heap.size, 11, none⟩ = some (.int .i64 ro.retained) := (HBr.out.cell 11).trans (by rw [HG.out]; rfl); have g12 : wr.cell? ⟨w.heap.size, 12, none⟩ = some (.int .i64 ro.acquired) := (HBr.out.cell 12).trans (by rw [HG.out]; rfl); have g13 : wr.cell? ⟨w.heap.size, 13, none⟩ = some (.int .i64 ro.owners) := (HBr.out.cell 13).trans (by rw [HG.out]; rfl); have g14 : wr.cell? ⟨w.heap.size, 14, none⟩ = some (.int .i64 ro.disposal) := (HBr.out.cell 14).trans (by rw [HG.out]; rfl); have g15 : wr.cell? ⟨w.heap.size, 15, none⟩ = some (.int .i64 ro.associateProfit) := (HBr.out.cell 15).trans (by rw [HG.out]; rfl); have g16 : wr.cell? ⟨w.heap.size, 16, none⟩ = some (.int .i64 ro.dividends) := (HBr.out.cell 16).trans (by rw [HG.out]; rfl); have g17 : wr.cell? ⟨w.heap.size, 17, none⟩ = some (.int .i64 ro.minorityProfit) := (HBr.out.cell 17).trans (by rw [HG.out]; rfl); have g18 : wr.cell? ⟨w.heap.size, 18, none⟩ = some (.int .i64 ro.difference) := (HBr.out.cell 18).trans (by rw [HG.out]; rfl); have g19 : wr.cell? ⟨w.heap.size, 19, none⟩ = some (.int .i64 ro.margin) := (HBr.out.cell 19).trans (by rw [HG.out]; rfl)
            go_wp2_with fail
            clear e4 g5 g6 g7 g8 g9 g10 g11 g12 g13 g14 g15 g16 g17 g18 g19
            refine (rroles_any ro wr).mono ?_
            rintro e w4 ⟨A, lc, rfl, hr, hb9⟩
            have hb := bel hbw hb9
            have hlR : (Gr.roles ro).length ≤ 15 := Nat.le_of_eq (Gr.roles_len ro)
            generalize Gr.roles ro = R at *
            have HR := Lib.hid hr
            have HB4 := Lib.hid (HBr.out.step hb9)
            clear hr hb9 HBr hbw hbr
            go_wp2_with fail
            go_loopw [5] (fun t wr => ∃ k : Nat, k ≤ R.length ∧ (∀ j, j < k → Gr.roleOk cl R j = true) ∧ t = .int .i64 k ∧ Below w4.heap.size w4 wr) (fun t _ => R.length - (intOf t).toNat)
            case atStart => exact ⟨0, by omega, fun j h => by omega, rfl, Below.refl _ _⟩
            case round =>
              obtain ⟨k2, hk2, hno2, rfl, hbr⟩ := hrel
              obtain ⟨wo, rfl⟩ : ∃ wo : World, wo = wr := ⟨_, rfl⟩
              have HN2 := Lib.hid hno2
              clear hno2
              have HBr := Lib.hid (HB4.out.step hbr)
              have hbw := bel hb hbr
              by_cases hlt2 : k2 < R.length
              · obtain ⟨b, o, hA, hbo, f0, f1, f2, f3, f4⟩ := RoleR.at_ (Rd.now HR.out hbr) hlt2
                subst hA
                have HX : Hid (Gr.roleOk cl R k2 = (Ch.fnB cl R[k2].code && (!Gr.codeBefore R k2 && (decide ((Ch.fnV cl R[k2].code).kind = R[k2].kind) && decide ((Ch.fnV cl R[k2].code).basis = R[k2].basis))))) := Lib.hid (by unfold Gr.roleOk; rw [getD_lt R k2 default hlt2])
                generalize hx : R[k2] = x at *
                have HXX := Lib.hid hx
                clear hx
                obtain ⟨nm, c, kd, bs, mp⟩ := x
                dsimp only at *
                have K1 := Lib.hid (fun W h => raccount_any gcs cur y m p cl cA cc ro el eA ec W c HG h hn)
                unfold AccPost at K1
                generalize Ch.fnV cl c = a at *
                generalize Ch.fnB cl c = fb at *
                have q1 : ∀ d : Later wo, d.now.cell? ⟨b, o + k2 * 5 + 1, none⟩ = some (.int .i64 c) := fun d => d.cell hbo f1
                have HF2 : Hid (∀ W, Below wo.heap.size wo W → W.cell? ⟨b, o + k2 * 5 + 2, none⟩ = some (.int .i64 kd)) := Lib.hid (fun W h => (h.cell (p := ⟨b, o + k2 * 5 + 2, none⟩) hbo).trans f2)
                have HF3 : Hid (∀ W, Below wo.heap.size wo W → W.cell? ⟨b, o + k2 * 5 + 3, none⟩ = some (.int .i64 bs)) := Lib.hid (fun W h => (h.cell (p := ⟨b, o + k2 * 5 + 3, none⟩) hbo).trans f3)
                clear f0 f1 f2 f3 f4
                go_upto_region 12 with fail
                go_cut [6, 7] (fun s6 s7 wx => ∃ g : Nat, s6 = .pointer (some ⟨g, 0, none⟩) ∧ s7 = .bool fb ∧ Blk wx g 121 #[.int .i64 a.code, .int .i64 a.kind, .int .i64 a.basis, .int .i64 a.parent] ∧ Below wo.heap.size wo wx)
                case first =>
                  refine rel_begin (n := 13) (wo) (by kernel_rfl) rfl ?_; have hC := Near.drew (wo)
                  refine rel_load_blk (i := 0) rfl 29 (.tmp 1) rfl (w.heap.size) rfl (by kernel_rfl) (by kernel_rfl) (by kernel_rfl) rfl (fun _ _ _ _ h => h) hC (HBr).out Tryz.underlying29 hgi ?_; (try simp only [Act.put, List.setIfInBounds_toArray, List.set_cons_zero, List.set_cons_succ])
                  (first | (refine rel_want (i := 1) rfl rfl (by kernel_rfl) (by kernel_rfl) (by kernel_rfl) rfl (fun _ _ _ _ h => h) hC ?_; intro K hK; go_big_quiet_op; go_big_quiet_on) | (refine rel_skip (i := 1) rfl (by kernel_rfl) (by kernel_rfl) (by kernel_rfl) rfl (fun _ _ _ _ h => h) hC ?_; simp only [Act.put, List.setIfInBounds_toArray, List.set_cons_zero, List.set_cons_succ])); (first | (refine rel_want (i := 2) rfl rfl (by kernel_rfl) (by kernel_rfl) (by kernel_rfl) rfl (fun _ _ _ _ h => h) hC ?_; intro K hK; go_big_quiet_op; go_big_quiet_on) | (refine rel_skip (i := 2) rfl (by kernel_rfl) (by kernel_rfl) (by kernel_rfl) rfl (fun _ _ _ _ h => h) hC ?_; simp only [Act.put, List.setIfInBounds_toArray, List.set_cons_zero, List.set_cons_succ])); (first | (refine rel_want (i := 3) rfl rfl (by kernel_rfl) (by kernel_rfl) (by kernel_rfl) rfl (fun _ _ _ _ h => h) hC ?_; intro K hK; go_big_quiet_op; go_big_quiet_on) | (refine rel_skip (i := 3) rfl (by kernel_rfl) (by kernel_rfl) (by kernel_rfl) rfl (fun _ _ _ _ h => h) hC ?_; simp only [Act.put, List.setIfInBounds_toArray, List.set_cons_zero, List.set_cons_succ])); (first | (refine rel_want (i := 4) rfl rfl (by kernel_rfl) (by kernel_rfl) (by kernel_rfl) rfl (fun _ _ _ _ h => h) hC ?_; intro K hK; go_big_quiet_op; go_big_quiet_on) | (refine rel_skip (i := 4) rfl (by kernel_rfl) (by kernel_rfl) (by kernel_rfl) rfl (fun _ _ _ _ h => h) hC ?_; simp only [Act.put, List.setIfInBounds_toArray, List.set_cons_zero, List.set_cons_succ])); (first | (refine rel_want (i := 5) rfl rfl (by kernel_rfl) (by kernel_rfl) (by kernel_rfl) rfl (fun _ _ _ _ h => h) hC ?_; intro K hK; go_big_quiet_op; go_big_quiet_on) | (refine rel_skip (i := 5) rfl (by kernel_rfl) (by kernel_rfl) (by kernel_rfl) rfl (fun _ _ _ _ h => h) hC ?_; simp only [Act.put, List.setIfInBounds_toArray, List.set_cons_zero, List.set_cons_succ]))
                  refine rel_calls (is := [6, 10]) (by kernel_rfl) (by simp) ?_
                  intro j hj
                  simp only [List.mem_cons, List.not_mem_nil, or_false] at hj
                  rcases hj with rfl | rfl
                  · refine ⟨_, rfl, rfl, ?_⟩
                    intro K hK
                    go_simp
                    go_at_call 102
                    refine (K1.out _ (H.out.step (bel hbw hC.below))).mono ?_
                    rintro e w5 ⟨rfl, hb5⟩
                    (try go_wp2_with fail)
                    replace hC := hC.on hb5
                    refine hK _ _ hC (fun _ => ?_)
                    clear hK K
                    (try simp only [Act.put, List.setIfInBounds_toArray, List.set_cons_zero, List.set_cons_succ])
                    (first | (refine rel_want (i := 7) rfl rfl (by kernel_rfl) (by kernel_rfl) (by kernel_rfl) rfl (fun _ _ _ _ h => h) hC ?_; intro K hK; go_big_quiet_op; go_big_quiet_on) | (refine rel_skip (i := 7) rfl (by kernel_rfl) (by kernel_rfl) (by kernel_rfl) rfl (fun _ _ _ _ h => h) hC ?_; simp only [Act.put, List.setIfInBounds_toArray, List.set_cons_zero, List.set_cons_succ])); (first | (refine rel_want (i := 8) rfl rfl (by kernel_rfl) (by kernel_rfl) (by kernel_rfl) rfl (fun _ _ _ _ h => h) hC ?_; intro K hK; go_big_quiet_op; go_big_quiet_on) | (refine rel_skip (i := 8) rfl (by kernel_rfl) (by kernel_rfl) (by kernel_rfl) rfl (fun _ _ _ _ h => h) hC ?_; simp only [Act.put, List.setIfInBounds_toArray, List.set_cons_zero, List.set_cons_succ])); (first | (refine rel_want (i := 9) rfl rfl (by kernel_rfl) (by kernel_rfl) (by kernel_rfl) rfl (fun _ _ _ _ h => h) hC ?_; intro K hK; go_big_quiet_op; go_big_quiet_on) | (refine rel_skip (i := 9) rfl (by kernel_rfl) (by kernel_rfl) (by kernel_rfl) rfl (fun _ _ _ _ h => h) hC ?_; simp only [Act.put, List.setIfInBounds_toArray, List.set_cons_zero, List.set_cons_succ]))
                    have hC5 := hC.below
                    refine rel_call (i := 10) (by kernel_rfl) rfl rfl ?_; intro K hK; go_simp; have hC2 := hC.below; refine hK _ _ (Near.of (by repeat (first | exact hC2 | refine Below.alloc ?_ (by have hbs := hC2.size; first | omega | (simp; done) | (simp at hbs ⊢; omega)) _ | refine Below.drew ?_ | refine below_drewN_ ?_ _))) ?_; clear hK K hC hC2; intro hC; (try simp only [Act.put, List.setIfInBounds_toArray, List.set_cons_zero, List.set_cons_succ])
                    refine rel_call (i := 11) (by kernel_rfl) rfl rfl ?_
                    intro K hK
                    go_simp
                    refine hK _ _ (Near.of (hC5.alloc hC5.size _)) ?_
                    clear hK K hC
                    intro hC
                    (try simp only [Act.put, List.setIfInBounds_toArray, List.set_cons_zero, List.set_cons_succ])
                    (first | (refine rel_want (i := 12) rfl rfl (by kernel_rfl) (by kernel_rfl) (by kernel_rfl) rfl (fun _ _ _ _ h => h) hC ?_; intro K hK; go_big_quiet_op; go_big_quiet_on) | (refine rel_skip (i := 12) rfl (by kernel_rfl) (by kernel_rfl) (by kernel_rfl) rfl (fun _ _ _ _ h => h) hC ?_; simp only [Act.put, List.setIfInBounds_toArray, List.set_cons_zero, List.set_cons_succ]))
                    refine wpAnyH_done (by kernel_rfl) ?_ _
                    go_wp2_with fail
                    go_meet
                    exact ⟨w5.heap.size, rfl, rfl, Blk.new w5 _ _, hC5.alloc hC5.size _⟩
                  · refine ⟨_, rfl, rfl, ?_⟩
                    intro K hK
                    go_simp
                    have hC4 : Below (wo).heap.size (wo) ((wo).alloc (.cells #[.int .i64 0, .int .i64 0, .int .i64 0, .int .i64 0] 121)).drew := ((Below.refl _ _).alloc (Nat.le_refl _) _).drew
                    have hX := (Blk.new (wo) 121 #[.int .i64 0, .int .i64 0, .int .i64 0, .int .i64 0]).drew
                    refine hK _ _ (Near.of hC4) (fun hC => ?_)
                    clear hK K
                    generalize ((wo).alloc (.cells #[.int .i64 0, .int .i64 0, .int .i64 0, .int .i64 0] 121)).drew = w4 at *
                    (try simp only [Act.put, List.setIfInBounds_toArray, List.set_cons_zero, List.set_cons_succ])
                    refine rel_call (i := 6) (by kernel_rfl) rfl rfl ?_
                    intro K hK
                    go_simp
                    go_at_call 102
                    refine (K1.out _ (H.out.step (bel hbw hC.below))).mono ?_
                    rintro e w5 ⟨rfl, hb5⟩
                    (try go_wp2_with fail)
                    replace hC := hC.on hb5
                    replace hX := hX.step hb5
                    refine hK _ _ hC (fun _ => ?_)
                    clear hK K
                    (try simp only [Act.put, List.setIfInBounds_toArray, List.set_cons_zero, List.set_cons_succ])
                    (first | (refine rel_want (i := 7) rfl rfl (by kernel_rfl) (by kernel_rfl) (by kernel_rfl) rfl (fun _ _ _ _ h => h) hC ?_; intro K hK; go_big_quiet_op; go_big_quiet_on) | (refine rel_skip (i := 7) rfl (by kernel_rfl) (by kernel_rfl) (by kernel_rfl) rfl (fun _ _ _ _ h => h) hC ?_; simp only [Act.put, List.setIfInBounds_toArray, List.set_cons_zero, List.set_cons_succ])); (first | (refine rel_want (i := 8) rfl rfl (by kernel_rfl) (by kernel_rfl) (by kernel_rfl) rfl (fun _ _ _ _ h => h) hC ?_; intro K hK; go_big_quiet_op; go_big_quiet_on) | (refine rel_skip (i := 8) rfl (by kernel_rfl) (by kernel_rfl) (by kernel_rfl) rfl (fun _ _ _ _ h => h) hC ?_; simp only [Act.put, List.setIfInBounds_toArray, List.set_cons_zero, List.set_cons_succ])); (first | (refine rel_want (i := 9) rfl rfl (by kernel_rfl) (by kernel_rfl) (by kernel_rfl) rfl (fun _ _ _ _ h => h) hC ?_; intro K hK; go_big_quiet_op; go_big_quiet_on) | (refine rel_skip (i := 9) rfl (by kernel_rfl) (by kernel_rfl) (by kernel_rfl) rfl (fun _ _ _ _ h => h) hC ?_; simp only [Act.put, List.setIfInBounds_toArray, List.set_cons_zero, List.set_cons_succ]))
                    refine rel_call (i := 11) (by kernel_rfl) rfl rfl ?_
                    intro K hK
                    have g0 : w5.cell? ⟨(wo).heap.size, 0, none⟩ = some (.int .i64 0) := hX.cell 0
                    have g1 : w5.cell? ⟨(wo).heap.size, 1, none⟩ = some (.int .i64 0) := hX.cell 1
                    have g2 : w5.cell? ⟨(wo).heap.size, 2, none⟩ = some (.int .i64 0) := hX.cell 2
                    have g3 : w5.cell? ⟨(wo).heap.size, 3, none⟩ = some (.int .i64 0) := hX.cell 3
                    have h0 : w5.frozen? ⟨(wo).heap.size, 0, none⟩ = false := hX.frozen 0
                    have h1 : w5.frozen? ⟨(wo).heap.size, 1, none⟩ = false := hX.frozen 1
                    have h2 : w5.frozen? ⟨(wo).heap.size, 2, none⟩ = false := hX.frozen 2
                    have h3 : w5.frozen? ⟨(wo).heap.size, 3, none⟩ = false := hX.frozen 3
                    go_simp
                    have hZ : Below (wo).heap.size (wo) ((((w5.setCell ⟨(wo).heap.size, 0, none⟩ (.int .i64 a.code)).setCell ⟨(wo).heap.size, 1, none⟩ (.int .i64 a.kind)).setCell ⟨(wo).heap.size, 2, none⟩ (.int .i64 a.basis)).setCell ⟨(wo).heap.size, 3, none⟩ (.int .i64 a.parent)) :=
                      (((hC.below.setCell (by simp) _).setCell (by simp) _).setCell (by simp) _).setCell (by simp) _
                    have hY := (((hX.set_ 0 (.int .i64 a.code)).set_ 1 (.int .i64 a.kind)).set_ 2 (.int .i64 a.basis)).set_ 3 (.int .i64 a.parent)
                    refine hK _ _ (Near.of hZ) ?_
                    clear hC
                    intro hC
                    clear hK K g0 g1 g2 g3 h0 h1 h2 h3
                    generalize ((((w5.setCell ⟨(wo).heap.size, 0, none⟩ (.int .i64 a.code)).setCell ⟨(wo).heap.size, 1, none⟩ (.int .i64 a.kind)).setCell ⟨(wo).heap.size, 2, none⟩ (.int .i64 a.basis)).setCell ⟨(wo).heap.size, 3, none⟩ (.int .i64 a.parent)) = w6 at *
                    (try simp only [Act.put, List.setIfInBounds_toArray, List.set_cons_zero, List.set_cons_succ])
                    (first | (refine rel_want (i := 12) rfl rfl (by kernel_rfl) (by kernel_rfl) (by kernel_rfl) rfl (fun _ _ _ _ h => h) hC ?_; intro K hK; go_big_quiet_op; go_big_quiet_on) | (refine rel_skip (i := 12) rfl (by kernel_rfl) (by kernel_rfl) (by kernel_rfl) rfl (fun _ _ _ _ h => h) hC ?_; simp only [Act.put, List.setIfInBounds_toArray, List.set_cons_zero, List.set_cons_succ]))
                    refine wpAnyH_done (by kernel_rfl) ?_ _
                    go_wp2_with fail
                    go_meet
                    exact ⟨(wo).heap.size, rfl, rfl, hY, hZ⟩
                case rest =>
                  obtain ⟨g, rfl, rfl, hAc, hb9⟩ := hcut
                  have hbx := bel hbw hb9
                  have hbx4 := bel hbr hb9
                  have p1 : ∀ d : Later wc, d.now.cell? ⟨g, 1, none⟩ = some (.int .i64 a.kind) := fun d => d.cell hAc.lt (hAc.cell 1)
                  have p2 : ∀ d : Later wc, d.now.cell? ⟨g, 2, none⟩ = some (.int .i64 a.basis) := fun d => d.cell hAc.lt (hAc.cell 2)
                  have q2 : ∀ d : Later wc, d.now.cell? ⟨b, o + k2 * 5 + 2, none⟩ = some (.int .i64 kd) := fun d => HF2.out _ (bel hb9 d.below)
                  have q3 : ∀ d : Later wc, d.now.cell? ⟨b, o + k2 * 5 + 3, none⟩ = some (.int .i64 bs) := fun d => HF3.out _ (bel hb9 d.below)
                  have HXc := Lib.hid HX.out
                  clear q1 HX HBr K1 hAc
                  cases fb
                  · have HE : Hid (V = false) := Lib.hid (by rw [HD.out]; exact accsV_no hlt2 (by rw [HXc.out]; rfl))
                    go_wp2_with fail
                    refine wp_region_later (by kernel_rfl) (by kernel_rfl) ?_; (repeat (go_big_quiet_step ((fail)))); refine wpQuiet_nil ?_; rintro _ ⟨dq, rfl⟩
                    have hbe := bel hbx dq.below
                    go_wp2_with fail
                    go_ret
                    exact ⟨by rw [HE.out]; rfl, hbe⟩
                  · cases hk3 : (a.kind != kd)
                    · cases hs3 : (a.basis != bs)
                      · have HO : Hid (Gr.roleOk cl R k2 = !Gr.codeBefore R k2) := Lib.hid (by rw [HXc.out]; simp at hk3 hs3; simp [hk3, hs3])
                        go_wp2_with fail
                        refine wp_region_later (by kernel_rfl) (by kernel_rfl) ?_; (repeat (go_big_quiet_step ((fail)))); refine wpQuiet_nil ?_; rintro _ ⟨dq, rfl⟩
                        have hbd := bel hbx4 dq.below
                        have hbo9 := bel hb9 dq.below
                        clear p1 p2 q2 q3 hk3 hs3 HXc
                        have HF1 : Hid (∀ W, Below dq.now.heap.size dq.now W → ∀ j (hj : j < R.length), W.cell? ⟨b, o + j * 5 + 1, none⟩ = some (.int .i64 (R[j]'hj).code)) := Lib.hid (fun W h j hj => by
                          obtain ⟨b', o', hA', hbo', -, f1, -, -, -⟩ := RoleR.at_ (Rd.now HR.out (bel hbd h)) hj
                          injection hA' with hA'
                          injection hA' with hA1 hA2
                          subst hA1 hA2
                          exact f1)
                        have hbl : b < dq.now.heap.size := by have := hbo9.size; omega
                        generalize dq.now = W6 at *
                        go_wp2_with fail
                        go_loopw [8] (fun t wr => ∃ j : Nat, j ≤ k2 ∧ (∀ i (h : i < k2), i < j → (R[i]'(by omega)).code ≠ R[k2].code) ∧ t = .int .i64 j ∧ Below W6.heap.size W6 wr) (fun t _ => k2 - (intOf t).toNat)
                        case atStart => exact ⟨0, by omega, fun i _ h => by omega, rfl, Below.refl _ _⟩
                        case round =>
                          obtain ⟨j, hj, hnj, rfl, hbi⟩ := hrel
                          have HNJ := Lib.hid hnj
                          clear hnj
                          by_cases hjk : j < k2
                          · have hjl : j < R.length := by omega
                            have hblr : b < wr.heap.size := by have := hbi.size; omega
                            have q1 : ∀ d : Later wr, d.now.cell? ⟨b, o + j * 5 + 1, none⟩ = some (.int .i64 (R[j]'hjl).code) := fun d => HF1.out _ (bel hbi d.below) j hjl
                            have q2 : ∀ d : Later wr, d.now.cell? ⟨b, o + k2 * 5 + 1, none⟩ = some (.int .i64 c) := fun d => by rw [HF1.out _ (bel hbi d.below) k2 hlt2, HXX.out]
                            cases hf : ((R[j]'hjl).code == c)
                            · have HNE : Hid ((R[j]'hjl).code ≠ R[k2].code) := Lib.hid (by rw [HXX.out]; simpa using hf)
                              go_wp2_with fail
                              refine wp_region_later (by kernel_rfl) (by kernel_rfl) ?_; (repeat (go_big_quiet_step ((fail)))); refine wpQuiet_nil ?_; rintro _ ⟨dq, rfl⟩
                              have hbe := bel hbi dq.below
                              go_wp2_with fail
                              go_roundw
                              case rel =>
                                refine ⟨j + 1, by omega, fun i hi hij => ?_, by go_num, hbe⟩
                                by_cases e : i = j
                                · subst e; exact HNE.out
                                · exact HNJ.out i hi (by omega)
                              case measure => simp [intOf]; omega
                            · have HE : Hid (V = false) := Lib.hid (by rw [HD.out]; exact accsV_no hlt2 (by rw [HO.out, codeBefore_yes hlt2 hjk (by rw [HXX.out]; simpa using hf)]; rfl))
                              go_wp2_with fail
                              refine wp_region_later (by kernel_rfl) (by kernel_rfl) ?_; (repeat (go_big_quiet_step ((fail)))); refine wpQuiet_nil ?_; rintro _ ⟨dq, rfl⟩
                              have hbe := bel hb (bel hbd (bel hbi dq.below))
                              go_wp2_with fail
                              go_ret
                              exact ⟨by rw [HE.out]; rfl, hbe⟩
                          · have HOK : Hid (Gr.roleOk cl R k2 = true) := Lib.hid (by rw [HO.out, codeBefore_no hlt2 fun i hi => HNJ.out i hi (by omega)]; rfl)
                            have hbe := bel hbd hbi
                            go_wp2_with fail
                            go_roundw
                            case rel => exact ⟨k2 + 1, by omega, upto_succ HN2.out HOK.out, by go_num, hbe⟩
                            case measure => simp [intOf]; omega
                      · have HE : Hid (V = false) := Lib.hid (by rw [HD.out]; exact accsV_no hlt2 (by rw [HXc.out]; simp at hs3; simp [hs3]))
                        go_wp2_with fail
                        refine wp_region_later (by kernel_rfl) (by kernel_rfl) ?_; (repeat (go_big_quiet_step ((fail)))); refine wpQuiet_nil ?_; rintro _ ⟨dq, rfl⟩
                        have hbe := bel hbx dq.below
                        go_wp2_with fail
                        go_ret
                        exact ⟨by rw [HE.out]; rfl, hbe⟩
                    · have HE : Hid (V = false) := Lib.hid (by rw [HD.out]; exact accsV_no hlt2 (by rw [HXc.out]; simp at hk3; simp [hk3]))
                      go_wp2_with fail
                      refine wp_region_later (by kernel_rfl) (by kernel_rfl) ?_; (repeat (go_big_quiet_step ((fail)))); refine wpQuiet_nil ?_; rintro _ ⟨dq, rfl⟩
                      have hbe := bel hbx dq.below
                      go_wp2_with fail
                      go_ret
                      exact ⟨by rw [HE.out]; rfl, hbe⟩
              · have HE : Hid (V = true) := Lib.hid (by rw [HD.out]; unfold Gr.accsV Gr.rolesOk; rw [HVA.out, HBA.out, allAt_yes (fun j hj => HN2.out j (by omega))]; rfl)
                go_wp2_with fail
                go_ret
                exact ⟨by rw [HE.out]; rfl, hbw⟩
end
end Go.Proofs.YtnddoehhcpejjaaGreat
