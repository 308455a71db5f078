/- Texts of this claim, put together. -/
import Derived.Test.YthfbpbbepogllaaGreatGrpWalksQZ
import Derived.Test.YthfbpbbepogllaaGreatJAH
import Derived.Test.YthfbpbbepogllaaGreatJAI
import Derived.Test.YthfbpbbepogllaaGreatGrpWalksOZ
/- The walk of the reference's Valid. -/
namespace Go.Proofs.YthfbpbbepogllaaGreat
set_option linter.unusedVariables false
set_option linter.unusedSimpArgs false
open Go.RowKit

theorem gv_bk (cur : ByteArray) (cl : List Acc) (ro : RolesR) (el : List EntR) (cal : Bool) :
    Gr.gv cur cl ro el cal = (Gr.bk cur cl ro cal && (decide (1 ≤ el.length) && (decide (el.length ≤ 12) && (!(el.getD 0 default).joint && Gr.entsV cl (Gr.roles ro) el)))) := by
  unfold Gr.gv Gr.bk
  cases Gr.curV cur <;> cases cal <;> simp
section
variable (gcs : Array Value) (cur : ByteArray) (y m p : Int) (cl : List Acc) (cA : Option Addr) (cc : Nat) (ro : RolesR) (el : List EntR) (eA : Option Addr) (ec : Nat) (w : World)
set_option maxRecDepth 100000 in
set_option maxHeartbeats 8000000 in
theorem rgvalid_any (HG : Hid (gcs = #[.string cur, .int .i64 y, .int .i64 m, .int .i64 p, .slice cA cl.length cc, .int .i64 ro.investment, .int .i64 ro.goodwill, .int .i64 ro.associates, .int .i64 ro.inventory, .int .i64 ro.reserve, .int .i64 ro.minority, .int .i64 ro.retained, .int .i64 ro.acquired, .int .i64 ro.owners, .int .i64 ro.disposal, .int .i64 ro.associateProfit, .int .i64 ro.dividends, .int .i64 ro.minorityProfit, .int .i64 ro.difference, .int .i64 ro.margin, .slice eA el.length ec])) (h : GIn w cl cA el eA) (hF : FewOk cur cl el) : Calls Tryz.prog 30 #[.agg gcs] w (BoolPost (Gr.gv cur cl ro el (Cal.ok y m p)) w) := by
  have hn : cl.length ≤ 300000 := by have := hF.ch; omega
  have hel := hF.en
  have HF := Lib.hid hF.ents
  have H := Lib.hid h
  have KB := Lib.hid (fun W h => books_any gcs cur y m p cl cA cc ro el eA ec W HG h hF)
  clear h hF
  have hgi : (Tryz.prog.info? 29).map (·.size) = some gcs.size := by rw [HG.out]; exact grp_size
  have hb : Below w.heap.size w (w.alloc (.cells gcs 29)) := (Below.refl _ _).alloc (Nat.le_refl _) _
  have HB := Lib.hid (Blk.new w 29 gcs)
  have HD := Lib.hid (gv_bk cur cl ro el (Cal.ok y m p))
  generalize Gr.gv cur cl ro el (Cal.ok y m p) = V at *
  generalize hbkv : Gr.bk cur cl ro (Cal.ok y m p) = BK at *
  have HBKV := Lib.hid hbkv
  clear hbkv
  cases BK
  · have HE : Hid (V = false) := Lib.hid (by rw [HD.out]; rfl)
    have HBK : Hid (true = true) := Lib.hid rfl
    clear HBK
    go_enter Tryz.func30, Tryz.ntmps30
    go_wp2_with (first
      | (refine wpList_load_blk 29 (.tmp 1) rfl (w.heap.size) rfl (by kernel_rfl) (HB).out Tryz.underlying29 hgi ?_)
      | (go_at_call 62; refine (KB.out _ (H.out.step hb)).mono ?_; rintro e w3 ⟨rfl, hb3⟩; replace hb := bel hb hb3))
    go_ret
    exact ⟨by rw [HE.out]; rfl, hb⟩
  · rw [Bool.true_and] at HD
    by_cases h1 : 1 ≤ el.length
    · obtain ⟨b, o, hA, hbo, f0, f1, f2, f3, f4⟩ := EntR.at_ (k := 0) H.out.en h1
      subst hA
      have HF4 : Hid (∀ W, Below w.heap.size w W → W.cell? ⟨b, o + 4, none⟩ = some (.bool (el[0]'h1).joint)) := Lib.hid (fun W hb => (hb.cell (p := ⟨b, o + 4, none⟩) hbo).trans (by simpa using f4))
      clear f0 f1 f2 f3 f4
      rw [getD_lt el 0 default h1] at HD
      by_cases h12 : el.length ≤ 12
      · cases hj : (el[0]'h1).joint
        · rw [hj] at HF4
          have HJ := Lib.hid hj
          clear hj
          go_enter Tryz.func30, Tryz.ntmps30
          go_wp2_with (first
            | (refine wpList_load_blk 29 (.tmp 1) rfl (w.heap.size) rfl (by kernel_rfl) (HB).out Tryz.underlying29 hgi ?_)
            | (go_at_call 62; refine (KB.out _ (H.out.step hb)).mono ?_; rintro e w3 ⟨rfl, hb3⟩; replace hb := bel hb hb3; have HB3 := Lib.hid (HB.out.step hb3); clear hb3; have g20 : w3.cell? ⟨w.heap.size, 20, none⟩ = some (.slice (some ⟨b, o, none⟩) el.length ec) := (HB3.out.cell 20).trans (by rw [HG.out]; rfl); have g0 := HF4.out w3 hb))
          clear HF4 g20 g0 HB
          go_loopw [3] (fun t wr => ∃ k : Nat, k ≤ el.length ∧ (∀ j, j < k → (!Gr.nameBefore el j && Gr.entV cl (Gr.roles ro) (el.getD j default)) = true) ∧ t = .int .i64 k ∧ Below w3.heap.size w3 wr) (fun t _ => el.length - (intOf t).toNat)
          case atStart => exact ⟨0, by omega, fun j h => by omega, rfl, Below.refl _ _⟩
          case round =>
            obtain ⟨k, hk, hno, rfl, hbr⟩ := hrel
            obtain ⟨wo, rfl⟩ : ∃ wo : World, wo = wr := ⟨_, rfl⟩
            have HN := Lib.hid hno
            clear hno
            have HBr := Lib.hid (HB3.out.step hbr)
            have hbw := bel hb hbr
            have g20 : wo.cell? ⟨w.heap.size, 20, none⟩ = some (.slice (some ⟨b, o, none⟩) el.length ec) := (HBr.out.cell 20).trans (by rw [HG.out]; rfl)
            by_cases hlt : k < el.length
            · obtain ⟨b', o', hA', hbo', f0, f1, f2, f3, f4⟩ := EntR.at_ (Rd.now H.out.en hbw) hlt
              injection hA' with hA'
              injection hA' with hA1 hA2
              subst hA1 hA2
              have HOK := Lib.hid (H.out.ok _ (List.getElem_mem hlt))
              have hfew := HF.out k hlt
              have HX : Hid (el.getD k default = el[k]) := Lib.hid (getD_lt el k default hlt)
              have HFH := Lib.hid (fnd_here (el := el) hlt)
              have HFE := Lib.hid (fnd_else (el := el) hlt)
              have HC1 : Hid (∀ W, Below wo.heap.size wo W → W.cell? ⟨b, o + k * 5, none⟩ = some (.string el[k].name) ∧ W.cell? ⟨b, o + k * 5 + 1, none⟩ = some (.string el[k].currency) ∧ W.cell? ⟨b, o + k * 5 + 2, none⟩ = some (el[k].chart.val) ∧ W.cell? ⟨b, o + k * 5 + 3, none⟩ = some (el[k].links.val) ∧ W.cell? ⟨b, o + k * 5 + 4, none⟩ = some (.bool el[k].joint)) := Lib.hid (fun W h =>
                ⟨(h.cell (p := ⟨b, o + k * 5, none⟩) hbo').trans f0, (h.cell (p := ⟨b, o + k * 5 + 1, none⟩) hbo').trans f1, (h.cell (p := ⟨b, o + k * 5 + 2, none⟩) hbo').trans f2, (h.cell (p := ⟨b, o + k * 5 + 3, none⟩) hbo').trans f3, (h.cell (p := ⟨b, o + k * 5 + 4, none⟩) hbo').trans f4⟩)
              generalize el[k] = x at *
              obtain ⟨xn, xc, ⟨l1, A1, c1⟩, ⟨l2, A2, c2⟩, xj⟩ := x
              dsimp only [Sl.val] at *
              have KF := Lib.hid (fun W h => HG.out.symm ▸ grfind_any cur y m p cl cA cc ro el (some ⟨b, o, none⟩) ec W xn h (by omega))
              have q0 : ∀ d : Later wo, d.now.cell? ⟨b, o + k * 5, none⟩ = some (.string xn) := fun d => d.cell hbo' f0
              have q20 : ∀ d : Later wo, d.now.cell? ⟨w.heap.size, 20, none⟩ = some (.slice (some ⟨b, o, none⟩) el.length ec) := fun d => d.cell HBr.out.lt g20
              clear f0 f1 f2 f3 f4
              generalize fndI el xn = fi at *
              generalize fndB el xn = fb at *
              go_wp2_with fail
              clear g20
              refine wp_region_later (by kernel_rfl) (by kernel_rfl) ?_
              (repeat (go_big_quiet_step ((fail)))); refine quiet_load_blk 29 (.tmp 1) rfl (w.heap.size) rfl (by kernel_rfl) (HBr).out Tryz.underlying29 hgi ?_; (try simp only [Act.put, List.setIfInBounds_toArray, List.set_cons_zero, List.set_cons_succ])
              (repeat (go_big_quiet_step ((fail)))); go_big_quiet_step ((go_at_call 63; exact Later.call _ (KF.out _ (H.out.step (bel hbw (Later.below _))))))
              (repeat (go_big_quiet_step ((fail)))); refine wpQuiet_nil ?_; rintro _ ⟨dq, rfl⟩
              have hbd := bel hbw dq.below
              have hbr2 := bel hbr dq.below
              have HBd := Lib.hid (HBr.out.step dq.below)
              have hcell := HC1.out _ dq.below
              have hbl : b < dq.now.heap.size := by have := dq.below.size; omega
              clear q0 q20 KF
              generalize dq.now = W6 at *
              cases hne : (fi != (k : Int))
              · have HNB : Hid (Gr.nameBefore el k = false) := Lib.hid (by
                  cases hb9 : Gr.nameBefore el k
                  · rfl
                  · have := HFE.out hb9
                    simp at hne
                    exact absurd hne this)
                obtain ⟨r0, r1, r2, r3, r4⟩ := hcell
                have q0 : ∀ d : Later W6, d.now.cell? ⟨b, o + k * 5, none⟩ = some (.string xn) := fun d => d.cell hbl r0
                have q1 : ∀ d : Later W6, d.now.cell? ⟨b, o + k * 5 + 1, none⟩ = some (.string xc) := fun d => d.cell hbl r1
                have q2 : ∀ d : Later W6, d.now.cell? ⟨b, o + k * 5 + 2, none⟩ = some (.slice A1 l1.length c1) := fun d => d.cell hbl r2
                have q3 : ∀ d : Later W6, d.now.cell? ⟨b, o + k * 5 + 3, none⟩ = some (.slice A2 l2.length c2) := fun d => d.cell hbl r3
                have q4 : ∀ d : Later W6, d.now.cell? ⟨b, o + k * 5 + 4, none⟩ = some (.bool xj) := fun d => d.cell hbl r4
                have q20 : ∀ d : Later W6, d.now.cell? ⟨w.heap.size, 20, none⟩ = some (.slice (some ⟨b, o, none⟩) el.length ec) := fun d => d.cell HBd.out.lt ((HBd.out.cell 20).trans (by rw [HG.out]; rfl))
                clear r0 r1 r2 r3 r4
                have KE := Lib.hid (fun W h => rentity_any gcs cur y m p cl cA cc ro el (some ⟨b, o, none⟩) ec W xn xc l1 A1 c1 l2 A2 c2 xj HG (H.out.step h) hn (HOK.out.step h) (by omega) (by omega))
                cases hev : Gr.entV cl (Gr.roles ro) ⟨xn, xc, ⟨l1, A1, c1⟩, ⟨l2, A2, c2⟩, xj⟩
                · have HE : Hid (V = false) := Lib.hid (by rw [HD.out]; unfold Gr.entsV; rw [allAt_no hlt (by rw [HX.out, hev]; simp)]; simp)
                  rw [hev] at KE
                  clear hev
                  go_wp2_with fail
                  refine wp_region_later (by kernel_rfl) (by kernel_rfl) ?_
                  (repeat (go_big_quiet_step ((fail)))); refine quiet_load_blk 29 (.tmp 1) rfl (w.heap.size) rfl (by kernel_rfl) (HBd).out Tryz.underlying29 hgi ?_; (try simp only [Act.put, List.setIfInBounds_toArray, List.set_cons_zero, List.set_cons_succ])
                  (repeat (go_big_quiet_step ((fail)))); go_big_quiet_step ((go_at_call 64; exact Later.call _ (KE.out _ (bel hbd (Later.below _)))))
                  (repeat (go_big_quiet_step ((fail)))); refine wpQuiet_nil ?_; rintro _ ⟨dq, rfl⟩
                  have hbe := bel hbd dq.below
                  go_wp2_with fail
                  go_ret
                  exact ⟨by rw [HE.out]; rfl, hbe⟩
                · have HO : Hid ((!Gr.nameBefore el k && Gr.entV cl (Gr.roles ro) (el.getD k default)) = true) := Lib.hid (by rw [HX.out, HNB.out, hev]; rfl)
                  rw [hev] at KE
                  clear hev
                  go_wp2_with fail
                  refine wp_region_later (by kernel_rfl) (by kernel_rfl) ?_
                  (repeat (go_big_quiet_step ((fail)))); refine quiet_load_blk 29 (.tmp 1) rfl (w.heap.size) rfl (by kernel_rfl) (HBd).out Tryz.underlying29 hgi ?_; (try simp only [Act.put, List.setIfInBounds_toArray, List.set_cons_zero, List.set_cons_succ])
                  (repeat (go_big_quiet_step ((fail)))); go_big_quiet_step ((go_at_call 64; exact Later.call _ (KE.out _ (bel hbd (Later.below _)))))
                  (repeat (go_big_quiet_step ((fail)))); refine wpQuiet_nil ?_; rintro _ ⟨dq, rfl⟩
                  have hbe := bel hbr2 dq.below
                  go_wp2_with fail
                  go_roundw
                  case rel => exact ⟨k + 1, by omega, upto_succ HN.out HO.out, by go_num, hbe⟩
                  case measure => simp [intOf]; omega
              · have HNB : Hid (Gr.nameBefore el k = true) := Lib.hid (by
                  cases hb9 : Gr.nameBefore el k
                  · have := HFH.out hb9
                    simp at hne
                    exact absurd this hne
                  · rfl)
                have HE : Hid (V = false) := Lib.hid (by rw [HD.out]; unfold Gr.entsV; rw [allAt_no hlt (by rw [HNB.out]; rfl)]; simp)
                clear hcell
                go_wp2_with fail
                refine wp_region_later (by kernel_rfl) (by kernel_rfl) ?_; (repeat (go_big_quiet_step ((fail)))); refine wpQuiet_nil ?_; rintro _ ⟨dq, rfl⟩
                have hbe := bel hbd dq.below
                go_wp2_with fail
                go_ret
                exact ⟨by rw [HE.out]; rfl, hbe⟩
            · have HE : Hid (V = true) := Lib.hid (by rw [HD.out, HJ.out]; unfold Gr.entsV; rw [allAt_yes (fun j hj => HN.out j (by omega))]; simp [h12]; omega)
              go_wp2_with fail
              go_ret
              exact ⟨by rw [HE.out]; rfl, hbw⟩
        · have HE : Hid (V = false) := Lib.hid (by rw [HD.out]; simp [hj])
          rw [hj] at HF4
          clear hj
          go_enter Tryz.func30, Tryz.ntmps30
          go_wp2_with (first
            | (refine wpList_load_blk 29 (.tmp 1) rfl (w.heap.size) rfl (by kernel_rfl) (HB).out Tryz.underlying29 hgi ?_)
            | (go_at_call 62; refine (KB.out _ (H.out.step hb)).mono ?_; rintro e w3 ⟨rfl, hb3⟩; replace hb := bel hb hb3; have HB3 := Lib.hid (HB.out.step hb3); clear hb3; have g20 : w3.cell? ⟨w.heap.size, 20, none⟩ = some (.slice (some ⟨b, o, none⟩) el.length ec) := (HB3.out.cell 20).trans (by rw [HG.out]; rfl); have g0 := HF4.out w3 hb))
          go_ret
          exact ⟨by rw [HE.out]; rfl, hb⟩
      · have HE : Hid (V = false) := Lib.hid (by rw [HD.out]; simp [h12])
        have h12' : 12 < el.length := by omega
        go_enter Tryz.func30, Tryz.ntmps30
        go_wp2_with (first
          | (refine wpList_load_blk 29 (.tmp 1) rfl (w.heap.size) rfl (by kernel_rfl) (HB).out Tryz.underlying29 hgi ?_)
          | (go_at_call 62; refine (KB.out _ (H.out.step hb)).mono ?_; rintro e w3 ⟨rfl, hb3⟩; replace hb := bel hb hb3; have HB3 := Lib.hid (HB.out.step hb3); clear hb3; have g20 : w3.cell? ⟨w.heap.size, 20, none⟩ = some (.slice (some ⟨b, o, none⟩) el.length ec) := (HB3.out.cell 20).trans (by rw [HG.out]; rfl)))
        go_ret
        exact ⟨by rw [HE.out]; rfl, hb⟩
    · have HE : Hid (V = false) := Lib.hid (by rw [HD.out]; simp [h1])
      have h1' : el.length < 1 := by omega
      go_enter Tryz.func30, Tryz.ntmps30
      go_wp2_with (first
        | (refine wpList_load_blk 29 (.tmp 1) rfl (w.heap.size) rfl (by kernel_rfl) (HB).out Tryz.underlying29 hgi ?_)
        | (go_at_call 62; refine (KB.out _ (H.out.step hb)).mono ?_; rintro e w3 ⟨rfl, hb3⟩; replace hb := bel hb hb3; have HB3 := Lib.hid (HB.out.step hb3); clear hb3; have g20 : w3.cell? ⟨w.heap.size, 20, none⟩ = some (.slice eA el.length ec) := (HB3.out.cell 20).trans (by rw [HG.out]; rfl)))
      go_ret
      exact ⟨by rw [HE.out]; rfl, hb⟩
end
end Go.Proofs.YthfbpbbepogllaaGreat
/- The walks of the dividends' sums, of 'full' and of 'check', and of their references. -/
namespace Go.Proofs.YthfbpbbepogllaaGreat
set_option linter.unusedVariables false
set_option linter.unusedSimpArgs false
open Go.RowKit

def IntPost (v : Int) (w : World) (e : Ending) (w' : World) : Prop := e = .returned (.int .i64 v) ∧ Below w.heap.size w w'
theorem is_eq {d : Int} {q : Int → Bool} {x : ItemR} {b : Bool} (h : (x.account == d && q x.partner) = b) : Dv.is d q x = b := h
section
variable (gcs : Array Value) (cur : ByteArray) (y m p : Int) (cl : List Acc) (cA : Option Addr) (cc : Nat) (ro : RolesR) (el : List EntR) (eA : Option Addr) (ec : Nat) (w : World)
end
end Go.Proofs.YthfbpbbepogllaaGreat
