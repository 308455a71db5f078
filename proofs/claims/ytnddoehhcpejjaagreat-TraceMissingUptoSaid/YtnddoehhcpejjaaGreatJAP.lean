/- Texts of this claim, put together. -/
import Derived.Test.YtnddoehhcpejjaaGreatGrpWalksPZ
/- The walks of the reference's entity and Valid. -/
namespace Go.Proofs.YtnddoehhcpejjaaGreat
set_option linter.unusedVariables false
set_option linter.unusedSimpArgs false
open Go.RowKit

theorem shut_yes {R : List RoleR} {c : Int} {j : Nat} (hj : j < R.length) (h1 : R[j].code = c) (h2 : R[j].mapped = false) : Gr.shut R c = true := by
  unfold Gr.shut
  rw [List.any_eq_true]
  exact ⟨R[j], List.getElem_mem hj, by rw [h1, h2]; simp⟩
theorem shut_no {R : List RoleR} {c : Int} (h : ∀ j (hj : j < R.length), ¬ (R[j].code = c ∧ R[j].mapped = false)) : Gr.shut R c = false := by
  unfold Gr.shut
  rw [List.any_eq_false]
  intro x hx
  obtain ⟨j, hj, rfl⟩ := List.mem_iff_getElem.1 hx
  have := h j hj
  simpa using this
theorem entV_no {ch : List Acc} {R : List RoleR} {x : EntR} (k : Nat) (hk : k < x.links.l.length) (h : Gr.shut R (x.links.l[k]).to = true) : Gr.entV ch R x = false := by
  unfold Gr.entV Gr.openL
  rw [allAt_no hk (by rw [getD_lt _ _ _ hk, h]; rfl)]
  simp
theorem fnd_here {el : List EntR} {k : Nat} (hk : k < el.length) (h : Gr.nameBefore el k = false) : fndI el el[k].name = k := by
  unfold Gr.nameBefore at h
  rw [getD_lt el k default hk, List.any_eq_false] at h
  have e : fidx (nameIs el[k].name) el = k := fidx_hit k hk (fun j hj => by
    have := h (el[j]'(by omega)) (by rw [List.mem_take_iff_getElem]; exact ⟨j, by omega, rfl⟩)
    unfold nameIs
    rw [beq_is, decide_eq_false_iff_not]
    intro e
    rw [ByteArray.toList_eq, ByteArray.toList_eq] at e
    exact this (by simpa using bytes_ext e)) (by unfold nameIs; simp)
  unfold fndI
  rw [e, if_pos (by omega)]
theorem fnd_else {el : List EntR} {k : Nat} (hk : k < el.length) (h : Gr.nameBefore el k = true) : fndI el el[k].name ≠ k := by
  unfold Gr.nameBefore at h
  rw [getD_lt el k default hk, List.any_eq_true] at h
  obtain ⟨x, hx, e⟩ := h
  rw [List.mem_take_iff_getElem] at hx
  obtain ⟨j, hj, rfl⟩ := hx
  have e := of_decide_eq_true e
  unfold fndI fidx
  cases hf : el.findIdx? (nameIs el[k].name) with
  | none =>
    rw [List.findIdx?_eq_none_iff] at hf
    have := hf el[k] (List.getElem_mem hk)
    unfold nameIs at this
    simp at this
  | some i =>
    rw [List.findIdx?_eq_some_iff_getElem] at hf
    obtain ⟨hi, h1, h2⟩ := hf
    have hij : i ≤ j := Nat.not_lt.1 fun hij => by
      have := h2 j hij
      unfold nameIs at this
      rw [e] at this
      simp at this
    simp only
    rw [if_pos (by omega)]
    omega
section
variable (gcs : Array Value) (cur : ByteArray) (y m p : Int) (cl : List Acc) (cA : Option Addr) (cc : Nat) (ro : RolesR) (el : List EntR) (eA : Option Addr) (ec : Nat) (w : World)
set_option maxRecDepth 100000 in
set_option maxHeartbeats 8000000 in
theorem rentity_any (xn xc : ByteArray) (l1 : List Acc) (A1 : Option Addr) (c1 : Nat) (l2 : List LinkR) (A2 : Option Addr) (c2 : Nat) (xj : Bool) (HG : Hid (gcs = #[.string cur, .int .i64 y, .int .i64 m, .int .i64 p, .slice cA cl.length cc, .int .i64 ro.investment, .int .i64 ro.goodwill, .int .i64 ro.associates, .int .i64 ro.inventory, .int .i64 ro.reserve, .int .i64 ro.minority, .int .i64 ro.retained, .int .i64 ro.acquired, .int .i64 ro.owners, .int .i64 ro.disposal, .int .i64 ro.associateProfit, .int .i64 ro.dividends, .int .i64 ro.minorityProfit, .int .i64 ro.difference, .int .i64 ro.margin, .slice eA el.length ec])) (h : GIn w cl cA el eA) (hn : cl.length ≤ 300000)
    (hx : EntR.Ok w ⟨xn, xc, ⟨l1, A1, c1⟩, ⟨l2, A2, c2⟩, xj⟩) (hn1 : l1.length ≤ 300000) (hn2 : l2.length ≤ 300000) :
    Calls Tryz.prog 73 #[.agg gcs, .agg #[.string xn, .string xc, .slice A1 l1.length c1, .slice A2 l2.length c2, .bool xj]] w (BoolPost (Gr.entV cl (Gr.roles ro) ⟨xn, xc, ⟨l1, A1, c1⟩, ⟨l2, A2, c2⟩, xj⟩) w) := by
  have H := Lib.hid h
  have hx1 : xn.size ≤ maxLen := hx.1
  have hx2 : xc.size ≤ maxLen := hx.2.1
  have HO1 : Hid (Rd w w.heap.size 4 A1 l1.length (Ch.cells l1)) := Lib.hid (by rw [← acc_gen]; exact hx.2.2.1.1.1)
  have HO2 : Hid (Rd w w.heap.size 3 A2 l2.length (cellsOf LinkR.cells l2)) := Lib.hid hx.2.2.2.1.1.1
  clear h hx
  have hb : Below w.heap.size w ((w.alloc (.cells gcs 29)).alloc (.cells #[.string xn, .string xc, .slice A1 l1.length c1, .slice A2 l2.length c2, .bool xj] 90)) := by
    have hb := Below.refl w.heap.size w
    exact (by repeat (first | exact hb | refine Below.alloc ?_ (by have hbs := hb.size; first | omega | (simp; done) | (simp; omega)) _ | refine Below.drew ?_ | refine below_drewN_ ?_ _ | refine Below.setCell ?_ (by simp) _))
  have HB := Lib.hid ((Blk.new w 29 gcs).alloc (.cells #[.string xn, .string xc, .slice A1 l1.length c1, .slice A2 l2.length c2, .bool xj] 90))
  have HX0 := Blk.new (w.alloc (.cells gcs 29)) 90 #[.string xn, .string xc, .slice A1 l1.length c1, .slice A2 l2.length c2, .bool xj]
  have ez : (w.alloc (.cells gcs 29)).heap.size = w.heap.size + 1 := by simp
  rw [ez] at HX0
  have HX := Lib.hid HX0
  clear ez HX0
  have e4 : ((w.alloc (.cells gcs 29)).alloc (.cells #[.string xn, .string xc, .slice A1 l1.length c1, .slice A2 l2.length c2, .bool xj] 90)).cell? ⟨w.heap.size, 4, none⟩ = some (.slice cA cl.length cc) := (HB.out.cell 4).trans (by rw [HG.out]; rfl)
  have HD : Hid (Gr.entV cl (Gr.roles ro) ⟨xn, xc, ⟨l1, A1, c1⟩, ⟨l2, A2, c2⟩, xj⟩ = (Gr.namV xn && (Gr.curV xc && (Gr.mapV l1 cl l2 && Gr.openL (Gr.roles ro) l2)))) := Lib.hid rfl
  have HNO : Hid (∀ k (hk : k < l2.length), Gr.shut (Gr.roles ro) (l2[k]).to = true → Gr.entV cl (Gr.roles ro) ⟨xn, xc, ⟨l1, A1, c1⟩, ⟨l2, A2, c2⟩, xj⟩ = false) := Lib.hid (fun k hk h => entV_no (x := ⟨xn, xc, ⟨l1, A1, c1⟩, ⟨l2, A2, c2⟩, xj⟩) k hk h)
  generalize Gr.entV cl (Gr.roles ro) ⟨xn, xc, ⟨l1, A1, c1⟩, ⟨l2, A2, c2⟩, xj⟩ = V at *
  cases hnm : Gr.namV xn
  · have HE : Hid (V = false) := Lib.hid (by rw [HD.out, hnm]; rfl)
    have HNM := Lib.hid hnm
    clear hnm
    go_enter Tryz.func73, Tryz.ntmps73
    go_wp2_with
      (go_at_call 103; refine ((rname_any xn _ hx1)).mono ?_; rintro e w2 ⟨rfl, rfl⟩; rw [HNM.out])
    go_ret
    exact ⟨by rw [HE.out]; rfl, hb⟩
  · have HNM := Lib.hid hnm
    cases hcu : Gr.curV xc
    · have HE : Hid (V = false) := Lib.hid (by rw [HD.out, hcu]; simp)
      have HCU := Lib.hid hcu
      clear hcu hnm
      go_enter Tryz.func73, Tryz.ntmps73
      go_wp2_with (first
        | (go_at_call 103; refine ((rname_any xn _ hx1)).mono ?_; rintro e w2 ⟨rfl, rfl⟩; rw [HNM.out])
        | (go_at_call 98; refine ((rcurrency_any xc _ hx2)).mono ?_; rintro e w2 ⟨rfl, rfl⟩; rw [HCU.out]))
      go_ret
      exact ⟨by rw [HE.out]; rfl, hb⟩
    · have HCU := Lib.hid hcu
      cases hma : Gr.mapV l1 cl l2
      · have HE : Hid (V = false) := Lib.hid (by rw [HD.out, hma]; simp)
        have HMA := Lib.hid hma
        clear hma hcu hnm
        go_enter Tryz.func73, Tryz.ntmps73
        go_wp2_with (first
          | (go_at_call 103; refine ((rname_any xn _ hx1)).mono ?_; rintro e w2 ⟨rfl, rfl⟩; rw [HNM.out])
          | (go_at_call 98; refine ((rcurrency_any xc _ hx2)).mono ?_; rintro e w2 ⟨rfl, rfl⟩; rw [HCU.out])
          | (go_at_call 104; refine (rmvalid_any xn xc l1 A1 c1 l2 A2 c2 xj cl cA cc _ (Rd.now HO1.out hb) (H.out.step hb).ch (Rd.now HO2.out hb) hn1 hn).mono ?_; rintro e w2 ⟨rfl, hb2⟩; rw [HMA.out]; replace hb := bel hb hb2; have HB2 := Lib.hid (HB.out.step hb2); have HX2 := Lib.hid (HX.out.step hb2); have g5 : w2.cell? ⟨w.heap.size, 5, none⟩ = some (.int .i64 ro.investment) := (HB2.out.cell 5).trans (by rw [HG.out]; rfl); have g6 : w2.cell? ⟨w.heap.size, 6, none⟩ = some (.int .i64 ro.goodwill) := (HB2.out.cell 6).trans (by rw [HG.out]; rfl); have g7 : w2.cell? ⟨w.heap.size, 7, none⟩ = some (.int .i64 ro.associates) := (HB2.out.cell 7).trans (by rw [HG.out]; rfl); have g8 : w2.cell? ⟨w.heap.size, 8, none⟩ = some (.int .i64 ro.inventory) := (HB2.out.cell 8).trans (by rw [HG.out]; rfl); have g9 : w2.cell? ⟨w.heap.size, 9, none⟩ = some (.int .i64 ro.reserve) := (HB2.out.cell 9).trans (by rw [HG.out]; rfl); have g10 : w2.cell? ⟨w.heap.size, 10, none⟩ = some (.int .i64 ro.minority) := (HB2.out.cell 10).trans (by rw [HG.out]; rfl); have g11 : w2.cell? ⟨w.heap.size, 11, none⟩ = some (.int .i64 ro.retained) := (HB2.out.cell 11).trans (by rw [HG.out]; rfl); have g12 : w2.cell? ⟨w.heap.size, 12, none⟩ = some (.int .i64 ro.acquired) := (HB2.out.cell 12).trans (by rw [HG.out]; rfl); have g13 : w2.cell? ⟨w.heap.size, 13, none⟩ = some (.int .i64 ro.owners) := (HB2.out.cell 13).trans (by rw [HG.out]; rfl); have g14 : w2.cell? ⟨w.heap.size, 14, none⟩ = some (.int .i64 ro.disposal) := (HB2.out.cell 14).trans (by rw [HG.out]; rfl); have g15 : w2.cell? ⟨w.heap.size, 15, none⟩ = some (.int .i64 ro.associateProfit) := (HB2.out.cell 15).trans (by rw [HG.out]; rfl); have g16 : w2.cell? ⟨w.heap.size, 16, none⟩ = some (.int .i64 ro.dividends) := (HB2.out.cell 16).trans (by rw [HG.out]; rfl); have g17 : w2.cell? ⟨w.heap.size, 17, none⟩ = some (.int .i64 ro.minorityProfit) := (HB2.out.cell 17).trans (by rw [HG.out]; rfl); have g18 : w2.cell? ⟨w.heap.size, 18, none⟩ = some (.int .i64 ro.difference) := (HB2.out.cell 18).trans (by rw [HG.out]; rfl); have g19 : w2.cell? ⟨w.heap.size, 19, none⟩ = some (.int .i64 ro.margin) := (HB2.out.cell 19).trans (by rw [HG.out]; rfl)))
        go_ret
        exact ⟨by rw [HE.out]; rfl, hb⟩
      · rw [hma, hcu, hnm, Bool.true_and, Bool.true_and, Bool.true_and] at HD
        have HMA := Lib.hid hma
        clear hma hcu hnm
        go_enter Tryz.func73, Tryz.ntmps73
        go_wp2_with (first
          | (go_at_call 103; refine ((rname_any xn _ hx1)).mono ?_; rintro e w2 ⟨rfl, rfl⟩; rw [HNM.out])
          | (go_at_call 98; refine ((rcurrency_any xc _ hx2)).mono ?_; rintro e w2 ⟨rfl, rfl⟩; rw [HCU.out])
          | (go_at_call 104; refine (rmvalid_any xn xc l1 A1 c1 l2 A2 c2 xj cl cA cc _ (Rd.now HO1.out hb) (H.out.step hb).ch (Rd.now HO2.out hb) hn1 hn).mono ?_; rintro e w2 ⟨rfl, hb2⟩; rw [HMA.out]; replace hb := bel hb hb2; have HB2 := Lib.hid (HB.out.step hb2); have HX2 := Lib.hid (HX.out.step hb2); have g5 : w2.cell? ⟨w.heap.size, 5, none⟩ = some (.int .i64 ro.investment) := (HB2.out.cell 5).trans (by rw [HG.out]; rfl); have g6 : w2.cell? ⟨w.heap.size, 6, none⟩ = some (.int .i64 ro.goodwill) := (HB2.out.cell 6).trans (by rw [HG.out]; rfl); have g7 : w2.cell? ⟨w.heap.size, 7, none⟩ = some (.int .i64 ro.associates) := (HB2.out.cell 7).trans (by rw [HG.out]; rfl); have g8 : w2.cell? ⟨w.heap.size, 8, none⟩ = some (.int .i64 ro.inventory) := (HB2.out.cell 8).trans (by rw [HG.out]; rfl); have g9 : w2.cell? ⟨w.heap.size, 9, none⟩ = some (.int .i64 ro.reserve) := (HB2.out.cell 9).trans (by rw [HG.out]; rfl); have g10 : w2.cell? ⟨w.heap.size, 10, none⟩ = some (.int .i64 ro.minority) := (HB2.out.cell 10).trans (by rw [HG.out]; rfl); have g11 : w2.cell? ⟨w.heap.size, 11, none⟩ = some (.int .i64 ro.retained) := (HB2.out.cell 11).trans (by rw [HG.out]; rfl); have g12 : w2.cell? ⟨w.heap.size, 12, none⟩ = some (.int .i64 ro.acquired) := (HB2.out.cell 12).trans (by rw [HG.out]; rfl); have g13 : w2.cell? ⟨w.heap.size, 13, none⟩ = some (.int .i64 ro.owners) := (HB2.out.cell 13).trans (by rw [HG.out]; rfl); have g14 : w2.cell? ⟨w.heap.size, 14, none⟩ = some (.int .i64 ro.disposal) := (HB2.out.cell 14).trans (by rw [HG.out]; rfl); have g15 : w2.cell? ⟨w.heap.size, 15, none⟩ = some (.int .i64 ro.associateProfit) := (HB2.out.cell 15).trans (by rw [HG.out]; rfl); have g16 : w2.cell? ⟨w.heap.size, 16, none⟩ = some (.int .i64 ro.dividends) := (HB2.out.cell 16).trans (by rw [HG.out]; rfl); have g17 : w2.cell? ⟨w.heap.size, 17, none⟩ = some (.int .i64 ro.minorityProfit) := (HB2.out.cell 17).trans (by rw [HG.out]; rfl); have g18 : w2.cell? ⟨w.heap.size, 18, none⟩ = some (.int .i64 ro.difference) := (HB2.out.cell 18).trans (by rw [HG.out]; rfl); have g19 : w2.cell? ⟨w.heap.size, 19, none⟩ = some (.int .i64 ro.margin) := (HB2.out.cell 19).trans (by rw [HG.out]; rfl)))
        clear e4 g5 g6 g7 g8 g9 g10 g11 g12 g13 g14 g15 g16 g17 g18 g19 HB HX hb2
        refine (rroles_any ro w2).mono ?_
        rintro e w4 ⟨A, lc, rfl, hr, hb9⟩
        replace hb := bel hb hb9
        have hlR : (Gr.roles ro).length ≤ 15 := Nat.le_of_eq (Gr.roles_len ro)
        generalize Gr.roles ro = R at *
        have HR := Lib.hid hr
        have HX4 := Lib.hid (HX2.out.step hb9)
        clear hr hb9 HB2 HX2
        go_wp2_with fail
        go_loopw [6] (fun t wr => ∃ k : Nat, k ≤ l2.length ∧ (∀ j, j < k → (!Gr.shut R (l2.getD j default).to) = true) ∧ t = .int .i64 k ∧ Below w4.heap.size w4 wr) (fun t _ => l2.length - (intOf t).toNat)
        case atStart => exact ⟨0, by omega, fun j h => by omega, rfl, Below.refl _ _⟩
        case round =>
          obtain ⟨k, hk, hno, rfl, hbr⟩ := hrel
          obtain ⟨wo, rfl⟩ : ∃ wo : World, wo = wr := ⟨_, rfl⟩
          have HN := Lib.hid hno
          clear hno
          have hbw := bel hb hbr
          have hX := HX4.out.step hbr
          have e3 : wo.cell? ⟨w.heap.size + 1, 3, none⟩ = some (.slice A2 l2.length c2) := hX.cell 3
          have HXo := Lib.hid hX
          clear hX
          by_cases hlt : k < l2.length
          · obtain ⟨b, o, hA, hbo, f0, f1, f2⟩ := LinkR.at_ (Rd.now HO2.out hbw) hlt
            subst hA
            have HL1 : Hid (∀ W, Below wo.heap.size wo W → W.cell? ⟨b, o + k * 3 + 1, none⟩ = some (.int .i64 l2[k].to)) := Lib.hid (fun W h => (h.cell (p := ⟨b, o + k * 3 + 1, none⟩) hbo).trans f1)
            have HL3 : Hid (∀ W, Below wo.heap.size wo W → W.cell? ⟨w.heap.size + 1, 3, none⟩ = some (.slice (some ⟨b, o, none⟩) l2.length c2)) := Lib.hid (fun W h => (HXo.out.step h).cell 3)
            clear f0 f1 f2
            go_wp2_with fail
            clear e3
            go_loopw [7] (fun t wr => ∃ j : Nat, j ≤ R.length ∧ (∀ i (h : i < R.length), i < j → ¬ (R[i].code = l2[k].to ∧ R[i].mapped = false)) ∧ t = .int .i64 j ∧ Below wo.heap.size wo wr) (fun t _ => R.length - (intOf t).toNat)
            case atStart => exact ⟨0, by omega, fun i _ h => by omega, rfl, Below.refl _ _⟩
            case round =>
              obtain ⟨j, hj, hnj, rfl, hbi⟩ := hrel
              have HNJ := Lib.hid hnj
              clear hnj
              by_cases hjl : j < R.length
              · obtain ⟨b', o', hA', hbo', -, p1, -, -, p4⟩ := RoleR.at_ (Rd.now HR.out (bel hbr hbi)) hjl
                subst hA'
                have q1 : ∀ d : Later wr, d.now.cell? ⟨b, o + k * 3 + 1, none⟩ = some (.int .i64 l2[k].to) := fun d => HL1.out _ (bel hbi d.below)
                have q3 : ∀ d : Later wr, d.now.cell? ⟨w.heap.size + 1, 3, none⟩ = some (.slice (some ⟨b, o, none⟩) l2.length c2) := fun d => HL3.out _ (bel hbi d.below)
                have q4 : ∀ d : Later wr, d.now.cell? ⟨b', o' + j * 5 + 1, none⟩ = some (.int .i64 R[j].code) := fun d => d.cell hbo' p1
                have q5 : ∀ d : Later wr, d.now.cell? ⟨b', o' + j * 5 + 4, none⟩ = some (.bool R[j].mapped) := fun d => d.cell hbo' p4
                clear p1 p4
                cases hf : (l2[k].to == R[j].code)
                · have HNE : Hid (¬ (R[j].code = l2[k].to ∧ R[j].mapped = false)) := Lib.hid (fun e => by simp at hf; exact hf e.1.symm)
                  go_wp2_with fail
                  refine wp_region_later (by kernel_rfl) (by kernel_rfl) ?_; (repeat (go_big_quiet_step ((fail)))); refine wpQuiet_nil ?_; rintro _ ⟨dq, rfl⟩
                  have hbe := bel hbi dq.below
                  go_wp2_with fail
                  go_roundw
                  case rel =>
                    refine ⟨j + 1, by omega, fun i hi hij => ?_, by go_num, hbe⟩
                    by_cases e : i = j
                    · subst e; exact HNE.out
                    · exact HNJ.out i hi (by omega)
                  case measure => simp [intOf]; omega
                · cases hm : R[j].mapped
                  · have HE : Hid (V = false) := Lib.hid (HNO.out k hlt (shut_yes hjl (by simp at hf; exact hf.symm) hm))
                    rw [hm] at q5
                    go_wp2_with fail
                    refine wp_region_later (by kernel_rfl) (by kernel_rfl) ?_; (repeat (go_big_quiet_step ((fail)))); refine wpQuiet_nil ?_; rintro _ ⟨dq, rfl⟩
                    have hbe := bel hbw (bel hbi dq.below)
                    go_wp2_with fail
                    go_ret
                    exact ⟨by rw [HE.out]; rfl, hbe⟩
                  · have HNE : Hid (¬ (R[j].code = l2[k].to ∧ R[j].mapped = false)) := Lib.hid (fun e => by rw [hm] at e; cases e.2)
                    rw [hm] at q5
                    go_wp2_with fail
                    refine wp_region_later (by kernel_rfl) (by kernel_rfl) ?_; (repeat (go_big_quiet_step ((fail)))); refine wpQuiet_nil ?_; rintro _ ⟨dq, rfl⟩
                    have hbe := bel hbi dq.below
                    go_wp2_with fail
                    go_roundw
                    case rel =>
                      refine ⟨j + 1, by omega, fun i hi hij => ?_, by go_num, hbe⟩
                      by_cases e : i = j
                      · subst e; exact HNE.out
                      · exact HNJ.out i hi (by omega)
                    case measure => simp [intOf]; omega
              · have HOK : Hid ((!Gr.shut R (l2.getD k default).to) = true) := Lib.hid (by rw [getD_lt l2 k default hlt, shut_no fun i hi => HNJ.out i hi (by omega)]; rfl)
                have hbe := bel hbr hbi
                go_wp2_with fail
                go_roundw
                case rel => exact ⟨k + 1, by omega, upto_succ HN.out HOK.out, by go_num, hbe⟩
                case measure => simp [intOf]; omega
          · have HE : Hid (V = true) := Lib.hid (by rw [HD.out]; unfold Gr.openL; exact allAt_yes fun j hj => HN.out j (by omega))
            go_wp2_with fail
            go_ret
            exact ⟨by rw [HE.out]; rfl, hbw⟩
end
end Go.Proofs.YtnddoehhcpejjaaGreat
/- The walk of the reference's Valid. -/
namespace Go.Proofs.YtnddoehhcpejjaaGreat
set_option linter.unusedVariables false
set_option linter.unusedSimpArgs false
open Go.RowKit

theorem gv_bk (cur : ByteArray) (cl : List Acc) (ro : RolesR) (el : List EntR) (cal : Bool) :
    Gr.gv cur cl ro el cal = (Gr.bk cur cl ro cal && (decide (1 ≤ el.length) && (decide (el.length ≤ 12) && (!(el.getD 0 default).joint && Gr.entsV cl (Gr.roles ro) el)))) := by
  unfold Gr.gv Gr.bk
  cases Gr.curV cur <;> cases cal <;> simp
section
variable (gcs : Array Value) (cur : ByteArray) (y m p : Int) (cl : List Acc) (cA : Option Addr) (cc : Nat) (ro : RolesR) (el : List EntR) (eA : Option Addr) (ec : Nat) (w : World)
set_option maxRecDepth 100000 in
set_option maxHeartbeats 8000000 in
theorem rgvalid_any (HG : Hid (gcs = #[.string cur, .int .i64 y, .int .i64 m, .int .i64 p, .slice cA cl.length cc, .int .i64 ro.investment, .int .i64 ro.goodwill, .int .i64 ro.associates, .int .i64 ro.inventory, .int .i64 ro.reserve, .int .i64 ro.minority, .int .i64 ro.retained, .int .i64 ro.acquired, .int .i64 ro.owners, .int .i64 ro.disposal, .int .i64 ro.associateProfit, .int .i64 ro.dividends, .int .i64 ro.minorityProfit, .int .i64 ro.difference, .int .i64 ro.margin, .slice eA el.length ec])) (h : GIn w cl cA el eA) (hF : FewOk cur cl el) : Calls Tryz.prog 48 #[.agg gcs] w (BoolPost (Gr.gv cur cl ro el (Cal.ok y m p)) w) := by
  have hn : cl.length ≤ 300000 := by have := hF.ch; omega
  have hel := hF.en
  have HF := Lib.hid hF.ents
  have H := Lib.hid h
  have KB := Lib.hid (fun W h => books_any gcs cur y m p cl cA cc ro el eA ec W HG h hF)
  clear h hF
  have hgi : (Tryz.prog.info? 29).map (·.size) = some gcs.size := by rw [HG.out]; exact grp_size
  have hb : Below w.heap.size w (w.alloc (.cells gcs 29)) := (Below.refl _ _).alloc (Nat.le_refl _) _
  have HB := Lib.hid (Blk.new w 29 gcs)
  have HD := Lib.hid (gv_bk cur cl ro el (Cal.ok y m p))
  generalize Gr.gv cur cl ro el (Cal.ok y m p) = V at *
  generalize hbkv : Gr.bk cur cl ro (Cal.ok y m p) = BK at *
  have HBKV := Lib.hid hbkv
  clear hbkv
  cases BK
  · have HE : Hid (V = false) := Lib.hid (by rw [HD.out]; rfl)
    have HBK : Hid (true = true) := Lib.hid rfl
    clear HBK
    go_enter Tryz.func48, Tryz.ntmps48
    go_wp2_with (first
      | (refine wpList_load_blk 29 (.tmp 1) rfl (w.heap.size) rfl (by kernel_rfl) (HB).out Tryz.underlying29 hgi ?_)
      | (go_at_call 71; refine (KB.out _ (H.out.step hb)).mono ?_; rintro e w3 ⟨rfl, hb3⟩; replace hb := bel hb hb3))
    go_ret
    exact ⟨by rw [HE.out]; rfl, hb⟩
  · rw [Bool.true_and] at HD
    by_cases h1 : 1 ≤ el.length
    · obtain ⟨b, o, hA, hbo, f0, f1, f2, f3, f4⟩ := EntR.at_ (k := 0) H.out.en h1
      subst hA
      have HF4 : Hid (∀ W, Below w.heap.size w W → W.cell? ⟨b, o + 4, none⟩ = some (.bool (el[0]'h1).joint)) := Lib.hid (fun W hb => (hb.cell (p := ⟨b, o + 4, none⟩) hbo).trans (by simpa using f4))
      clear f0 f1 f2 f3 f4
      rw [getD_lt el 0 default h1] at HD
      by_cases h12 : el.length ≤ 12
      · cases hj : (el[0]'h1).joint
        · rw [hj] at HF4
          have HJ := Lib.hid hj
          clear hj
          go_enter Tryz.func48, Tryz.ntmps48
          go_wp2_with (first
            | (refine wpList_load_blk 29 (.tmp 1) rfl (w.heap.size) rfl (by kernel_rfl) (HB).out Tryz.underlying29 hgi ?_)
            | (go_at_call 71; refine (KB.out _ (H.out.step hb)).mono ?_; rintro e w3 ⟨rfl, hb3⟩; replace hb := bel hb hb3; have HB3 := Lib.hid (HB.out.step hb3); clear hb3; have g20 : w3.cell? ⟨w.heap.size, 20, none⟩ = some (.slice (some ⟨b, o, none⟩) el.length ec) := (HB3.out.cell 20).trans (by rw [HG.out]; rfl); have g0 := HF4.out w3 hb))
          clear HF4 g20 g0 HB
          go_loopw [3] (fun t wr => ∃ k : Nat, k ≤ el.length ∧ (∀ j, j < k → (!Gr.nameBefore el j && Gr.entV cl (Gr.roles ro) (el.getD j default)) = true) ∧ t = .int .i64 k ∧ Below w3.heap.size w3 wr) (fun t _ => el.length - (intOf t).toNat)
          case atStart => exact ⟨0, by omega, fun j h => by omega, rfl, Below.refl _ _⟩
          case round =>
            obtain ⟨k, hk, hno, rfl, hbr⟩ := hrel
            obtain ⟨wo, rfl⟩ : ∃ wo : World, wo = wr := ⟨_, rfl⟩
            have HN := Lib.hid hno
            clear hno
            have HBr := Lib.hid (HB3.out.step hbr)
            have hbw := bel hb hbr
            have g20 : wo.cell? ⟨w.heap.size, 20, none⟩ = some (.slice (some ⟨b, o, none⟩) el.length ec) := (HBr.out.cell 20).trans (by rw [HG.out]; rfl)
            by_cases hlt : k < el.length
            · obtain ⟨b', o', hA', hbo', f0, f1, f2, f3, f4⟩ := EntR.at_ (Rd.now H.out.en hbw) hlt
              injection hA' with hA'
              injection hA' with hA1 hA2
              subst hA1 hA2
              have HOK := Lib.hid (H.out.ok _ (List.getElem_mem hlt))
              have hfew := HF.out k hlt
              have HX : Hid (el.getD k default = el[k]) := Lib.hid (getD_lt el k default hlt)
              have HFH := Lib.hid (fnd_here (el := el) hlt)
              have HFE := Lib.hid (fnd_else (el := el) hlt)
              have HC1 : Hid (∀ W, Below wo.heap.size wo W → W.cell? ⟨b, o + k * 5, none⟩ = some (.string el[k].name) ∧ W.cell? ⟨b, o + k * 5 + 1, none⟩ = some (.string el[k].currency) ∧ W.cell? ⟨b, o + k * 5 + 2, none⟩ = some (el[k].chart.val) ∧ W.cell? ⟨b, o + k * 5 + 3, none⟩ = some (el[k].links.val) ∧ W.cell? ⟨b, o + k * 5 + 4, none⟩ = some (.bool el[k].joint)) := Lib.hid (fun W h =>
                ⟨(h.cell (p := ⟨b, o + k * 5, none⟩) hbo').trans f0, (h.cell (p := ⟨b, o + k * 5 + 1, none⟩) hbo').trans f1, (h.cell (p := ⟨b, o + k * 5 + 2, none⟩) hbo').trans f2, (h.cell (p := ⟨b, o + k * 5 + 3, none⟩) hbo').trans f3, (h.cell (p := ⟨b, o + k * 5 + 4, none⟩) hbo').trans f4⟩)
              generalize el[k] = x at *
              obtain ⟨xn, xc, ⟨l1, A1, c1⟩, ⟨l2, A2, c2⟩, xj⟩ := x
              dsimp only [Sl.val] at *
              have KF := Lib.hid (fun W h => HG.out.symm ▸ grfind_any cur y m p cl cA cc ro el (some ⟨b, o, none⟩) ec W xn h (by omega))
              have q0 : ∀ d : Later wo, d.now.cell? ⟨b, o + k * 5, none⟩ = some (.string xn) := fun d => d.cell hbo' f0
              have q20 : ∀ d : Later wo, d.now.cell? ⟨w.heap.size, 20, none⟩ = some (.slice (some ⟨b, o, none⟩) el.length ec) := fun d => d.cell HBr.out.lt g20
              clear f0 f1 f2 f3 f4
              generalize fndI el xn = fi at *
              generalize fndB el xn = fb at *
              go_wp2_with fail
              clear g20
              refine wp_region_later (by kernel_rfl) (by kernel_rfl) ?_
              (repeat (go_big_quiet_step ((fail)))); refine quiet_load_blk 29 (.tmp 1) rfl (w.heap.size) rfl (by kernel_rfl) (HBr).out Tryz.underlying29 hgi ?_; (try simp only [Act.put, List.setIfInBounds_toArray, List.set_cons_zero, List.set_cons_succ])
              (repeat (go_big_quiet_step ((fail)))); go_big_quiet_step ((go_at_call 72; exact Later.call _ (KF.out _ (H.out.step (bel hbw (Later.below _))))))
              (repeat (go_big_quiet_step ((fail)))); refine wpQuiet_nil ?_; rintro _ ⟨dq, rfl⟩
              have hbd := bel hbw dq.below
              have hbr2 := bel hbr dq.below
              have HBd := Lib.hid (HBr.out.step dq.below)
              have hcell := HC1.out _ dq.below
              have hbl : b < dq.now.heap.size := by have := dq.below.size; omega
              clear q0 q20 KF
              generalize dq.now = W6 at *
              cases hne : (fi != (k : Int))
              · have HNB : Hid (Gr.nameBefore el k = false) := Lib.hid (by
                  cases hb9 : Gr.nameBefore el k
                  · rfl
                  · have := HFE.out hb9
                    simp at hne
                    exact absurd hne this)
                obtain ⟨r0, r1, r2, r3, r4⟩ := hcell
                have q0 : ∀ d : Later W6, d.now.cell? ⟨b, o + k * 5, none⟩ = some (.string xn) := fun d => d.cell hbl r0
                have q1 : ∀ d : Later W6, d.now.cell? ⟨b, o + k * 5 + 1, none⟩ = some (.string xc) := fun d => d.cell hbl r1
                have q2 : ∀ d : Later W6, d.now.cell? ⟨b, o + k * 5 + 2, none⟩ = some (.slice A1 l1.length c1) := fun d => d.cell hbl r2
                have q3 : ∀ d : Later W6, d.now.cell? ⟨b, o + k * 5 + 3, none⟩ = some (.slice A2 l2.length c2) := fun d => d.cell hbl r3
                have q4 : ∀ d : Later W6, d.now.cell? ⟨b, o + k * 5 + 4, none⟩ = some (.bool xj) := fun d => d.cell hbl r4
                have q20 : ∀ d : Later W6, d.now.cell? ⟨w.heap.size, 20, none⟩ = some (.slice (some ⟨b, o, none⟩) el.length ec) := fun d => d.cell HBd.out.lt ((HBd.out.cell 20).trans (by rw [HG.out]; rfl))
                clear r0 r1 r2 r3 r4
                have KE := Lib.hid (fun W h => rentity_any gcs cur y m p cl cA cc ro el (some ⟨b, o, none⟩) ec W xn xc l1 A1 c1 l2 A2 c2 xj HG (H.out.step h) hn (HOK.out.step h) (by omega) (by omega))
                cases hev : Gr.entV cl (Gr.roles ro) ⟨xn, xc, ⟨l1, A1, c1⟩, ⟨l2, A2, c2⟩, xj⟩
                · have HE : Hid (V = false) := Lib.hid (by rw [HD.out]; unfold Gr.entsV; rw [allAt_no hlt (by rw [HX.out, hev]; simp)]; simp)
                  rw [hev] at KE
                  clear hev
                  go_wp2_with fail
                  refine wp_region_later (by kernel_rfl) (by kernel_rfl) ?_
                  (repeat (go_big_quiet_step ((fail)))); refine quiet_load_blk 29 (.tmp 1) rfl (w.heap.size) rfl (by kernel_rfl) (HBd).out Tryz.underlying29 hgi ?_; (try simp only [Act.put, List.setIfInBounds_toArray, List.set_cons_zero, List.set_cons_succ])
                  (repeat (go_big_quiet_step ((fail)))); go_big_quiet_step ((go_at_call 73; exact Later.call _ (KE.out _ (bel hbd (Later.below _)))))
                  (repeat (go_big_quiet_step ((fail)))); refine wpQuiet_nil ?_; rintro _ ⟨dq, rfl⟩
                  have hbe := bel hbd dq.below
                  go_wp2_with fail
                  go_ret
                  exact ⟨by rw [HE.out]; rfl, hbe⟩
                · have HO : Hid ((!Gr.nameBefore el k && Gr.entV cl (Gr.roles ro) (el.getD k default)) = true) := Lib.hid (by rw [HX.out, HNB.out, hev]; rfl)
                  rw [hev] at KE
                  clear hev
                  go_wp2_with fail
                  refine wp_region_later (by kernel_rfl) (by kernel_rfl) ?_
                  (repeat (go_big_quiet_step ((fail)))); refine quiet_load_blk 29 (.tmp 1) rfl (w.heap.size) rfl (by kernel_rfl) (HBd).out Tryz.underlying29 hgi ?_; (try simp only [Act.put, List.setIfInBounds_toArray, List.set_cons_zero, List.set_cons_succ])
                  (repeat (go_big_quiet_step ((fail)))); go_big_quiet_step ((go_at_call 73; exact Later.call _ (KE.out _ (bel hbd (Later.below _)))))
                  (repeat (go_big_quiet_step ((fail)))); refine wpQuiet_nil ?_; rintro _ ⟨dq, rfl⟩
                  have hbe := bel hbr2 dq.below
                  go_wp2_with fail
                  go_roundw
                  case rel => exact ⟨k + 1, by omega, upto_succ HN.out HO.out, by go_num, hbe⟩
                  case measure => simp [intOf]; omega
              · have HNB : Hid (Gr.nameBefore el k = true) := Lib.hid (by
                  cases hb9 : Gr.nameBefore el k
                  · have := HFH.out hb9
                    simp at hne
                    exact absurd this hne
                  · rfl)
                have HE : Hid (V = false) := Lib.hid (by rw [HD.out]; unfold Gr.entsV; rw [allAt_no hlt (by rw [HNB.out]; rfl)]; simp)
                clear hcell
                go_wp2_with fail
                refine wp_region_later (by kernel_rfl) (by kernel_rfl) ?_; (repeat (go_big_quiet_step ((fail)))); refine wpQuiet_nil ?_; rintro _ ⟨dq, rfl⟩
                have hbe := bel hbd dq.below
                go_wp2_with fail
                go_ret
                exact ⟨by rw [HE.out]; rfl, hbe⟩
            · have HE : Hid (V = true) := Lib.hid (by rw [HD.out, HJ.out]; unfold Gr.entsV; rw [allAt_yes (fun j hj => HN.out j (by omega))]; simp [h12]; omega)
              go_wp2_with fail
              go_ret
              exact ⟨by rw [HE.out]; rfl, hbw⟩
        · have HE : Hid (V = false) := Lib.hid (by rw [HD.out]; simp [hj])
          rw [hj] at HF4
          clear hj
          go_enter Tryz.func48, Tryz.ntmps48
          go_wp2_with (first
            | (refine wpList_load_blk 29 (.tmp 1) rfl (w.heap.size) rfl (by kernel_rfl) (HB).out Tryz.underlying29 hgi ?_)
            | (go_at_call 71; refine (KB.out _ (H.out.step hb)).mono ?_; rintro e w3 ⟨rfl, hb3⟩; replace hb := bel hb hb3; have HB3 := Lib.hid (HB.out.step hb3); clear hb3; have g20 : w3.cell? ⟨w.heap.size, 20, none⟩ = some (.slice (some ⟨b, o, none⟩) el.length ec) := (HB3.out.cell 20).trans (by rw [HG.out]; rfl); have g0 := HF4.out w3 hb))
          go_ret
          exact ⟨by rw [HE.out]; rfl, hb⟩
      · have HE : Hid (V = false) := Lib.hid (by rw [HD.out]; simp [h12])
        have h12' : 12 < el.length := by omega
        go_enter Tryz.func48, Tryz.ntmps48
        go_wp2_with (first
          | (refine wpList_load_blk 29 (.tmp 1) rfl (w.heap.size) rfl (by kernel_rfl) (HB).out Tryz.underlying29 hgi ?_)
          | (go_at_call 71; refine (KB.out _ (H.out.step hb)).mono ?_; rintro e w3 ⟨rfl, hb3⟩; replace hb := bel hb hb3; have HB3 := Lib.hid (HB.out.step hb3); clear hb3; have g20 : w3.cell? ⟨w.heap.size, 20, none⟩ = some (.slice (some ⟨b, o, none⟩) el.length ec) := (HB3.out.cell 20).trans (by rw [HG.out]; rfl)))
        go_ret
        exact ⟨by rw [HE.out]; rfl, hb⟩
    · have HE : Hid (V = false) := Lib.hid (by rw [HD.out]; simp [h1])
      have h1' : el.length < 1 := by omega
      go_enter Tryz.func48, Tryz.ntmps48
      go_wp2_with (first
        | (refine wpList_load_blk 29 (.tmp 1) rfl (w.heap.size) rfl (by kernel_rfl) (HB).out Tryz.underlying29 hgi ?_)
        | (go_at_call 71; refine (KB.out _ (H.out.step hb)).mono ?_; rintro e w3 ⟨rfl, hb3⟩; replace hb := bel hb hb3; have HB3 := Lib.hid (HB.out.step hb3); clear hb3; have g20 : w3.cell? ⟨w.heap.size, 20, none⟩ = some (.slice eA el.length ec) := (HB3.out.cell 20).trans (by rw [HG.out]; rfl)))
      go_ret
      exact ⟨by rw [HE.out]; rfl, hb⟩
end
end Go.Proofs.YtnddoehhcpejjaaGreat
