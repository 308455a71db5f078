/- Texts of this claim, put together. -/
import Derived.Test.YtnddoehhcpejjaaGreatJBC
/- The walk of Check of a result. -/
namespace Go.Proofs.YtnddoehhcpejjaaGreat
set_option linter.unusedVariables false
set_option linter.unusedSimpArgs false
open Go.RowKit
open Go.Maps (Keyed)

/-- what a result's parts are, in memory -/
structure RIn (w : World) (I : List ItemR) (AI : Option Addr) (P : List PostR) (AP : Option Addr) (T : List Bal) (AT : Option Addr) : Prop where
  it : Rd w w.heap.size 7 AI I.length (cellsOf ItemR.cells I)
  po : Rd w w.heap.size 5 AP P.length (cellsOf PostR.cells P)
  to : Rd w w.heap.size 2 AT T.length (cellsOf Bal.cells T)
  pok : ∀ p ∈ P, p.Ok w
  iok : ∀ x ∈ I, Wf x.ref.entry ∧ Wf x.ref.line ∧ Wf x.account
theorem RIn.step {w w2 : World} {I : List ItemR} {AI : Option Addr} {P : List PostR} {AP : Option Addr} {T : List Bal} {AT : Option Addr} (h : RIn w I AI P AP T AT) (hb : Below w.heap.size w w2) : RIn w2 I AI P AP T AT :=
  ⟨Rd.now h.it hb, Rd.now h.po hb, Rd.now h.to hb, fun p hp => (h.pok p hp).step hb, h.iok⟩
theorem RIn.wf {w : World} {I : List ItemR} {AI : Option Addr} {P : List PostR} {AP : Option Addr} {T : List Bal} {AT : Option Addr} (h : RIn w I AI P AP T AT) : ∀ x ∈ allB I P, Wf x.account := by
  intro x hx
  rcases List.mem_append.1 hx with hx | hx
  · obtain ⟨i, hi, rfl⟩ := List.mem_map.1 hx
    exact (h.iok i hi).2.2
  · obtain ⟨p, hp, hxp⟩ := List.mem_flatMap.1 hx
    exact ((h.pok p hp).2.2.2.2.2 x hxp).1
set_option maxRecDepth 100000 in
set_option maxHeartbeats 8000000 in
theorem tcheck_any (per : Int) (I : List ItemR) (AI : Option Addr) (cI : Nat) (P : List PostR) (AP : Option Addr) (cP : Nat) (T : List Bal) (AT : Option Addr) (cT : Nat) (w : World) (h : RIn w I AI P AP T AT)
    (hn : (allB I P).length ≤ 1000000) (hnI : I.length ≤ 1000000) (hnP : P.length ≤ 1000000) (hnT : T.length ≤ 1000000) :
    Calls Tryz.prog 11 #[.agg #[.int .i64 per, .slice AI I.length cI, .slice AP P.length cP, .slice AT T.length cT]] w (BoolPost (checkV I P T) w) := by
  have hb : Below w.heap.size w (w.alloc (.cells #[.int .i64 per, .slice AI I.length cI, .slice AP P.length cP, .slice AT T.length cT] 41)) := (Below.refl _ _).alloc (Nat.le_refl _) _
  have HB := Lib.hid (Blk.new w 41 #[.int .i64 per, .slice AI I.length cI, .slice AP P.length cP, .slice AT T.length cT])
  have H := Lib.hid h
  have HNB := Lib.hid hn
  have hmm := @run_makeMap Tryz.prog
  clear h hn
  go_enter Tryz.func11, Tryz.ntmps11
  go_wp2_with fail
  generalize hWW : w.alloc (.cells #[.int .i64 per, .slice AI I.length cI, .slice AP P.length cP, .slice AT T.length cT] 41) = W at *
  have hszW : W.heap.size = w.heap.size + 1 := by rw [← hWW]; simp
  clear hWW
  have HBM := Lib.hid (HB.out.alloc (.map #[] 0))
  have hS0 : HasW Tryz.prog 50 (W.alloc (.map #[] 0)) (w.heap.size + 1) 0 (fun _ => false) := by have := HasW.made (P := Tryz.prog) (k := 50) W; rwa [hszW] at this
  have HS0 := Lib.hid hS0
  have hb1 : Below w.heap.size w (W.alloc (.map #[] 0)) := hb.alloc hb.size _
  clear hS0 hb hszW
  go_loopw [14] (fun t wr => ∃ k : Nat, k ≤ I.length ∧ (∀ j, j < k → itemAt I j = true) ∧ t = .int .i64 k ∧ HasW Tryz.prog 50 wr (w.heap.size + 1) k (refSeen I k) ∧ Blk wr w.heap.size 41 #[.int .i64 per, .slice AI I.length cI, .slice AP P.length cP, .slice AT T.length cT] ∧ Below w.heap.size w wr) (fun t _ => I.length - (intOf t).toNat)
  case atStart => exact ⟨0, by omega, fun j h => by omega, rfl, by rw [refSeen_zero]; exact HS0.out, HBM.out, hb1⟩
  case round =>
    clear hb1 HBM HB HS0
    obtain ⟨k, hk, hno, rfl, hS, hB, hb⟩ := hrel
    have HN := Lib.hid hno
    clear hno
    have hz := hb.size
    by_cases hlt : k < I.length
    · obtain ⟨b, o, hA, hbo, f0, f1, f2, f3, f4, f5, f6⟩ := ItemR.at_ (Rd.now H.out.it hb) hlt
      subst hA
      obtain ⟨w1, w2, -⟩ := H.out.iok _ (List.getElem_mem hlt)
      have HS1 := Lib.hid (refSeen_at I k I[k].ref)
      have HS2 := Lib.hid (refSeen_here I k hlt)
      have HS3 := Lib.hid (refSeen_other I k hlt)
      have HYES := Lib.hid (item_yes (I := I) hlt)
      have HNO1 := Lib.hid (item_no1 (I := I) hlt)
      have HNO2 := Lib.hid (item_no2 (I := I) hlt)
      have HX : Hid (k - 1 < I.length → ∀ b o, (some ⟨b, o, none⟩ : Option Addr) = some ⟨b, o, none⟩ → True) := Lib.hid fun _ _ _ _ => trivial
      obtain ⟨x, hx⟩ : ∃ x, x = I[k] := ⟨_, rfl⟩
      have HIK : Hid (x = I[k]) := Lib.hid hx
      rw [← hx] at w1 w2 f0 f1 f2 f3 f4 f5 f6 HS1 HS2 HS3 HYES HNO1 HNO2
      clear hx HX
      obtain ⟨⟨xe, xl⟩, x1, x2, x3, x4, x5⟩ := x
      dsimp only at *
      obtain ⟨kl, hkl⟩ := ref_key (r := ⟨xe, xl⟩) w1 w2
      unfold rval at hkl HS1 HS2 HS3
      have hLL := hS.alloc (.cells #[.int .i64 xe, .int .i64 xl, .int .i64 x1, .int .i64 x2, .int .i64 x3, .int .i64 x4, .int .i64 x5] 55)
      have HLL := Lib.hid (hLL.alloc (.cells #[] 76))
      have HK := Lib.hid ((Blk.new wr 55 #[.int .i64 xe, .int .i64 xl, .int .i64 x1, .int .i64 x2, .int .i64 x3, .int .i64 x4, .int .i64 x5]).alloc (.cells #[] 76))
      have HBB := Lib.hid ((hB.alloc (.cells #[.int .i64 xe, .int .i64 xl, .int .i64 x1, .int .i64 x2, .int .i64 x3, .int .i64 x4, .int .i64 x5] 55)).alloc (.cells #[] 76))
      have hbA : Below w.heap.size w ((wr.alloc (.cells #[.int .i64 xe, .int .i64 xl, .int .i64 x1, .int .i64 x2, .int .i64 x3, .int .i64 x4, .int .i64 x5] 55)).alloc (.cells #[] 76)) := (by repeat (first | exact hb | refine Below.alloc ?_ (by have hbs := hb.size; first | omega | (simp; done) | (simp; omega)) _ | refine Below.drew ?_ | refine below_drewN_ ?_ _ | refine Below.setCell ?_ (by simp) _))
      clear hS hB w1 w2
      cases hbf : refBefore I k ⟨xe, xl⟩
      · have HBF := Lib.hid hbf
        clear hbf
        go_upto_region 6 with (at_lookup; refine wpList_has_look rfl _ _ 75 rfl 76 keyed_ref Tryz.underlying75 (zero_unit _) hLL (.agg #[.int .i64 xe, .int .i64 xl]) kl hkl rfl rfl false (HS1.out.trans HBF.out) ?_)
        by_cases h0 : 0 < k
        · have hk1 : k - 1 < I.length := by omega
          obtain ⟨b', o', hA', hbo', g0, g1, g2, g3, g4, g5, g6⟩ := ItemR.at_ (Rd.now H.out.it hbA) hk1
          injection hA' with hA'
          injection hA' with hb' ho' _
          subst hb' ho'
          have hKl := HK.out.lt
          have hBl := HBB.out.lt
          have p0 := fun d : Later _ => d.cell hBl (HBB.out.cell 1)
          have c0 := fun d : Later _ => d.cell hKl (HK.out.cell 0)
          have c1 := fun d : Later _ => d.cell hKl (HK.out.cell 1)
          have c2 := fun d : Later _ => d.cell hKl (HK.out.cell 2)
          have c3 := fun d : Later _ => d.cell hKl (HK.out.cell 3)
          have c4 := fun d : Later _ => d.cell hKl (HK.out.cell 4)
          have c5 := fun d : Later _ => d.cell hKl (HK.out.cell 5)
          have c6 := fun d : Later _ => d.cell hKl (HK.out.cell 6)
          have d0 := fun d : Later _ => d.cell hbo' g0
          have d1 := fun d : Later _ => d.cell hbo' g1
          have d2 := fun d : Later _ => d.cell hbo' g2
          have d3 := fun d : Later _ => d.cell hbo' g3
          have d4 := fun d : Later _ => d.cell hbo' g4
          have d5 := fun d : Later _ => d.cell hbo' g5
          have d6 := fun d : Later _ => d.cell hbo' g6
          have hw1 : IntKind.i64.wrap ((k : Int) - 1) = ((k - 1 : Nat) : Int) := by rw [IntWalk.i64_in _ (by omega)]; omega
          have hz0 : (0 : Int) ≤ ((k - 1 : Nat) : Int) := by omega
          have hz1 : ((k - 1 : Nat) : Int) < I.length := by omega
          clear g0 g1 g2 g3 g4 g5 g6 f0 f1 f2 f3 f4 f5 f6
          cases hcm : decide ((0 : Int) ≤ cmpI I[k - 1] ⟨⟨xe, xl⟩, x1, x2, x3, x4, x5⟩)
          · have HO : Hid (itemAt I k = true) := Lib.hid (HYES.out (.inr (by simpa using hcm)) HBF.out)
            refine wp_region_later (by kernel_rfl) (by kernel_rfl) ?_
            (repeat (go_big_quiet_step ((fail)))); go_big_quiet_step ((go_at_call 20; exact Later.call _ (icompare_any I[k - 1] ⟨⟨xe, xl⟩, x1, x2, x3, x4, x5⟩ _)))
            (repeat (go_big_quiet_step ((fail)))); refine wpQuiet_nil ?_; rintro _ ⟨dq, rfl⟩
            have HS5 := Lib.hid (HLL.out.step dq.below)
            have HB5 := Lib.hid (HBB.out.step dq.below)
            have hb5 := bel hbA dq.below
            have hK5 := HK.out.step dq.below
            have r0 := hK5.cell 0
            have r1 := hK5.cell 1
            clear hK5 HK HLL HBB p0 c0 c1 c2 c3 c4 c5 c6 d0 d1 d2 d3 d4 d5 d6 hw1
            generalize dq.now = w5 at *
            go_wp2_with (at_mapUpdate; refine wpList_has_put (refSeen I (k + 1)) rfl _ _ _ 75 rfl 76 keyed_ref Tryz.underlying75 HS5.out (by unfold maxLen; omega) (.agg #[.int .i64 xe, .int .i64 xl]) kl hkl rfl rfl rfl HS2.out (fun u lu _ hu => HS3.out u hu) ?_; intro w6 hS6 hg6)
            have hbz := hb5.size
            have hB6 := HB5.out.grown hg6 (by simp)
            have hb6 : Below w.heap.size w w6 := Below.grown hb5 hg6 (by omega) (fun j hj => by injection hj with hj; omega)
            clear hg6
            go_wp2_with fail
            go_roundw
            case rel =>
              refine ⟨k + 1, by omega, fun j hj => ?_, by go_num, hS6, hB6, hb6⟩
              by_cases e : j = k
              · subst e; exact HO.out
              · exact HN.out j (by omega)
            case measure => simp [intOf]; omega
          · have HE : Hid (checkV I P T = false) := Lib.hid (check_bad hlt (HNO2.out h0 (by simpa using hcm)))
            refine wp_region_later (by kernel_rfl) (by kernel_rfl) ?_
            (repeat (go_big_quiet_step ((fail)))); go_big_quiet_step ((go_at_call 20; exact Later.call _ (icompare_any I[k - 1] ⟨⟨xe, xl⟩, x1, x2, x3, x4, x5⟩ _)))
            (repeat (go_big_quiet_step ((fail)))); refine wpQuiet_nil ?_; rintro _ ⟨dq, rfl⟩
            have hbe := bel hbA dq.below
            go_wp2_with fail
            go_ret
            exact ⟨ret_bool HE.out.symm, hbe⟩
        · have HO : Hid (itemAt I k = true) := Lib.hid (HYES.out (.inl (by omega)) HBF.out)
          have hd : decide ((0 : Int) < (k : Int)) = false := by simp; omega
          refine wp_region_later (by kernel_rfl) (by kernel_rfl) ?_; (repeat (go_big_quiet_step ((fail)))); refine wpQuiet_nil ?_; rintro _ ⟨dq, rfl⟩
          have HS5 := Lib.hid (HLL.out.step dq.below)
          have HB5 := Lib.hid (HBB.out.step dq.below)
          have hb5 := bel hbA dq.below
          have hK5 := HK.out.step dq.below
          have r0 := hK5.cell 0
          have r1 := hK5.cell 1
          clear hK5 HK HLL HBB f0 f1 f2 f3 f4 f5 f6
          generalize dq.now = w5 at *
          go_wp2_with (at_mapUpdate; refine wpList_has_put (refSeen I (k + 1)) rfl _ _ _ 75 rfl 76 keyed_ref Tryz.underlying75 HS5.out (by unfold maxLen; omega) (.agg #[.int .i64 xe, .int .i64 xl]) kl hkl rfl rfl rfl HS2.out (fun u lu _ hu => HS3.out u hu) ?_; intro w6 hS6 hg6)
          have hbz := hb5.size
          have hB6 := HB5.out.grown hg6 (by simp)
          have hb6 : Below w.heap.size w w6 := Below.grown hb5 hg6 (by omega) (fun j hj => by injection hj with hj; omega)
          clear hg6
          go_wp2_with fail
          go_roundw
          case rel =>
            refine ⟨k + 1, by omega, fun j hj => ?_, by go_num, hS6, hB6, hb6⟩
            by_cases e : j = k
            · subst e; exact HO.out
            · exact HN.out j (by omega)
          case measure => simp [intOf]; omega
      · have HE : Hid (checkV I P T = false) := Lib.hid (check_bad hlt (HNO1.out hbf))
        have HBF := Lib.hid hbf
        clear hbf
        go_wp2_with (at_lookup; refine wpList_has_look rfl _ _ 75 rfl 76 keyed_ref Tryz.underlying75 (zero_unit _) hLL (.agg #[.int .i64 xe, .int .i64 xl]) kl hkl rfl rfl true (HS1.out.trans HBF.out) ?_)
        refine wp_region_later (by kernel_rfl) (by kernel_rfl) ?_; (repeat (go_big_quiet_step ((fail)))); refine wpQuiet_nil ?_; rintro _ ⟨dq, rfl⟩
        have hbe := bel hbA dq.below
        go_wp2_with fail
        go_ret
        exact ⟨ret_bool HE.out.symm, hbe⟩
    · have HV : Hid (itemsV I = true) := Lib.hid (allAt_yes fun j hj => HN.out j (by omega))
      have e1 : wr.cell? ⟨w.heap.size, 1, none⟩ = some (.slice AI I.length cI) := hB.cell 1
      have e2 : wr.cell? ⟨w.heap.size, 2, none⟩ = some (.slice AP P.length cP) := hB.cell 2
      have HB := Lib.hid hB
      clear hB hS
      go_wp2_with fail
      refine (total_any I AI cI P AP cP _ (Rd.now H.out.it hb) (Rd.now H.out.po hb) (fun p hp => (H.out.step hb).pok p hp) H.out.wf HNB.out hnI hnP).mono ?_
      rintro e w5 ⟨v5, L, E, rfl, ho5, hb5, hc5⟩
      have HC : Hid (checkV I P T = ((E == 0) && decide (L = T))) := Lib.hid (check_tot HV.out hc5)
      have hlL : L.length ≤ 1000000 := by have := col_len hc5 rfl; have := HNB.out; omega
      have e3 : w5.cell? ⟨w.heap.size, 3, none⟩ = some (.slice AT T.length cT) := (HB.out.step hb5).cell 3
      have hb6 := bel hb hb5
      clear hc5 e1 e2 hb5
      obtain ⟨A5, c5, rfl, hrx⟩ := Rd.of_own ho5
      have H5 := Lib.hid hrx
      clear hrx ho5
      cases hE : ((E : Int) == 0)
      · go_wp2_with fail
        go_ret
        exact ⟨ret_bool (by rw [HC.out, hE]; rfl), hb6⟩
      · go_wp2_with (go_at_call 22; refine (bequal_any L T A5 AT c5 cT _ H5.out (Rd.now H.out.to hb6) (by omega) (by omega)).mono ?_; rintro e w6 ⟨rfl, hb7⟩)
        go_ret
        exact ⟨ret_bool (by rw [HC.out, hE]; rfl), bel hb6 hb7⟩
end Go.Proofs.YtnddoehhcpejjaaGreat
