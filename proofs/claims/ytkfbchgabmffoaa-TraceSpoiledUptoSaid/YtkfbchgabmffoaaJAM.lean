/- Texts of this claim, put together. -/
import Derived.Test.YtkfbchgabmffoaaJAL
/- The walk of the reference's Check of a result. -/
namespace Go.Proofs.Ytkfbchgabmffoaa
set_option linter.unusedVariables false
set_option linter.unusedSimpArgs false
open Go.RowKit
open Go.Maps (Keyed)

def Mid (k n : Nat) : Prop := 1 ≤ k ∧ k ≤ n + 1
theorem has_before (I : List ItemR) (k : Nat) (r : RefR) : hasV (I.take k) r = refBefore I k r := rfl
set_option maxRecDepth 100000 in
set_option maxHeartbeats 8000000 in
theorem rtcheck_any (per : Int) (I : List ItemR) (AI : Option Addr) (cI : Nat) (P : List PostR) (AP : Option Addr) (cP : Nat) (T : List Bal) (AT : Option Addr) (cT : Nat) (w : World) (h : RIn w I AI P AP T AT)
    (hn : (allB I P).length ≤ 1000000) (hnI : I.length ≤ 1000000) (hcI : I.length ≤ cI) (hnP : P.length ≤ 1000000) (hnT : T.length ≤ 1000000) :
    Calls Try.prog 15 #[.agg #[.int .i64 per, .slice AI I.length cI, .slice AP P.length cP, .slice AT T.length cT]] w (BoolPost (checkV I P T) w) := by
  have hb : Below w.heap.size w (w.alloc (.cells #[.int .i64 per, .slice AI I.length cI, .slice AP P.length cP, .slice AT T.length cT] 26)) := (Below.refl _ _).alloc (Nat.le_refl _) _
  have HB := Lib.hid (Blk.new w 26 #[.int .i64 per, .slice AI I.length cI, .slice AP P.length cP, .slice AT T.length cT])
  have H := Lib.hid h
  have HNB := Lib.hid hn
  clear h hn
  go_enter Try.func15, Try.ntmps15
  go_wp2_with fail
  generalize hWW : w.alloc (.cells #[.int .i64 per, .slice AI I.length cI, .slice AP P.length cP, .slice AT T.length cT] 26) = W at *
  clear hWW
  go_loopw [3] (fun t wr => ∃ k : Nat, Mid k I.length ∧ (∀ j, j < k → j < I.length → itemAt I j = true) ∧ t = .int .i64 k ∧ Below W.heap.size W wr) (fun t _ => I.length - (intOf t).toNat)
  case atStart => exact ⟨1, ⟨by omega, by omega⟩, fun j h1 h2 => by (obtain rfl : j = 0 := (by omega)); exact item_yes h2 (.inl rfl) (by simp [refBefore]), rfl, Below.refl _ _⟩
  case round =>
    obtain ⟨k, ⟨hk1, hk⟩, hno, rfl, hbr⟩ := hrel
    have HN := Lib.hid hno
    clear hno
    have hbw := bel hb hbr
    have HBr := Lib.hid (HB.out.step hbr)
    have hBl := HBr.out.lt
    by_cases hlt : k < I.length
    · obtain ⟨b, o, hA, hbo, f0, f1, f2, f3, f4, f5, f6⟩ := ItemR.at_ (Rd.now H.out.it hbw) hlt
      subst hA
      have hk' : k - 1 < I.length := by omega
      obtain ⟨b', o', hA', hbo', g0, g1, g2, g3, g4, g5, g6⟩ := ItemR.at_ (Rd.now H.out.it hbw) hk'
      injection hA' with hA'
      injection hA' with hb' ho' _
      subst hb' ho'
      have e1 : wr.cell? ⟨w.heap.size, 1, none⟩ = some (.slice (some ⟨b, o, none⟩) I.length cI) := HBr.out.cell 1
      have HYES := Lib.hid (item_yes (I := I) hlt)
      have HNO1 := Lib.hid (item_no1 (I := I) hlt)
      have HNO2 := Lib.hid (item_no2 (I := I) hlt (by omega))
      have HTK := Lib.hid (fun W h => rhas_any 0 (I.take k) (some ⟨b, o, none⟩) cI (.slice none 0 0) (.slice none 0 0) I[k].ref W (rd_take ItemR.len h k (by omega)) (by rw [List.length_take]; omega))
      rw [show (I.take k).length = k by rw [List.length_take]; omega, has_before] at HTK
      have p0 := fun d : Later wr => d.cell hBl e1
      have c0 := fun d : Later wr => d.cell hbo f0
      have c1 := fun d : Later wr => d.cell hbo f1
      have c2 := fun d : Later wr => d.cell hbo f2
      have c3 := fun d : Later wr => d.cell hbo f3
      have c4 := fun d : Later wr => d.cell hbo f4
      have c5 := fun d : Later wr => d.cell hbo f5
      have c6 := fun d : Later wr => d.cell hbo f6
      have d0 := fun d : Later wr => d.cell hbo g0
      have d1 := fun d : Later wr => d.cell hbo g1
      have d2 := fun d : Later wr => d.cell hbo g2
      have d3 := fun d : Later wr => d.cell hbo g3
      have d4 := fun d : Later wr => d.cell hbo g4
      have d5 := fun d : Later wr => d.cell hbo g5
      have d6 := fun d : Later wr => d.cell hbo g6
      have hw1 : IntKind.i64.wrap ((k : Int) - 1) = ((k - 1 : Nat) : Int) := by rw [IntWalk.i64_in _ (by omega)]; omega
      have hz0 : (0 : Int) ≤ ((k - 1 : Nat) : Int) := by omega
      have hz1 : ((k - 1 : Nat) : Int) < I.length := by omega
      have hz2 : (0 : Int) ≤ (k : Int) := by omega
      have hz3 : (k : Int) < I.length := by omega
      have hz4 : (k : Int) ≤ cI := by omega
      clear g0 g1 g2 g3 g4 g5 g6 f0 f1 f2 f3 f4 f5 f6
      cases hcm : decide ((0 : Int) ≤ cmpI I[k - 1] I[k])
      · have HCM : Hid (cmpI I[k - 1] I[k] < 0) := Lib.hid (by simpa using hcm)
        cases hbf : refBefore I k I[k].ref
        · have HO : Hid (itemAt I k = true) := Lib.hid (HYES.out (.inr HCM.out) hbf)
          have HBF := Lib.hid hbf
          clear hbf
          go_wp2_with fail
          refine wp_region_later (by kernel_rfl) (by kernel_rfl) ?_
          (repeat (go_big_quiet_step ((fail)))); go_big_quiet_step ((go_at_call 23; exact Later.call _ (ricompare_any I[k - 1] I[k] _)))
          (repeat (go_big_quiet_step ((fail)))); go_big_quiet_step ((go_at_call 24; exact Later.call _ (HBF.out ▸ HTK.out _ (Rd.now H.out.it (bel hbw (Later.below _))))))
          (repeat (go_big_quiet_step ((fail)))); refine wpQuiet_nil ?_; rintro _ ⟨dq, rfl⟩
          have hbe := bel hbr dq.below
          clear p0 c0 c1 c2 c3 c4 c5 c6 d0 d1 d2 d3 d4 d5 d6 hw1
          go_wp2_with fail
          go_roundw
          case rel =>
            refine ⟨k + 1, ⟨by omega, by omega⟩, fun j hj h2 => ?_, by go_num, hbe⟩
            by_cases e : j = k
            · subst e; exact HO.out
            · exact HN.out j (by omega) h2
          case measure => simp [intOf]; omega
        · have HE : Hid (checkV I P T = false) := Lib.hid (check_bad hlt (HNO1.out hbf))
          have HBF := Lib.hid hbf
          clear hbf
          go_wp2_with fail
          refine wp_region_later (by kernel_rfl) (by kernel_rfl) ?_
          (repeat (go_big_quiet_step ((fail)))); go_big_quiet_step ((go_at_call 23; exact Later.call _ (ricompare_any I[k - 1] I[k] _)))
          (repeat (go_big_quiet_step ((fail)))); go_big_quiet_step ((go_at_call 24; exact Later.call _ (HBF.out ▸ HTK.out _ (Rd.now H.out.it (bel hbw (Later.below _))))))
          (repeat (go_big_quiet_step ((fail)))); refine wpQuiet_nil ?_; rintro _ ⟨dq, rfl⟩
          have hbe := bel hbw dq.below
          go_wp2_with fail
          go_ret
          exact ⟨ret_bool HE.out.symm, hbe⟩
      · have HE : Hid (checkV I P T = false) := Lib.hid (check_bad hlt (HNO2.out (by simpa using hcm)))
        go_wp2_with fail
        refine wp_region_later (by kernel_rfl) (by kernel_rfl) ?_
        (repeat (go_big_quiet_step ((fail)))); go_big_quiet_step ((go_at_call 23; exact Later.call _ (ricompare_any I[k - 1] I[k] _)))
        (repeat (go_big_quiet_step ((fail)))); refine wpQuiet_nil ?_; rintro _ ⟨dq, rfl⟩
        have hbe := bel hbw dq.below
        go_wp2_with fail
        go_ret
        exact ⟨ret_bool HE.out.symm, hbe⟩
    · have HV : Hid (itemsV I = true) := Lib.hid (allAt_yes fun j hj => HN.out j (by omega) hj)
      have e1 : wr.cell? ⟨w.heap.size, 1, none⟩ = some (.slice AI I.length cI) := HBr.out.cell 1
      have e2 : wr.cell? ⟨w.heap.size, 2, none⟩ = some (.slice AP P.length cP) := HBr.out.cell 2
      go_wp2_with fail
      refine (rtotal_any I AI cI P AP cP _ (Rd.now H.out.it hbw) (Rd.now H.out.po hbw) (fun p hp => (H.out.step hbw).pok p hp) HNB.out hnI hnP).mono ?_
      rintro e w5 ⟨v5, L, E, rfl, ho5, hb5, hc5⟩
      have HC : Hid (checkV I P T = ((E == 0) && decide (L = T))) := Lib.hid (check_tot HV.out hc5)
      have hlL : L.length ≤ 1000000 := by have := col_len hc5 rfl; have := HNB.out; omega
      have e3 : w5.cell? ⟨w.heap.size, 3, none⟩ = some (.slice AT T.length cT) := (HBr.out.step hb5).cell 3
      have hb6 := bel hbw hb5
      clear hc5 e1 e2 hb5
      obtain ⟨A5, c5, rfl, hrx⟩ := Rd.of_own ho5
      have H5 := Lib.hid hrx
      clear hrx ho5
      cases hE : ((E : Int) == 0)
      · go_wp2_with fail
        go_ret
        exact ⟨ret_bool (by rw [HC.out, hE]; rfl), hb6⟩
      · go_wp2_with (go_at_call 26; refine (sametot_any L T A5 AT c5 cT _ H5.out (Rd.now H.out.to hb6) (by omega) (by omega)).mono ?_; rintro e w6 ⟨rfl, hb7⟩)
        go_ret
        exact ⟨ret_bool (by rw [HC.out, hE]; rfl), bel hb6 hb7⟩
end Go.Proofs.Ytkfbchgabmffoaa
/- The walk of the reference's Lines of a result. -/
namespace Go.Proofs.Ytkfbchgabmffoaa
set_option linter.unusedVariables false
set_option linter.unusedSimpArgs false
open Go.RowKit

def OwnSrc (T : TypeId) (base : Nat) (L : List SrcR) (w : World) (e : Ending) (w' : World) : Prop := ∃ v, e = .returned v ∧ w'.ownsRow base T 6 v L.length (cellsOf SrcR.cells L) ∧ Below base w w'
theorem rsrc_info : (Try.prog.info? 37).map (fun i => (i.zero, i.size, i.bytes)) = some (some (.agg #[.int .i64 0, .int .i64 0, .int .i64 0, .int .i64 0, .int .i64 0, .int .i64 0]), 6, 48) := by kernel_rfl
theorem tsrc_info : (Try.prog.info? 38).map (fun i => (i.zero, i.size, i.bytes)) = some (some (.agg #[.int .i64 0, .int .i64 0, .int .i64 0, .int .i64 0, .int .i64 0, .int .i64 0]), 6, 48) := by kernel_rfl
set_option maxRecDepth 100000 in
set_option maxHeartbeats 8000000 in
theorem rlines_any (per : Int) (I : List ItemR) (AI : Option Addr) (cI : Nat) (P : List PostR) (AP : Option Addr) (cP : Nat) (T : List Bal) (AT : Option Addr) (cT : Nat) (f t : Int) (w : World) (h : RIn w I AI P AP T AT)
    (hn : (allB I P).length ≤ 1000000) (hnI : I.length ≤ 1000000) (hnP : P.length ≤ 1000000) (hnT : T.length ≤ 1000000) :
    Calls Try.prog 11 #[.agg #[.int .i64 per, .slice AI I.length cI, .slice AP P.length cP, .slice AT T.length cT], .int .i64 f, .int .i64 t] w (OwnSrc 37 w.heap.size (linesV f t I P) w) := by
  have hb : Below w.heap.size w (w.alloc (.cells #[.int .i64 per, .slice AI I.length cI, .slice AP P.length cP, .slice AT T.length cT] 26)) := (Below.refl _ _).alloc (Nat.le_refl _) _
  have HB := Lib.hid (Blk.new w 26 #[.int .i64 per, .slice AI I.length cI, .slice AP P.length cP, .slice AT T.length cT])
  have H := Lib.hid h
  have HNB := Lib.hid hn
  obtain ⟨i0, hi, hz0, hz1, hz2⟩ := info_parts rsrc_info
  clear h hn
  go_enter Try.func11, Try.ntmps11
  go_wp2_with fail
  generalize hWW : w.alloc (.cells #[.int .i64 per, .slice AI I.length cI, .slice AP P.length cP, .slice AT T.length cT] 26) = W at *
  clear hWW
  go_loopw [7, 8] (fun v x wr => ∃ k : Nat, k ≤ I.length ∧ x = .int .i64 k ∧ wr.ownsRow w.heap.size 37 6 v (pick f t (itS 0 (I.take k))).length (cellsOf SrcR.cells (pick f t (itS 0 (I.take k)))) ∧ Blk wr w.heap.size 26 #[.int .i64 per, .slice AI I.length cI, .slice AP P.length cP, .slice AT T.length cT] ∧ Below w.heap.size w wr) (fun _ x _ => I.length - (intOf x).toNat)
  case atStart => exact ⟨0, by omega, rfl, World.ownsRow_nil _ _ _ _, HB.out, hb⟩
  case round =>
    clear hb HB
    obtain ⟨k, hk, rfl, ho, hB, hb⟩ := hrel
    have hz := hb.size
    have e1 : wr.cell? ⟨w.heap.size, 1, none⟩ = some (.slice AI I.length cI) := hB.cell 1
    have e2 : wr.cell? ⟨w.heap.size, 2, none⟩ = some (.slice AP P.length cP) := hB.cell 2
    have HB := Lib.hid hB
    clear hB
    by_cases hlt : k < I.length
    · obtain ⟨b, o, hA, hbo, f0, f1, f2, f3, f4, f5, f6⟩ := ItemR.at_ (Rd.now H.out.it hb) hlt
      subst hA
      have HT := Lib.hid (itS_take I k hlt)
      have hln : (pick f t (itS 0 (I.take k))).length ≤ 1000000 := by have := pick_le f t (itS 0 (I.take k)); rw [itS_len, List.length_take] at this; omega
      by_cases h1 : f ≤ I[k].account
      · by_cases h2 : I[k].account ≤ t
        · have HP := Lib.hid (pick_yes (itS 0 (I.take k)) (inS_yes (f := f) (t := t) (s := ⟨I[k].ref, -1, k, I[k].account, I[k].amount⟩) h1 h2))
          go_wp2_with (at_builtin; (refine wpList_append_rec SrcR.cells 6 SrcR.len SrcR.one rfl (.tmp 35) (.tmp 44) 31 rfl w.heap.size 37 i0 _ 48 Try.underlying31 hi hz0 hz1 hz2 rfl (by decide) _ (pick f t (itS 0 (I.take k))) rfl ((ho.alloc _).alloc _) _ 1 ⟨I[k].ref, -1, k, I[k].account, I[k].amount⟩ _ rfl (blk_new2 _ _ _ _) rfl ?c3 ?c4 ?c5 ?_))
          case c3 => simp only [maxLen]; omega
          case c4 => omega
          case c5 => first | (simp; omega) | omega
          intro v4 w4 ho4 hg4
          have hb4 := bel_own (hb.alloc hz (.cells #[.int .i64 I[k].ref.entry, .int .i64 I[k].ref.line, .int .i64 I[k].entity, .int .i64 I[k].account, .int .i64 I[k].partner, .int .i64 I[k].date, .int .i64 I[k].amount] 45) |>.alloc (by simp; omega) (.cells #[.int .i64 I[k].ref.entry, .int .i64 I[k].ref.line, .int .i64 (-1), .int .i64 k, .int .i64 I[k].account, .int .i64 I[k].amount] 37)) (by simp; omega) ((ho.alloc _).alloc _) hg4
          have hB4 := (((HB.out.alloc (.cells #[.int .i64 I[k].ref.entry, .int .i64 I[k].ref.line, .int .i64 I[k].entity, .int .i64 I[k].account, .int .i64 I[k].partner, .int .i64 I[k].date, .int .i64 I[k].amount] 45)).alloc (.cells #[.int .i64 I[k].ref.entry, .int .i64 I[k].ref.line, .int .i64 (-1), .int .i64 k, .int .i64 I[k].account, .int .i64 I[k].amount] 37)).grown hg4 (own_ne_blk ho HB.out (by decide)))
          clear hg4
          go_wp2_with fail
          go_roundw
          case rel => exact ⟨k + 1, by omega, by go_num, by rw [HT.out, HP.out, List.length_append, List.length_singleton]; exact ho4, hB4, hb4⟩
          case measure => simp [intOf]; omega
        · have HP := Lib.hid (pick_no (itS 0 (I.take k)) (inS_no2 (f := f) (t := t) (s := ⟨I[k].ref, -1, k, I[k].account, I[k].amount⟩) h2))
          go_wp2_with fail
          go_roundw
          case rel => exact ⟨k + 1, by omega, by go_num, by rw [HT.out, HP.out]; exact ho.alloc _, HB.out.alloc _, hb.alloc hz _⟩
          case measure => simp [intOf]; omega
      · have HP := Lib.hid (pick_no (itS 0 (I.take k)) (inS_no1 (f := f) (t := t) (s := ⟨I[k].ref, -1, k, I[k].account, I[k].amount⟩) h1))
        go_wp2_with fail
        go_roundw
        case rel => exact ⟨k + 1, by omega, by go_num, by rw [HT.out, HP.out]; exact ho.alloc _, HB.out.alloc _, hb.alloc hz _⟩
        case measure => simp [intOf]; omega
    · have HE : Hid (I.take k = I) := Lib.hid (List.take_of_length_le (by omega))
      rw [HE.out] at ho
      have HPO := Lib.hid (poBals_len P)
      replace ho : wr.ownsRow w.heap.size 37 6 u7 (pick f t (itS 0 I ++ poS 0 (P.take 0))).length (cellsOf SrcR.cells (pick f t (itS 0 I ++ poS 0 (P.take 0)))) := by simpa [poS] using ho
      go_wp2_with fail
      clear e1 e2
      go_loopw [7, 10] (fun v x wr => ∃ k : Nat, k ≤ P.length ∧ x = .int .i64 k ∧ wr.ownsRow w.heap.size 37 6 v (pick f t (itS 0 I ++ poS 0 (P.take k))).length (cellsOf SrcR.cells (pick f t (itS 0 I ++ poS 0 (P.take k)))) ∧ Blk wr w.heap.size 26 #[.int .i64 per, .slice AI I.length cI, .slice AP P.length cP, .slice AT T.length cT] ∧ Below w.heap.size w wr) (fun _ x _ => P.length - (intOf x).toNat)
      case atStart => exact ⟨0, by omega, rfl, ho, HB.out, hb⟩
      case round =>
        clear hb HB ho
        obtain ⟨wo, rfl⟩ : ∃ wo : World, wo = wr := ⟨_, rfl⟩
        obtain ⟨k, hk, rfl, ho, hB, hb⟩ := hrel
        have hz := hb.size
        have HB := Lib.hid hB
        have e2 : wo.cell? ⟨w.heap.size, 2, none⟩ = some (.slice AP P.length cP) := hB.cell 2
        clear hB
        by_cases hlt : k < P.length
        · obtain ⟨x0, o, hA, hbo, f0, f1, f2, f3, f4⟩ := PostR.at_ (Rd.now H.out.po hb) hlt
          subst hA
          have HT := Lib.hid (poS_take P k hlt)
          have HL := Lib.hid (HPO.out k hlt)
          have HQ := Lib.hid ((H.out.pok _ (List.getElem_mem hlt)).2.2.2.2.1.1)
          have HAT := Lib.hid (fun (W : World) (hb : Below w.heap.size w W) => PostR.at_ (Rd.now H.out.po hb) hlt)
          obtain ⟨S0, hS0⟩ : ∃ S0, S0 = itS 0 I ++ poS 0 (P.take k) := ⟨_, rfl⟩
          rw [← hS0] at ho
          have HS0 := Lib.hid hS0
          have hSl : S0.length + P[k].parts.l.length ≤ 1000000 := by
            have h1 := HL.out
            have h2 := HNB.out
            unfold allB at h2
            rw [hS0, List.length_append, itS_len]
            rw [List.length_append, itBals_len] at h2
            have h3 : (poS 0 (P.take k)).length = (poBals (P.take k)).length := by rw [← poS_bal (P.take k) 0, List.length_map]
            omega
          clear hS0
          obtain ⟨pk, hpk⟩ : ∃ y, y = P[k] := ⟨_, rfl⟩
          rw [← hpk] at f0 f1 f2 f3 f4 HT HQ HAT hSl
          clear hpk HL
          obtain ⟨p1, p2, p3, p4, ⟨q, A, cap⟩⟩ := pk
          dsimp only [Sl.val] at *
          have ho0 : wo.ownsRow w.heap.size 37 6 u7 (pick f t (S0 ++ paS k 0 (q.take 0))).length (cellsOf SrcR.cells (pick f t (S0 ++ paS k 0 (q.take 0)))) := by simpa [paS] using ho
          have HO := Lib.hid ho0
          clear ho ho0
          go_wp2_with fail
          go_loopw [7, 11] (fun v x wr => ∃ j : Nat, j ≤ q.length ∧ x = .int .i64 j ∧ wr.ownsRow w.heap.size 37 6 v (pick f t (S0 ++ paS k 0 (q.take j))).length (cellsOf SrcR.cells (pick f t (S0 ++ paS k 0 (q.take j)))) ∧ Blk wr w.heap.size 26 #[.int .i64 per, .slice AI I.length cI, .slice (some ⟨x0, o, none⟩) P.length cP, .slice AT T.length cT] ∧ Below w.heap.size w wr) (fun _ x _ => q.length - (intOf x).toNat)
          case atStart => exact ⟨0, by omega, rfl, HO.out, HB.out, hb⟩
          case round =>
            clear hb HB HO f0 f1 f2 f3 f4 e2 hz
            obtain ⟨j, hj, rfl, ho, hB, hb⟩ := hrel
            have hz := hb.size
            have HB := Lib.hid hB
            have e2 : wr.cell? ⟨w.heap.size, 2, none⟩ = some (.slice (some ⟨x0, o, none⟩) P.length cP) := hB.cell 2
            obtain ⟨b', o', hA', hbo', g0, g1, g2, g3, g4⟩ := HAT.out wr hb
            injection hA' with hA'
            injection hA' with hb' ho' _
            subst hb' ho'
            clear hB
            by_cases hjl : j < q.length
            · obtain ⟨x, oo, hA, hbx, f0, f1⟩ := Bal.at_ (Rd.now HQ.out hb) hjl
              subst hA
              have HTJ := Lib.hid (paS_take k q j hjl)
              obtain ⟨S, hS⟩ : ∃ S, S = S0 ++ paS k 0 (q.take j) := ⟨_, rfl⟩
              have HSN : Hid (∀ y, paS k 0 (q.take (j + 1)) = paS k 0 (q.take j) ++ [y] → S0 ++ paS k 0 (q.take (j + 1)) = S ++ [y]) := Lib.hid (fun y e => by rw [hS, e, List.append_assoc])
              have hln : (pick f t S).length ≤ 1000000 := by
                have h1 := pick_le f t S
                have h2 : S.length = S0.length + j := by rw [hS, List.length_append, paS_len, List.length_take]; omega
                omega
              rw [← hS] at ho
              clear hS
              by_cases h1 : f ≤ q[j].account
              · by_cases h2 : q[j].account ≤ t
                · have HP := Lib.hid (pick_yes S (inS_yes (f := f) (t := t) (s := ⟨⟨0, 0⟩, k, j, q[j].account, q[j].amount⟩) h1 h2))
                  go_wp2_with (at_builtin; (refine wpList_append_rec SrcR.cells 6 SrcR.len SrcR.one rfl (.tmp 83) (.tmp 91) 31 rfl w.heap.size 37 i0 _ 48 Try.underlying31 hi hz0 hz1 hz2 rfl (by decide) _ (pick f t (S)) rfl ((ho.alloc _).alloc _) _ 1 ⟨⟨0, 0⟩, k, j, q[j].account, q[j].amount⟩ _ rfl (blk_new2 _ _ _ _) rfl ?c3 ?c4 ?c5 ?_))
                  case c3 => simp only [maxLen]; omega
                  case c4 => omega
                  case c5 => first | (simp; omega) | omega
                  intro v4 w4 ho4 hg4
                  have hb4 := bel_own (hb.alloc hz (.cells #[.int .i64 q[j].account, .int .i64 q[j].amount] 51) |>.alloc (by simp; omega) (.cells #[.int .i64 0, .int .i64 0, .int .i64 k, .int .i64 j, .int .i64 q[j].account, .int .i64 q[j].amount] 37)) (by simp; omega) ((ho.alloc _).alloc _) hg4
                  have hB4 := (((HB.out.alloc (.cells #[.int .i64 q[j].account, .int .i64 q[j].amount] 51)).alloc (.cells #[.int .i64 0, .int .i64 0, .int .i64 k, .int .i64 j, .int .i64 q[j].account, .int .i64 q[j].amount] 37)).grown hg4 (own_ne_blk ho HB.out (by decide)))
                  clear hg4
                  go_wp2_with fail
                  go_roundw
                  case rel => exact ⟨j + 1, by omega, by go_num, by rw [HSN.out _ HTJ.out, HP.out, List.length_append, List.length_singleton]; exact ho4, hB4, hb4⟩
                  case measure => simp [intOf]; omega
                · have HP := Lib.hid (pick_no S (inS_no2 (f := f) (t := t) (s := ⟨⟨0, 0⟩, k, j, q[j].account, q[j].amount⟩) h2))
                  go_wp2_with fail
                  go_roundw
                  case rel => exact ⟨j + 1, by omega, by go_num, by rw [HSN.out _ HTJ.out, HP.out]; exact ho.alloc _, HB.out.alloc _, hb.alloc hz _⟩
                  case measure => simp [intOf]; omega
              · have HP := Lib.hid (pick_no S (inS_no1 (f := f) (t := t) (s := ⟨⟨0, 0⟩, k, j, q[j].account, q[j].amount⟩) h1))
                go_wp2_with fail
                go_roundw
                case rel => exact ⟨j + 1, by omega, by go_num, by rw [HSN.out _ HTJ.out, HP.out]; exact ho.alloc _, HB.out.alloc _, hb.alloc hz _⟩
                case measure => simp [intOf]; omega
            · have HE : Hid (q.take j = q) := Lib.hid (List.take_of_length_le (by omega))
              rw [HE.out] at ho
              go_wp2_with fail
              go_roundw
              case rel => exact ⟨k + 1, by omega, by go_num, by rw [HT.out, ← List.append_assoc, ← HS0.out]; exact ho, HB.out, hb⟩
              case measure => simp [intOf]; omega
        · have HE : Hid (P.take k = P) := Lib.hid (List.take_of_length_le (by omega))
          rw [HE.out] at ho
          go_wp2_with fail
          go_ret
          exact ⟨_, rfl, ho, hb⟩
end Go.Proofs.Ytkfbchgabmffoaa
