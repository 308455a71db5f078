/- Texts of this claim, put together. -/
import Derived.Test.YtkfbchgabmffoaaJAP
import Derived.Test.YtkfbchgabmffoaaJAR
import Derived.Test.YtkfbchgabmffoaaJAL
import Derived.BigRegion
import Derived.Deep.DeepCutAuto
/- The walk of TraceSpoiled. -/
namespace Go.Proofs.Ytkfbchgabmffoaa
set_option linter.unusedVariables false
set_option linter.unusedSimpArgs false
open Go.RowKit

section
variable (per : Int) (I : List ItemR) (AI : Option Addr) (cI : Nat) (P : List PostR) (AP : Option Addr) (cP : Nat) (T : List Bal) (AT : Option Addr) (cT : Nat) (w : World)
theorem sbal_info : (Try.prog.info? 47).map (fun i => (i.zero, i.size, i.bytes)) = some (some (.agg #[.int .i64 0, .int .i64 0]), 2, 16) := by kernel_rfl
set_option maxRecDepth 100000 in
set_option maxHeartbeats 16000000 in
theorem law_TraceSpoiled (k : Nat) (by_ : Int) (hk : k ≤ 255) (hby0 : -32768 ≤ by_) (hby1 : by_ ≤ 32767) (h : TIn w I AI cI P AP cP T AT cT) :
    Calls Try.prog 7 #[.agg #[.int .i64 per, .slice AI I.length cI, .slice AP P.length cP, .slice AT T.length cT], .int .u8 k, .int .i16 by_] w fun e w' => e = .returned (.bool true) ∧ Below w.heap.size w w' := by
  have hb : Below w.heap.size w (w.alloc (.cells #[.int .i64 per, .slice AI I.length cI, .slice AP P.length cP, .slice AT T.length cT] 26)) := (Below.refl _ _).alloc (Nat.le_refl _) _
  have HB := Lib.hid (Blk.new w 26 #[.int .i64 per, .slice AI I.length cI, .slice AP P.length cP, .slice AT T.length cT])
  have H := Lib.hid h.rin
  have HT := Lib.hid h
  clear h
  go_enter Try.func7, Try.ntmps7
  go_wp2_with fail
  refine (tr_awake _).mono ?_
  rintro e w2 ⟨rfl, hb9⟩
  replace hb := bel hb hb9
  replace HB := Lib.hid (HB.out.step hb9)
  clear hb9
  have e0 : (w2).cell? ⟨w.heap.size, 0, none⟩ = some (.int .i64 per) := (HB).out.cell 0
  have e1 : (w2).cell? ⟨w.heap.size, 1, none⟩ = some (.slice AI I.length cI) := (HB).out.cell 1
  have e2 : (w2).cell? ⟨w.heap.size, 2, none⟩ = some (.slice AP P.length cP) := (HB).out.cell 2
  have e3 : (w2).cell? ⟨w.heap.size, 3, none⟩ = some (.slice AT T.length cT) := (HB).out.cell 3
  cases hs : smallT I P T
  · have HS := Lib.hid hs
    clear hs
    go_wp2_with fail
    refine (tsmall_any per I AI cI P AP cP T AT cT _ (H.out.step hb) HT.out.all HT.out.it HT.out.po HT.out.to).mono ?_
    rintro e w3 ⟨rfl, hb9⟩
    replace hb := bel hb hb9
    replace HB := Lib.hid (HB.out.step hb9)
    rw [HS.out]
    clear hb9
    go_wp2_with fail
    go_ret
    exact ⟨rfl, hb⟩
  · have HS := Lib.hid hs
    have OK := smallT_ok hs
    clear hs
    have n1 : (allB I P).length ≤ 1000000 := by have := OK.all; omega
    have n2 : I.length ≤ 1000000 := by have := OK.items; omega
    have n3 : P.length ≤ 1000000 := by have := OK.postings; omega
    have n4 : T.length ≤ 1000000 := by have := OK.all; omega
    have N1 := Lib.hid n1
    have HOK := Lib.hid OK
    clear OK n1
    go_wp2_with fail
    refine (tsmall_any per I AI cI P AP cP T AT cT _ (H.out.step hb) HT.out.all HT.out.it HT.out.po HT.out.to).mono ?_
    rintro e w3 ⟨rfl, hb9⟩
    replace hb := bel hb hb9
    replace HB := Lib.hid (HB.out.step hb9)
    rw [HS.out]
    clear hb9
    clear e0 e1 e2 e3
    have e0 : (w3).cell? ⟨w.heap.size, 0, none⟩ = some (.int .i64 per) := (HB).out.cell 0
    have e1 : (w3).cell? ⟨w.heap.size, 1, none⟩ = some (.slice AI I.length cI) := (HB).out.cell 1
    have e2 : (w3).cell? ⟨w.heap.size, 2, none⟩ = some (.slice AP P.length cP) := (HB).out.cell 2
    have e3 : (w3).cell? ⟨w.heap.size, 3, none⟩ = some (.slice AT T.length cT) := (HB).out.cell 3
    cases hby : (by_ == 0)
    · go_wp2_with fail
      refine (tcheck_any per I AI cI P AP cP T AT cT _ (H.out.step hb) N1.out n2 n3 n4).mono ?_
      rintro e w4 ⟨rfl, hb9⟩
      replace hb := bel hb hb9
      replace HB := Lib.hid (HB.out.step hb9)
      clear hb9 e0 e1 e2 e3
      have e0 : (w4).cell? ⟨w.heap.size, 0, none⟩ = some (.int .i64 per) := (HB).out.cell 0
      have e1 : (w4).cell? ⟨w.heap.size, 1, none⟩ = some (.slice AI I.length cI) := (HB).out.cell 1
      have e2 : (w4).cell? ⟨w.heap.size, 2, none⟩ = some (.slice AP P.length cP) := (HB).out.cell 2
      have e3 : (w4).cell? ⟨w.heap.size, 3, none⟩ = some (.slice AT T.length cT) := (HB).out.cell 3
      cases hck : checkV I P T
      · clear hck
        go_wp2_with fail
        go_ret
        exact ⟨rfl, hb⟩
      · have HCK := Lib.hid (check_ok hck)
        have HBY : Hid (by_ ≠ 0) := Lib.hid (by simpa using hby)
        clear hck
        go_upto_if 34 with fail
        go_cut [10] (fun _ wx => Blk wx w.heap.size 26 #[.int .i64 per, .slice AI I.length cI, .slice AP P.length cP, .slice AT T.length cT] ∧ Below w.heap.size w wx)
        case first =>
          by_cases hI : 0 < I.length
          · go_upto_region 7 with fail
            go_cut [8, 9] (fun s8 s9 wx => ∃ g1 g2 : Nat, s8 = .pointer (some ⟨g1, 0, none⟩) ∧ s9 = .pointer (some ⟨g2, 0, none⟩) ∧ g1 ≠ g2 ∧ w.heap.size + 1 ≤ g1 ∧ w.heap.size + 1 ≤ g2 ∧ Blk wx g1 26 #[.int .i64 per, .slice AI I.length cI, .slice AP P.length cP, .slice AT T.length cT] ∧ Blk wx g2 26 #[.int .i64 per, .slice AI I.length cI, .slice AP P.length cP, .slice AT T.length cT] ∧ Blk wx w.heap.size 26 #[.int .i64 per, .slice AI I.length cI, .slice AP P.length cP, .slice AT T.length cT] ∧ Below w.heap.size w wx)
            case first =>
              have hlt4 : w.heap.size < w4.heap.size := HB.out.lt
              go_region
              all_goals go_wp2_with fail
              all_goals go_meet
              · exact ⟨w4.heap.size, w4.heap.size + 1, rfl, rfl, by omega, by omega, by omega, ((Blk.new w4 _ _).alloc _).drew, (blk_new2 w4 _ _ _).drew, ((HB.out.alloc _).alloc _).drew, ((hb.alloc hb.size _).alloc (by have := hb.size; simp; omega) _).drew⟩
              · exact ⟨w4.heap.size + 1, w4.heap.size, rfl, rfl, by omega, by omega, by omega, (blk_new2 w4 _ _ _).drew, ((Blk.new w4 _ _).alloc _).drew, ((HB.out.alloc _).alloc _).drew, ((hb.alloc hb.size _).alloc (by have := hb.size; simp; omega) _).drew⟩
            case rest =>
              obtain ⟨g1, g2, rfl, rfl, hne, hg1, hg2, P1, P2, P0, hbc⟩ := hcut
              have l0 := P0.lt
              have l1 := P1.lt
              have l2 := P2.lt
              have hlI : I.length ≤ 200 := HOK.out.items
              obtain ⟨i0, hi, hz0, hz1, hz2⟩ := info_parts ItemR.info
              go_upto_region 8 with fail
              obtain ⟨B0, HB0⟩ : ∃ B0 : Nat, Hid (B0 = wc.heap.size) := ⟨_, Lib.hid rfl⟩
              have lB : g1 < B0 ∧ g2 < B0 ∧ w.heap.size < B0 := ⟨by rw [HB0.out]; exact l1, by rw [HB0.out]; exact l2, by rw [HB0.out]; exact l0⟩
              go_cut [10] (fun _ wx => ∃ (b1 c1 : Nat) (u1 : Array Value) (b2 c2 : Nat), b1 ≠ b2 ∧ B0 ≤ b1 ∧ B0 ≤ b2 ∧ Blk wx g1 26 #[.int .i64 per, .slice (some ⟨b1, 0, none⟩) I.length c1, .slice AP P.length cP, .slice AT T.length cT] ∧ Blk wx g2 26 #[.int .i64 per, .slice (some ⟨b2, 0, none⟩) I.length c2, .slice AP P.length cP, .slice AT T.length cT] ∧ Blk wx b1 45 u1 ∧ (∀ (j : Nat) (v : Value), (cellsOf ItemR.cells I)[j]? = some v → u1[j]? = some v) ∧ wx.ownsRow B0 45 7 (.slice (some ⟨b2, 0, none⟩) I.length c2) I.length (cellsOf ItemR.cells I) ∧ Blk wx w.heap.size 26 #[.int .i64 per, .slice AI I.length cI, .slice AP P.length cP, .slice AT T.length cT] ∧ B0 ≤ wx.heap.size ∧ Below w.heap.size w wx)
              case first =>
                have hB0 := HB0.out
                clear HB0
                subst hB0
                have p1 : ∀ d : LaterB (w.heap.size + 1) wc, d.now.cell? ⟨w.heap.size, 1, none⟩ = some (.slice AI I.length cI) := fun d => d.cell (by omega) (P0.cell 1)
                refine relT_begin (n := 12) (w.heap.size + 1) 9999 wc (by kernel_rfl) rfl ?_
                have hC : NearB (w.heap.size + 1) wc wc.drew := NearB.of (Below.refl _ _).drew
                refine relT_want (i := 1) rfl rfl (by kernel_rfl) (by kernel_rfl) (by kernel_rfl) rfl rfl (by kernel_rfl) (by kernel_rfl) (fun _ _ _ _ h => h) hC ?_
                intro K hK
                go_big_quiet_op
                go_big_quiet_on
                refine relT_want (i := 2) rfl rfl (by kernel_rfl) (by kernel_rfl) (by kernel_rfl) rfl rfl (by kernel_rfl) (by kernel_rfl) (fun _ _ _ _ h => h) hC ?_
                intro K hK
                go_big_quiet_op
                go_big_quiet_on
                refine relT_want (i := 5) rfl rfl (by kernel_rfl) (by kernel_rfl) (by kernel_rfl) rfl rfl (by kernel_rfl) (by kernel_rfl) (fun _ _ _ _ h => h) hC ?_
                intro K hK
                go_big_quiet_op
                go_big_quiet_on
                refine relT_want (i := 6) rfl rfl (by kernel_rfl) (by kernel_rfl) (by kernel_rfl) rfl rfl (by kernel_rfl) (by kernel_rfl) (fun _ _ _ _ h => h) hC ?_
                intro K hK
                go_big_quiet_op
                go_big_quiet_on
                refine relT_two (i := 0) (j := 4) (by kernel_rfl) rfl rfl rfl rfl ?_ ?_
                · intro K hK
                  have E0 := (Blk.new wc 45 #[]).drew
                  have Q1 := (P1.alloc (.cells #[] 45)).drew
                  have Q2 := (P2.alloc (.cells #[] 45)).drew
                  have Q0 := (P0.alloc (.cells #[] 45)).drew
                  have hs1a : wc.heap.size + 1 ≤ (wc.alloc (.cells #[] 45)).drew.heap.size := Nat.le_of_eq (Eq.symm (by show (wc.alloc (.cells #[] 45)).heap.size = _; simp))
                  have hs1b : (wc.alloc (.cells #[] 45)).drew.heap.size ≤ wc.heap.size + 1 := Nat.le_of_eq (by show (wc.alloc (.cells #[] 45)).heap.size = _; simp)
                  have HR := Lib.hid (Rd.now H.out.it ((hbc.alloc hbc.size (.cells #[] 45)).drew))
                  go_simp
                  have hC2 : Below (w.heap.size + 1) wc ((wc.alloc (.cells #[] 45)).drew) := hC.below.alloc (by have := hC.below.size; omega) _
                  refine hK _ _ (.inr (.inr (NearB.of hC2))) ?_
                  clear hK K hC
                  have hC := NearB.of hC2
                  clear hC2
                  generalize (wc.alloc (.cells #[] 45)).drew = W1 at *
                  (try simp only [Act.put, List.setIfInBounds_toArray, List.set_cons_zero, List.set_cons_succ])
                  refine relT_two (i := 3) (j := 4) (by kernel_rfl) rfl rfl rfl rfl ?_ ?_
                  · intro K hK
                    refine wp_copy_list ItemR.cells 7 ItemR.len ItemR.one (.tmp 37) (.tmp 39) 22 rfl rfl 45 i0 (.agg #[.int .i64 0, .int .i64 0, .int .i64 0, .int .i64 0, .int .i64 0, .int .i64 0, .int .i64 0]) 56 Try.underlying22 hi hz0 hz1 hz2 rfl (by decide) (wc.heap.size) 0 I rfl (by decide) #[] rfl E0 _ AI cI rfl HR.out hI (by simp only [maxLen]; omega) (by omega) ?_
                    intro b1 c1 u1 W2 G1 hcu1 hb1 hg3 hqb1
                    have hC2 : Below (w.heap.size + 1) wc W2 := Below.grown hC.below hg3 (by have := hC.below.size; omega) (fun k e => by injection e with e; omega)
                    have hsg := (hg3).size
                    refine hK _ _ (.inr (.inr (NearB.of hC2))) ?_
                    clear hK K hC
                    have hC := NearB.of hC2
                    clear hC2
                    (try simp only [Act.put, List.setIfInBounds_toArray, List.set_cons_zero, List.set_cons_succ])
                    replace Q1 := Q1.grown hg3 (by intro e; injection e with e; omega)
                    replace Q2 := Q2.grown hg3 (by intro e; injection e with e; omega)
                    replace Q0 := Q0.grown hg3 (by intro e; injection e with e; omega)
                    have HR := Lib.hid (Rd.now H.out.it (hbc.trans (hC.below.mono (show w.heap.size ≤ w.heap.size + 1 by omega))))
                    refine relT_want (i := 8) rfl rfl (by kernel_rfl) (by kernel_rfl) (by kernel_rfl) rfl rfl (by kernel_rfl) (by kernel_rfl) (fun _ _ _ _ h => h) hC ?_
                    intro K hK
                    go_big_quiet_op
                    go_big_quiet_on
                    have lG := G1.lt
                    refine relT_call (i := 4) (by kernel_rfl) rfl rfl ?_
                    intro K hK
                    have E4 := Blk.new W2 45 #[]
                    replace Q1 := Q1.alloc (.cells #[] 45)
                    replace Q2 := Q2.alloc (.cells #[] 45)
                    replace Q0 := Q0.alloc (.cells #[] 45)
                    replace G1 := G1.alloc (.cells #[] 45)
                    have hs2a : W2.heap.size + 1 ≤ (W2.alloc (.cells #[] 45)).heap.size := Nat.le_of_eq (Eq.symm (by simp))
                    have hs2b : (W2.alloc (.cells #[] 45)).heap.size ≤ W2.heap.size + 1 := Nat.le_of_eq (by simp)
                    go_simp
                    have hC2 : Below (w.heap.size + 1) wc (W2.alloc (.cells #[] 45)) := hC.below.alloc (by have := hC.below.size; omega) _
                    refine hK _ _ (.inr (.inr (NearB.of hC2))) ?_
                    clear hK K hC
                    have hC := NearB.of hC2
                    clear hC2
                    generalize W2.alloc (.cells #[] 45) = W3 at *
                    (try simp only [Act.put, List.setIfInBounds_toArray, List.set_cons_zero, List.set_cons_succ])
                    have HR := Lib.hid (Rd.now H.out.it (hbc.trans (hC.below.mono (show w.heap.size ≤ w.heap.size + 1 by omega))))
                    refine relT_call (i := 7) (by kernel_rfl) rfl rfl ?_
                    intro K hK
                    refine wp_copy_list ItemR.cells 7 ItemR.len ItemR.one (.tmp 41) (.tmp 43) 22 rfl rfl 45 i0 (.agg #[.int .i64 0, .int .i64 0, .int .i64 0, .int .i64 0, .int .i64 0, .int .i64 0, .int .i64 0]) 56 Try.underlying22 hi hz0 hz1 hz2 rfl (by decide) (W2.heap.size) 0 I rfl (by decide) #[] rfl E4 _ AI cI rfl HR.out hI (by simp only [maxLen]; omega) (by omega) ?_
                    intro b2 c2 u2 W4 G2 hcu2 hb2 hg7 hqb2
                    have hC2 : Below (w.heap.size + 1) wc W4 := Below.grown hC.below hg7 (by have := hC.below.size; omega) (fun k e => by injection e with e; omega)
                    have hsg := (hg7).size
                    refine hK _ _ (.inr (.inr (NearB.of hC2))) ?_
                    clear hK K hC
                    have hC := NearB.of hC2
                    clear hC2
                    (try simp only [Act.put, List.setIfInBounds_toArray, List.set_cons_zero, List.set_cons_succ])
                    replace Q1 := Q1.grown hg7 (by intro e; injection e with e; omega)
                    replace Q2 := Q2.grown hg7 (by intro e; injection e with e; omega)
                    replace Q0 := Q0.grown hg7 (by intro e; injection e with e; omega)
                    have HR := Lib.hid (Rd.now H.out.it (hbc.trans (hC.below.mono (show w.heap.size ≤ w.heap.size + 1 by omega))))
                    replace G1 := G1.grown hg7 (by intro e; injection e with e; omega)
                    refine relT_call (i := 9) (by kernel_rfl) rfl rfl ?_
                    intro K hK
                    have x1 : (W4).cell? ⟨g1, 1, none⟩ = some (.slice AI I.length cI) := Q1.cell 1
                    have x2 : (W4).frozen? ⟨g1, 1, none⟩ = false := Q1.frozen 1
                    go_simp
                    have hC2 : Below (w.heap.size + 1) wc ((W4).setCell ⟨g1, 1, none⟩ (.slice (some ⟨b1, 0, none⟩) I.length c1)) := hC.below.setCell (p := ⟨g1, 1, none⟩) hg1 _
                    refine hK _ _ (.inr (.inr (NearB.of hC2))) ?_
                    clear hK K hC x1 x2
                    have hC := NearB.of hC2
                    have V1 := Q1.set_ 1 (.slice (some ⟨b1, 0, none⟩) I.length c1)
                    have V2 := Q2.far (p := ⟨g1, 1, none⟩) (Ne.symm hne) (.slice (some ⟨b1, 0, none⟩) I.length c1)
                    have V0 := Q0.far (p := ⟨g1, 1, none⟩) (by show w.heap.size ≠ g1; omega) (.slice (some ⟨b1, 0, none⟩) I.length c1)
                    have VG1 := G1.far (p := ⟨g1, 1, none⟩) (by show b1 ≠ g1; omega) (.slice (some ⟨b1, 0, none⟩) I.length c1)
                    have VG2 := G2.far (p := ⟨g1, 1, none⟩) (by show b2 ≠ g1; omega) (.slice (some ⟨b1, 0, none⟩) I.length c1)
                    generalize (W4).setCell ⟨g1, 1, none⟩ (.slice (some ⟨b1, 0, none⟩) I.length c1) = WA at *
                    clear hC2
                    (try simp only [Act.put, List.setIfInBounds_toArray, List.set_cons_zero, List.set_cons_succ])
                    refine relT_call (i := 10) (by kernel_rfl) rfl rfl ?_
                    intro K hK
                    go_simp
                    refine hK _ _ (.inr (.inr hC)) ?_
                    clear hK K
                    (try simp only [Act.put, List.setIfInBounds_toArray, List.set_cons_zero, List.set_cons_succ])
                    refine relT_call (i := 11) (by kernel_rfl) rfl rfl ?_
                    intro K hK
                    have x1 : WA.cell? ⟨g2, 1, none⟩ = some (.slice AI I.length cI) := V2.cell 1
                    have x2 : WA.frozen? ⟨g2, 1, none⟩ = false := V2.frozen 1
                    go_simp
                    have hC2 : Below (w.heap.size + 1) wc (WA.setCell ⟨g2, 1, none⟩ (.slice (some ⟨b2, 0, none⟩) I.length c2)) := hC.below.setCell (p := ⟨g2, 1, none⟩) hg2 _
                    refine hK _ _ (.inr (.inr (NearB.of hC2))) ?_
                    clear hK K hC x1 x2
                    (try simp only [Act.put, List.setIfInBounds_toArray, List.set_cons_zero, List.set_cons_succ])
                    refine wpAnyT_done (by kernel_rfl) ?_ _
                    go_wp2_with fail
                    go_meet
                    exact ⟨b1, c1, u1, b2, c2, by omega, by omega, by omega, V1.far (p := ⟨g2, 1, none⟩) hne _, V2.set_ 1 _, VG1.far (p := ⟨g2, 1, none⟩) (by show b1 ≠ g2; omega) _, hcu1, ⟨cellsOf_len ItemR.len I, .inr ⟨b2, c2, u2, rfl, by omega, VG2.far (p := ⟨g2, 1, none⟩) (by show b2 ≠ g2; omega) _, hqb2.1, hqb2.2.1, hqb2.2.2.1, hqb2.2.2.2⟩⟩, V0.far (p := ⟨g2, 1, none⟩) (by show w.heap.size ≠ g2; omega) _, by (have := hC2.size; omega), (hbc.trans (hC2.mono (by omega)))⟩
                  · intro K hK
                    have E4 := Blk.new W1 45 #[]
                    replace E0 := E0.alloc (.cells #[] 45)
                    replace Q1 := Q1.alloc (.cells #[] 45)
                    replace Q2 := Q2.alloc (.cells #[] 45)
                    replace Q0 := Q0.alloc (.cells #[] 45)
                    have hs2a : W1.heap.size + 1 ≤ (W1.alloc (.cells #[] 45)).heap.size := Nat.le_of_eq (Eq.symm (by simp))
                    have hs2b : (W1.alloc (.cells #[] 45)).heap.size ≤ W1.heap.size + 1 := Nat.le_of_eq (by simp)
                    go_simp
                    have hC2 : Below (w.heap.size + 1) wc (W1.alloc (.cells #[] 45)) := hC.below.alloc (by have := hC.below.size; omega) _
                    refine hK _ _ (.inr (.inr (NearB.of hC2))) ?_
                    clear hK K hC
                    have hC := NearB.of hC2
                    clear hC2
                    generalize W1.alloc (.cells #[] 45) = W2 at *
                    (try simp only [Act.put, List.setIfInBounds_toArray, List.set_cons_zero, List.set_cons_succ])
                    have HR := Lib.hid (Rd.now H.out.it (hbc.trans (hC.below.mono (show w.heap.size ≤ w.heap.size + 1 by omega))))
                    refine relT_call (i := 3) (by kernel_rfl) rfl rfl ?_
                    intro K hK
                    refine wp_copy_list ItemR.cells 7 ItemR.len ItemR.one (.tmp 37) (.tmp 39) 22 rfl rfl 45 i0 (.agg #[.int .i64 0, .int .i64 0, .int .i64 0, .int .i64 0, .int .i64 0, .int .i64 0, .int .i64 0]) 56 Try.underlying22 hi hz0 hz1 hz2 rfl (by decide) (wc.heap.size) 0 I rfl (by decide) #[] rfl E0 _ AI cI rfl HR.out hI (by simp only [maxLen]; omega) (by omega) ?_
                    intro b1 c1 u1 W3 G1 hcu1 hb1 hg3 hqb1
                    have hC2 : Below (w.heap.size + 1) wc W3 := Below.grown hC.below hg3 (by have := hC.below.size; omega) (fun k e => by injection e with e; omega)
                    have hsg := (hg3).size
                    refine hK _ _ (.inr (.inr (NearB.of hC2))) ?_
                    clear hK K hC
                    have hC := NearB.of hC2
                    clear hC2
                    (try simp only [Act.put, List.setIfInBounds_toArray, List.set_cons_zero, List.set_cons_succ])
                    replace Q1 := Q1.grown hg3 (by intro e; injection e with e; omega)
                    replace Q2 := Q2.grown hg3 (by intro e; injection e with e; omega)
                    replace Q0 := Q0.grown hg3 (by intro e; injection e with e; omega)
                    have HR := Lib.hid (Rd.now H.out.it (hbc.trans (hC.below.mono (show w.heap.size ≤ w.heap.size + 1 by omega))))
                    refine relT_want (i := 8) rfl rfl (by kernel_rfl) (by kernel_rfl) (by kernel_rfl) rfl rfl (by kernel_rfl) (by kernel_rfl) (fun _ _ _ _ h => h) hC ?_
                    intro K hK
                    go_big_quiet_op
                    go_big_quiet_on
                    replace E4 := E4.grown hg3 (by intro e; injection e with e; omega)
                    have lG := G1.lt
                    refine relT_call (i := 7) (by kernel_rfl) rfl rfl ?_
                    intro K hK
                    refine wp_copy_list ItemR.cells 7 ItemR.len ItemR.one (.tmp 41) (.tmp 43) 22 rfl rfl 45 i0 (.agg #[.int .i64 0, .int .i64 0, .int .i64 0, .int .i64 0, .int .i64 0, .int .i64 0, .int .i64 0]) 56 Try.underlying22 hi hz0 hz1 hz2 rfl (by decide) (W1.heap.size) 0 I rfl (by decide) #[] rfl E4 _ AI cI rfl HR.out hI (by simp only [maxLen]; omega) (by omega) ?_
                    intro b2 c2 u2 W4 G2 hcu2 hb2 hg7 hqb2
                    have hC2 : Below (w.heap.size + 1) wc W4 := Below.grown hC.below hg7 (by have := hC.below.size; omega) (fun k e => by injection e with e; omega)
                    have hsg := (hg7).size
                    refine hK _ _ (.inr (.inr (NearB.of hC2))) ?_
                    clear hK K hC
                    have hC := NearB.of hC2
                    clear hC2
                    (try simp only [Act.put, List.setIfInBounds_toArray, List.set_cons_zero, List.set_cons_succ])
                    replace Q1 := Q1.grown hg7 (by intro e; injection e with e; omega)
                    replace Q2 := Q2.grown hg7 (by intro e; injection e with e; omega)
                    replace Q0 := Q0.grown hg7 (by intro e; injection e with e; omega)
                    have HR := Lib.hid (Rd.now H.out.it (hbc.trans (hC.below.mono (show w.heap.size ≤ w.heap.size + 1 by omega))))
                    replace G1 := G1.grown hg7 (by intro e; injection e with e; omega)
                    refine relT_call (i := 9) (by kernel_rfl) rfl rfl ?_
                    intro K hK
                    have x1 : (W4).cell? ⟨g1, 1, none⟩ = some (.slice AI I.length cI) := Q1.cell 1
                    have x2 : (W4).frozen? ⟨g1, 1, none⟩ = false := Q1.frozen 1
                    go_simp
                    have hC2 : Below (w.heap.size + 1) wc ((W4).setCell ⟨g1, 1, none⟩ (.slice (some ⟨b1, 0, none⟩) I.length c1)) := hC.below.setCell (p := ⟨g1, 1, none⟩) hg1 _
                    refine hK _ _ (.inr (.inr (NearB.of hC2))) ?_
                    clear hK K hC x1 x2
                    have hC := NearB.of hC2
                    have V1 := Q1.set_ 1 (.slice (some ⟨b1, 0, none⟩) I.length c1)
                    have V2 := Q2.far (p := ⟨g1, 1, none⟩) (Ne.symm hne) (.slice (some ⟨b1, 0, none⟩) I.length c1)
                    have V0 := Q0.far (p := ⟨g1, 1, none⟩) (by show w.heap.size ≠ g1; omega) (.slice (some ⟨b1, 0, none⟩) I.length c1)
                    have VG1 := G1.far (p := ⟨g1, 1, none⟩) (by show b1 ≠ g1; omega) (.slice (some ⟨b1, 0, none⟩) I.length c1)
                    have VG2 := G2.far (p := ⟨g1, 1, none⟩) (by show b2 ≠ g1; omega) (.slice (some ⟨b1, 0, none⟩) I.length c1)
                    generalize (W4).setCell ⟨g1, 1, none⟩ (.slice (some ⟨b1, 0, none⟩) I.length c1) = WA at *
                    clear hC2
                    (try simp only [Act.put, List.setIfInBounds_toArray, List.set_cons_zero, List.set_cons_succ])
                    refine relT_call (i := 10) (by kernel_rfl) rfl rfl ?_
                    intro K hK
                    go_simp
                    refine hK _ _ (.inr (.inr hC)) ?_
                    clear hK K
                    (try simp only [Act.put, List.setIfInBounds_toArray, List.set_cons_zero, List.set_cons_succ])
                    refine relT_call (i := 11) (by kernel_rfl) rfl rfl ?_
                    intro K hK
                    have x1 : WA.cell? ⟨g2, 1, none⟩ = some (.slice AI I.length cI) := V2.cell 1
                    have x2 : WA.frozen? ⟨g2, 1, none⟩ = false := V2.frozen 1
                    go_simp
                    have hC2 : Below (w.heap.size + 1) wc (WA.setCell ⟨g2, 1, none⟩ (.slice (some ⟨b2, 0, none⟩) I.length c2)) := hC.below.setCell (p := ⟨g2, 1, none⟩) hg2 _
                    refine hK _ _ (.inr (.inr (NearB.of hC2))) ?_
                    clear hK K hC x1 x2
                    (try simp only [Act.put, List.setIfInBounds_toArray, List.set_cons_zero, List.set_cons_succ])
                    refine wpAnyT_done (by kernel_rfl) ?_ _
                    go_wp2_with fail
                    go_meet
                    exact ⟨b1, c1, u1, b2, c2, by omega, by omega, by omega, V1.far (p := ⟨g2, 1, none⟩) hne _, V2.set_ 1 _, VG1.far (p := ⟨g2, 1, none⟩) (by show b1 ≠ g2; omega) _, hcu1, ⟨cellsOf_len ItemR.len I, .inr ⟨b2, c2, u2, rfl, by omega, VG2.far (p := ⟨g2, 1, none⟩) (by show b2 ≠ g2; omega) _, hqb2.1, hqb2.2.1, hqb2.2.2.1, hqb2.2.2.2⟩⟩, V0.far (p := ⟨g2, 1, none⟩) (by show w.heap.size ≠ g2; omega) _, by (have := hC2.size; omega), (hbc.trans (hC2.mono (by omega)))⟩
                · intro K hK
                  have E4 := (Blk.new wc 45 #[]).drew
                  have Q1 := (P1.alloc (.cells #[] 45)).drew
                  have Q2 := (P2.alloc (.cells #[] 45)).drew
                  have Q0 := (P0.alloc (.cells #[] 45)).drew
                  have hs1a : wc.heap.size + 1 ≤ (wc.alloc (.cells #[] 45)).drew.heap.size := Nat.le_of_eq (Eq.symm (by show (wc.alloc (.cells #[] 45)).heap.size = _; simp))
                  have hs1b : (wc.alloc (.cells #[] 45)).drew.heap.size ≤ wc.heap.size + 1 := Nat.le_of_eq (by show (wc.alloc (.cells #[] 45)).heap.size = _; simp)
                  go_simp
                  have hC2 : Below (w.heap.size + 1) wc ((wc.alloc (.cells #[] 45)).drew) := hC.below.alloc (by have := hC.below.size; omega) _
                  refine hK _ _ (.inr (.inr (NearB.of hC2))) ?_
                  clear hK K hC
                  have hC := NearB.of hC2
                  clear hC2
                  generalize (wc.alloc (.cells #[] 45)).drew = W1 at *
                  (try simp only [Act.put, List.setIfInBounds_toArray, List.set_cons_zero, List.set_cons_succ])
                  refine relT_call (i := 0) (by kernel_rfl) rfl rfl ?_
                  intro K hK
                  have E0 := Blk.new W1 45 #[]
                  replace E4 := E4.alloc (.cells #[] 45)
                  replace Q1 := Q1.alloc (.cells #[] 45)
                  replace Q2 := Q2.alloc (.cells #[] 45)
                  replace Q0 := Q0.alloc (.cells #[] 45)
                  have hs2a : W1.heap.size + 1 ≤ (W1.alloc (.cells #[] 45)).heap.size := Nat.le_of_eq (Eq.symm (by simp))
                  have hs2b : (W1.alloc (.cells #[] 45)).heap.size ≤ W1.heap.size + 1 := Nat.le_of_eq (by simp)
                  go_simp
                  have hC2 : Below (w.heap.size + 1) wc (W1.alloc (.cells #[] 45)) := hC.below.alloc (by have := hC.below.size; omega) _
                  refine hK _ _ (.inr (.inr (NearB.of hC2))) ?_
                  clear hK K hC
                  have hC := NearB.of hC2
                  clear hC2
                  generalize W1.alloc (.cells #[] 45) = W2 at *
                  (try simp only [Act.put, List.setIfInBounds_toArray, List.set_cons_zero, List.set_cons_succ])
                  have HR := Lib.hid (Rd.now H.out.it (hbc.trans (hC.below.mono (show w.heap.size ≤ w.heap.size + 1 by omega))))
                  refine relT_call (i := 3) (by kernel_rfl) rfl rfl ?_
                  intro K hK
                  refine wp_copy_list ItemR.cells 7 ItemR.len ItemR.one (.tmp 37) (.tmp 39) 22 rfl rfl 45 i0 (.agg #[.int .i64 0, .int .i64 0, .int .i64 0, .int .i64 0, .int .i64 0, .int .i64 0, .int .i64 0]) 56 Try.underlying22 hi hz0 hz1 hz2 rfl (by decide) (W1.heap.size) 0 I rfl (by decide) #[] rfl E0 _ AI cI rfl HR.out hI (by simp only [maxLen]; omega) (by omega) ?_
                  intro b1 c1 u1 W3 G1 hcu1 hb1 hg3 hqb1
                  have hC2 : Below (w.heap.size + 1) wc W3 := Below.grown hC.below hg3 (by have := hC.below.size; omega) (fun k e => by injection e with e; omega)
                  have hsg := (hg3).size
                  refine hK _ _ (.inr (.inr (NearB.of hC2))) ?_
                  clear hK K hC
                  have hC := NearB.of hC2
                  clear hC2
                  (try simp only [Act.put, List.setIfInBounds_toArray, List.set_cons_zero, List.set_cons_succ])
                  replace Q1 := Q1.grown hg3 (by intro e; injection e with e; omega)
                  replace Q2 := Q2.grown hg3 (by intro e; injection e with e; omega)
                  replace Q0 := Q0.grown hg3 (by intro e; injection e with e; omega)
                  have HR := Lib.hid (Rd.now H.out.it (hbc.trans (hC.below.mono (show w.heap.size ≤ w.heap.size + 1 by omega))))
                  refine relT_want (i := 8) rfl rfl (by kernel_rfl) (by kernel_rfl) (by kernel_rfl) rfl rfl (by kernel_rfl) (by kernel_rfl) (fun _ _ _ _ h => h) hC ?_
                  intro K hK
                  go_big_quiet_op
                  go_big_quiet_on
                  replace E4 := E4.grown hg3 (by intro e; injection e with e; omega)
                  have lG := G1.lt
                  refine relT_call (i := 7) (by kernel_rfl) rfl rfl ?_
                  intro K hK
                  refine wp_copy_list ItemR.cells 7 ItemR.len ItemR.one (.tmp 41) (.tmp 43) 22 rfl rfl 45 i0 (.agg #[.int .i64 0, .int .i64 0, .int .i64 0, .int .i64 0, .int .i64 0, .int .i64 0, .int .i64 0]) 56 Try.underlying22 hi hz0 hz1 hz2 rfl (by decide) (wc.heap.size) 0 I rfl (by decide) #[] rfl E4 _ AI cI rfl HR.out hI (by simp only [maxLen]; omega) (by omega) ?_
                  intro b2 c2 u2 W4 G2 hcu2 hb2 hg7 hqb2
                  have hC2 : Below (w.heap.size + 1) wc W4 := Below.grown hC.below hg7 (by have := hC.below.size; omega) (fun k e => by injection e with e; omega)
                  have hsg := (hg7).size
                  refine hK _ _ (.inr (.inr (NearB.of hC2))) ?_
                  clear hK K hC
                  have hC := NearB.of hC2
                  clear hC2
                  (try simp only [Act.put, List.setIfInBounds_toArray, List.set_cons_zero, List.set_cons_succ])
                  replace Q1 := Q1.grown hg7 (by intro e; injection e with e; omega)
                  replace Q2 := Q2.grown hg7 (by intro e; injection e with e; omega)
                  replace Q0 := Q0.grown hg7 (by intro e; injection e with e; omega)
                  have HR := Lib.hid (Rd.now H.out.it (hbc.trans (hC.below.mono (show w.heap.size ≤ w.heap.size + 1 by omega))))
                  replace G1 := G1.grown hg7 (by intro e; injection e with e; omega)
                  refine relT_call (i := 9) (by kernel_rfl) rfl rfl ?_
                  intro K hK
                  have x1 : (W4).cell? ⟨g1, 1, none⟩ = some (.slice AI I.length cI) := Q1.cell 1
                  have x2 : (W4).frozen? ⟨g1, 1, none⟩ = false := Q1.frozen 1
                  go_simp
                  have hC2 : Below (w.heap.size + 1) wc ((W4).setCell ⟨g1, 1, none⟩ (.slice (some ⟨b1, 0, none⟩) I.length c1)) := hC.below.setCell (p := ⟨g1, 1, none⟩) hg1 _
                  refine hK _ _ (.inr (.inr (NearB.of hC2))) ?_
                  clear hK K hC x1 x2
                  have hC := NearB.of hC2
                  have V1 := Q1.set_ 1 (.slice (some ⟨b1, 0, none⟩) I.length c1)
                  have V2 := Q2.far (p := ⟨g1, 1, none⟩) (Ne.symm hne) (.slice (some ⟨b1, 0, none⟩) I.length c1)
                  have V0 := Q0.far (p := ⟨g1, 1, none⟩) (by show w.heap.size ≠ g1; omega) (.slice (some ⟨b1, 0, none⟩) I.length c1)
                  have VG1 := G1.far (p := ⟨g1, 1, none⟩) (by show b1 ≠ g1; omega) (.slice (some ⟨b1, 0, none⟩) I.length c1)
                  have VG2 := G2.far (p := ⟨g1, 1, none⟩) (by show b2 ≠ g1; omega) (.slice (some ⟨b1, 0, none⟩) I.length c1)
                  generalize (W4).setCell ⟨g1, 1, none⟩ (.slice (some ⟨b1, 0, none⟩) I.length c1) = WA at *
                  clear hC2
                  (try simp only [Act.put, List.setIfInBounds_toArray, List.set_cons_zero, List.set_cons_succ])
                  refine relT_call (i := 10) (by kernel_rfl) rfl rfl ?_
                  intro K hK
                  go_simp
                  refine hK _ _ (.inr (.inr hC)) ?_
                  clear hK K
                  (try simp only [Act.put, List.setIfInBounds_toArray, List.set_cons_zero, List.set_cons_succ])
                  refine relT_call (i := 11) (by kernel_rfl) rfl rfl ?_
                  intro K hK
                  have x1 : WA.cell? ⟨g2, 1, none⟩ = some (.slice AI I.length cI) := V2.cell 1
                  have x2 : WA.frozen? ⟨g2, 1, none⟩ = false := V2.frozen 1
                  go_simp
                  have hC2 : Below (w.heap.size + 1) wc (WA.setCell ⟨g2, 1, none⟩ (.slice (some ⟨b2, 0, none⟩) I.length c2)) := hC.below.setCell (p := ⟨g2, 1, none⟩) hg2 _
                  refine hK _ _ (.inr (.inr (NearB.of hC2))) ?_
                  clear hK K hC x1 x2
                  (try simp only [Act.put, List.setIfInBounds_toArray, List.set_cons_zero, List.set_cons_succ])
                  refine wpAnyT_done (by kernel_rfl) ?_ _
                  go_wp2_with fail
                  go_meet
                  exact ⟨b1, c1, u1, b2, c2, by omega, by omega, by omega, V1.far (p := ⟨g2, 1, none⟩) hne _, V2.set_ 1 _, VG1.far (p := ⟨g2, 1, none⟩) (by show b1 ≠ g2; omega) _, hcu1, ⟨cellsOf_len ItemR.len I, .inr ⟨b2, c2, u2, rfl, by omega, VG2.far (p := ⟨g2, 1, none⟩) (by show b2 ≠ g2; omega) _, hqb2.1, hqb2.2.1, hqb2.2.2.1, hqb2.2.2.2⟩⟩, V0.far (p := ⟨g2, 1, none⟩) (by show w.heap.size ≠ g2; omega) _, by (have := hC2.size; omega), (hbc.trans (hC2.mono (by omega)))⟩
              case rest =>
                clear HB0 P1 P2 P0 hbc l0 l1 l2
                obtain ⟨b1, c1, u1, b2, c2, hbne, hb1, hb2, P1, P2, U1, hcu1, OW2, P0, hsz, hbd⟩ := hcut
                have z1 : wc.cell? ⟨w.heap.size, 1, none⟩ = some (.slice AI I.length cI) := P0.cell 1
                have z2 : wc.cell? ⟨g1, 1, none⟩ = some (.slice (some ⟨b1, 0, none⟩) I.length c1) := P1.cell 1
                go_upto_region 10 with fail
                obtain ⟨i, hii, hei⟩ : ∃ i : Nat, i < I.length ∧ (k : Int) % (I.length : Int) = (i : Int) := ⟨k % I.length, Nat.mod_lt _ hI, by simp⟩
                rw [hei]
                clear hei
                obtain ⟨am, HAM⟩ : ∃ am : Int, Hid (am = I[i].amount) := ⟨_, Lib.hid rfl⟩
                have ha0 : -1125899906842624 ≤ am ∧ am ≤ 1125899906842624 := by
                  rw [HAM.out]
                  exact HOK.out.am (itBal I[i]) (List.mem_append_left _ (List.mem_map.2 ⟨_, List.getElem_mem hii, rfl⟩))
                have z3 : wc.cell? ⟨b1, i * 7 + 6, none⟩ = some (.int .i64 am) := by
                  rw [HAM.out]
                  exact at_cur ItemR.len U1 hcu1 i hii 6 _ rfl
                have z4 : wc.frozen? ⟨b1, i * 7 + 6, none⟩ = false := U1.frozen _
                have ha1 : -9223372036854775808 ≤ am + by_ := by omega
                have ha2 : am + by_ ≤ 9223372036854775807 := by omega
                go_upto_region 11 with fail
                have U2 := U1.set_ (i * 7 + 6) (.int .i64 (am + by_))
                have hcu2 := set_cur ItemR.len hcu1 (addI I[i] by_) 6 (.int .i64 (am + by_)) (by decide) i hii (by rw [HAM.out]; rfl)
                replace P1 := P1.far (p := ⟨b1, i * 7 + 6, none⟩) (by show g1 ≠ b1; omega) (.int .i64 (am + by_))
                replace P2 := P2.far (p := ⟨b1, i * 7 + 6, none⟩) (by show g2 ≠ b1; omega) (.int .i64 (am + by_))
                replace P0 := P0.far (p := ⟨b1, i * 7 + 6, none⟩) (by show w.heap.size ≠ b1; omega) (.int .i64 (am + by_))
                replace OW2 := ownsRow_setCell_other OW2 (a := ⟨b1, i * 7 + 6, none⟩) (by intro e; injection e with e; exact hbne e.symm) (.int .i64 (am + by_))
                replace hbd := hbd.setCell (p := ⟨b1, i * 7 + 6, none⟩) (by show w.heap.size ≤ b1; omega) (.int .i64 (am + by_))
                replace hsz : B0 ≤ (wc.setCell ⟨b1, i * 7 + 6, none⟩ (.int .i64 (am + by_))).heap.size := by rw [World.size_setCell]; exact hsz
                generalize wc.setCell ⟨b1, i * 7 + 6, none⟩ (.int .i64 (am + by_)) = W1 at *
                clear z1 z2 z3 z4 hcu1 U1
                obtain ⟨b, o, eA, hbl, c0, c1', c2', c3, c4, c5, c6⟩ := ItemR.at_ H.out.it hii
                obtain ⟨x, HX⟩ : ∃ x : ItemR, Hid (x = I[i]) := ⟨_, Lib.hid rfl⟩
                rw [← HX.out] at c0 c1' c2' c3 c4 c5 c6
                obtain ⟨⟨xe, xl⟩, x2, x3, x4, x5, x6⟩ := x
                dsimp only at c0 c1' c2' c3 c4 c5 c6
                have hbB : b < B0 := by omega
                have q1 : ∀ d : LaterB B0 W1, d.now.cell? ⟨g2, 1, none⟩ = some (.slice (some ⟨b2, 0, none⟩) I.length c2) := fun d => d.cell lB.2.1 (P2.cell 1)
                have q2 : ∀ d : LaterB B0 W1, d.now.cell? ⟨w.heap.size, 1, none⟩ = some (.slice (some ⟨b, o, none⟩) I.length cI) := fun d => d.cell lB.2.2 (by rw [← eA]; exact P0.cell 1)
                have q3 : ∀ d : LaterB B0 W1, d.now.cell? ⟨b, o + i * 7, none⟩ = some (.int .i64 xe) := fun d => d.cell hbB ((hbd.cell (p := ⟨b, _, none⟩) hbl).trans c0)
                have q4 : ∀ d : LaterB B0 W1, d.now.cell? ⟨b, o + i * 7 + 1, none⟩ = some (.int .i64 xl) := fun d => d.cell hbB ((hbd.cell (p := ⟨b, _, none⟩) hbl).trans c1')
                have q5 : ∀ d : LaterB B0 W1, d.now.cell? ⟨b, o + i * 7 + 2, none⟩ = some (.int .i64 x2) := fun d => d.cell hbB ((hbd.cell (p := ⟨b, _, none⟩) hbl).trans c2')
                have q6 : ∀ d : LaterB B0 W1, d.now.cell? ⟨b, o + i * 7 + 3, none⟩ = some (.int .i64 x3) := fun d => d.cell hbB ((hbd.cell (p := ⟨b, _, none⟩) hbl).trans c3)
                have q7 : ∀ d : LaterB B0 W1, d.now.cell? ⟨b, o + i * 7 + 4, none⟩ = some (.int .i64 x4) := fun d => d.cell hbB ((hbd.cell (p := ⟨b, _, none⟩) hbl).trans c4)
                have q8 : ∀ d : LaterB B0 W1, d.now.cell? ⟨b, o + i * 7 + 5, none⟩ = some (.int .i64 x5) := fun d => d.cell hbB ((hbd.cell (p := ⟨b, _, none⟩) hbl).trans c5)
                have q9 : ∀ d : LaterB B0 W1, d.now.cell? ⟨b, o + i * 7 + 6, none⟩ = some (.int .i64 x6) := fun d => d.cell hbB ((hbd.cell (p := ⟨b, _, none⟩) hbl).trans c6)
                clear c0 c1' c2' c3 c4 c5 c6 eA
                refine relT_begin (n := 11) B0 10 W1 (by kernel_rfl) rfl ?_
                have hC : NearB B0 W1 W1.drew := NearB.of (Below.refl _ _).drew
                refine relT_want (i := 0) rfl rfl (by kernel_rfl) (by kernel_rfl) (by kernel_rfl) rfl rfl (by kernel_rfl) (by kernel_rfl) (fun _ _ _ _ h => h) hC ?_
                intro K hK
                go_big_quiet_op
                go_big_quiet_on
                refine relT_want (i := 1) rfl rfl (by kernel_rfl) (by kernel_rfl) (by kernel_rfl) rfl rfl (by kernel_rfl) (by kernel_rfl) (fun _ _ _ _ h => h) hC ?_
                intro K hK
                go_big_quiet_op
                go_big_quiet_on
                refine relT_want (i := 2) rfl rfl (by kernel_rfl) (by kernel_rfl) (by kernel_rfl) rfl rfl (by kernel_rfl) (by kernel_rfl) (fun _ _ _ _ h => h) hC ?_
                intro K hK
                go_big_quiet_op
                go_big_quiet_on
                refine relT_want (i := 3) rfl rfl (by kernel_rfl) (by kernel_rfl) (by kernel_rfl) rfl rfl (by kernel_rfl) (by kernel_rfl) (fun _ _ _ _ h => h) hC ?_
                intro K hK
                go_big_quiet_op
                go_big_quiet_on
                refine relT_want (i := 4) rfl rfl (by kernel_rfl) (by kernel_rfl) (by kernel_rfl) rfl rfl (by kernel_rfl) (by kernel_rfl) (fun _ _ _ _ h => h) hC ?_
                intro K hK
                go_big_quiet_op
                go_big_quiet_on
                refine relT_want (i := 5) rfl rfl (by kernel_rfl) (by kernel_rfl) (by kernel_rfl) rfl rfl (by kernel_rfl) (by kernel_rfl) (fun _ _ _ _ h => h) hC ?_
                intro K hK
                go_big_quiet_op
                go_big_quiet_on
                refine relT_want (i := 6) rfl rfl (by kernel_rfl) (by kernel_rfl) (by kernel_rfl) rfl rfl (by kernel_rfl) (by kernel_rfl) (fun _ _ _ _ h => h) hC ?_
                intro K hK
                go_big_quiet_op
                go_big_quiet_on
                refine relT_call (i := 7) (by kernel_rfl) rfl rfl ?_
                intro K hK
                go_simp
                have OWA : ((W1.alloc (.cells #[.int .i64 xe, .int .i64 xl, .int .i64 x2, .int .i64 x3, .int .i64 x4, .int .i64 x5, .int .i64 x6] 45)).drew).ownsRow B0 45 7 (.slice (some ⟨b2, 0, none⟩) I.length c2) I.length (cellsOf ItemR.cells I) := OW2.alloc _
                have BX := (Blk.new W1 45 #[.int .i64 xe, .int .i64 xl, .int .i64 x2, .int .i64 x3, .int .i64 x4, .int .i64 x5, .int .i64 x6]).drew
                have hC2 : Below B0 W1 ((W1.alloc (.cells #[.int .i64 xe, .int .i64 xl, .int .i64 x2, .int .i64 x3, .int .i64 x4, .int .i64 x5, .int .i64 x6] 45)).drew) := ((Below.refl B0 W1).alloc hsz _).drew
                have V1 := (P1.alloc (.cells #[.int .i64 xe, .int .i64 xl, .int .i64 x2, .int .i64 x3, .int .i64 x4, .int .i64 x5, .int .i64 x6] 45)).drew
                have V2 := (P2.alloc (.cells #[.int .i64 xe, .int .i64 xl, .int .i64 x2, .int .i64 x3, .int .i64 x4, .int .i64 x5, .int .i64 x6] 45)).drew
                have V0 := (P0.alloc (.cells #[.int .i64 xe, .int .i64 xl, .int .i64 x2, .int .i64 x3, .int .i64 x4, .int .i64 x5, .int .i64 x6] 45)).drew
                have VU := (U2.alloc (.cells #[.int .i64 xe, .int .i64 xl, .int .i64 x2, .int .i64 x3, .int .i64 x4, .int .i64 x5, .int .i64 x6] 45)).drew
                have hsz2 : B0 ≤ ((W1.alloc (.cells #[.int .i64 xe, .int .i64 xl, .int .i64 x2, .int .i64 x3, .int .i64 x4, .int .i64 x5, .int .i64 x6] 45)).drew).heap.size := Nat.le_trans hsz hC2.size
                refine hK _ _ (.inr (.inr (NearB.of hC2))) ?_
                clear hK K hC
                generalize (W1.alloc (.cells #[.int .i64 xe, .int .i64 xl, .int .i64 x2, .int .i64 x3, .int .i64 x4, .int .i64 x5, .int .i64 x6] 45)).drew = W2 at *
                have hC := NearB.of hC2
                clear hC2
                (try simp only [Act.put, List.setIfInBounds_toArray, List.set_cons_zero, List.set_cons_succ])
                refine relT_call (i := 8) (by kernel_rfl) rfl rfl ?_
                intro K hK
                refine wp_append_rec _ ItemR.cells 7 ItemR.len ItemR.one (.tmp 64) (.tmp 70) 22 rfl B0 45 i0 (.agg #[.int .i64 0, .int .i64 0, .int .i64 0, .int .i64 0, .int .i64 0, .int .i64 0, .int .i64 0]) 56 Try.underlying22 hi hz0 hz1 hz2 rfl (by decide) _ I rfl OWA W1.heap.size 1 ⟨⟨xe, xl⟩, x2, x3, x4, x5, x6⟩ _ rfl BX rfl (by simp only [maxLen]; omega) (by omega) hsz2 ?_
                intro v3 W3 ho3 hg3
                have hC2 : Below B0 W1 W3 := bel_own hC.below hsz2 OWA hg3
                refine hK _ _ (.inr (.inr (NearB.of hC2))) ?_
                clear hK K hC
                have hC := NearB.of hC2
                clear hC2
                (try simp only [Act.put, List.setIfInBounds_toArray, List.set_cons_zero, List.set_cons_succ])
                have ne1 : some g1 ≠ some b2 := by intro e; injection e with e; omega
                have ne2 : some g2 ≠ some b2 := by intro e; injection e with e; omega
                have ne3 : some w.heap.size ≠ some b2 := by intro e; injection e with e; omega
                have ne4 : some b1 ≠ some b2 := by intro e; injection e with e; exact hbne e
                replace V1 := V1.grown hg3 ne1
                replace V2 := V2.grown hg3 ne2
                replace V0 := V0.grown hg3 ne3
                replace VU := VU.grown hg3 ne4
                obtain ⟨A3, c3, rfl, hrd3⟩ := Rd.of_own ho3
                clear OWA BX hsz2 hg3 hrd3
                refine relT_call (i := 9) (by kernel_rfl) rfl rfl ?_
                intro K hK
                go_simp
                refine hK _ _ (.inr (.inr hC)) ?_
                clear hK K
                (try simp only [Act.put, List.setIfInBounds_toArray, List.set_cons_zero, List.set_cons_succ])
                refine relT_call (i := 10) (by kernel_rfl) rfl rfl ?_
                intro K hK
                have y1 : W3.cell? ⟨g2, 1, none⟩ = some (.slice (some ⟨b2, 0, none⟩) I.length c2) := V2.cell 1
                have y2 : W3.frozen? ⟨g2, 1, none⟩ = false := V2.frozen 1
                go_simp
                refine hK _ _ (.inr (.inl rfl)) ?_
                clear hK K y1 y2
                (try simp only [Act.put, List.setIfInBounds_toArray, List.set_cons_zero, List.set_cons_succ])
                replace V1 := V1.far (p := ⟨g2, 1, none⟩) hne (.slice A3 (I.length + 1) c3)
                replace V2 := V2.set_ 1 (.slice A3 (I.length + 1) c3)
                replace V0 := V0.far (p := ⟨g2, 1, none⟩) (by show w.heap.size ≠ g2; omega) (.slice A3 (I.length + 1) c3)
                replace VU := VU.far (p := ⟨g2, 1, none⟩) (by show b1 ≠ g2; omega) (.slice A3 (I.length + 1) c3)
                have ho4 := ownsRow_setCell_below ho3 (a := ⟨g2, 1, none⟩) lB.2.1 (.slice A3 (I.length + 1) c3)
                have hb4 : Below w.heap.size w (W3.setCell ⟨g2, 1, none⟩ (.slice A3 (I.length + 1) c3)) := (hbd.trans (hC.below.mono (by omega))).setCell (p := ⟨g2, 1, none⟩) (by show w.heap.size ≤ g2; omega) _
                generalize W3.setCell ⟨g2, 1, none⟩ (.slice A3 (I.length + 1) c3) = W4 at *
                have HJ := Lib.hid (H.out.item hb4 i hii by_ (rd_cur ItemR.len VU hcu2 _ rfl))
                have HY := Lib.hid (H.out.row hb4 i hii HX.out ho4)
                have hf1 := Lib.hid (check_item HCK.out HOK.out i hii by_ hby0 hby1 HBY.out)
                have hal := HOK.out.all
                have HV2 := Lib.hid V2
                have HV0 := Lib.hid V0
                have f0 : W4.cell? ⟨g1, 0, none⟩ = some (.int .i64 per) := V1.cell 0
                have f1 : W4.cell? ⟨g1, 1, none⟩ = some (.slice (some ⟨b1, 0, none⟩) I.length c1) := V1.cell 1
                have f2 : W4.cell? ⟨g1, 2, none⟩ = some (.slice AP P.length cP) := V1.cell 2
                have f3 : W4.cell? ⟨g1, 3, none⟩ = some (.slice AT T.length cT) := V1.cell 3
                refine wpAnyT_done (by kernel_rfl) ?_ _
                clear ho3 ho4 V1 V2 V0 VU hcu2 q1 q2 q3 q4 q5 q6 q7 q8 q9 hC hbd
                go_wp2_with fail
                refine (tcheck_no per _ (some ⟨b1, 0, none⟩) c1 I.length P AP cP P.length T AT cT T.length W4 HJ.out List.length_set rfl rfl (allB_more (I := I) _ (by omega) (by rw [List.length_set]; omega)) n2 n3 n4 hf1.out).mono ?_
                rintro e w5 ⟨rfl, hb5⟩
                have g0 : w5.cell? ⟨g2, 0, none⟩ = some (.int .i64 per) := (HV2.out.step hb5).cell 0
                have g1' : w5.cell? ⟨g2, 1, none⟩ = some (.slice A3 (I.length + 1) c3) := (HV2.out.step hb5).cell 1
                have g2' : w5.cell? ⟨g2, 2, none⟩ = some (.slice AP P.length cP) := (HV2.out.step hb5).cell 2
                have g3 : w5.cell? ⟨g2, 3, none⟩ = some (.slice AT T.length cT) := (HV2.out.step hb5).cell 3
                go_wp2_with fail
                refine (tcheck_no per (I ++ [I[i]]) A3 c3 (I.length + 1) P AP cP P.length T AT cT T.length w5 (HY.out.step hb5) (by simp) rfl rfl (allB_more (I := I) _ (by omega) (by simp)) (by omega) n3 n4 (check_twice i hii)).mono ?_
                rintro e w6 ⟨rfl, hb6⟩
                go_wp2_with fail
                go_meet
                exact ⟨(HV0.out.step hb5).step hb6, bel (bel hb4 hb5) hb6⟩
          · go_wp2_with fail
            go_meet
            exact ⟨HB.out, hb⟩
        case rest =>
          obtain ⟨P0, hbd⟩ := hcut
          have HP0 := Lib.hid P0
          have l0 := P0.lt
          have z0 : wc.cell? ⟨w.heap.size, 0, none⟩ = some (.int .i64 per) := P0.cell 0
          have z1 : wc.cell? ⟨w.heap.size, 1, none⟩ = some (.slice AI I.length cI) := P0.cell 1
          have z2 : wc.cell? ⟨w.heap.size, 2, none⟩ = some (.slice AP P.length cP) := P0.cell 2
          have z3 : wc.cell? ⟨w.heap.size, 3, none⟩ = some (.slice AT T.length cT) := P0.cell 3
          clear e0 e1 e2 e3 hb P0
          have HBD := Lib.hid hbd
          go_upto_if 82 with fail
          go_cut [11] (fun _ wx => Blk wx w.heap.size 26 #[.int .i64 per, .slice AI I.length cI, .slice AP P.length cP, .slice AT T.length cT] ∧ Below w.heap.size w wx)
          case first =>
            by_cases hT : 0 < T.length
            · go_upto_region 16 with fail
              have hlT : T.length ≤ 1000 := by
                have := HOK.out.all
                omega
              obtain ⟨j0, hj, hy0, hy1, hy2⟩ := info_parts sbal_info
              have Q1 := Blk.new wc 26 #[.int .i64 per, .slice AI I.length cI, .slice AP P.length cP, .slice AT T.length cT]
              have Q0 := HP0.out.alloc (.cells #[.int .i64 per, .slice AI I.length cI, .slice AP P.length cP, .slice AT T.length cT] 26)
              have hgs := Q1.lt
              have hb2 := hbd.alloc hbd.size (.cells #[.int .i64 per, .slice AI I.length cI, .slice AP P.length cP, .slice AT T.length cT] 26)
              generalize wc.alloc (.cells #[.int .i64 per, .slice AI I.length cI, .slice AP P.length cP, .slice AT T.length cT] 26) = W1 at *
              generalize wc.heap.size = g at *
              have hs1a : W1.heap.size + 1 ≤ (W1.alloc (.cells #[] 47)).heap.size := Nat.le_of_eq (Eq.symm (by simp))
              have hs1b : (W1.alloc (.cells #[] 47)).heap.size ≤ W1.heap.size + 1 := Nat.le_of_eq (by simp)
              have HR := Lib.hid (Rd.now H.out.to (hb2.alloc hb2.size (.cells #[] 47)))
              replace Q1 := Q1.alloc (.cells #[] 47)
              replace Q0 := Q0.alloc (.cells #[] 47)
              have y1 : (W1.alloc (.cells #[] 47)).cell? ⟨w.heap.size, 3, none⟩ = some (.slice AT T.length cT) := Q0.cell 3
              go_upto_region 17 with (at_builtin; refine wpList_copy_list Bal.cells 2 (fun _ => rfl) Bal.one rfl (.tmp 84) (.tmp 86) 24 rfl 47 j0 (.agg #[.int .i64 0, .int .i64 0]) 16 Try.underlying24 hj hy0 hy1 hy2 rfl (by decide) W1.heap.size 0 T rfl (by decide) #[] rfl (Blk.new W1 _ _) _ AT cT rfl HR.out hT (by simp only [maxLen]; omega) (by omega) ?_; intro b1 c1 u1 W2 U1 hcu1 hbb hg1 hq1; have x1 : W2.cell? ⟨g, 3, none⟩ = some (.slice AT T.length cT) := (Q1.grown hg1 (by intro e; injection e with e; omega)).cell 3; have x2 : W2.frozen? ⟨g, 3, none⟩ = false := (Q1.grown hg1 (by intro e; injection e with e; omega)).frozen 3)
              have hgb : g < b1 := by omega
              replace Q1 := (Q1.grown hg1 (by intro e; injection e with e; omega)).set_ 3 (.slice (some ⟨b1, 0, none⟩) T.length c1)
              replace Q0 := (Q0.grown hg1 (by intro e; injection e with e; omega)).far (p := ⟨g, 3, none⟩) (by show w.heap.size ≠ g; omega) (.slice (some ⟨b1, 0, none⟩) T.length c1)
              replace U1 := U1.far (p := ⟨g, 3, none⟩) (by show b1 ≠ g; omega) (.slice (some ⟨b1, 0, none⟩) T.length c1)
              have hb3 : Below w.heap.size w (W2.setCell ⟨g, 3, none⟩ (.slice (some ⟨b1, 0, none⟩) T.length c1)) := (Below.grown (hb2.alloc hb2.size _) hg1 (by have := hb2.size; omega) (fun k e => by (injection e with e; have := hb2.size; omega))).setCell (p := ⟨g, 3, none⟩) (by show w.heap.size ≤ g; omega) _
              generalize W2.setCell ⟨g, 3, none⟩ (.slice (some ⟨b1, 0, none⟩) T.length c1) = W3 at *
              clear x1 x2 y1 z0 z1 z2 z3 hg1 hb2 hbd
              obtain ⟨i, hii, HEI⟩ : ∃ i : Nat, i < T.length ∧ Hid ((k : Int) % (T.length : Int) = (i : Int)) := ⟨k % T.length, Nat.mod_lt _ hT, Lib.hid (by simp)⟩
              obtain ⟨am, HAM⟩ : ∃ am : Int, Hid (am = T[i].amount) := ⟨_, Lib.hid rfl⟩
              have ha0 : -1125899906842624 ≤ am ∧ am ≤ 1125899906842624 := by
                rw [HAM.out]
                exact HOK.out.amT T[i] (List.getElem_mem hii)
              have ha1 : -9223372036854775808 ≤ am + by_ := by omega
              have ha2 : am + by_ ≤ 9223372036854775807 := by omega
              have lg := Q1.lt
              have lb := U1.lt
              have l0 := Q0.lt
              have q1 : ∀ d : LaterB W3.heap.size W3, d.now.cell? ⟨g, 3, none⟩ = some (.slice (some ⟨b1, 0, none⟩) T.length c1) := fun d => d.cell lg (Q1.cell 3)
              have q2 : ∀ d : LaterB W3.heap.size W3, d.now.cell? ⟨w.heap.size, 3, none⟩ = some (.slice AT T.length cT) := fun d => d.cell l0 (Q0.cell 3)
              have q3 : ∀ d : LaterB W3.heap.size W3, d.now.cell? ⟨b1, i * 2 + 1, none⟩ = some (.int .i64 am) := fun d => d.cell lb (by rw [HAM.out]; exact at_cur Bal.len U1 hcu1 i hii 1 _ rfl)
              refine relT_begin (n := 16) W3.heap.size 15 W3 (by kernel_rfl) rfl ?_
              have hC : NearB W3.heap.size W3 W3.drew := NearB.of (Below.refl _ _).drew
              refine relT_want (i := 0) rfl rfl (by kernel_rfl) (by kernel_rfl) (by kernel_rfl) rfl rfl (by kernel_rfl) (by kernel_rfl) (fun _ _ _ _ h => h) hC ?_
              intro K hK
              go_big_quiet_op
              go_big_quiet_on
              refine relT_want (i := 1) rfl rfl (by kernel_rfl) (by kernel_rfl) (by kernel_rfl) rfl rfl (by kernel_rfl) (by kernel_rfl) (fun _ _ _ _ h => h) hC ?_
              intro K hK
              go_big_quiet_op
              go_big_quiet_on
              refine relT_want (i := 2) rfl rfl (by kernel_rfl) (by kernel_rfl) (by kernel_rfl) rfl rfl (by kernel_rfl) (by kernel_rfl) (fun _ _ _ _ h => h) hC ?_
              intro K hK
              go_big_quiet_op
              go_big_quiet_on
              refine relT_want (i := 3) rfl rfl (by kernel_rfl) (by kernel_rfl) (by kernel_rfl) rfl rfl (by kernel_rfl) (by kernel_rfl) (fun _ _ _ _ h => h) hC ?_
              intro K hK
              go_big_quiet_op
              go_big_quiet_on
              refine relT_want (i := 4) rfl rfl (by kernel_rfl) (by kernel_rfl) (by kernel_rfl) rfl rfl (by kernel_rfl) (by kernel_rfl) (fun _ _ _ _ h => h) hC ?_
              intro K hK
              go_big_quiet_op
              go_big_quiet_on
              refine relT_want (i := 5) rfl rfl (by kernel_rfl) (by kernel_rfl) (by kernel_rfl) rfl rfl (by kernel_rfl) (by kernel_rfl) (fun _ _ _ _ h => h) hC ?_
              intro K hK
              go_big_quiet_op
              go_big_quiet_on
              refine relT_want (i := 6) rfl rfl (by kernel_rfl) (by kernel_rfl) (by kernel_rfl) rfl rfl (by kernel_rfl) (by kernel_rfl) (fun _ _ _ _ h => h) hC ?_
              intro K hK
              go_big_quiet_op
              go_big_quiet_on
              rw [HEI.out]
              refine relT_want (i := 7) rfl rfl (by kernel_rfl) (by kernel_rfl) (by kernel_rfl) rfl rfl (by kernel_rfl) (by kernel_rfl) (fun _ _ _ _ h => h) hC ?_
              intro K hK
              go_big_quiet_op
              go_big_quiet_on
              refine relT_want (i := 8) rfl rfl (by kernel_rfl) (by kernel_rfl) (by kernel_rfl) rfl rfl (by kernel_rfl) (by kernel_rfl) (fun _ _ _ _ h => h) hC ?_
              intro K hK
              go_big_quiet_op
              go_big_quiet_on
              refine relT_want (i := 9) rfl rfl (by kernel_rfl) (by kernel_rfl) (by kernel_rfl) rfl rfl (by kernel_rfl) (by kernel_rfl) (fun _ _ _ _ h => h) hC ?_
              intro K hK
              go_big_quiet_op
              go_big_quiet_on
              refine relT_want (i := 10) rfl rfl (by kernel_rfl) (by kernel_rfl) (by kernel_rfl) rfl rfl (by kernel_rfl) (by kernel_rfl) (fun _ _ _ _ h => h) hC ?_
              intro K hK
              go_big_quiet_op
              go_big_quiet_on
              refine relT_want (i := 11) rfl rfl (by kernel_rfl) (by kernel_rfl) (by kernel_rfl) rfl rfl (by kernel_rfl) (by kernel_rfl) (fun _ _ _ _ h => h) hC ?_
              intro K hK
              go_big_quiet_op
              go_big_quiet_on
              refine relT_want (i := 12) rfl rfl (by kernel_rfl) (by kernel_rfl) (by kernel_rfl) rfl rfl (by kernel_rfl) (by kernel_rfl) (fun _ _ _ _ h => h) hC ?_
              intro K hK
              go_big_quiet_op
              go_big_quiet_on
              refine relT_call (i := 13) (by kernel_rfl) rfl rfl ?_
              intro K hK
              go_simp
              refine hK _ _ (.inr (.inr hC)) ?_
              clear hK K
              (try simp only [Act.put, List.setIfInBounds_toArray, List.set_cons_zero, List.set_cons_succ])
              refine relT_call (i := 14) (by kernel_rfl) rfl rfl ?_
              intro K hK
              go_simp
              refine hK _ _ (.inr (.inr hC)) ?_
              clear hK K
              (try simp only [Act.put, List.setIfInBounds_toArray, List.set_cons_zero, List.set_cons_succ])
              refine relT_call (i := 15) (by kernel_rfl) rfl rfl ?_
              intro K hK
              have y1 : W3.cell? ⟨b1, i * 2 + 1, none⟩ = some (.int .i64 am) := by
                rw [HAM.out]
                exact at_cur Bal.len U1 hcu1 i hii 1 _ rfl
              have y2 : W3.frozen? ⟨b1, i * 2 + 1, none⟩ = false := U1.frozen _
              go_simp
              refine hK _ _ (.inr (.inl rfl)) ?_
              clear hK K y1 y2
              (try simp only [Act.put, List.setIfInBounds_toArray, List.set_cons_zero, List.set_cons_succ])
              have hcu2 := set_cur Bal.len hcu1 (addB T[i] by_) 1 (.int .i64 (am + by_)) (by decide) i hii (by rw [HAM.out]; rfl)
              have V1 := Q1.drew.far (p := ⟨b1, i * 2 + 1, none⟩) (by show g ≠ b1; omega) (.int .i64 (am + by_))
              have V0 := Q0.drew.far (p := ⟨b1, i * 2 + 1, none⟩) (by show w.heap.size ≠ b1; omega) (.int .i64 (am + by_))
              have VU := U1.drew.set_ (i * 2 + 1) (.int .i64 (am + by_))
              have hb4 : Below w.heap.size w (W3.drew.setCell ⟨b1, i * 2 + 1, none⟩ (.int .i64 (am + by_))) := hb3.drew.setCell (p := ⟨b1, i * 2 + 1, none⟩) (by show w.heap.size ≤ b1; omega) _
              have eW : (W3.setCell ⟨b1, i * 2 + 1, none⟩ (.int .i64 (am + by_))).drew = W3.drew.setCell ⟨b1, i * 2 + 1, none⟩ (.int .i64 (am + by_)) := rfl
              rw [eW]
              clear eW
              generalize W3.drew.setCell ⟨b1, i * 2 + 1, none⟩ (.int .i64 (am + by_)) = W4 at *
              have HJ := Lib.hid (H.out.total hb4 (T.set i (addB T[i] by_)) (rd_cur Bal.len VU hcu2 _ rfl))
              have hf1 := Lib.hid (check_total HCK.out i hii by_ HBY.out)
              have HV0 := Lib.hid V0
              have f0 : W4.cell? ⟨g, 0, none⟩ = some (.int .i64 per) := V1.cell 0
              have f1 : W4.cell? ⟨g, 1, none⟩ = some (.slice AI I.length cI) := V1.cell 1
              have f2 : W4.cell? ⟨g, 2, none⟩ = some (.slice AP P.length cP) := V1.cell 2
              have f3 : W4.cell? ⟨g, 3, none⟩ = some (.slice (some ⟨b1, 0, none⟩) T.length c1) := V1.cell 3
              refine wpAnyT_done (by kernel_rfl) ?_ _
              clear V1 V0 VU hcu2 q1 q2 q3 hC Q1 Q0 U1 hcu1
              go_wp2_with fail
              refine (tcheck_no per I AI cI I.length P AP cP P.length _ (some ⟨b1, 0, none⟩) c1 T.length W4 HJ.out rfl rfl List.length_set N1.out n2 n3 n4 hf1.out).mono ?_
              rintro e w5 ⟨rfl, hb5⟩
              go_wp2_with fail
              go_meet
              exact ⟨HV0.out.step hb5, bel hb4 hb5⟩
            · go_wp2_with fail
              go_meet
              exact ⟨HP0.out, hbd⟩
          case rest =>
            clear z0 z1 z2 z3 hbd HBD
            obtain ⟨P0, hbd⟩ := hcut
            have HP0 := Lib.hid P0
            have l0 := P0.lt
            have z0 : wc.cell? ⟨w.heap.size, 0, none⟩ = some (.int .i64 per) := P0.cell 0
            have z1 : wc.cell? ⟨w.heap.size, 1, none⟩ = some (.slice AI I.length cI) := P0.cell 1
            have z2 : wc.cell? ⟨w.heap.size, 2, none⟩ = some (.slice AP P.length cP) := P0.cell 2
            have z3 : wc.cell? ⟨w.heap.size, 3, none⟩ = some (.slice AT T.length cT) := P0.cell 3
            clear P0
            by_cases hP : 0 < P.length
            · go_upto_region 22 with fail
              obtain ⟨i, hii, hei⟩ : ∃ i : Nat, i < P.length ∧ (k : Int) % (P.length : Int) = (i : Int) := ⟨k % P.length, Nat.mod_lt _ hP, by simp⟩
              rw [hei]
              clear hei
              go_upto_region 23 with fail
              have hlP : P.length ≤ 50 := HOK.out.postings
              obtain ⟨p0, hp, hpz, hp1, hp2⟩ := info_parts PostR.info
              obtain ⟨j0, hj, hy0, hy1, hy2⟩ := info_parts part_info
              have Q1 := Blk.new wc 26 #[.int .i64 per, .slice AI I.length cI, .slice AP P.length cP, .slice AT T.length cT]
              have Q0 := HP0.out.alloc (.cells #[.int .i64 per, .slice AI I.length cI, .slice AP P.length cP, .slice AT T.length cT] 26)
              have hgs := Q1.lt
              have hb2 := hbd.alloc hbd.size (.cells #[.int .i64 per, .slice AI I.length cI, .slice AP P.length cP, .slice AT T.length cT] 26)
              generalize wc.alloc (.cells #[.int .i64 per, .slice AI I.length cI, .slice AP P.length cP, .slice AT T.length cT] 26) = W1 at *
              generalize wc.heap.size = g at *
              have hs1a : W1.heap.size + 1 ≤ (W1.alloc (.cells #[] 50)).heap.size := Nat.le_of_eq (Eq.symm (by simp))
              have hs1b : (W1.alloc (.cells #[] 50)).heap.size ≤ W1.heap.size + 1 := Nat.le_of_eq (by simp)
              have HR := Lib.hid (Rd.now H.out.po (hb2.alloc hb2.size (.cells #[] 50)))
              replace Q1 := Q1.alloc (.cells #[] 50)
              replace Q0 := Q0.alloc (.cells #[] 50)
              have y1 : (W1.alloc (.cells #[] 50)).cell? ⟨w.heap.size, 2, none⟩ = some (.slice AP P.length cP) := Q0.cell 2
              go_upto_region 24 with (at_builtin; refine wpList_copy_list PostR.cells 5 PostR.len PostR.one rfl (.tmp 116) (.tmp 118) 23 rfl 50 p0 (.agg #[.int .i64 0, .int .i64 0, .int .i64 0, .int .i64 0, .slice none 0 0]) 56 Try.underlying23 hp hpz hp1 hp2 rfl (by decide) W1.heap.size 0 P rfl (by decide) #[] rfl (Blk.new W1 _ _) _ AP cP rfl HR.out hP (by simp only [maxLen]; omega) (by omega) ?_; intro b1 c1 u1 W2 U1 hcu1 hbb hg1 hq1; have x1 : W2.cell? ⟨g, 2, none⟩ = some (.slice AP P.length cP) := (Q1.grown hg1 (by intro e; injection e with e; omega)).cell 2; have x2 : W2.frozen? ⟨g, 2, none⟩ = false := (Q1.grown hg1 (by intro e; injection e with e; omega)).frozen 2)
              have hgb : g < b1 := by omega
              replace Q1 := (Q1.grown hg1 (by intro e; injection e with e; omega)).set_ 2 (.slice (some ⟨b1, 0, none⟩) P.length c1)
              replace Q0 := (Q0.grown hg1 (by intro e; injection e with e; omega)).far (p := ⟨g, 2, none⟩) (by show w.heap.size ≠ g; omega) (.slice (some ⟨b1, 0, none⟩) P.length c1)
              replace U1 := U1.far (p := ⟨g, 2, none⟩) (by show b1 ≠ g; omega) (.slice (some ⟨b1, 0, none⟩) P.length c1)
              have hb3 : Below w.heap.size w (W2.setCell ⟨g, 2, none⟩ (.slice (some ⟨b1, 0, none⟩) P.length c1)) := (Below.grown (hb2.alloc hb2.size _) hg1 (by have := hb2.size; omega) (fun k e => by (injection e with e; have := hb2.size; omega))).setCell (p := ⟨g, 2, none⟩) (by show w.heap.size ≤ g; omega) _
              generalize W2.setCell ⟨g, 2, none⟩ (.slice (some ⟨b1, 0, none⟩) P.length c1) = W3 at *
              clear x1 x2 y1 z0 z1 z2 z3 hg1 hb2 hbd
              obtain ⟨b, o, eA, hbl, -, -, -, -, c4⟩ := PostR.at_ H.out.po hii
              obtain ⟨x, HX⟩ : ∃ x : PostR, Hid (x = P[i]) := ⟨_, Lib.hid rfl⟩
              rw [← HX.out] at c4
              have HXok := Lib.hid (HX.out ▸ H.out.pok P[i] (List.getElem_mem hii))
              have HXl : x.parts.l.length ≤ 1000000 := by
                rw [HX.out]
                exact HOK.out.parts P[i] (List.getElem_mem hii)
              have HXa : Hid (within 1125899906842624 x.parts.l) := Lib.hid (fun y hy => HOK.out.am y (List.mem_append_right _ (List.mem_flatMap.2 ⟨P[i], List.getElem_mem hii, by rw [← HX.out]; exact hy⟩)))
              obtain ⟨kd, en, ot, ru, L, A, c⟩ := x
              dsimp only [Sl.val] at c4 HXl HXa
              have y1 : W3.cell? ⟨w.heap.size, 2, none⟩ = some (.slice (some ⟨b, o, none⟩) P.length cP) := by rw [← eA]; exact Q0.cell 2
              have y2 : W3.cell? ⟨b, o + i * 5 + 4, none⟩ = some (.slice A L.length c) := (hb3.cell (p := ⟨b, _, none⟩) hbl).trans c4
              go_upto_if 129 with fail
              by_cases hL : 0 < L.length
              · go_upto_region 26 with fail
                obtain ⟨m, hmi, HEM⟩ : ∃ m : Nat, m < L.length ∧ Hid ((k : Int) % (L.length : Int) = (m : Int)) := ⟨k % L.length, Nat.mod_lt _ hL, Lib.hid (by simp)⟩
                obtain ⟨am, HAM⟩ : ∃ am : Int, Hid (am = L[m].amount) := ⟨_, Lib.hid rfl⟩
                have ha0 : -1125899906842624 ≤ am ∧ am ≤ 1125899906842624 := by
                  rw [HAM.out]
                  exact HXa.out L[m] (List.getElem_mem hmi)
                have ha1 : -9223372036854775808 ≤ am + by_ := by omega
                have ha2 : am + by_ ≤ 9223372036854775807 := by omega
                clear y1 y2 c4
                have lg := Q1.lt
                have lb := U1.lt
                have q1 : ∀ d : LaterB W3.heap.size W3, d.now.cell? ⟨g, 2, none⟩ = some (.slice (some ⟨b1, 0, none⟩) P.length c1) := fun d => d.cell lg (Q1.cell 2)
                refine relT_begin (n := 9) W3.heap.size 8 W3 (by kernel_rfl) rfl ?_
                have hC : NearB W3.heap.size W3 W3.drew := NearB.of (Below.refl _ _).drew
                refine relT_want (i := 0) rfl rfl (by kernel_rfl) (by kernel_rfl) (by kernel_rfl) rfl rfl (by kernel_rfl) (by kernel_rfl) (fun _ _ _ _ h => h) hC ?_
                intro K hK
                go_big_quiet_op
                go_big_quiet_on
                refine relT_want (i := 1) rfl rfl (by kernel_rfl) (by kernel_rfl) (by kernel_rfl) rfl rfl (by kernel_rfl) (by kernel_rfl) (fun _ _ _ _ h => h) hC ?_
                intro K hK
                go_big_quiet_op
                go_big_quiet_on
                refine relT_want (i := 2) rfl rfl (by kernel_rfl) (by kernel_rfl) (by kernel_rfl) rfl rfl (by kernel_rfl) (by kernel_rfl) (fun _ _ _ _ h => h) hC ?_
                intro K hK
                go_big_quiet_op
                go_big_quiet_on
                refine relT_want (i := 4) rfl rfl (by kernel_rfl) (by kernel_rfl) (by kernel_rfl) rfl rfl (by kernel_rfl) (by kernel_rfl) (fun _ _ _ _ h => h) hC ?_
                intro K hK
                go_big_quiet_op
                go_big_quiet_on
                refine relT_call (i := 3) (by kernel_rfl) rfl rfl ?_
                intro K hK
                go_simp
                have E := (Blk.new W3 51 #[]).drew
                have V1 := (Q1.alloc (.cells #[] 51)).drew
                have V0 := (Q0.alloc (.cells #[] 51)).drew
                have VU := (U1.alloc (.cells #[] 51)).drew
                have hb4 := (hb3.alloc hb3.size (.cells #[] 51)).drew
                have hs2a : W3.heap.size + 1 ≤ (W3.alloc (.cells #[] 51)).drew.heap.size := Nat.le_of_eq (Eq.symm (by show (W3.alloc (.cells #[] 51)).heap.size = _; simp))
                have hs2b : (W3.alloc (.cells #[] 51)).drew.heap.size ≤ W3.heap.size + 1 := Nat.le_of_eq (by show (W3.alloc (.cells #[] 51)).heap.size = _; simp)
                have HR2 := Lib.hid (Rd.now (show Rd w w.heap.size 2 A L.length (cellsOf Bal.cells L) from HXok.out.2.2.2.2.1.1) hb4)
                have hC2 : Below W3.heap.size W3 ((W3.alloc (.cells #[] 51)).drew) := ((Below.refl _ _).alloc (Nat.le_refl _) _).drew
                refine hK _ _ (.inr (.inr (NearB.of hC2))) ?_
                clear hK K hC
                have hC := NearB.of hC2
                clear hC2
                generalize (W3.alloc (.cells #[] 51)).drew = W4 at *
                (try simp only [Act.put, List.setIfInBounds_toArray, List.set_cons_zero, List.set_cons_succ])
                refine relT_call (i := 5) (by kernel_rfl) rfl rfl ?_
                intro K hK
                refine wp_copy_list Bal.cells 2 Bal.len Bal.one (.tmp 133) (.tmp 134) 48 rfl rfl 51 j0 (.agg #[.int .i64 0, .int .i64 0]) 16 Try.underlying48 hj hy0 hy1 hy2 rfl (by decide) W3.heap.size 0 L rfl (by decide) #[] rfl E _ A c rfl HR2.out hL (by simp only [maxLen]; omega) (by omega) ?_
                intro b2 c2 u2 W5 U2 hcu2 hbb2 hg2 hq2
                have hgb2 : b1 < b2 ∧ W3.heap.size ≤ b2 := by omega
                replace V1 := V1.grown hg2 (by intro e; injection e with e; omega)
                replace V0 := V0.grown hg2 (by intro e; injection e with e; omega)
                replace VU := VU.grown hg2 (by intro e; injection e with e; omega)
                have hb5 : Below w.heap.size w W5 := Below.grown hb4 hg2 (by have := hb4.size; omega) (fun k e => by (injection e with e; have := hb3.size; omega))
                have hC2 : Below W3.heap.size W3 W5 := Below.grown hC.below hg2 (by have := hC.below.size; omega) (fun k e => by (injection e with e; omega))
                refine hK _ _ (.inr (.inr (NearB.of hC2))) ?_
                clear hK K hC
                have hC := NearB.of hC2
                clear hC2
                (try simp only [Act.put, List.setIfInBounds_toArray, List.set_cons_zero, List.set_cons_succ])
                refine relT_call (i := 6) (by kernel_rfl) rfl rfl ?_
                intro K hK
                go_simp
                refine hK _ _ (.inr (.inr hC)) ?_
                clear hK K
                (try simp only [Act.put, List.setIfInBounds_toArray, List.set_cons_zero, List.set_cons_succ])
                refine relT_call (i := 7) (by kernel_rfl) rfl rfl ?_
                intro K hK
                go_simp
                refine hK _ _ (.inr (.inr hC)) ?_
                clear hK K
                (try simp only [Act.put, List.setIfInBounds_toArray, List.set_cons_zero, List.set_cons_succ])
                refine relT_call (i := 8) (by kernel_rfl) rfl rfl ?_
                intro K hK
                have y1 : W5.cell? ⟨b1, i * 5 + 4, none⟩ = some (.slice A L.length c) := at_cur PostR.len VU hcu1 i hii 4 _ (by rw [← HX.out]; rfl)
                have y2 : W5.frozen? ⟨b1, i * 5 + 4, none⟩ = false := VU.frozen _
                go_simp
                refine hK _ _ (.inr (.inl rfl)) ?_
                clear hK K y1 y2
                (try simp only [Act.put, List.setIfInBounds_toArray, List.set_cons_zero, List.set_cons_succ])
                have hcu3 := set_cur PostR.len hcu1 (addP P[i] m by_ (some ⟨b2, 0, none⟩) c2) 4 (.slice (some ⟨b2, 0, none⟩) L.length c2) (by decide) i hii (by rw [addP_cells, ← HX.out])
                replace V1 := V1.far (p := ⟨b1, i * 5 + 4, none⟩) (by show g ≠ b1; omega) (.slice (some ⟨b2, 0, none⟩) L.length c2)
                replace V0 := V0.far (p := ⟨b1, i * 5 + 4, none⟩) (by show w.heap.size ≠ b1; omega) (.slice (some ⟨b2, 0, none⟩) L.length c2)
                replace U2 := U2.far (p := ⟨b1, i * 5 + 4, none⟩) (by show b2 ≠ b1; omega) (.slice (some ⟨b2, 0, none⟩) L.length c2)
                replace VU := VU.set_ (i * 5 + 4) (.slice (some ⟨b2, 0, none⟩) L.length c2)
                replace hb5 := hb5.setCell (p := ⟨b1, i * 5 + 4, none⟩) (by show w.heap.size ≤ b1; omega) (.slice (some ⟨b2, 0, none⟩) L.length c2)
                refine wpAnyT_done (by kernel_rfl) ?_ _
                clear q1 hC
                generalize W5.setCell ⟨b1, i * 5 + 4, none⟩ (.slice (some ⟨b2, 0, none⟩) L.length c2) = W6 at *
                go_upto_region 27 with fail
                have lg := V1.lt
                have lb := VU.lt
                have lb2 := U2.lt
                have hv4 : (PostR.cells ((P.set i (addP P[i] m by_ (some ⟨b2, 0, none⟩) c2))[i]'(by rw [List.length_set]; exact hii)))[4]? = some (.slice (some ⟨b2, 0, none⟩) L.length c2) := by
                  rw [List.getElem_set_self, addP_cells, ← HX.out]
                  rfl
                have q1 : ∀ d : LaterB W6.heap.size W6, d.now.cell? ⟨g, 2, none⟩ = some (.slice (some ⟨b1, 0, none⟩) P.length c1) := fun d => d.cell lg (V1.cell 2)
                have q2 : ∀ d : LaterB W6.heap.size W6, d.now.cell? ⟨b1, i * 5 + 4, none⟩ = some (.slice (some ⟨b2, 0, none⟩) L.length c2) := fun d => d.cell lb (at_cur PostR.len VU hcu3 i (by rw [List.length_set]; exact hii) 4 _ hv4)
                have y1 : W6.cell? ⟨b2, m * 2 + 1, none⟩ = some (.int .i64 am) := by
                  rw [HAM.out]
                  exact at_cur Bal.len U2 hcu2 m hmi 1 _ rfl
                have q3 : ∀ d : LaterB W6.heap.size W6, d.now.cell? ⟨b2, m * 2 + 1, none⟩ = some (.int .i64 am) := fun d => d.cell lb2 y1
                have y2 : W6.frozen? ⟨b2, m * 2 + 1, none⟩ = false := U2.frozen _
                refine relT_begin (n := 19) W6.heap.size 18 W6 (by kernel_rfl) rfl ?_
                have hC : NearB W6.heap.size W6 W6.drew := NearB.of (Below.refl _ _).drew
                refine relT_want (i := 0) rfl rfl (by kernel_rfl) (by kernel_rfl) (by kernel_rfl) rfl rfl (by kernel_rfl) (by kernel_rfl) (fun _ _ _ _ h => h) hC ?_
                intro K hK
                go_big_quiet_op
                go_big_quiet_on
                refine relT_want (i := 1) rfl rfl (by kernel_rfl) (by kernel_rfl) (by kernel_rfl) rfl rfl (by kernel_rfl) (by kernel_rfl) (fun _ _ _ _ h => h) hC ?_
                intro K hK
                go_big_quiet_op
                go_big_quiet_on
                refine relT_want (i := 2) rfl rfl (by kernel_rfl) (by kernel_rfl) (by kernel_rfl) rfl rfl (by kernel_rfl) (by kernel_rfl) (fun _ _ _ _ h => h) hC ?_
                intro K hK
                go_big_quiet_op
                go_big_quiet_on
                refine relT_want (i := 3) rfl rfl (by kernel_rfl) (by kernel_rfl) (by kernel_rfl) rfl rfl (by kernel_rfl) (by kernel_rfl) (fun _ _ _ _ h => h) hC ?_
                intro K hK
                go_big_quiet_op
                go_big_quiet_on
                refine relT_want (i := 4) rfl rfl (by kernel_rfl) (by kernel_rfl) (by kernel_rfl) rfl rfl (by kernel_rfl) (by kernel_rfl) (fun _ _ _ _ h => h) hC ?_
                intro K hK
                go_big_quiet_op
                go_big_quiet_on
                refine relT_want (i := 5) rfl rfl (by kernel_rfl) (by kernel_rfl) (by kernel_rfl) rfl rfl (by kernel_rfl) (by kernel_rfl) (fun _ _ _ _ h => h) hC ?_
                intro K hK
                go_big_quiet_op
                go_big_quiet_on
                refine relT_want (i := 6) rfl rfl (by kernel_rfl) (by kernel_rfl) (by kernel_rfl) rfl rfl (by kernel_rfl) (by kernel_rfl) (fun _ _ _ _ h => h) hC ?_
                intro K hK
                go_big_quiet_op
                go_big_quiet_on
                refine relT_want (i := 7) rfl rfl (by kernel_rfl) (by kernel_rfl) (by kernel_rfl) rfl rfl (by kernel_rfl) (by kernel_rfl) (fun _ _ _ _ h => h) hC ?_
                intro K hK
                go_big_quiet_op
                go_big_quiet_on
                refine relT_want (i := 8) rfl rfl (by kernel_rfl) (by kernel_rfl) (by kernel_rfl) rfl rfl (by kernel_rfl) (by kernel_rfl) (fun _ _ _ _ h => h) hC ?_
                intro K hK
                go_big_quiet_op
                go_big_quiet_on
                refine relT_want (i := 9) rfl rfl (by kernel_rfl) (by kernel_rfl) (by kernel_rfl) rfl rfl (by kernel_rfl) (by kernel_rfl) (fun _ _ _ _ h => h) hC ?_
                intro K hK
                go_big_quiet_op
                go_big_quiet_on
                rw [HEM.out]
                refine relT_want (i := 10) rfl rfl (by kernel_rfl) (by kernel_rfl) (by kernel_rfl) rfl rfl (by kernel_rfl) (by kernel_rfl) (fun _ _ _ _ h => h) hC ?_
                intro K hK
                go_big_quiet_op
                go_big_quiet_on
                refine relT_want (i := 11) rfl rfl (by kernel_rfl) (by kernel_rfl) (by kernel_rfl) rfl rfl (by kernel_rfl) (by kernel_rfl) (fun _ _ _ _ h => h) hC ?_
                intro K hK
                go_big_quiet_op
                go_big_quiet_on
                refine relT_want (i := 12) rfl rfl (by kernel_rfl) (by kernel_rfl) (by kernel_rfl) rfl rfl (by kernel_rfl) (by kernel_rfl) (fun _ _ _ _ h => h) hC ?_
                intro K hK
                go_big_quiet_op
                go_big_quiet_on
                refine relT_want (i := 13) rfl rfl (by kernel_rfl) (by kernel_rfl) (by kernel_rfl) rfl rfl (by kernel_rfl) (by kernel_rfl) (fun _ _ _ _ h => h) hC ?_
                intro K hK
                go_big_quiet_op
                go_big_quiet_on
                refine relT_want (i := 14) rfl rfl (by kernel_rfl) (by kernel_rfl) (by kernel_rfl) rfl rfl (by kernel_rfl) (by kernel_rfl) (fun _ _ _ _ h => h) hC ?_
                intro K hK
                go_big_quiet_op
                go_big_quiet_on
                refine relT_want (i := 15) rfl rfl (by kernel_rfl) (by kernel_rfl) (by kernel_rfl) rfl rfl (by kernel_rfl) (by kernel_rfl) (fun _ _ _ _ h => h) hC ?_
                intro K hK
                go_big_quiet_op
                go_big_quiet_on
                refine relT_call (i := 16) (by kernel_rfl) rfl rfl ?_
                intro K hK
                go_simp
                refine hK _ _ (.inr (.inr hC)) ?_
                clear hK K
                (try simp only [Act.put, List.setIfInBounds_toArray, List.set_cons_zero, List.set_cons_succ])
                refine relT_call (i := 17) (by kernel_rfl) rfl rfl ?_
                intro K hK
                go_simp
                refine hK _ _ (.inr (.inr hC)) ?_
                clear hK K
                (try simp only [Act.put, List.setIfInBounds_toArray, List.set_cons_zero, List.set_cons_succ])
                refine relT_call (i := 18) (by kernel_rfl) rfl rfl ?_
                intro K hK
                go_simp
                refine hK _ _ (.inr (.inl rfl)) ?_
                clear hK K y1 y2
                (try simp only [Act.put, List.setIfInBounds_toArray, List.set_cons_zero, List.set_cons_succ])
                have hcu4 := set_cur Bal.len hcu2 (addB L[m] by_) 1 (.int .i64 (am + by_)) (by decide) m hmi (by rw [HAM.out]; rfl)
                replace V1 := V1.drew.far (p := ⟨b2, m * 2 + 1, none⟩) (by show g ≠ b2; omega) (.int .i64 (am + by_))
                replace V0 := V0.drew.far (p := ⟨b2, m * 2 + 1, none⟩) (by show w.heap.size ≠ b2; omega) (.int .i64 (am + by_))
                replace VU := VU.drew.far (p := ⟨b2, m * 2 + 1, none⟩) (by show b1 ≠ b2; omega) (.int .i64 (am + by_))
                have VU2 := U2.drew.set_ (m * 2 + 1) (.int .i64 (am + by_))
                have hb7 : Below w.heap.size w (W6.drew.setCell ⟨b2, m * 2 + 1, none⟩ (.int .i64 (am + by_))) := hb5.drew.setCell (p := ⟨b2, m * 2 + 1, none⟩) (by show w.heap.size ≤ b2; omega) _
                have eW : (W6.setCell ⟨b2, m * 2 + 1, none⟩ (.int .i64 (am + by_))).drew = W6.drew.setCell ⟨b2, m * 2 + 1, none⟩ (.int .i64 (am + by_)) := rfl
                rw [eW]
                clear eW
                generalize W6.drew.setCell ⟨b2, m * 2 + 1, none⟩ (.int .i64 (am + by_)) = W7 at *
                have hok : (addP P[i] m by_ (some ⟨b2, 0, none⟩) c2).Ok W7 := by
                  rw [← HX.out]
                  exact addP_ok HXok.out hb7 m hmi by_ (by show _ ≤ L[m].amount + by_; rw [← HAM.out]; exact ha1) (by show L[m].amount + by_ ≤ _; rw [← HAM.out]; exact ha2) _ _ (rd_cur Bal.len VU2 hcu4 _ rfl) hq2.1 hq2.2.1
                have HJ := Lib.hid (H.out.part hb7 i (addP P[i] m by_ (some ⟨b2, 0, none⟩) c2) hok (rd_cur PostR.len VU hcu3 _ rfl))
                have hf1 := Lib.hid (check_part HCK.out HOK.out i hii m (by rw [← HX.out]; exact hmi) by_ hby0 hby1 HBY.out (some ⟨b2, 0, none⟩) c2)
                have f0 : W7.cell? ⟨g, 0, none⟩ = some (.int .i64 per) := V1.cell 0
                have f1 : W7.cell? ⟨g, 1, none⟩ = some (.slice AI I.length cI) := V1.cell 1
                have f2 : W7.cell? ⟨g, 2, none⟩ = some (.slice (some ⟨b1, 0, none⟩) P.length c1) := V1.cell 2
                have f3 : W7.cell? ⟨g, 3, none⟩ = some (.slice AT T.length cT) := V1.cell 3
                refine wpAnyT_done (by kernel_rfl) ?_ _
                clear V1 V0 VU VU2 U2 hcu2 hcu3 hcu4 q1 q2 q3 hC Q1 Q0 U1 hcu1 hok hv4
                go_wp2_with fail
                refine (tcheck_no per I AI cI I.length _ (some ⟨b1, 0, none⟩) c1 P.length T AT cT T.length W7 HJ.out rfl List.length_set rfl (by rw [allB_part]; exact N1.out) n2 n3 n4 hf1.out).mono ?_
                rintro e w8 ⟨rfl, hb8⟩
                go_wp2_with fail
                go_ret
                exact ⟨rfl, bel hb7 hb8⟩
              · go_wp2_with fail
                go_ret
                exact ⟨rfl, hb3⟩
            · go_wp2_with fail
              go_ret
              exact ⟨rfl, hbd⟩
    · go_wp2_with fail
      go_ret
      exact ⟨rfl, hb⟩
end
end Go.Proofs.Ytkfbchgabmffoaa
