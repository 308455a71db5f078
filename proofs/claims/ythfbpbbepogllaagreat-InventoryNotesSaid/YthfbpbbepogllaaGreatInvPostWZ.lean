/- Texts of this claim, put together. -/
import Derived.Test.YthfbpbbepogllaaGreatInvLawsZ
import Derived.Test.YthfbpbbepogllaaGreatCalWalksBZ
import Derived.Deep.DeepCutAuto
/- The walks of Posting of inventory and of its reference. -/
namespace Go.Proofs.YthfbpbbepogllaaGreat
set_option linter.unusedVariables false
set_option linter.unusedSimpArgs false
open Go.RowKit

theorem iv_inN (n : Nat) (i k : Int) : Dv.inN n i k = (Iv.ent n i && Iv.ent n k) := by unfold Dv.inN Iv.ent; simp [Bool.and_assoc]
theorem iv_wf {n : Nat} {i k : Int} (h : Dv.inN n i k = true) (hn : n ≤ 20) : Wf i ∧ Wf k := by
  unfold Dv.inN at h
  simp only [Bool.and_eq_true, decide_eq_true_eq] at h
  exact ⟨wf64 (by omega) (by omega), wf64 (by omega) (by omega)⟩
theorem gv_cal {cur : ByteArray} {cl : List Acc} {ro : RolesR} {el : List EntR} {b : Bool} (h : Gr.gv cur cl ro el b = true) : b = true := by
  unfold Gr.gv at h
  simp only [Bool.and_eq_true] at h
  exact h.2.1
section
variable (gcs : Array Value) (cur : ByteArray) (y m p : Int) (cl : List Acc) (cA : Option Addr) (cc : Nat) (ro : RolesR) (el : List EntR) (eA : Option Addr) (ec : Nat) (w : World)
set_option maxRecDepth 100000 in
set_option maxHeartbeats 16000000 in
theorem iposting_any (bcs : Array Value) (l : List StkR) (sA : Option Addr) (sc : Nat) (cs : List ConR) (i k q : Int) (A : Option Addr) (c : Nat) (HG : Hid (gcs = #[.string cur, .int .i64 y, .int .i64 m, .int .i64 p, .slice cA cl.length cc, .int .i64 ro.investment, .int .i64 ro.goodwill, .int .i64 ro.associates, .int .i64 ro.inventory, .int .i64 ro.reserve, .int .i64 ro.minority, .int .i64 ro.retained, .int .i64 ro.acquired, .int .i64 ro.owners, .int .i64 ro.disposal, .int .i64 ro.associateProfit, .int .i64 ro.dividends, .int .i64 ro.minorityProfit, .int .i64 ro.difference, .int .i64 ro.margin, .slice eA el.length ec])) (hBK : BkSt bcs gcs (.slice sA l.length sc)) (h : GIn w cl cA el eA) (hF : FewOk cur cl el) (hS : SIn w l sA) (hC : CIn w cs A) (hw1 : Wf ro.inventory) (hw2 : Wf ro.retained) (hw3 : Wf ro.margin) :
    Calls Tryz.prog 13 #[.agg bcs, .slice A cs.length c, .int .i64 i, .int .i64 k, .int .i64 q] w
      (PPost 68 8 i k (Iv.pL (Gr.gv cur cl ro el (Cal.ok y m p)) q p el.length ro l cs i k) (Iv.pE (Gr.gv cur cl ro el (Cal.ok y m p)) q p el.length ro l cs i k) w) := by
  have hgi : (Tryz.prog.info? 29).map (·.size) = some gcs.size := by rw [HG.out]; exact grp_size
  have hg21 : (Tryz.prog.info? 29).map (·.size) = some 21 := grp_size
  have HBK := Lib.hid hBK
  have HG1 := Lib.hid (grp_one HG.out)
  have H := Lib.hid h
  have HC := Lib.hid hC
  have HS := Lib.hid hS
  have hel := hF.en
  have hb : Below w.heap.size w ((w.alloc (.cells bcs 36)).alloc (.cells #[.int .i64 0, .int .i64 0, .int .i64 0, .int .i64 0, .slice none 0 0] 48)) := ((Below.refl _ _).alloc (Nat.le_refl _) _).alloc (by simp) _
  have HB := Lib.hid ((Blk.new w 36 bcs).alloc (.cells #[.int .i64 0, .int .i64 0, .int .i64 0, .int .i64 0, .slice none 0 0] 48))
  have HP := Lib.hid (blk_new2 w (.cells bcs 36) 48 #[.int .i64 0, .int .i64 0, .int .i64 0, .int .i64 0, .slice none 0 0])
  have KC := Lib.hid (fun W h hS => icheck_any gcs cur y m p cl cA cc ro el eA ec W l sA sc q HG h hF hS)
  have HCAL := Lib.hid (gv_cal (cur := cur) (cl := cl) (ro := ro) (el := el) (b := Cal.ok y m p))
  clear h hC hS hBK hF
  generalize Gr.gv cur cl ro el (Cal.ok y m p) = V at *
  have HC0 := Lib.hid (iv_ck0 (V := V) (q := q) (p := p) (n := el.length) (l := l))
  have HE : Hid (Iv.pE V q p el.length ro l cs i k = if Dv.ck (Iv.val V p el.length l) q p = 0 then (if Dv.inN el.length i k = true then (if Dv.pair cs i k = true then clnE (Iv.pts ro q l i k) else 0) else 2) else Dv.ck (Iv.val V p el.length l) q p) := Lib.hid rfl
  have HL : Hid (Iv.pL V q p el.length ro l cs i k = if Dv.ck (Iv.val V p el.length l) q p = 0 ∧ Dv.inN el.length i k = true ∧ Dv.pair cs i k = true then clnL (Iv.pts ro q l i k) else []) := Lib.hid rfl
  generalize Iv.pE V q p el.length ro l cs i k = E at *
  generalize Iv.pL V q p el.length ro l cs i k = L at *
  unfold IntPost at KC
  generalize Dv.ck (Iv.val V p el.length l) q p = ck at *
  go_enter Tryz.func13, Tryz.ntmps13
  go_upto_region 1 with fail
  generalize (w.alloc (.cells bcs 36)).alloc (.cells #[.int .i64 0, .int .i64 0, .int .i64 0, .int .i64 0, .slice none 0 0] 48) = W at *
  have HB2 := Lib.hid (HB.out.alloc (.cells gcs 29))
  have HG3 := Lib.hid (Blk.new W 29 gcs)
  have HP3 := Lib.hid (HP.out.alloc (.cells gcs 29))
  have hb2 := hb.alloc hb.size (.cells gcs 29)
  have k25 : (W.alloc (.cells gcs 29)).cell? ⟨w.heap.size, 25, none⟩ = some (.slice sA l.length sc) := (HB2.out.cell 25).trans HBK.out.st
  go_upto_region 3 with (first
    | (refine wpList_load_arr rfl 29 (.tmp 21) rfl w.heap.size 0 rfl gcs (bk_range HB.out HBK.out.toBkIs) Tryz.underlying29 21 hg21 HBK.out.gsz ?_)
    | (refine wpList_alloc_put rfl 29 (.tmp 12) (.tmp (21 + 1)) rfl rfl gcs _ rfl rfl 21 hg21 HBK.out.gsz rfl HG1.out ?_)
    | (refine wpList_load_blk 29 (.tmp 12) rfl (W.heap.size) rfl (by kernel_rfl) (HG3).out Tryz.underlying29 hgi ?_)
    | (go_at_call 35; refine (KC.out _ (H.out.step hb2) (HS.out.step hb2)).mono ?_; rintro en w4 ⟨rfl, hb9⟩))
  replace hb := bel hb2 hb9
  clear hb2 k25
  have HB4 := Lib.hid (HB2.out.step hb9)
  have HG4 := Lib.hid (HG3.out.step hb9)
  replace HP := Lib.hid (HP3.out.step hb9)
  clear HB HB2 HG3 HP3 hb9
  cases hx : (ck != 0)
  · have hc0 : ck = 0 := by simpa using hx
    clear hx
    obtain ⟨hok, hln, hV, hq0, hq1⟩ := HC0.out hc0
    have hcal := HCAL.out hV
    subst hc0
    rw [if_pos rfl] at HE
    clear HC0 HCAL hV KC
    go_upto_region 5 with fail
    go_cut [41] (fun s wx => s = .bool (!Dv.inN el.length i k) ∧ Blk wx (w.heap.size + 1) 48 #[.int .i64 0, .int .i64 0, .int .i64 0, .int .i64 0, .slice none 0 0] ∧ Blk wx W.heap.size 29 gcs ∧ Blk wx w.heap.size 36 bcs ∧ Below w.heap.size w wx)
    case first =>
      have HIN := Lib.hid (iv_inN el.length i k)
      cases h1 : Iv.ent el.length i
      · go_wp2_with (first
          | (refine wpList_load_blk 29 (.tmp 12) rfl W.heap.size rfl rfl HG4.out Tryz.underlying29 hgi ?_)
          | (go_at_call 36; refine (ient_any gcs cur y m p cl cA cc ro el eA ec _ _ HG).mono ?_; rintro en w5 ⟨rfl, hb9⟩; have hb5 := bel hb hb9; have HB5 := Lib.hid (HB4.out.step hb9); have HG5 := Lib.hid (HG4.out.step hb9); have HP5 := Lib.hid (HP.out.step hb9); clear hb9; rw [h1]))
        go_meet
        exact ⟨by rw [HIN.out, h1]; rfl, HP5.out, HG5.out, HB5.out, hb5⟩
      · cases h2 : Iv.ent el.length k
        · go_wp2_with (first
            | (refine wpList_load_blk 29 (.tmp 12) rfl W.heap.size rfl rfl HG4.out Tryz.underlying29 hgi ?_)
            | (go_at_call 36; refine (ient_any gcs cur y m p cl cA cc ro el eA ec _ _ HG).mono ?_; rintro en w5 ⟨rfl, hb9⟩; replace hb := bel hb hb9; replace HB4 := Lib.hid (HB4.out.step hb9); replace HG4 := Lib.hid (HG4.out.step hb9); replace HP := Lib.hid (HP.out.step hb9); clear hb9; first | rw [h1] | rw [h2]))
          go_meet
          exact ⟨by rw [HIN.out, h1, h2]; rfl, HP.out, HG4.out, HB4.out, hb⟩
        · go_wp2_with (first
            | (refine wpList_load_blk 29 (.tmp 12) rfl W.heap.size rfl rfl HG4.out Tryz.underlying29 hgi ?_)
            | (go_at_call 36; refine (ient_any gcs cur y m p cl cA cc ro el eA ec _ _ HG).mono ?_; rintro en w5 ⟨rfl, hb9⟩; replace hb := bel hb hb9; replace HB4 := Lib.hid (HB4.out.step hb9); replace HG4 := Lib.hid (HG4.out.step hb9); replace HP := Lib.hid (HP.out.step hb9); clear hb9; first | rw [h1] | rw [h2]))
          go_meet
          exact ⟨by rw [HIN.out, h1, h2]; rfl, HP.out, HG4.out, HB4.out, hb⟩
    case rest =>
      clear HP HG4 HB4 hb
      obtain ⟨rfl, hP5, hG5, hB5, hb⟩ := hcut
      have HP := Lib.hid hP5
      have HG4 := Lib.hid hG5
      have HB4 := Lib.hid hB5
      clear hP5 hG5 hB5
      obtain ⟨w4, rfl⟩ : ∃ x : World, x = wc := ⟨_, rfl⟩
      cases hin : Dv.inN el.length i k
      · have HE1 : Hid (E = 2) := Lib.hid (by rw [HE.out, if_neg (by rw [hin]; decide)])
        have HL1 : Hid (L = []) := Lib.hid (by rw [HL.out, if_neg (fun h => by rw [hin] at h; cases h.2.1)])
        clear hin
        simp only [Bool.not_false]
        go_wp2_with (refine wpList_store_row rfl 48 (.tmp 10) (.tmp 42) rfl (w.heap.size + 1) zeroPost rfl rfl 48 zeroPost HP.out post_size rfl (PostR.arr_one noPost) ?_)
        refine bodyPost_ret (v := .tuple #[.agg zeroPost, .int .i64 2]) (results_row2 Tryz.results13 _ _ (w.heap.size + 1) 48 zeroPost rfl (blk_row HP.out _) Tryz.underlying48 post_size) rfl ?_
        exact ppost_none HL1.out (by rw [HE1.out]) (below_row hb (by omega))
      · rw [if_pos hin] at HE
        rw [hin] at HL
        obtain ⟨hwi, hwk⟩ := iv_wf hin hel
        clear hin
        simp only [Bool.not_true]
        go_upto_region 7 with fail
        go_cut [57] (fun s wx => s = .bool (!Dv.pair cs i k) ∧ Blk wx (w.heap.size + 1) 48 #[.int .i64 0, .int .i64 0, .int .i64 0, .int .i64 0, .slice none 0 0] ∧ Blk wx W.heap.size 29 gcs ∧ Blk wx w.heap.size 36 bcs ∧ Below w.heap.size w wx)
        case first =>
          have KF1 := Lib.hid (fun W h => ifull_any cs i A c W h)
          have KF2 := Lib.hid (fun W h => ifull_any cs k A c W h)
          unfold BoolPost at KF1 KF2
          cases hik : (i == k)
          · cases hf1 : Dv.full cs i
            · have HO : Hid (Dv.pair cs i k = false) := Lib.hid (by unfold Dv.pair; rw [hf1]; simp)
              rw [hf1] at KF1
              clear hf1
              go_wp2_with (go_at_call 37; refine (KF1.out _ (HC.out.step hb)).mono ?_; rintro en w5 ⟨rfl, hb9⟩; have hb5 := bel hb hb9; have hP5 := HP.out.step hb9; have hG5 := HG4.out.step hb9; have hB5 := HB4.out.step hb9; clear hb9)
              go_meet
              exact ⟨by rw [HO.out]; rfl, hP5, hG5, hB5, hb5⟩
            · cases hf2 : Dv.full cs k
              · have HO : Hid (Dv.pair cs i k = false) := Lib.hid (by unfold Dv.pair; rw [hf2]; simp)
                rw [hf1] at KF1
                rw [hf2] at KF2
                clear hf1 hf2
                go_wp2_with (first
                  | (go_at_call 37; refine (KF1.out _ (HC.out.step hb)).mono ?_; rintro en w5 ⟨rfl, hb9⟩; have hb5 := bel hb hb9; have HP5 := Lib.hid (HP.out.step hb9); have HG5 := Lib.hid (HG4.out.step hb9); have HB5 := Lib.hid (HB4.out.step hb9); clear hb9 KF1)
                  | (go_at_call 37; refine (KF2.out _ (HC.out.step hb5)).mono ?_; rintro en w6 ⟨rfl, hb9⟩; have hb6 := bel hb5 hb9; have hP6 := HP5.out.step hb9; have hG6 := HG5.out.step hb9; have hB6 := HB5.out.step hb9; clear hb9))
                go_meet
                exact ⟨by rw [HO.out]; rfl, hP6, hG6, hB6, hb6⟩
              · have HO : Hid (Dv.pair cs i k = true) := Lib.hid (by unfold Dv.pair; rw [hik, hf1, hf2]; rfl)
                rw [hf1] at KF1
                rw [hf2] at KF2
                clear hf1 hf2
                go_wp2_with (first
                  | (go_at_call 37; refine (KF1.out _ (HC.out.step hb)).mono ?_; rintro en w5 ⟨rfl, hb9⟩; have hb5 := bel hb hb9; have HP5 := Lib.hid (HP.out.step hb9); have HG5 := Lib.hid (HG4.out.step hb9); have HB5 := Lib.hid (HB4.out.step hb9); clear hb9 KF1)
                  | (go_at_call 37; refine (KF2.out _ (HC.out.step hb5)).mono ?_; rintro en w6 ⟨rfl, hb9⟩; have hb6 := bel hb5 hb9; have hP6 := HP5.out.step hb9; have hG6 := HG5.out.step hb9; have hB6 := HB5.out.step hb9; clear hb9))
                go_meet
                exact ⟨by rw [HO.out]; rfl, hP6, hG6, hB6, hb6⟩
          · have HO : Hid (Dv.pair cs i k = false) := Lib.hid (by unfold Dv.pair; rw [hik]; rfl)
            go_wp2_with fail
            go_meet
            exact ⟨by rw [HO.out]; rfl, HP.out, HG4.out, HB4.out, hb⟩
        case rest =>
          clear HP HG4 HB4 hb
          obtain ⟨rfl, hP5, hG5, hB5, hb⟩ := hcut
          have HP := Lib.hid hP5
          have HG4 := Lib.hid hG5
          have HB4 := Lib.hid hB5
          clear hP5 hG5 hB5
          cases hpr : Dv.pair cs i k
          · have HE1 : Hid (E = 0) := Lib.hid (by rw [HE.out, if_neg (by rw [hpr]; decide)])
            have HL1 : Hid (L = []) := Lib.hid (by rw [HL.out, if_neg (fun h => by rw [hpr] at h; cases h.2.2)])
            clear hpr
            simp only [Bool.not_false]
            go_wp2_with (refine wpList_store_row rfl 48 (.tmp 10) (.tmp 58) rfl (w.heap.size + 1) zeroPost rfl rfl 48 zeroPost HP.out post_size rfl (PostR.arr_one noPost) ?_)
            refine bodyPost_ret (v := .tuple #[.agg zeroPost, .int .i64 0]) (results_row2 Tryz.results13 _ _ (w.heap.size + 1) 48 zeroPost rfl (blk_row HP.out _) Tryz.underlying48 post_size) rfl ?_
            exact ppost_none HL1.out (by rw [HE1.out]) (below_row hb (by omega))
          · rw [if_pos hpr] at HE
            rw [hpr, if_pos ⟨rfl, rfl, rfl⟩] at HL
            clear hpr
            simp only [Bool.not_true]
            have KP := Lib.hid (fun W q h => iprofits_any p W l sA sc q el.length h hok hln (by omega))
            obtain ⟨kl, hkl⟩ := pair_key hwi hwk
            have HKL := Lib.hid hkl
            have HSM := Lib.hid (fun q => iv_says q i k l)
            have HBF : Hid (Iv.bef q l i k = if q < 12 then 0 else Iv.sum i k (q - q % 12 - 1) l) := Lib.hid rfl
            have HPT : Hid (Iv.pts ro q l i k = Iv.parts ro.inventory ro.retained ro.margin (Iv.sum i k q l) (Iv.bef q l i k)) := Lib.hid rfl
            have HB1 := Lib.hid (iv_sum_in i k q l hok)
            have HB0 := Lib.hid (Iv.bef_in q l i k hok)
            rw [HPT.out] at HE HL
            clear HPT
            generalize hsm : Iv.sum i k q l = sm at *
            have HSMq : Hid (Iv.says q l (pairV i k) = sm) := Lib.hid (by rw [HSM.out, hsm])
            clear hsm
            unfold SumPost at KP
            clear hkl hwi hwk
            go_upto_region 10 with fail
            have hst := (Below.refl wc.heap.size wc).alloc (Nat.le_refl _) (.cells #[.int .i64 i, .int .i64 k] 103)
            have HKB := Lib.hid (Blk.new wc 103 #[.int .i64 i, .int .i64 k])
            replace hb := bel hb hst
            replace HP := Lib.hid (HP.out.step hst)
            replace HG4 := Lib.hid (HG4.out.step hst)
            replace HB4 := Lib.hid (HB4.out.step hst)
            clear hst
            generalize hgk : wc.heap.size = gk at *
            have HGK := Lib.hid hgk
            clear hgk
            generalize wc.alloc (.cells #[.int .i64 i, .int .i64 k] 103) = w5 at *
            have q25 : ∀ d : Later w5, d.now.cell? ⟨w.heap.size, 25, none⟩ = some (.slice sA l.length sc) := fun d => d.cell HB4.out.lt ((HB4.out.cell 25).trans HBK.out.st)
            have a0 : ∀ d : Later w5, d.now.cell? ⟨gk, 0, none⟩ = some (.int .i64 i) := fun d => d.cell HKB.out.lt (HKB.out.cell 0)
            have a1 : ∀ d : Later w5, d.now.cell? ⟨gk, 1, none⟩ = some (.int .i64 k) := fun d => d.cell HKB.out.lt (HKB.out.cell 1)
            refine rel_begin (n := 8) (w5) (by kernel_rfl) rfl ?_; have hC := Near.drew (w5)
            (first | (refine rel_want (i := 0) rfl rfl (by kernel_rfl) (by kernel_rfl) (by kernel_rfl) rfl (fun _ _ _ _ h => h) hC ?_; intro K hK; go_big_quiet_op; go_big_quiet_on) | (refine rel_skip (i := 0) rfl (by kernel_rfl) (by kernel_rfl) (by kernel_rfl) rfl (fun _ _ _ _ h => h) hC ?_; simp only [Act.put, List.setIfInBounds_toArray, List.set_cons_zero, List.set_cons_succ])); (first | (refine rel_want (i := 1) rfl rfl (by kernel_rfl) (by kernel_rfl) (by kernel_rfl) rfl (fun _ _ _ _ h => h) hC ?_; intro K hK; go_big_quiet_op; go_big_quiet_on) | (refine rel_skip (i := 1) rfl (by kernel_rfl) (by kernel_rfl) (by kernel_rfl) rfl (fun _ _ _ _ h => h) hC ?_; simp only [Act.put, List.setIfInBounds_toArray, List.set_cons_zero, List.set_cons_succ])); (first | (refine rel_want (i := 2) rfl rfl (by kernel_rfl) (by kernel_rfl) (by kernel_rfl) rfl (fun _ _ _ _ h => h) hC ?_; intro K hK; go_big_quiet_op; go_big_quiet_on) | (refine rel_skip (i := 2) rfl (by kernel_rfl) (by kernel_rfl) (by kernel_rfl) rfl (fun _ _ _ _ h => h) hC ?_; simp only [Act.put, List.setIfInBounds_toArray, List.set_cons_zero, List.set_cons_succ])); (first | (refine rel_want (i := 4) rfl rfl (by kernel_rfl) (by kernel_rfl) (by kernel_rfl) rfl (fun _ _ _ _ h => h) hC ?_; intro K hK; go_big_quiet_op; go_big_quiet_on) | (refine rel_skip (i := 4) rfl (by kernel_rfl) (by kernel_rfl) (by kernel_rfl) rfl (fun _ _ _ _ h => h) hC ?_; simp only [Act.put, List.setIfInBounds_toArray, List.set_cons_zero, List.set_cons_succ]))
            refine rel_call (i := 3) (by kernel_rfl) rfl rfl ?_; intro K hK; go_simp; go_at_call 38; refine (KP.out _ _ (HS.out.step (bel hb hC.below))).mono ?_; rintro e w2 ⟨g, rfl, hKS, hgl, hb2⟩; (try go_wp2_with fail); replace hC := hC.on hb2; refine hK _ _ hC (fun _ => ?_); clear hK K; (try simp only [Act.put, List.setIfInBounds_toArray, List.set_cons_zero, List.set_cons_succ])
            have hlk := (hKS.look keyed_pair Tryz.underlying3 Tryz.underlying104 (zero_int _) HKL.out).1
            rw [HSMq.out] at hlk
            unfold pairV at hlk
            refine rel_call (i := 5) (by kernel_rfl) rfl rfl ?_; intro K hK; go_simp; have hC2 := hC.below; refine hK _ _ (Near.of (by repeat (first | exact hC2 | refine Below.alloc ?_ (by have hbs := hC2.size; first | omega | (simp; done) | (simp at hbs ⊢; omega)) _ | refine Below.drew ?_ | refine below_drewN_ ?_ _))) ?_; clear hK K hC hC2; intro hC; (try simp only [Act.put, List.setIfInBounds_toArray, List.set_cons_zero, List.set_cons_succ])
            clear hlk hKS hgl q25 a0 a1
            (first | (refine rel_want (i := 6) rfl rfl (by kernel_rfl) (by kernel_rfl) (by kernel_rfl) rfl (fun _ _ _ _ h => h) hC ?_; intro K hK; go_big_quiet_op; go_big_quiet_on) | (refine rel_skip (i := 6) rfl (by kernel_rfl) (by kernel_rfl) (by kernel_rfl) rfl (fun _ _ _ _ h => h) hC ?_; simp only [Act.put, List.setIfInBounds_toArray, List.set_cons_zero, List.set_cons_succ])); (first | (refine rel_want (i := 7) rfl rfl (by kernel_rfl) (by kernel_rfl) (by kernel_rfl) rfl (fun _ _ _ _ h => h) hC ?_; intro K hK; go_big_quiet_op; go_big_quiet_on) | (refine rel_skip (i := 7) rfl (by kernel_rfl) (by kernel_rfl) (by kernel_rfl) rfl (fun _ _ _ _ h => h) hC ?_; simp only [Act.put, List.setIfInBounds_toArray, List.set_cons_zero, List.set_cons_succ]))
            refine wpAnyH_done (by kernel_rfl) ?_ _
            have hb6 := bel hb hC.below
            have HP6 := Lib.hid (HP.out.step hC.below)
            have HG6 := Lib.hid (HG4.out.step hC.below)
            have HB6 := Lib.hid (HB4.out.step hC.below)
            have HK6 := Lib.hid (HKB.out.step hC.below)
            clear hC hb HP HG4 HB4 HKB
            obtain ⟨w6, rfl⟩ : ∃ x : World, x = w2 := ⟨_, rfl⟩
            have c1 : w6.cell? ⟨W.heap.size, 1, none⟩ = some (.int .i64 y) := (HG6.out.cell 1).trans (by rw [HG.out]; rfl)
            have c2 : w6.cell? ⟨W.heap.size, 2, none⟩ = some (.int .i64 m) := (HG6.out.cell 2).trans (by rw [HG.out]; rfl)
            have c3 : w6.cell? ⟨W.heap.size, 3, none⟩ = some (.int .i64 p) := (HG6.out.cell 3).trans (by rw [HG.out]; rfl)
            have HCK : Hid (Cal.ckE y m p q = 0) := Lib.hid (by unfold Cal.ckE; rw [if_pos hcal, if_pos ⟨hq0, hq1⟩])
            have KB := Lib.hid (fun W => cal_Before y m p q W)
            obtain ⟨s0, s1⟩ := HB1.out
            have hln2 : (l.length : Int) ≤ 200 := by omega
            have hwn : IntKind.i64.wrap (-sm) = -sm := IntWalk.i64_in _ (by omega)
            by_cases h12 : q < 12
            · have HBF0 : Hid (Iv.bef q l i k = 0) := Lib.hid (by rw [HBF.out, if_pos h12])
              have HVE : Hid (Cal.bfV y m p q = 0 ∧ Cal.bfE y m p q = 8) := Lib.hid ⟨by unfold Cal.bfV; rw [if_pos HCK.out, if_pos h12], by unfold Cal.bfE; rw [if_pos HCK.out, if_pos h12]⟩
              rw [HVE.out.1, HVE.out.2] at KB
              rw [HBF0.out] at HE HL
              clear h12
              go_upto_region 14 with (go_at_call 39; refine (KB.out _).mono ?_; rintro en w7 ⟨rfl, hb9⟩; have hb7 := bel hb6 hb9; have HP7 := Lib.hid (HP6.out.step hb9); have HG7 := Lib.hid (HG6.out.step hb9); clear hb9)
              clear c1 c2 c3
              have hwd : IntKind.i64.wrap sm = sm := IntWalk.i64_in _ (by omega)
              have KCL : Hid (∀ (g : Nat) (W : World), Blk W g 68 #[.int .i64 ro.inventory, .int .i64 (-sm), .int .i64 ro.retained, .int .i64 (0), .int .i64 ro.margin, .int .i64 (sm)] → Calls Tryz.prog 40 #[.slice (some ⟨g, 0, none⟩) 3 3] W (ColPost 68 W.heap.size (ofW (Iv.parts ro.inventory ro.retained ro.margin sm (0))) W)) := Lib.hid (fun g W hB => clean_any (Iv.parts ro.inventory ro.retained ro.margin sm 0) (some ⟨g, 0, none⟩) 3 W (Rd.of_blk hB (by simp [cellsOf, Iv.parts, Bal.cells]) rfl) (by show 3 ≤ 1000000; omega) (Iv.parts_wf _ _ _ _ _ hw1 hw2 hw3))
              have r8 : w7.cell? ⟨W.heap.size, 8, none⟩ = some (.int .i64 ro.inventory) := (HG7.out.cell 8).trans (by rw [HG.out]; rfl)
              have r11 : w7.cell? ⟨W.heap.size, 11, none⟩ = some (.int .i64 ro.retained) := (HG7.out.cell 11).trans (by rw [HG.out]; rfl)
              have r19 : w7.cell? ⟨W.heap.size, 19, none⟩ = some (.int .i64 ro.margin) := (HG7.out.cell 19).trans (by rw [HG.out]; rfl)
              go_upto_region 15 with (go_at_call 40; refine (KCL.out _ _ (Blk.new w7 68 _)).mono ?_; rintro en w8 ⟨v, LL, EE, rfl, ho, hb9, halt⟩; obtain ⟨A2, c2, hv, -⟩ := Rd.of_own ho; subst hv; have hb8 := bel (hb7.alloc hb7.size _) hb9; have HP8 := Lib.hid ((HP7.out.alloc _).step hb9); have HO := Lib.hid ho; have hlo : w.heap.size + 1 < w7.heap.size := HP7.out.lt; have HZ := Lib.hid hb9.size; have HALT := Lib.hid halt; clear hb9 ho halt)
              clear r8 r11 r19 HP6
              have HP := HP8
              clear HP8 HP7
              have HEL := Lib.hid (cln_is HALT.out)
              have HEE : Hid (E = EE) := Lib.hid (by rw [HE.out, HEL.out.2])
              have HLL : Hid (L = LL) := Lib.hid (by rw [HL.out, HEL.out.1])
              have hEE : EE = 0 ∨ EE = 2 := by rcases HALT.out with h | h <;> simp [h.1]
              have hE2 : EE = 2 → LL = [] := fun h => by rcases HALT.out with h2 | h2; exact absurd (h2.1.symm.trans h) (by decide); exact h2.2.1
              have hb := hb8
              clear hb8 hb7 hb6
              rcases hEE with rfl | rfl
              · clear hE2
                by_cases hll : LL = []
                · have HL1 : Hid (L = []) := Lib.hid (HLL.out.trans hll)
                  have hl0 : ((LL.length : Int) == 0) = true := by simp [hll]
                  clear hll
                  go_wp2_with (refine wpList_store_row rfl 48 (.tmp 10) (.tmp 113) rfl (w.heap.size + 1) zeroPost rfl rfl 48 zeroPost HP.out post_size rfl (PostR.arr_one noPost) ?_)
                  refine bodyPost_ret (v := .tuple #[.agg zeroPost, .int .i64 0]) (results_row2 Tryz.results13 _ _ (w.heap.size + 1) 48 zeroPost rfl (blk_row HP.out _) Tryz.underlying48 post_size) rfl ?_
                  exact ppost_none HL1.out (by rw [HEE.out]) (below_row hb (by omega))
                · have hl0 : ((LL.length : Int) == 0) = false := by simpa using hll
                  have HNE := Lib.hid hll
                  clear hll
                  go_wp2_with (refine wpList_store_row rfl 48 (.tmp 10) (.tmp 118) rfl (w.heap.size + 1) (PostR.arr ⟨8, i, k, 0, ⟨LL, A2, c2⟩⟩) rfl rfl 48 zeroPost HP.out post_size rfl (PostR.arr_one _) ?_)
                  refine bodyPost_ret (v := .tuple #[.agg (PostR.arr ⟨8, i, k, 0, ⟨LL, A2, c2⟩⟩), .int .i64 0]) (results_row2 Tryz.results13 _ _ (w.heap.size + 1) 48 (PostR.arr ⟨8, i, k, 0, ⟨LL, A2, c2⟩⟩) rfl (blk_row HP.out _) Tryz.underlying48 post_size) rfl ?_
                  exact ⟨⟨8, i, k, 0, ⟨LL, A2, c2⟩⟩, by rw [HEE.out], ⟨HLL.out.symm, rfl, .inr ⟨by rw [HLL.out]; exact HNE.out, rfl, rfl, rfl⟩⟩, own_base (own_row HO.out (by simp; omega) _) (by simp; omega), below_row hb (by omega)⟩
              · have hll := hE2 rfl
                have HL1 : Hid (L = []) := Lib.hid (HLL.out.trans hll)
                clear hll hE2
                go_wp2_with (refine wpList_store_row rfl 48 (.tmp 10) (.tmp 113) rfl (w.heap.size + 1) zeroPost rfl rfl 48 zeroPost HP.out post_size rfl (PostR.arr_one noPost) ?_)
                refine bodyPost_ret (v := .tuple #[.agg zeroPost, .int .i64 2]) (results_row2 Tryz.results13 _ _ (w.heap.size + 1) 48 zeroPost rfl (blk_row HP.out _) Tryz.underlying48 post_size) rfl ?_
                exact ppost_none HL1.out (by rw [HEE.out]) (below_row hb (by omega))
            · have HBF0 : Hid (Iv.bef q l i k = Iv.sum i k (q - q % 12 - 1) l) := Lib.hid (by rw [HBF.out, if_neg h12])
              have HVE : Hid (Cal.bfV y m p q = q - q % 12 - 1 ∧ Cal.bfE y m p q = 0) := Lib.hid ⟨by unfold Cal.bfV; rw [if_pos HCK.out, if_neg h12], by unfold Cal.bfE; rw [if_pos HCK.out, if_neg h12]⟩
              rw [HVE.out.1, HVE.out.2] at KB
              have HSB := Lib.hid (HSM.out (q - q % 12 - 1))
              rw [HBF0.out] at HE HL HB0
              generalize Iv.sum i k (q - q % 12 - 1) l = bf at *
              generalize q - q % 12 - 1 = yq at *
              obtain ⟨b0, b1⟩ := HB0.out
              clear h12
              go_upto_region 13 with (go_at_call 39; refine (KB.out _).mono ?_; rintro en w7 ⟨rfl, hb9⟩; have hb7 := bel hb6 hb9; have HP7 := Lib.hid (HP6.out.step hb9); have HG7 := Lib.hid (HG6.out.step hb9); have HB7 := Lib.hid (HB6.out.step hb9); have HK7 := Lib.hid (HK6.out.step hb9); clear hb9)
              clear c1 c2 c3
              have q25 : ∀ d : Later w7, d.now.cell? ⟨w.heap.size, 25, none⟩ = some (.slice sA l.length sc) := fun d => d.cell HB7.out.lt ((HB7.out.cell 25).trans HBK.out.st)
              have a0 : ∀ d : Later w7, d.now.cell? ⟨gk, 0, none⟩ = some (.int .i64 i) := fun d => d.cell HK7.out.lt (HK7.out.cell 0)
              have a1 : ∀ d : Later w7, d.now.cell? ⟨gk, 1, none⟩ = some (.int .i64 k) := fun d => d.cell HK7.out.lt (HK7.out.cell 1)
              refine rel_begin (n := 7) (w7) (by kernel_rfl) rfl ?_; have hC := Near.drew (w7)
              (first | (refine rel_want (i := 0) rfl rfl (by kernel_rfl) (by kernel_rfl) (by kernel_rfl) rfl (fun _ _ _ _ h => h) hC ?_; intro K hK; go_big_quiet_op; go_big_quiet_on) | (refine rel_skip (i := 0) rfl (by kernel_rfl) (by kernel_rfl) (by kernel_rfl) rfl (fun _ _ _ _ h => h) hC ?_; simp only [Act.put, List.setIfInBounds_toArray, List.set_cons_zero, List.set_cons_succ])); (first | (refine rel_want (i := 1) rfl rfl (by kernel_rfl) (by kernel_rfl) (by kernel_rfl) rfl (fun _ _ _ _ h => h) hC ?_; intro K hK; go_big_quiet_op; go_big_quiet_on) | (refine rel_skip (i := 1) rfl (by kernel_rfl) (by kernel_rfl) (by kernel_rfl) rfl (fun _ _ _ _ h => h) hC ?_; simp only [Act.put, List.setIfInBounds_toArray, List.set_cons_zero, List.set_cons_succ])); (first | (refine rel_want (i := 2) rfl rfl (by kernel_rfl) (by kernel_rfl) (by kernel_rfl) rfl (fun _ _ _ _ h => h) hC ?_; intro K hK; go_big_quiet_op; go_big_quiet_on) | (refine rel_skip (i := 2) rfl (by kernel_rfl) (by kernel_rfl) (by kernel_rfl) rfl (fun _ _ _ _ h => h) hC ?_; simp only [Act.put, List.setIfInBounds_toArray, List.set_cons_zero, List.set_cons_succ])); (first | (refine rel_want (i := 4) rfl rfl (by kernel_rfl) (by kernel_rfl) (by kernel_rfl) rfl (fun _ _ _ _ h => h) hC ?_; intro K hK; go_big_quiet_op; go_big_quiet_on) | (refine rel_skip (i := 4) rfl (by kernel_rfl) (by kernel_rfl) (by kernel_rfl) rfl (fun _ _ _ _ h => h) hC ?_; simp only [Act.put, List.setIfInBounds_toArray, List.set_cons_zero, List.set_cons_succ]))
              refine rel_call (i := 3) (by kernel_rfl) rfl rfl ?_; intro K hK; go_simp; go_at_call 38; refine (KP.out _ _ (HS.out.step (bel hb7 hC.below))).mono ?_; rintro e w2 ⟨g2, rfl, hKS, hgl, hb2⟩; (try go_wp2_with fail); replace hC := hC.on hb2; refine hK _ _ hC (fun _ => ?_); clear hK K; (try simp only [Act.put, List.setIfInBounds_toArray, List.set_cons_zero, List.set_cons_succ])
              have hlk := (hKS.look keyed_pair Tryz.underlying3 Tryz.underlying104 (zero_int _) HKL.out).1
              rw [HSB.out] at hlk
              unfold pairV at hlk
              refine rel_call (i := 5) (by kernel_rfl) rfl rfl ?_; intro K hK; go_simp; have hC2 := hC.below; refine hK _ _ (Near.of (by repeat (first | exact hC2 | refine Below.alloc ?_ (by have hbs := hC2.size; first | omega | (simp; done) | (simp at hbs ⊢; omega)) _ | refine Below.drew ?_ | refine below_drewN_ ?_ _))) ?_; clear hK K hC hC2; intro hC; (try simp only [Act.put, List.setIfInBounds_toArray, List.set_cons_zero, List.set_cons_succ])
              clear hlk hKS hgl q25 a0 a1
              (first | (refine rel_want (i := 6) rfl rfl (by kernel_rfl) (by kernel_rfl) (by kernel_rfl) rfl (fun _ _ _ _ h => h) hC ?_; intro K hK; go_big_quiet_op; go_big_quiet_on) | (refine rel_skip (i := 6) rfl (by kernel_rfl) (by kernel_rfl) (by kernel_rfl) rfl (fun _ _ _ _ h => h) hC ?_; simp only [Act.put, List.setIfInBounds_toArray, List.set_cons_zero, List.set_cons_succ]))
              refine wpAnyH_done (by kernel_rfl) ?_ _
              replace hb7 := bel hb7 hC.below
              replace HP7 := Lib.hid (HP7.out.step hC.below)
              replace HG7 := Lib.hid (HG7.out.step hC.below)
              clear hC HB7 HK7
              obtain ⟨w7, rfl⟩ : ∃ x : World, x = w2 := ⟨_, rfl⟩
              have hwd : IntKind.i64.wrap (sm - bf) = sm - bf := IntWalk.i64_in _ (by omega)
              have KCL : Hid (∀ (g : Nat) (W : World), Blk W g 68 #[.int .i64 ro.inventory, .int .i64 (-sm), .int .i64 ro.retained, .int .i64 (bf), .int .i64 ro.margin, .int .i64 (sm - bf)] → Calls Tryz.prog 40 #[.slice (some ⟨g, 0, none⟩) 3 3] W (ColPost 68 W.heap.size (ofW (Iv.parts ro.inventory ro.retained ro.margin sm (bf))) W)) := Lib.hid (fun g W hB => clean_any (Iv.parts ro.inventory ro.retained ro.margin sm bf) (some ⟨g, 0, none⟩) 3 W (Rd.of_blk hB (by simp [cellsOf, Iv.parts, Bal.cells]) rfl) (by show 3 ≤ 1000000; omega) (Iv.parts_wf _ _ _ _ _ hw1 hw2 hw3))
              have r8 : w7.cell? ⟨W.heap.size, 8, none⟩ = some (.int .i64 ro.inventory) := (HG7.out.cell 8).trans (by rw [HG.out]; rfl)
              have r11 : w7.cell? ⟨W.heap.size, 11, none⟩ = some (.int .i64 ro.retained) := (HG7.out.cell 11).trans (by rw [HG.out]; rfl)
              have r19 : w7.cell? ⟨W.heap.size, 19, none⟩ = some (.int .i64 ro.margin) := (HG7.out.cell 19).trans (by rw [HG.out]; rfl)
              go_upto_region 15 with (go_at_call 40; refine (KCL.out _ _ (Blk.new w7 68 _)).mono ?_; rintro en w8 ⟨v, LL, EE, rfl, ho, hb9, halt⟩; obtain ⟨A2, c2, hv, -⟩ := Rd.of_own ho; subst hv; have hb8 := bel (hb7.alloc hb7.size _) hb9; have HP8 := Lib.hid ((HP7.out.alloc _).step hb9); have HO := Lib.hid ho; have hlo : w.heap.size + 1 < w7.heap.size := HP7.out.lt; have HZ := Lib.hid hb9.size; have HALT := Lib.hid halt; clear hb9 ho halt)
              clear r8 r11 r19 HP6
              have HP := HP8
              clear HP8 HP7
              have HEL := Lib.hid (cln_is HALT.out)
              have HEE : Hid (E = EE) := Lib.hid (by rw [HE.out, HEL.out.2])
              have HLL : Hid (L = LL) := Lib.hid (by rw [HL.out, HEL.out.1])
              have hEE : EE = 0 ∨ EE = 2 := by rcases HALT.out with h | h <;> simp [h.1]
              have hE2 : EE = 2 → LL = [] := fun h => by rcases HALT.out with h2 | h2; exact absurd (h2.1.symm.trans h) (by decide); exact h2.2.1
              have hb := hb8
              clear hb8 hb7 hb6
              rcases hEE with rfl | rfl
              · clear hE2
                by_cases hll : LL = []
                · have HL1 : Hid (L = []) := Lib.hid (HLL.out.trans hll)
                  have hl0 : ((LL.length : Int) == 0) = true := by simp [hll]
                  clear hll
                  go_wp2_with (refine wpList_store_row rfl 48 (.tmp 10) (.tmp 113) rfl (w.heap.size + 1) zeroPost rfl rfl 48 zeroPost HP.out post_size rfl (PostR.arr_one noPost) ?_)
                  refine bodyPost_ret (v := .tuple #[.agg zeroPost, .int .i64 0]) (results_row2 Tryz.results13 _ _ (w.heap.size + 1) 48 zeroPost rfl (blk_row HP.out _) Tryz.underlying48 post_size) rfl ?_
                  exact ppost_none HL1.out (by rw [HEE.out]) (below_row hb (by omega))
                · have hl0 : ((LL.length : Int) == 0) = false := by simpa using hll
                  have HNE := Lib.hid hll
                  clear hll
                  go_wp2_with (refine wpList_store_row rfl 48 (.tmp 10) (.tmp 118) rfl (w.heap.size + 1) (PostR.arr ⟨8, i, k, 0, ⟨LL, A2, c2⟩⟩) rfl rfl 48 zeroPost HP.out post_size rfl (PostR.arr_one _) ?_)
                  refine bodyPost_ret (v := .tuple #[.agg (PostR.arr ⟨8, i, k, 0, ⟨LL, A2, c2⟩⟩), .int .i64 0]) (results_row2 Tryz.results13 _ _ (w.heap.size + 1) 48 (PostR.arr ⟨8, i, k, 0, ⟨LL, A2, c2⟩⟩) rfl (blk_row HP.out _) Tryz.underlying48 post_size) rfl ?_
                  exact ⟨⟨8, i, k, 0, ⟨LL, A2, c2⟩⟩, by rw [HEE.out], ⟨HLL.out.symm, rfl, .inr ⟨by rw [HLL.out]; exact HNE.out, rfl, rfl, rfl⟩⟩, own_base (own_row HO.out (by simp; omega) _) (by simp; omega), below_row hb (by omega)⟩
              · have hll := hE2 rfl
                have HL1 : Hid (L = []) := Lib.hid (HLL.out.trans hll)
                clear hll hE2
                go_wp2_with (refine wpList_store_row rfl 48 (.tmp 10) (.tmp 113) rfl (w.heap.size + 1) zeroPost rfl rfl 48 zeroPost HP.out post_size rfl (PostR.arr_one noPost) ?_)
                refine bodyPost_ret (v := .tuple #[.agg zeroPost, .int .i64 2]) (results_row2 Tryz.results13 _ _ (w.heap.size + 1) 48 zeroPost rfl (blk_row HP.out _) Tryz.underlying48 post_size) rfl ?_
                exact ppost_none HL1.out (by rw [HEE.out]) (below_row hb (by omega))
  · have hc0 : ck ≠ 0 := by simpa using hx
    have HE1 : Hid (E = ck) := Lib.hid (by rw [HE.out, if_neg hc0])
    have HL1 : Hid (L = []) := Lib.hid (by rw [HL.out, if_neg (fun h => hc0 h.1)])
    clear hc0
    go_wp2_with (refine wpList_store_row rfl 48 (.tmp 10) (.tmp 30) rfl (w.heap.size + 1) zeroPost rfl rfl 48 zeroPost HP.out post_size rfl (PostR.arr_one noPost) ?_)
    refine bodyPost_ret (v := .tuple #[.agg zeroPost, .int .i64 ck]) (results_row2 Tryz.results13 _ _ (w.heap.size + 1) 48 zeroPost rfl (blk_row HP.out _) Tryz.underlying48 post_size) rfl ?_
    exact ppost_none HL1.out (by rw [HE1.out]) (below_row hb (by omega))
set_option maxRecDepth 100000 in
set_option maxHeartbeats 16000000 in
theorem riposting_any (bcs : Array Value) (l : List StkR) (sA : Option Addr) (sc : Nat) (cs : List ConR) (i k q : Int) (A : Option Addr) (c : Nat) (HG : Hid (gcs = #[.string cur, .int .i64 y, .int .i64 m, .int .i64 p, .slice cA cl.length cc, .int .i64 ro.investment, .int .i64 ro.goodwill, .int .i64 ro.associates, .int .i64 ro.inventory, .int .i64 ro.reserve, .int .i64 ro.minority, .int .i64 ro.retained, .int .i64 ro.acquired, .int .i64 ro.owners, .int .i64 ro.disposal, .int .i64 ro.associateProfit, .int .i64 ro.dividends, .int .i64 ro.minorityProfit, .int .i64 ro.difference, .int .i64 ro.margin, .slice eA el.length ec])) (hBK : BkSt bcs gcs (.slice sA l.length sc)) (h : GIn w cl cA el eA) (hF : FewOk cur cl el) (hS : SIn w l sA) (hC : CIn w cs A) :
    Calls Tryz.prog 14 #[.agg bcs, .slice A cs.length c, .int .i64 i, .int .i64 k, .int .i64 q] w
      (PPost 68 8 i k (Iv.pL (Gr.gv cur cl ro el (Cal.ok y m p)) q p el.length ro l cs i k) (Iv.pE (Gr.gv cur cl ro el (Cal.ok y m p)) q p el.length ro l cs i k) w) := by
  have hgi : (Tryz.prog.info? 29).map (·.size) = some gcs.size := by rw [HG.out]; exact grp_size
  have hg21 : (Tryz.prog.info? 29).map (·.size) = some 21 := grp_size
  have HBK := Lib.hid hBK
  have HG1 := Lib.hid (grp_one HG.out)
  have H := Lib.hid h
  have HC := Lib.hid hC
  have HS := Lib.hid hS
  have hel := hF.en
  have hb : Below w.heap.size w ((w.alloc (.cells bcs 36)).alloc (.cells #[.int .i64 0, .int .i64 0, .int .i64 0, .int .i64 0, .slice none 0 0] 48)) := ((Below.refl _ _).alloc (Nat.le_refl _) _).alloc (by simp) _
  have HB := Lib.hid ((Blk.new w 36 bcs).alloc (.cells #[.int .i64 0, .int .i64 0, .int .i64 0, .int .i64 0, .slice none 0 0] 48))
  have HP := Lib.hid (blk_new2 w (.cells bcs 36) 48 #[.int .i64 0, .int .i64 0, .int .i64 0, .int .i64 0, .slice none 0 0])
  have KC := Lib.hid (fun W h hS => richeck_any gcs cur y m p cl cA cc ro el eA ec W l sA sc q HG h hF hS)
  have HCAL := Lib.hid (gv_cal (cur := cur) (cl := cl) (ro := ro) (el := el) (b := Cal.ok y m p))
  clear h hC hS hBK hF
  generalize Gr.gv cur cl ro el (Cal.ok y m p) = V at *
  have HC0 := Lib.hid (iv_ck0 (V := V) (q := q) (p := p) (n := el.length) (l := l))
  have HE : Hid (Iv.pE V q p el.length ro l cs i k = if Dv.ck (Iv.val V p el.length l) q p = 0 then (if Dv.inN el.length i k = true then (if Dv.pair cs i k = true then clnE (Iv.pts ro q l i k) else 0) else 2) else Dv.ck (Iv.val V p el.length l) q p) := Lib.hid rfl
  have HL : Hid (Iv.pL V q p el.length ro l cs i k = if Dv.ck (Iv.val V p el.length l) q p = 0 ∧ Dv.inN el.length i k = true ∧ Dv.pair cs i k = true then clnL (Iv.pts ro q l i k) else []) := Lib.hid rfl
  generalize Iv.pE V q p el.length ro l cs i k = E at *
  generalize Iv.pL V q p el.length ro l cs i k = L at *
  unfold IntPost at KC
  generalize Dv.ck (Iv.val V p el.length l) q p = ck at *
  go_enter Tryz.func14, Tryz.ntmps14
  go_upto_region 1 with fail
  generalize (w.alloc (.cells bcs 36)).alloc (.cells #[.int .i64 0, .int .i64 0, .int .i64 0, .int .i64 0, .slice none 0 0] 48) = W at *
  have HB2 := Lib.hid (HB.out.alloc (.cells gcs 29))
  have HG3 := Lib.hid (Blk.new W 29 gcs)
  have HP3 := Lib.hid (HP.out.alloc (.cells gcs 29))
  have hb2 := hb.alloc hb.size (.cells gcs 29)
  have k25 : (W.alloc (.cells gcs 29)).cell? ⟨w.heap.size, 25, none⟩ = some (.slice sA l.length sc) := (HB2.out.cell 25).trans HBK.out.st
  go_upto_region 3 with (first
    | (refine wpList_load_arr rfl 29 (.tmp 20) rfl w.heap.size 0 rfl gcs (bk_range HB.out HBK.out.toBkIs) Tryz.underlying29 21 hg21 HBK.out.gsz ?_)
    | (refine wpList_alloc_put rfl 29 (.tmp 12) (.tmp (20 + 1)) rfl rfl gcs _ rfl rfl 21 hg21 HBK.out.gsz rfl HG1.out ?_)
    | (refine wpList_load_blk 29 (.tmp 12) rfl (W.heap.size) rfl (by kernel_rfl) (HG3).out Tryz.underlying29 hgi ?_)
    | (go_at_call 41; refine (KC.out _ (H.out.step hb2) (HS.out.step hb2)).mono ?_; rintro en w4 ⟨rfl, hb9⟩))
  replace hb := bel hb2 hb9
  clear hb2 k25
  have HB4 := Lib.hid (HB2.out.step hb9)
  have HG4 := Lib.hid (HG3.out.step hb9)
  replace HP := Lib.hid (HP3.out.step hb9)
  clear HB HB2 HG3 HP3 hb9
  cases hx : (ck != 0)
  · have hc0 : ck = 0 := by simpa using hx
    clear hx
    obtain ⟨hok, hln, hV, hq0, hq1⟩ := HC0.out hc0
    have hcal := HCAL.out hV
    subst hc0
    rw [if_pos rfl] at HE
    clear HC0 HCAL hV KC
    go_upto_region 5 with fail
    go_cut [40] (fun s wx => s = .bool (!Dv.inN el.length i k) ∧ Blk wx (w.heap.size + 1) 48 #[.int .i64 0, .int .i64 0, .int .i64 0, .int .i64 0, .slice none 0 0] ∧ Blk wx W.heap.size 29 gcs ∧ Blk wx w.heap.size 36 bcs ∧ Below w.heap.size w wx)
    case first =>
      have HIN := Lib.hid (iv_inN el.length i k)
      cases h1 : Iv.ent el.length i
      · go_wp2_with (first
          | (refine wpList_load_blk 29 (.tmp 12) rfl W.heap.size rfl rfl HG4.out Tryz.underlying29 hgi ?_)
          | (go_at_call 42; refine (rient_any gcs cur y m p cl cA cc ro el eA ec _ _ HG).mono ?_; rintro en w5 ⟨rfl, hb9⟩; have hb5 := bel hb hb9; have HB5 := Lib.hid (HB4.out.step hb9); have HG5 := Lib.hid (HG4.out.step hb9); have HP5 := Lib.hid (HP.out.step hb9); clear hb9; rw [h1]))
        go_meet
        exact ⟨by rw [HIN.out, h1]; rfl, HP5.out, HG5.out, HB5.out, hb5⟩
      · cases h2 : Iv.ent el.length k
        · go_wp2_with (first
            | (refine wpList_load_blk 29 (.tmp 12) rfl W.heap.size rfl rfl HG4.out Tryz.underlying29 hgi ?_)
            | (go_at_call 42; refine (rient_any gcs cur y m p cl cA cc ro el eA ec _ _ HG).mono ?_; rintro en w5 ⟨rfl, hb9⟩; replace hb := bel hb hb9; replace HB4 := Lib.hid (HB4.out.step hb9); replace HG4 := Lib.hid (HG4.out.step hb9); replace HP := Lib.hid (HP.out.step hb9); clear hb9; first | rw [h1] | rw [h2]))
          go_meet
          exact ⟨by rw [HIN.out, h1, h2]; rfl, HP.out, HG4.out, HB4.out, hb⟩
        · go_wp2_with (first
            | (refine wpList_load_blk 29 (.tmp 12) rfl W.heap.size rfl rfl HG4.out Tryz.underlying29 hgi ?_)
            | (go_at_call 42; refine (rient_any gcs cur y m p cl cA cc ro el eA ec _ _ HG).mono ?_; rintro en w5 ⟨rfl, hb9⟩; replace hb := bel hb hb9; replace HB4 := Lib.hid (HB4.out.step hb9); replace HG4 := Lib.hid (HG4.out.step hb9); replace HP := Lib.hid (HP.out.step hb9); clear hb9; first | rw [h1] | rw [h2]))
          go_meet
          exact ⟨by rw [HIN.out, h1, h2]; rfl, HP.out, HG4.out, HB4.out, hb⟩
    case rest =>
      clear HP HG4 HB4 hb
      obtain ⟨rfl, hP5, hG5, hB5, hb⟩ := hcut
      have HP := Lib.hid hP5
      have HG4 := Lib.hid hG5
      have HB4 := Lib.hid hB5
      clear hP5 hG5 hB5
      obtain ⟨w4, rfl⟩ : ∃ x : World, x = wc := ⟨_, rfl⟩
      cases hin : Dv.inN el.length i k
      · have HE1 : Hid (E = 2) := Lib.hid (by rw [HE.out, if_neg (by rw [hin]; decide)])
        have HL1 : Hid (L = []) := Lib.hid (by rw [HL.out, if_neg (fun h => by rw [hin] at h; cases h.2.1)])
        clear hin
        simp only [Bool.not_false]
        go_wp2_with (refine wpList_store_row rfl 48 (.tmp 10) (.tmp 41) rfl (w.heap.size + 1) zeroPost rfl rfl 48 zeroPost HP.out post_size rfl (PostR.arr_one noPost) ?_)
        refine bodyPost_ret (v := .tuple #[.agg zeroPost, .int .i64 2]) (results_row2 Tryz.results14 _ _ (w.heap.size + 1) 48 zeroPost rfl (blk_row HP.out _) Tryz.underlying48 post_size) rfl ?_
        exact ppost_none HL1.out (by rw [HE1.out]) (below_row hb (by omega))
      · rw [if_pos hin] at HE
        rw [hin] at HL
        obtain ⟨hwi, hwk⟩ := iv_wf hin hel
        clear hin
        simp only [Bool.not_true]
        go_upto_region 7 with fail
        go_cut [56] (fun s wx => s = .bool (!Dv.pair cs i k) ∧ Blk wx (w.heap.size + 1) 48 #[.int .i64 0, .int .i64 0, .int .i64 0, .int .i64 0, .slice none 0 0] ∧ Blk wx W.heap.size 29 gcs ∧ Blk wx w.heap.size 36 bcs ∧ Below w.heap.size w wx)
        case first =>
          have KF1 := Lib.hid (fun W h => rifull_any cs i A c W h)
          have KF2 := Lib.hid (fun W h => rifull_any cs k A c W h)
          unfold BoolPost at KF1 KF2
          cases hik : (i == k)
          · cases hf1 : Dv.full cs i
            · have HO : Hid (Dv.pair cs i k = false) := Lib.hid (by unfold Dv.pair; rw [hf1]; simp)
              rw [hf1] at KF1
              clear hf1
              go_wp2_with (go_at_call 43; refine (KF1.out _ (HC.out.step hb)).mono ?_; rintro en w5 ⟨rfl, hb9⟩; have hb5 := bel hb hb9; have hP5 := HP.out.step hb9; have hG5 := HG4.out.step hb9; have hB5 := HB4.out.step hb9; clear hb9)
              go_meet
              exact ⟨by rw [HO.out]; rfl, hP5, hG5, hB5, hb5⟩
            · cases hf2 : Dv.full cs k
              · have HO : Hid (Dv.pair cs i k = false) := Lib.hid (by unfold Dv.pair; rw [hf2]; simp)
                rw [hf1] at KF1
                rw [hf2] at KF2
                clear hf1 hf2
                go_wp2_with (first
                  | (go_at_call 43; refine (KF1.out _ (HC.out.step hb)).mono ?_; rintro en w5 ⟨rfl, hb9⟩; have hb5 := bel hb hb9; have HP5 := Lib.hid (HP.out.step hb9); have HG5 := Lib.hid (HG4.out.step hb9); have HB5 := Lib.hid (HB4.out.step hb9); clear hb9 KF1)
                  | (go_at_call 43; refine (KF2.out _ (HC.out.step hb5)).mono ?_; rintro en w6 ⟨rfl, hb9⟩; have hb6 := bel hb5 hb9; have hP6 := HP5.out.step hb9; have hG6 := HG5.out.step hb9; have hB6 := HB5.out.step hb9; clear hb9))
                go_meet
                exact ⟨by rw [HO.out]; rfl, hP6, hG6, hB6, hb6⟩
              · have HO : Hid (Dv.pair cs i k = true) := Lib.hid (by unfold Dv.pair; rw [hik, hf1, hf2]; rfl)
                rw [hf1] at KF1
                rw [hf2] at KF2
                clear hf1 hf2
                go_wp2_with (first
                  | (go_at_call 43; refine (KF1.out _ (HC.out.step hb)).mono ?_; rintro en w5 ⟨rfl, hb9⟩; have hb5 := bel hb hb9; have HP5 := Lib.hid (HP.out.step hb9); have HG5 := Lib.hid (HG4.out.step hb9); have HB5 := Lib.hid (HB4.out.step hb9); clear hb9 KF1)
                  | (go_at_call 43; refine (KF2.out _ (HC.out.step hb5)).mono ?_; rintro en w6 ⟨rfl, hb9⟩; have hb6 := bel hb5 hb9; have hP6 := HP5.out.step hb9; have hG6 := HG5.out.step hb9; have hB6 := HB5.out.step hb9; clear hb9))
                go_meet
                exact ⟨by rw [HO.out]; rfl, hP6, hG6, hB6, hb6⟩
          · have HO : Hid (Dv.pair cs i k = false) := Lib.hid (by unfold Dv.pair; rw [hik]; rfl)
            go_wp2_with fail
            go_meet
            exact ⟨by rw [HO.out]; rfl, HP.out, HG4.out, HB4.out, hb⟩
        case rest =>
          clear HP HG4 HB4 hb
          obtain ⟨rfl, hP5, hG5, hB5, hb⟩ := hcut
          have HP := Lib.hid hP5
          have HG4 := Lib.hid hG5
          have HB4 := Lib.hid hB5
          clear hP5 hG5 hB5
          cases hpr : Dv.pair cs i k
          · have HE1 : Hid (E = 0) := Lib.hid (by rw [HE.out, if_neg (by rw [hpr]; decide)])
            have HL1 : Hid (L = []) := Lib.hid (by rw [HL.out, if_neg (fun h => by rw [hpr] at h; cases h.2.2)])
            clear hpr
            simp only [Bool.not_false]
            go_wp2_with (refine wpList_store_row rfl 48 (.tmp 10) (.tmp 57) rfl (w.heap.size + 1) zeroPost rfl rfl 48 zeroPost HP.out post_size rfl (PostR.arr_one noPost) ?_)
            refine bodyPost_ret (v := .tuple #[.agg zeroPost, .int .i64 0]) (results_row2 Tryz.results14 _ _ (w.heap.size + 1) 48 zeroPost rfl (blk_row HP.out _) Tryz.underlying48 post_size) rfl ?_
            exact ppost_none HL1.out (by rw [HE1.out]) (below_row hb (by omega))
          · rw [if_pos hpr] at HE
            rw [hpr, if_pos ⟨rfl, rfl, rfl⟩] at HL
            clear hpr
            simp only [Bool.not_true]
            have KP := Lib.hid (fun W q h => riprofit_any p W l sA sc i k q el.length h hok hln)
            have HBF : Hid (Iv.bef q l i k = if q < 12 then 0 else Iv.sum i k (q - q % 12 - 1) l) := Lib.hid rfl
            have HPT : Hid (Iv.pts ro q l i k = Iv.parts ro.inventory ro.retained ro.margin (Iv.sum i k q l) (Iv.bef q l i k)) := Lib.hid rfl
            have HB1 := Lib.hid (iv_sum_in i k q l hok)
            have HB0 := Lib.hid (Iv.bef_in q l i k hok)
            rw [HPT.out] at HE HL
            clear HPT
            have KP0 := Lib.hid (fun W h => KP.out W q h)
            unfold IntPost at KP KP0
            generalize hsm : Iv.sum i k q l = sm at *
            clear hsm
            have k25 : wc.cell? ⟨w.heap.size, 25, none⟩ = some (.slice sA l.length sc) := (HB4.out.cell 25).trans HBK.out.st
            go_upto_region 10 with (go_at_call 44; refine (KP0.out _ (HS.out.step hb)).mono ?_; rintro en w6 ⟨rfl, hb9⟩; have hb6 := bel hb hb9; have HP6 := Lib.hid (HP.out.step hb9); have HG6 := Lib.hid (HG4.out.step hb9); have HB6 := Lib.hid (HB4.out.step hb9); clear hb9)
            clear k25 hb HP HG4 HB4
            have c1 : w6.cell? ⟨W.heap.size, 1, none⟩ = some (.int .i64 y) := (HG6.out.cell 1).trans (by rw [HG.out]; rfl)
            have c2 : w6.cell? ⟨W.heap.size, 2, none⟩ = some (.int .i64 m) := (HG6.out.cell 2).trans (by rw [HG.out]; rfl)
            have c3 : w6.cell? ⟨W.heap.size, 3, none⟩ = some (.int .i64 p) := (HG6.out.cell 3).trans (by rw [HG.out]; rfl)
            have HCK : Hid (Cal.ckE y m p q = 0) := Lib.hid (by unfold Cal.ckE; rw [if_pos hcal, if_pos ⟨hq0, hq1⟩])
            have KB := Lib.hid (fun W => rcal_Before y m p q W)
            obtain ⟨s0, s1⟩ := HB1.out
            have hln2 : (l.length : Int) ≤ 200 := by omega
            have hwn : IntKind.i64.wrap (-sm) = -sm := IntWalk.i64_in _ (by omega)
            by_cases h12 : q < 12
            · have HBF0 : Hid (Iv.bef q l i k = 0) := Lib.hid (by rw [HBF.out, if_pos h12])
              have HVE : Hid (Cal.bfV y m p q = 0 ∧ Cal.bfE y m p q = 8) := Lib.hid ⟨by unfold Cal.bfV; rw [if_pos HCK.out, if_pos h12], by unfold Cal.bfE; rw [if_pos HCK.out, if_pos h12]⟩
              rw [HVE.out.1, HVE.out.2] at KB
              rw [HBF0.out] at HE HL
              clear h12
              go_upto_region 13 with (go_at_call 18; refine (KB.out _).mono ?_; rintro en w7 ⟨rfl, hb9⟩; have hb7 := bel hb6 hb9; have HP7 := Lib.hid (HP6.out.step hb9); have HG7 := Lib.hid (HG6.out.step hb9); clear hb9)
              clear c1 c2 c3
              have hwd : IntKind.i64.wrap sm = sm := IntWalk.i64_in _ (by omega)
              have KCL : Hid (∀ (g : Nat) (W : World), Blk W g 68 #[.int .i64 ro.inventory, .int .i64 (-sm), .int .i64 ro.retained, .int .i64 (0), .int .i64 ro.margin, .int .i64 (sm)] → Calls Tryz.prog 45 #[.slice (some ⟨g, 0, none⟩) 3 3] W (ColPost 68 W.heap.size (ofW (Iv.parts ro.inventory ro.retained ro.margin sm (0))) W)) := Lib.hid (fun g W hB => rclean_any (Iv.parts ro.inventory ro.retained ro.margin sm 0) (some ⟨g, 0, none⟩) 3 W (Rd.of_blk hB (by simp [cellsOf, Iv.parts, Bal.cells]) rfl) (by show 3 ≤ 1000000; omega))
              have r8 : w7.cell? ⟨W.heap.size, 8, none⟩ = some (.int .i64 ro.inventory) := (HG7.out.cell 8).trans (by rw [HG.out]; rfl)
              have r11 : w7.cell? ⟨W.heap.size, 11, none⟩ = some (.int .i64 ro.retained) := (HG7.out.cell 11).trans (by rw [HG.out]; rfl)
              have r19 : w7.cell? ⟨W.heap.size, 19, none⟩ = some (.int .i64 ro.margin) := (HG7.out.cell 19).trans (by rw [HG.out]; rfl)
              go_upto_region 14 with (go_at_call 45; refine (KCL.out _ _ (Blk.new w7 68 _)).mono ?_; rintro en w8 ⟨v, LL, EE, rfl, ho, hb9, halt⟩; obtain ⟨A2, c2, hv, -⟩ := Rd.of_own ho; subst hv; have hb8 := bel (hb7.alloc hb7.size _) hb9; have HP8 := Lib.hid ((HP7.out.alloc _).step hb9); have HO := Lib.hid ho; have hlo : w.heap.size + 1 < w7.heap.size := HP7.out.lt; have HZ := Lib.hid hb9.size; have HALT := Lib.hid halt; clear hb9 ho halt)
              clear r8 r11 r19 HP6
              have HP := HP8
              clear HP8 HP7
              have HEL := Lib.hid (cln_is HALT.out)
              have HEE : Hid (E = EE) := Lib.hid (by rw [HE.out, HEL.out.2])
              have HLL : Hid (L = LL) := Lib.hid (by rw [HL.out, HEL.out.1])
              have hEE : EE = 0 ∨ EE = 2 := by rcases HALT.out with h | h <;> simp [h.1]
              have hE2 : EE = 2 → LL = [] := fun h => by rcases HALT.out with h2 | h2; exact absurd (h2.1.symm.trans h) (by decide); exact h2.2.1
              have hb := hb8
              clear hb8 hb7 hb6
              rcases hEE with rfl | rfl
              · clear hE2
                by_cases hll : LL = []
                · have HL1 : Hid (L = []) := Lib.hid (HLL.out.trans hll)
                  have hl0 : ((LL.length : Int) == 0) = true := by simp [hll]
                  clear hll
                  go_wp2_with (refine wpList_store_row rfl 48 (.tmp 10) (.tmp 109) rfl (w.heap.size + 1) zeroPost rfl rfl 48 zeroPost HP.out post_size rfl (PostR.arr_one noPost) ?_)
                  refine bodyPost_ret (v := .tuple #[.agg zeroPost, .int .i64 0]) (results_row2 Tryz.results14 _ _ (w.heap.size + 1) 48 zeroPost rfl (blk_row HP.out _) Tryz.underlying48 post_size) rfl ?_
                  exact ppost_none HL1.out (by rw [HEE.out]) (below_row hb (by omega))
                · have hl0 : ((LL.length : Int) == 0) = false := by simpa using hll
                  have HNE := Lib.hid hll
                  clear hll
                  go_wp2_with (refine wpList_store_row rfl 48 (.tmp 10) (.tmp 114) rfl (w.heap.size + 1) (PostR.arr ⟨8, i, k, 0, ⟨LL, A2, c2⟩⟩) rfl rfl 48 zeroPost HP.out post_size rfl (PostR.arr_one _) ?_)
                  refine bodyPost_ret (v := .tuple #[.agg (PostR.arr ⟨8, i, k, 0, ⟨LL, A2, c2⟩⟩), .int .i64 0]) (results_row2 Tryz.results14 _ _ (w.heap.size + 1) 48 (PostR.arr ⟨8, i, k, 0, ⟨LL, A2, c2⟩⟩) rfl (blk_row HP.out _) Tryz.underlying48 post_size) rfl ?_
                  exact ⟨⟨8, i, k, 0, ⟨LL, A2, c2⟩⟩, by rw [HEE.out], ⟨HLL.out.symm, rfl, .inr ⟨by rw [HLL.out]; exact HNE.out, rfl, rfl, rfl⟩⟩, own_base (own_row HO.out (by simp; omega) _) (by simp; omega), below_row hb (by omega)⟩
              · have hll := hE2 rfl
                have HL1 : Hid (L = []) := Lib.hid (HLL.out.trans hll)
                clear hll hE2
                go_wp2_with (refine wpList_store_row rfl 48 (.tmp 10) (.tmp 109) rfl (w.heap.size + 1) zeroPost rfl rfl 48 zeroPost HP.out post_size rfl (PostR.arr_one noPost) ?_)
                refine bodyPost_ret (v := .tuple #[.agg zeroPost, .int .i64 2]) (results_row2 Tryz.results14 _ _ (w.heap.size + 1) 48 zeroPost rfl (blk_row HP.out _) Tryz.underlying48 post_size) rfl ?_
                exact ppost_none HL1.out (by rw [HEE.out]) (below_row hb (by omega))
            · have HBF0 : Hid (Iv.bef q l i k = Iv.sum i k (q - q % 12 - 1) l) := Lib.hid (by rw [HBF.out, if_neg h12])
              have HVE : Hid (Cal.bfV y m p q = q - q % 12 - 1 ∧ Cal.bfE y m p q = 0) := Lib.hid ⟨by unfold Cal.bfV; rw [if_pos HCK.out, if_neg h12], by unfold Cal.bfE; rw [if_pos HCK.out, if_neg h12]⟩
              rw [HVE.out.1, HVE.out.2] at KB
              have KP1 := Lib.hid (fun W h => KP.out W (q - q % 12 - 1) h)
              rw [HBF0.out] at HE HL HB0
              generalize Iv.sum i k (q - q % 12 - 1) l = bf at *
              generalize q - q % 12 - 1 = yq at *
              obtain ⟨b0, b1⟩ := HB0.out
              clear h12
              have k25 : ∀ u : World, Below w6.heap.size w6 u → u.cell? ⟨w.heap.size, 25, none⟩ = some (.slice sA l.length sc) := fun u hu => ((HB6.out.step hu).cell 25).trans HBK.out.st
              have HK25 := Lib.hid k25
              clear k25
              go_upto_region 13 with (first
                | (go_at_call 18; refine (KB.out _).mono ?_; rintro en w7 ⟨rfl, hb9⟩; have hb7 := bel hb6 hb9; have HP7 := Lib.hid (HP6.out.step hb9); have HG7 := Lib.hid (HG6.out.step hb9); have k25 := HK25.out _ hb9; clear hb9)
                | (go_at_call 44; refine (KP1.out _ (HS.out.step hb7)).mono ?_; rintro en w8 ⟨rfl, hb9⟩; replace hb7 := bel hb7 hb9; replace HP7 := Lib.hid (HP7.out.step hb9); replace HG7 := Lib.hid (HG7.out.step hb9); clear hb9 k25))
              clear c1 c2 c3
              obtain ⟨w7, rfl⟩ : ∃ x : World, x = w8 := ⟨_, rfl⟩
              have hwd : IntKind.i64.wrap (sm - bf) = sm - bf := IntWalk.i64_in _ (by omega)
              have KCL : Hid (∀ (g : Nat) (W : World), Blk W g 68 #[.int .i64 ro.inventory, .int .i64 (-sm), .int .i64 ro.retained, .int .i64 (bf), .int .i64 ro.margin, .int .i64 (sm - bf)] → Calls Tryz.prog 45 #[.slice (some ⟨g, 0, none⟩) 3 3] W (ColPost 68 W.heap.size (ofW (Iv.parts ro.inventory ro.retained ro.margin sm (bf))) W)) := Lib.hid (fun g W hB => rclean_any (Iv.parts ro.inventory ro.retained ro.margin sm bf) (some ⟨g, 0, none⟩) 3 W (Rd.of_blk hB (by simp [cellsOf, Iv.parts, Bal.cells]) rfl) (by show 3 ≤ 1000000; omega))
              have r8 : w7.cell? ⟨W.heap.size, 8, none⟩ = some (.int .i64 ro.inventory) := (HG7.out.cell 8).trans (by rw [HG.out]; rfl)
              have r11 : w7.cell? ⟨W.heap.size, 11, none⟩ = some (.int .i64 ro.retained) := (HG7.out.cell 11).trans (by rw [HG.out]; rfl)
              have r19 : w7.cell? ⟨W.heap.size, 19, none⟩ = some (.int .i64 ro.margin) := (HG7.out.cell 19).trans (by rw [HG.out]; rfl)
              go_upto_region 14 with (go_at_call 45; refine (KCL.out _ _ (Blk.new w7 68 _)).mono ?_; rintro en w8 ⟨v, LL, EE, rfl, ho, hb9, halt⟩; obtain ⟨A2, c2, hv, -⟩ := Rd.of_own ho; subst hv; have hb8 := bel (hb7.alloc hb7.size _) hb9; have HP8 := Lib.hid ((HP7.out.alloc _).step hb9); have HO := Lib.hid ho; have hlo : w.heap.size + 1 < w7.heap.size := HP7.out.lt; have HZ := Lib.hid hb9.size; have HALT := Lib.hid halt; clear hb9 ho halt)
              clear r8 r11 r19 HP6
              have HP := HP8
              clear HP8 HP7
              have HEL := Lib.hid (cln_is HALT.out)
              have HEE : Hid (E = EE) := Lib.hid (by rw [HE.out, HEL.out.2])
              have HLL : Hid (L = LL) := Lib.hid (by rw [HL.out, HEL.out.1])
              have hEE : EE = 0 ∨ EE = 2 := by rcases HALT.out with h | h <;> simp [h.1]
              have hE2 : EE = 2 → LL = [] := fun h => by rcases HALT.out with h2 | h2; exact absurd (h2.1.symm.trans h) (by decide); exact h2.2.1
              have hb := hb8
              clear hb8 hb7 hb6
              rcases hEE with rfl | rfl
              · clear hE2
                by_cases hll : LL = []
                · have HL1 : Hid (L = []) := Lib.hid (HLL.out.trans hll)
                  have hl0 : ((LL.length : Int) == 0) = true := by simp [hll]
                  clear hll
                  go_wp2_with (refine wpList_store_row rfl 48 (.tmp 10) (.tmp 109) rfl (w.heap.size + 1) zeroPost rfl rfl 48 zeroPost HP.out post_size rfl (PostR.arr_one noPost) ?_)
                  refine bodyPost_ret (v := .tuple #[.agg zeroPost, .int .i64 0]) (results_row2 Tryz.results14 _ _ (w.heap.size + 1) 48 zeroPost rfl (blk_row HP.out _) Tryz.underlying48 post_size) rfl ?_
                  exact ppost_none HL1.out (by rw [HEE.out]) (below_row hb (by omega))
                · have hl0 : ((LL.length : Int) == 0) = false := by simpa using hll
                  have HNE := Lib.hid hll
                  clear hll
                  go_wp2_with (refine wpList_store_row rfl 48 (.tmp 10) (.tmp 114) rfl (w.heap.size + 1) (PostR.arr ⟨8, i, k, 0, ⟨LL, A2, c2⟩⟩) rfl rfl 48 zeroPost HP.out post_size rfl (PostR.arr_one _) ?_)
                  refine bodyPost_ret (v := .tuple #[.agg (PostR.arr ⟨8, i, k, 0, ⟨LL, A2, c2⟩⟩), .int .i64 0]) (results_row2 Tryz.results14 _ _ (w.heap.size + 1) 48 (PostR.arr ⟨8, i, k, 0, ⟨LL, A2, c2⟩⟩) rfl (blk_row HP.out _) Tryz.underlying48 post_size) rfl ?_
                  exact ⟨⟨8, i, k, 0, ⟨LL, A2, c2⟩⟩, by rw [HEE.out], ⟨HLL.out.symm, rfl, .inr ⟨by rw [HLL.out]; exact HNE.out, rfl, rfl, rfl⟩⟩, own_base (own_row HO.out (by simp; omega) _) (by simp; omega), below_row hb (by omega)⟩
              · have hll := hE2 rfl
                have HL1 : Hid (L = []) := Lib.hid (HLL.out.trans hll)
                clear hll hE2
                go_wp2_with (refine wpList_store_row rfl 48 (.tmp 10) (.tmp 109) rfl (w.heap.size + 1) zeroPost rfl rfl 48 zeroPost HP.out post_size rfl (PostR.arr_one noPost) ?_)
                refine bodyPost_ret (v := .tuple #[.agg zeroPost, .int .i64 2]) (results_row2 Tryz.results14 _ _ (w.heap.size + 1) 48 zeroPost rfl (blk_row HP.out _) Tryz.underlying48 post_size) rfl ?_
                exact ppost_none HL1.out (by rw [HEE.out]) (below_row hb (by omega))
  · have hc0 : ck ≠ 0 := by simpa using hx
    have HE1 : Hid (E = ck) := Lib.hid (by rw [HE.out, if_neg hc0])
    have HL1 : Hid (L = []) := Lib.hid (by rw [HL.out, if_neg (fun h => hc0 h.1)])
    clear hc0
    go_wp2_with (refine wpList_store_row rfl 48 (.tmp 10) (.tmp 29) rfl (w.heap.size + 1) zeroPost rfl rfl 48 zeroPost HP.out post_size rfl (PostR.arr_one noPost) ?_)
    refine bodyPost_ret (v := .tuple #[.agg zeroPost, .int .i64 ck]) (results_row2 Tryz.results14 _ _ (w.heap.size + 1) 48 zeroPost rfl (blk_row HP.out _) Tryz.underlying48 post_size) rfl ?_
    exact ppost_none HL1.out (by rw [HE1.out]) (below_row hb (by omega))
end
end Go.Proofs.YthfbpbbepogllaaGreat
