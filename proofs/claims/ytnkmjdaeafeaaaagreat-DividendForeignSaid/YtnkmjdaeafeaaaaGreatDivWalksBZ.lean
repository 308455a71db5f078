/- Texts of this claim, put together. -/
import Derived.Test.YtnkmjdaeafeaaaaGreatDivWalksZ
/- The walks of Received, of 'full' and of 'check', and of their references. -/
namespace Go.Proofs.YtnkmjdaeafeaaaaGreat
set_option linter.unusedVariables false
set_option linter.unusedSimpArgs false
open Go.RowKit

set_option maxRecDepth 100000 in
set_option maxHeartbeats 4000000 in
theorem dfull_any (l : List ConR) (e : Int) (A : Option Addr) (c : Nat) (w : World) (hC : CIn w l A) :
    Calls Tryz.prog 34 #[.slice A l.length c, .int .i64 e] w (BoolPost (Dv.full l e) w) := by
  have hb := Below.refl w.heap.size w
  have K := Lib.hid (cfind_any l e A c w hC.rd (by have := hC.len; omega))
  clear hC
  unfold Dv.full
  unfold ConPost at K
  generalize conF l e = x at *
  obtain ⟨xe, xm, xi⟩ := x
  dsimp only at *
  generalize conB l e = xb at *
  cases xb
  · go_enter Tryz.func34, Tryz.ntmps34
    go_wp2_with (first
      | (go_at_call 62; refine K.out.mono ?_; rintro en w2 ⟨rfl, hb9⟩; replace hb := bel hb hb9; clear hb9)
      | (refine wpList_alloc_put rfl 88 (.tmp 5) (.tmp 11) rfl rfl (ConR.arr ⟨xe, xm, xi⟩) _ rfl rfl 13 cfind_any_size rfl rfl (ConR.arr_one _) ?_; have hb3 := hb.alloc hb.size (.cells (ConR.arr ⟨xe, xm, xi⟩) 88); generalize w2.alloc (.cells (ConR.arr ⟨xe, xm, xi⟩) 88) = w3 at *))
    go_ret
    exact ⟨rfl, hb3⟩
  · go_enter Tryz.func34, Tryz.ntmps34
    go_wp2_with (first
      | (go_at_call 62; refine K.out.mono ?_; rintro en w2 ⟨rfl, hb9⟩; replace hb := bel hb hb9; clear hb9)
      | (refine wpList_alloc_put rfl 88 (.tmp 5) (.tmp 11) rfl rfl (ConR.arr ⟨xe, xm, xi⟩) _ rfl rfl 13 cfind_any_size rfl rfl (ConR.arr_one _) ?_; have k1 : (w2.alloc (.cells (ConR.arr ⟨xe, xm, xi⟩) 88)).cell? ⟨w2.heap.size, 1, none⟩ = some (.int .i64 xm) := (Blk.new w2 88 _).cell 1; have hb3 := hb.alloc hb.size (.cells (ConR.arr ⟨xe, xm, xi⟩) 88); generalize w2.alloc (.cells (ConR.arr ⟨xe, xm, xi⟩) 88) = w3 at *))
    go_ret
    exact ⟨rfl, hb3⟩
set_option maxRecDepth 100000 in
set_option maxHeartbeats 4000000 in
theorem rdfull_any (l : List ConR) (e : Int) (A : Option Addr) (c : Nat) (w : World) (hC : CIn w l A) :
    Calls Tryz.prog 60 #[.slice A l.length c, .int .i64 e] w (BoolPost (Dv.full l e) w) := by
  have hb := Below.refl w.heap.size w
  have K := Lib.hid (rcfind_any l e A c w hC.rd (by have := hC.len; omega))
  clear hC
  unfold Dv.full
  unfold ConPost at K
  generalize conF l e = x at *
  obtain ⟨xe, xm, xi⟩ := x
  dsimp only at *
  generalize conB l e = xb at *
  cases xb
  · go_enter Tryz.func60, Tryz.ntmps60
    go_wp2_with (first
      | (go_at_call 38; refine K.out.mono ?_; rintro en w2 ⟨rfl, hb9⟩; replace hb := bel hb hb9; clear hb9)
      | (refine wpList_alloc_put rfl 94 (.tmp 5) (.tmp 11) rfl rfl (ConR.arr ⟨xe, xm, xi⟩) _ rfl rfl 13 rcfind_any_size rfl rfl (ConR.arr_one _) ?_; have hb3 := hb.alloc hb.size (.cells (ConR.arr ⟨xe, xm, xi⟩) 94); generalize w2.alloc (.cells (ConR.arr ⟨xe, xm, xi⟩) 94) = w3 at *))
    go_ret
    exact ⟨rfl, hb3⟩
  · go_enter Tryz.func60, Tryz.ntmps60
    go_wp2_with (first
      | (go_at_call 38; refine K.out.mono ?_; rintro en w2 ⟨rfl, hb9⟩; replace hb := bel hb hb9; clear hb9)
      | (refine wpList_alloc_put rfl 94 (.tmp 5) (.tmp 11) rfl rfl (ConR.arr ⟨xe, xm, xi⟩) _ rfl rfl 13 rcfind_any_size rfl rfl (ConR.arr_one _) ?_; have k1 : (w2.alloc (.cells (ConR.arr ⟨xe, xm, xi⟩) 94)).cell? ⟨w2.heap.size, 1, none⟩ = some (.int .i64 xm) := (Blk.new w2 94 _).cell 1; have hb3 := hb.alloc hb.size (.cells (ConR.arr ⟨xe, xm, xi⟩) 94); generalize w2.alloc (.cells (ConR.arr ⟨xe, xm, xi⟩) 94) = w3 at *))
    go_ret
    exact ⟨rfl, hb3⟩
section
variable (gcs : Array Value) (cur : ByteArray) (y m p : Int) (cl : List Acc) (cA : Option Addr) (cc : Nat) (ro : RolesR) (el : List EntR) (eA : Option Addr) (ec : Nat) (w : World)
set_option maxRecDepth 100000 in
set_option maxHeartbeats 4000000 in
theorem drec_any (l : List ConR) (i k : Int) (A : Option Addr) (c : Nat) (HG : Hid (gcs = #[.string cur, .int .i64 y, .int .i64 m, .int .i64 p, .slice cA cl.length cc, .int .i64 ro.investment, .int .i64 ro.goodwill, .int .i64 ro.associates, .int .i64 ro.inventory, .int .i64 ro.reserve, .int .i64 ro.minority, .int .i64 ro.retained, .int .i64 ro.acquired, .int .i64 ro.owners, .int .i64 ro.disposal, .int .i64 ro.associateProfit, .int .i64 ro.dividends, .int .i64 ro.minorityProfit, .int .i64 ro.difference, .int .i64 ro.margin, .slice eA el.length ec])) (hC : CIn w l A) :
    Calls Tryz.prog 57 #[.agg gcs, .slice A l.length c, .int .i64 i, .int .i64 k] w (IntPost (Dv.rec ro.dividends l i k) w) := by
  have hgi : (Tryz.prog.info? 29).map (·.size) = some gcs.size := by rw [HG.out]; exact grp_size
  have hb : Below w.heap.size w ((w.alloc (.cells gcs 29)).alloc (.cells #[.int .i64 i] 3)) := ((Below.refl _ _).alloc (Nat.le_refl _) _).alloc (by simp) _
  have HB := Lib.hid ((Blk.new w 29 gcs).alloc (.cells #[.int .i64 i] 3))
  have HI := Lib.hid (blk_new2 w (.cells gcs 29) 3 #[.int .i64 i])
  have HC := Lib.hid hC
  clear hC
  unfold IntPost Dv.rec
  have K := Lib.hid (fun W h h2 => sumRec_any gcs cur y m p cl cA cc ro el eA ec W (fun p => p == i) l k A c (w.heap.size + 1) HG h h2)
  unfold IntPost at K
  generalize Dv.sum ro.dividends (fun p => p == i) l k = s at *
  go_enter Tryz.func57, Tryz.ntmps57
  go_wp2_with (first
    | (refine wpList_load_blk 29 (.tmp 4) rfl (w.heap.size) rfl (by kernel_rfl) (HB).out Tryz.underlying29 hgi ?_)
    | (go_at_call 35; refine (K.out _ (HC.out.step hb) (fun x W h => rec1_any x _ i W (Nat.lt_of_lt_of_le HI.out.lt h.size) ((h.cell (p := ⟨w.heap.size + 1, 0, none⟩) HI.out.lt).trans (HI.out.cell 0)))).mono ?_; rintro en w2 ⟨rfl, hb9⟩; replace hb := bel hb hb9; clear hb9))
  go_ret
  exact ⟨rfl, hb⟩
set_option maxRecDepth 100000 in
set_option maxHeartbeats 8000000 in
theorem rdrec_any (l : List ConR) (i k : Int) (A : Option Addr) (c : Nat) (HG : Hid (gcs = #[.string cur, .int .i64 y, .int .i64 m, .int .i64 p, .slice cA cl.length cc, .int .i64 ro.investment, .int .i64 ro.goodwill, .int .i64 ro.associates, .int .i64 ro.inventory, .int .i64 ro.reserve, .int .i64 ro.minority, .int .i64 ro.retained, .int .i64 ro.acquired, .int .i64 ro.owners, .int .i64 ro.disposal, .int .i64 ro.associateProfit, .int .i64 ro.dividends, .int .i64 ro.minorityProfit, .int .i64 ro.difference, .int .i64 ro.margin, .slice eA el.length ec])) (hC : CIn w l A) :
    Calls Tryz.prog 61 #[.agg gcs, .slice A l.length c, .int .i64 i, .int .i64 k] w (IntPost (Dv.rec ro.dividends l i k) w) := by
  have hgi : (Tryz.prog.info? 29).map (·.size) = some gcs.size := by rw [HG.out]; exact grp_size
  have hb : Below w.heap.size w (w.alloc (.cells gcs 29)) := (Below.refl _ _).alloc (Nat.le_refl _) _
  have HB := Lib.hid (Blk.new w 29 gcs)
  have HC := Lib.hid hC
  obtain ⟨hit, hln⟩ := hC.at_ k
  have HIT := Lib.hid hit
  have K := Lib.hid (fun W (h : CIn W l A) => rcfind_any l k A c W h.rd (by have := h.len; omega))
  clear hC hit
  unfold IntPost Dv.rec Dv.sum
  unfold ConPost at K
  generalize conF l k = x at *
  generalize conB l k = xb at *
  obtain ⟨xe, xm, ⟨il, iA, ic⟩⟩ := x
  dsimp only at *
  go_enter Tryz.func61, Tryz.ntmps61
  go_wp2_with (first
    | (go_at_call 38; refine (K.out _ (HC.out.step hb)).mono ?_; rintro en w2 ⟨rfl, hb9⟩; replace hb := bel hb hb9; have HB2 := Lib.hid (HB.out.step hb9); clear hb9)
    | (refine wpList_alloc_put rfl 94 (.tmp 9) (.tmp 17) rfl rfl (ConR.arr ⟨xe, xm, ⟨il, iA, ic⟩⟩) _ rfl rfl 13 rcfind_any_size rfl rfl (ConR.arr_one _) ?_; have HX3 := Lib.hid (Blk.new w2 94 (ConR.arr ⟨xe, xm, ⟨il, iA, ic⟩⟩)); have hb3 := hb.alloc hb.size (.cells (ConR.arr ⟨xe, xm, ⟨il, iA, ic⟩⟩) 94); have HB3 := Lib.hid (HB2.out.alloc (.cells (ConR.arr ⟨xe, xm, ⟨il, iA, ic⟩⟩) 94)); generalize w2.alloc (.cells (ConR.arr ⟨xe, xm, ⟨il, iA, ic⟩⟩) 94) = w3 at *))
  go_loopw [11, 12] (fun n t wr => ∃ j : Nat, j ≤ il.length ∧ n = .int .i64 (itSum (Dv.is ro.dividends (fun p => p == i)) (il.take j)) ∧ t = .int .i64 j ∧ Below w3.heap.size w3 wr) (fun _ t _ => il.length - (intOf t).toNat)
  case atStart => exact ⟨0, by omega, rfl, rfl, Below.refl _ _⟩
  case round =>
    clear hb
    obtain ⟨j, hj, rfl, rfl, hbr⟩ := hrel
    have hb := bel hb3 hbr
    have HBr := Lib.hid (HB3.out.step hbr)
    have HXr := Lib.hid (HX3.out.step hbr)
    have k11 : wr.cell? ⟨w2.heap.size, 11, none⟩ = some (.slice iA il.length ic) := HXr.out.cell 11
    by_cases hlt : j < il.length
    · obtain ⟨b, o, hA, hbo, f0, f1, f2, f3, f4, f5, f6⟩ := ItemR.at_ (Rd.now HIT.out hb) hlt
      subst hA
      have HTT := Lib.hid (itSum_take (Dv.is ro.dividends (fun p => p == i)) il j hlt)
      generalize il[j] = it at *
      obtain ⟨⟨r1, r2⟩, ie, ia, ip, id, im⟩ := it
      dsimp only at *
      have q11 : ∀ d : Later wr, d.now.cell? ⟨w2.heap.size, 11, none⟩ = some (.slice (some ⟨b, o, none⟩) il.length ic) := fun d => d.cell HXr.out.lt (HXr.out.cell 11)
      have q16 : ∀ d : Later wr, d.now.cell? ⟨w.heap.size, 16, none⟩ = some (.int .i64 ro.dividends) := fun d => d.cell HBr.out.lt ((HBr.out.cell 16).trans (by rw [HG.out]; rfl))
      have q3 : ∀ d : Later wr, d.now.cell? ⟨b, o + j * 7 + 3, none⟩ = some (.int .i64 ia) := fun d => d.cell hbo f3
      have q4 : ∀ d : Later wr, d.now.cell? ⟨b, o + j * 7 + 4, none⟩ = some (.int .i64 ip) := fun d => d.cell hbo f4
      generalize itSum (Dv.is ro.dividends (fun p => p == i)) (il.take j) = s at *
      generalize ro.dividends = dv at *
      clear f0 f1 f2 f3 f4 f5
      go_wp2_with fail
      clear k11
      cases hc : (ia == dv)
      · have HE : Hid (itSum (Dv.is dv (fun p => p == i)) (il.take (j + 1)) = s) := Lib.hid (by rw [HTT.out, is_eq (b := false) (by show (ia == dv && (ip == i)) = false; rw [hc]; rfl)]; rfl)
        refine wp_region_later (by kernel_rfl) (by kernel_rfl) ?_
        (repeat (go_big_quiet_step ((fail)))); refine wpQuiet_nil ?_; rintro _ ⟨dq, rfl⟩
        have hbe := bel hbr dq.below
        go_wp2_with fail
        go_roundw
        case rel => exact ⟨j + 1, by omega, by rw [HE.out], by go_num, hbe⟩
        case measure => simp [intOf]; omega
      · cases hqq : (ip == i)
        · have HE : Hid (itSum (Dv.is dv (fun p => p == i)) (il.take (j + 1)) = s) := Lib.hid (by rw [HTT.out, is_eq (b := false) (by show (ia == dv && (ip == i)) = false; rw [hqq, Bool.and_false])]; rfl)
          refine wp_region_later (by kernel_rfl) (by kernel_rfl) ?_
          (repeat (go_big_quiet_step ((fail)))); refine wpQuiet_nil ?_; rintro _ ⟨dq, rfl⟩
          have hbe := bel hbr dq.below
          go_wp2_with fail
          go_roundw
          case rel => exact ⟨j + 1, by omega, by rw [HE.out], by go_num, hbe⟩
          case measure => simp [intOf]; omega
        · have HE : Hid (itSum (Dv.is dv (fun p => p == i)) (il.take (j + 1)) = wrap64 (s + im)) := Lib.hid (by rw [HTT.out, is_eq (b := true) (by show (ia == dv && (ip == i)) = true; rw [hc, hqq]; rfl)]; rfl)
          refine wp_region_later (by kernel_rfl) (by kernel_rfl) ?_
          (repeat (go_big_quiet_step ((fail)))); refine wpQuiet_nil ?_; rintro _ ⟨dq, rfl⟩
          have hbe := bel hbr dq.below
          have j11 : dq.now.cell? ⟨w2.heap.size, 11, none⟩ = some (.slice (some ⟨b, o, none⟩) il.length ic) := q11 dq
          have j6 : dq.now.cell? ⟨b, o + j * 7 + 6, none⟩ = some (.int .i64 im) := dq.cell hbo f6
          clear q11 q16 q3 q4
          go_wp2_with fail
          clear j11 j6
          go_roundw
          case rel => exact ⟨j + 1, by omega, by rw [HE.out], by go_num, hbe⟩
          case measure => simp [intOf]; omega
    · have HE : Hid (itSum (Dv.is ro.dividends (fun p => p == i)) (il.take j) = itSum (Dv.is ro.dividends (fun p => p == i)) il) := Lib.hid (by rw [List.take_of_length_le (by omega)])
      rw [HE.out]
      go_wp2_with fail
      go_ret
      exact ⟨rfl, hb⟩
set_option maxRecDepth 100000 in
set_option maxHeartbeats 4000000 in
theorem dcheck_any (q : Int) (HG : Hid (gcs = #[.string cur, .int .i64 y, .int .i64 m, .int .i64 p, .slice cA cl.length cc, .int .i64 ro.investment, .int .i64 ro.goodwill, .int .i64 ro.associates, .int .i64 ro.inventory, .int .i64 ro.reserve, .int .i64 ro.minority, .int .i64 ro.retained, .int .i64 ro.acquired, .int .i64 ro.owners, .int .i64 ro.disposal, .int .i64 ro.associateProfit, .int .i64 ro.dividends, .int .i64 ro.minorityProfit, .int .i64 ro.difference, .int .i64 ro.margin, .slice eA el.length ec])) (h : GIn w cl cA el eA) (hF : FewOk cur cl el) :
    Calls Tryz.prog 31 #[.agg gcs, .int .i64 q] w (IntPost (Dv.ck (Gr.gv cur cl ro el (Cal.ok y m p)) q p) w) := by
  have hgi : (Tryz.prog.info? 29).map (·.size) = some gcs.size := by rw [HG.out]; exact grp_size
  have hb : Below w.heap.size w (w.alloc (.cells gcs 29)) := (Below.refl _ _).alloc (Nat.le_refl _) _
  have HB := Lib.hid (Blk.new w 29 gcs)
  have KV := Lib.hid (gvalid_any gcs cur y m p cl cA cc ro el eA ec (w.alloc (.cells gcs 29)) HG (h.step hb) hF)
  clear h hF
  unfold IntPost
  have HCK : Hid (Dv.ck (Gr.gv cur cl ro el (Cal.ok y m p)) q p = if Gr.gv cur cl ro el (Cal.ok y m p) = true then (if 0 ≤ q ∧ q < p then 0 else 2) else 1) := Lib.hid rfl
  generalize Dv.ck (Gr.gv cur cl ro el (Cal.ok y m p)) q p = ck at *
  generalize Gr.gv cur cl ro el (Cal.ok y m p) = V at *
  cases V
  · have HE : Hid (ck = 1) := Lib.hid HCK.out
    clear HCK
    go_enter Tryz.func31, Tryz.ntmps31
    go_wp2_with (first
      | (refine wpList_load_blk 29 (.tmp 2) rfl (w.heap.size) rfl (by kernel_rfl) (HB).out Tryz.underlying29 hgi ?_)
      | (go_at_call 52; refine KV.out.mono ?_; rintro en w2 ⟨rfl, hb9⟩; replace hb := bel hb hb9; clear hb9))
    go_ret
    exact ⟨by rw [HE.out]; first | done | rfl, hb⟩
  · by_cases h0 : q < 0
    · have HE : Hid (ck = 2) := Lib.hid (by rw [HCK.out, if_pos rfl, if_neg (by omega)])
      clear HCK
      go_enter Tryz.func31, Tryz.ntmps31
      go_wp2_with (first
        | (refine wpList_load_blk 29 (.tmp 2) rfl (w.heap.size) rfl (by kernel_rfl) (HB).out Tryz.underlying29 hgi ?_)
        | (go_at_call 52; refine KV.out.mono ?_; rintro en w2 ⟨rfl, hb9⟩; replace hb := bel hb hb9; clear hb9))
      go_ret
      exact ⟨by rw [HE.out]; first | done | rfl, hb⟩
    · by_cases h1 : q < p
      · have HE : Hid (ck = 0) := Lib.hid (by rw [HCK.out, if_pos rfl, if_pos (by omega)])
        clear HCK
        go_enter Tryz.func31, Tryz.ntmps31
        go_wp2_with (first
          | (refine wpList_load_blk 29 (.tmp 2) rfl (w.heap.size) rfl (by kernel_rfl) (HB).out Tryz.underlying29 hgi ?_)
          | (go_at_call 52; refine KV.out.mono ?_; rintro en w2 ⟨rfl, hb9⟩; replace hb := bel hb hb9; have k3 : w2.cell? ⟨w.heap.size, 3, none⟩ = some (.int .i64 p) := ((HB.out.step hb9).cell 3).trans (by rw [HG.out]; rfl); clear hb9))
        go_ret
        exact ⟨by rw [HE.out]; first | done | rfl, hb⟩
      · have h1' : p ≤ q := by omega
        have HE : Hid (ck = 2) := Lib.hid (by rw [HCK.out, if_pos rfl, if_neg (by omega)])
        clear HCK
        go_enter Tryz.func31, Tryz.ntmps31
        go_wp2_with (first
          | (refine wpList_load_blk 29 (.tmp 2) rfl (w.heap.size) rfl (by kernel_rfl) (HB).out Tryz.underlying29 hgi ?_)
          | (go_at_call 52; refine KV.out.mono ?_; rintro en w2 ⟨rfl, hb9⟩; replace hb := bel hb hb9; have k3 : w2.cell? ⟨w.heap.size, 3, none⟩ = some (.int .i64 p) := ((HB.out.step hb9).cell 3).trans (by rw [HG.out]; rfl); clear hb9))
        go_ret
        exact ⟨by rw [HE.out]; first | done | rfl, hb⟩
set_option maxRecDepth 100000 in
set_option maxHeartbeats 4000000 in
theorem rdcheck_any (q : Int) (HG : Hid (gcs = #[.string cur, .int .i64 y, .int .i64 m, .int .i64 p, .slice cA cl.length cc, .int .i64 ro.investment, .int .i64 ro.goodwill, .int .i64 ro.associates, .int .i64 ro.inventory, .int .i64 ro.reserve, .int .i64 ro.minority, .int .i64 ro.retained, .int .i64 ro.acquired, .int .i64 ro.owners, .int .i64 ro.disposal, .int .i64 ro.associateProfit, .int .i64 ro.dividends, .int .i64 ro.minorityProfit, .int .i64 ro.difference, .int .i64 ro.margin, .slice eA el.length ec])) (h : GIn w cl cA el eA) (hF : FewOk cur cl el) :
    Calls Tryz.prog 32 #[.agg gcs, .int .i64 q] w (IntPost (Dv.ck (Gr.gv cur cl ro el (Cal.ok y m p)) q p) w) := by
  have hgi : (Tryz.prog.info? 29).map (·.size) = some gcs.size := by rw [HG.out]; exact grp_size
  have hb : Below w.heap.size w (w.alloc (.cells gcs 29)) := (Below.refl _ _).alloc (Nat.le_refl _) _
  have HB := Lib.hid (Blk.new w 29 gcs)
  have KV := Lib.hid (rgvalid_any gcs cur y m p cl cA cc ro el eA ec (w.alloc (.cells gcs 29)) HG (h.step hb) hF)
  clear h hF
  unfold IntPost
  have HCK : Hid (Dv.ck (Gr.gv cur cl ro el (Cal.ok y m p)) q p = if Gr.gv cur cl ro el (Cal.ok y m p) = true then (if 0 ≤ q ∧ q < p then 0 else 2) else 1) := Lib.hid rfl
  generalize Dv.ck (Gr.gv cur cl ro el (Cal.ok y m p)) q p = ck at *
  generalize Gr.gv cur cl ro el (Cal.ok y m p) = V at *
  cases V
  · have HE : Hid (ck = 1) := Lib.hid HCK.out
    clear HCK
    go_enter Tryz.func32, Tryz.ntmps32
    go_wp2_with (first
      | (refine wpList_load_blk 29 (.tmp 2) rfl (w.heap.size) rfl (by kernel_rfl) (HB).out Tryz.underlying29 hgi ?_)
      | (go_at_call 56; refine KV.out.mono ?_; rintro en w2 ⟨rfl, hb9⟩; replace hb := bel hb hb9; clear hb9))
    go_ret
    exact ⟨by rw [HE.out]; first | done | rfl, hb⟩
  · by_cases h0 : q < 0
    · have HE : Hid (ck = 2) := Lib.hid (by rw [HCK.out, if_pos rfl, if_neg (by omega)])
      clear HCK
      go_enter Tryz.func32, Tryz.ntmps32
      go_wp2_with (first
        | (refine wpList_load_blk 29 (.tmp 2) rfl (w.heap.size) rfl (by kernel_rfl) (HB).out Tryz.underlying29 hgi ?_)
        | (go_at_call 56; refine KV.out.mono ?_; rintro en w2 ⟨rfl, hb9⟩; replace hb := bel hb hb9; clear hb9))
      go_ret
      exact ⟨by rw [HE.out]; first | done | rfl, hb⟩
    · by_cases h1 : q < p
      · have HE : Hid (ck = 0) := Lib.hid (by rw [HCK.out, if_pos rfl, if_pos (by omega)])
        clear HCK
        go_enter Tryz.func32, Tryz.ntmps32
        go_wp2_with (first
          | (refine wpList_load_blk 29 (.tmp 2) rfl (w.heap.size) rfl (by kernel_rfl) (HB).out Tryz.underlying29 hgi ?_)
          | (go_at_call 56; refine KV.out.mono ?_; rintro en w2 ⟨rfl, hb9⟩; replace hb := bel hb hb9; have k3 : w2.cell? ⟨w.heap.size, 3, none⟩ = some (.int .i64 p) := ((HB.out.step hb9).cell 3).trans (by rw [HG.out]; rfl); clear hb9))
        go_ret
        exact ⟨by rw [HE.out]; first | done | rfl, hb⟩
      · have h1' : p ≤ q := by omega
        have HE : Hid (ck = 2) := Lib.hid (by rw [HCK.out, if_pos rfl, if_neg (by omega)])
        clear HCK
        go_enter Tryz.func32, Tryz.ntmps32
        go_wp2_with (first
          | (refine wpList_load_blk 29 (.tmp 2) rfl (w.heap.size) rfl (by kernel_rfl) (HB).out Tryz.underlying29 hgi ?_)
          | (go_at_call 56; refine KV.out.mono ?_; rintro en w2 ⟨rfl, hb9⟩; replace hb := bel hb hb9; have k3 : w2.cell? ⟨w.heap.size, 3, none⟩ = some (.int .i64 p) := ((HB.out.step hb9).cell 3).trans (by rw [HG.out]; rfl); clear hb9))
        go_ret
        exact ⟨by rw [HE.out]; first | done | rfl, hb⟩
end
end Go.Proofs.YtnkmjdaeafeaaaaGreat
