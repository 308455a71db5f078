/- Texts of this claim, put together. -/
import Derived.Test.YtnkmjdaeafeaaaaJAT
import Derived.Deep.DeepCutAuto
/- The walks of Received, of 'full' and of 'check', and of their references. -/
namespace Go.Proofs.Ytnkmjdaeafeaaaa
set_option linter.unusedVariables false
set_option linter.unusedSimpArgs false
open Go.RowKit

set_option maxRecDepth 100000 in
set_option maxHeartbeats 4000000 in
theorem dfull_any (l : List ConR) (e : Int) (A : Option Addr) (c : Nat) (w : World) (hC : CIn w l A) :
    Calls Try.prog 70 #[.slice A l.length c, .int .i64 e] w (BoolPost (Dv.full l e) w) := by
  have hb := Below.refl w.heap.size w
  have K := Lib.hid (cfind_any l e A c w hC.rd (by have := hC.len; omega))
  clear hC
  unfold Dv.full
  unfold ConPost at K
  generalize conF l e = x at *
  obtain ⟨xe, xm, xi⟩ := x
  dsimp only at *
  generalize conB l e = xb at *
  cases xb
  · go_enter Try.func70, Try.ntmps70
    go_wp2_with (first
      | (go_at_call 115; refine K.out.mono ?_; rintro en w2 ⟨rfl, hb9⟩; replace hb := bel hb hb9; clear hb9)
      | (refine wpList_alloc_put rfl 139 (.tmp 5) (.tmp 11) rfl rfl (ConR.arr ⟨xe, xm, xi⟩) _ rfl rfl 13 cfind_any_size rfl rfl (ConR.arr_one _) ?_; have hb3 := hb.alloc hb.size (.cells (ConR.arr ⟨xe, xm, xi⟩) 139); generalize w2.alloc (.cells (ConR.arr ⟨xe, xm, xi⟩) 139) = w3 at *))
    go_ret
    exact ⟨rfl, hb3⟩
  · go_enter Try.func70, Try.ntmps70
    go_wp2_with (first
      | (go_at_call 115; refine K.out.mono ?_; rintro en w2 ⟨rfl, hb9⟩; replace hb := bel hb hb9; clear hb9)
      | (refine wpList_alloc_put rfl 139 (.tmp 5) (.tmp 11) rfl rfl (ConR.arr ⟨xe, xm, xi⟩) _ rfl rfl 13 cfind_any_size rfl rfl (ConR.arr_one _) ?_; have k1 : (w2.alloc (.cells (ConR.arr ⟨xe, xm, xi⟩) 139)).cell? ⟨w2.heap.size, 1, none⟩ = some (.int .i64 xm) := (Blk.new w2 139 _).cell 1; have hb3 := hb.alloc hb.size (.cells (ConR.arr ⟨xe, xm, xi⟩) 139); generalize w2.alloc (.cells (ConR.arr ⟨xe, xm, xi⟩) 139) = w3 at *))
    go_ret
    exact ⟨rfl, hb3⟩
set_option maxRecDepth 100000 in
set_option maxHeartbeats 4000000 in
theorem rdfull_any (l : List ConR) (e : Int) (A : Option Addr) (c : Nat) (w : World) (hC : CIn w l A) :
    Calls Try.prog 72 #[.slice A l.length c, .int .i64 e] w (BoolPost (Dv.full l e) w) := by
  have hb := Below.refl w.heap.size w
  have K := Lib.hid (rcfind_any l e A c w hC.rd (by have := hC.len; omega))
  clear hC
  unfold Dv.full
  unfold ConPost at K
  generalize conF l e = x at *
  obtain ⟨xe, xm, xi⟩ := x
  dsimp only at *
  generalize conB l e = xb at *
  cases xb
  · go_enter Try.func72, Try.ntmps72
    go_wp2_with (first
      | (go_at_call 76; refine K.out.mono ?_; rintro en w2 ⟨rfl, hb9⟩; replace hb := bel hb hb9; clear hb9)
      | (refine wpList_alloc_put rfl 145 (.tmp 5) (.tmp 11) rfl rfl (ConR.arr ⟨xe, xm, xi⟩) _ rfl rfl 13 rcfind_any_size rfl rfl (ConR.arr_one _) ?_; have hb3 := hb.alloc hb.size (.cells (ConR.arr ⟨xe, xm, xi⟩) 145); generalize w2.alloc (.cells (ConR.arr ⟨xe, xm, xi⟩) 145) = w3 at *))
    go_ret
    exact ⟨rfl, hb3⟩
  · go_enter Try.func72, Try.ntmps72
    go_wp2_with (first
      | (go_at_call 76; refine K.out.mono ?_; rintro en w2 ⟨rfl, hb9⟩; replace hb := bel hb hb9; clear hb9)
      | (refine wpList_alloc_put rfl 145 (.tmp 5) (.tmp 11) rfl rfl (ConR.arr ⟨xe, xm, xi⟩) _ rfl rfl 13 rcfind_any_size rfl rfl (ConR.arr_one _) ?_; have k1 : (w2.alloc (.cells (ConR.arr ⟨xe, xm, xi⟩) 145)).cell? ⟨w2.heap.size, 1, none⟩ = some (.int .i64 xm) := (Blk.new w2 145 _).cell 1; have hb3 := hb.alloc hb.size (.cells (ConR.arr ⟨xe, xm, xi⟩) 145); generalize w2.alloc (.cells (ConR.arr ⟨xe, xm, xi⟩) 145) = w3 at *))
    go_ret
    exact ⟨rfl, hb3⟩
section
variable (gcs : Array Value) (cur : ByteArray) (y m p : Int) (cl : List Acc) (cA : Option Addr) (cc : Nat) (ro : RolesR) (el : List EntR) (eA : Option Addr) (ec : Nat) (w : World)
set_option maxRecDepth 100000 in
set_option maxHeartbeats 4000000 in
theorem drec_any (l : List ConR) (i k : Int) (A : Option Addr) (c : Nat) (HG : Hid (gcs = #[.string cur, .int .i64 y, .int .i64 m, .int .i64 p, .slice cA cl.length cc, .int .i64 ro.investment, .int .i64 ro.goodwill, .int .i64 ro.associates, .int .i64 ro.inventory, .int .i64 ro.reserve, .int .i64 ro.minority, .int .i64 ro.retained, .int .i64 ro.acquired, .int .i64 ro.owners, .int .i64 ro.disposal, .int .i64 ro.associateProfit, .int .i64 ro.dividends, .int .i64 ro.minorityProfit, .int .i64 ro.difference, .int .i64 ro.margin, .slice eA el.length ec])) (hC : CIn w l A) :
    Calls Try.prog 30 #[.agg gcs, .slice A l.length c, .int .i64 i, .int .i64 k] w (IntPost (Dv.rec ro.dividends l i k) w) := by
  have hgi : (Try.prog.info? 29).map (·.size) = some gcs.size := by rw [HG.out]; exact grp_size
  have hb : Below w.heap.size w ((w.alloc (.cells gcs 29)).alloc (.cells #[.int .i64 i] 3)) := ((Below.refl _ _).alloc (Nat.le_refl _) _).alloc (by simp) _
  have HB := Lib.hid ((Blk.new w 29 gcs).alloc (.cells #[.int .i64 i] 3))
  have HI := Lib.hid (blk_new2 w (.cells gcs 29) 3 #[.int .i64 i])
  have HC := Lib.hid hC
  clear hC
  unfold IntPost Dv.rec
  have K := Lib.hid (fun W h h2 => sumRec_any gcs cur y m p cl cA cc ro el eA ec W (fun p => p == i) l k A c (w.heap.size + 1) HG h h2)
  unfold IntPost at K
  generalize Dv.sum ro.dividends (fun p => p == i) l k = s at *
  go_enter Try.func30, Try.ntmps30
  go_wp2_with (first
    | (refine wpList_load_blk 29 (.tmp 4) rfl (w.heap.size) rfl (by kernel_rfl) (HB).out Try.underlying29 hgi ?_)
    | (go_at_call 74; refine (K.out _ (HC.out.step hb) (fun x W h => rec1_any x _ i W (Nat.lt_of_lt_of_le HI.out.lt h.size) ((h.cell (p := ⟨w.heap.size + 1, 0, none⟩) HI.out.lt).trans (HI.out.cell 0)))).mono ?_; rintro en w2 ⟨rfl, hb9⟩; replace hb := bel hb hb9; clear hb9))
  go_ret
  exact ⟨rfl, hb⟩
set_option maxRecDepth 100000 in
set_option maxHeartbeats 8000000 in
theorem rdrec_any (l : List ConR) (i k : Int) (A : Option Addr) (c : Nat) (HG : Hid (gcs = #[.string cur, .int .i64 y, .int .i64 m, .int .i64 p, .slice cA cl.length cc, .int .i64 ro.investment, .int .i64 ro.goodwill, .int .i64 ro.associates, .int .i64 ro.inventory, .int .i64 ro.reserve, .int .i64 ro.minority, .int .i64 ro.retained, .int .i64 ro.acquired, .int .i64 ro.owners, .int .i64 ro.disposal, .int .i64 ro.associateProfit, .int .i64 ro.dividends, .int .i64 ro.minorityProfit, .int .i64 ro.difference, .int .i64 ro.margin, .slice eA el.length ec])) (hC : CIn w l A) :
    Calls Try.prog 31 #[.agg gcs, .slice A l.length c, .int .i64 i, .int .i64 k] w (IntPost (Dv.rec ro.dividends l i k) w) := by
  have hgi : (Try.prog.info? 29).map (·.size) = some gcs.size := by rw [HG.out]; exact grp_size
  have hb : Below w.heap.size w (w.alloc (.cells gcs 29)) := (Below.refl _ _).alloc (Nat.le_refl _) _
  have HB := Lib.hid (Blk.new w 29 gcs)
  have HC := Lib.hid hC
  obtain ⟨hit, hln⟩ := hC.at_ k
  have HIT := Lib.hid hit
  have K := Lib.hid (fun W (h : CIn W l A) => rcfind_any l k A c W h.rd (by have := h.len; omega))
  clear hC hit
  unfold IntPost Dv.rec Dv.sum
  unfold ConPost at K
  generalize conF l k = x at *
  generalize conB l k = xb at *
  obtain ⟨xe, xm, ⟨il, iA, ic⟩⟩ := x
  dsimp only at *
  go_enter Try.func31, Try.ntmps31
  go_wp2_with (first
    | (go_at_call 76; refine (K.out _ (HC.out.step hb)).mono ?_; rintro en w2 ⟨rfl, hb9⟩; replace hb := bel hb hb9; have HB2 := Lib.hid (HB.out.step hb9); clear hb9)
    | (refine wpList_alloc_put rfl 145 (.tmp 9) (.tmp 17) rfl rfl (ConR.arr ⟨xe, xm, ⟨il, iA, ic⟩⟩) _ rfl rfl 13 rcfind_any_size rfl rfl (ConR.arr_one _) ?_; have HX3 := Lib.hid (Blk.new w2 145 (ConR.arr ⟨xe, xm, ⟨il, iA, ic⟩⟩)); have hb3 := hb.alloc hb.size (.cells (ConR.arr ⟨xe, xm, ⟨il, iA, ic⟩⟩) 145); have HB3 := Lib.hid (HB2.out.alloc (.cells (ConR.arr ⟨xe, xm, ⟨il, iA, ic⟩⟩) 145)); generalize w2.alloc (.cells (ConR.arr ⟨xe, xm, ⟨il, iA, ic⟩⟩) 145) = w3 at *))
  go_loopw [11, 12] (fun n t wr => ∃ j : Nat, j ≤ il.length ∧ n = .int .i64 (itSum (Dv.is ro.dividends (fun p => p == i)) (il.take j)) ∧ t = .int .i64 j ∧ Below w3.heap.size w3 wr) (fun _ t _ => il.length - (intOf t).toNat)
  case atStart => exact ⟨0, by omega, rfl, rfl, Below.refl _ _⟩
  case round =>
    clear hb
    obtain ⟨j, hj, rfl, rfl, hbr⟩ := hrel
    have hb := bel hb3 hbr
    have HBr := Lib.hid (HB3.out.step hbr)
    have HXr := Lib.hid (HX3.out.step hbr)
    have k11 : wr.cell? ⟨w2.heap.size, 11, none⟩ = some (.slice iA il.length ic) := HXr.out.cell 11
    by_cases hlt : j < il.length
    · obtain ⟨b, o, hA, hbo, f0, f1, f2, f3, f4, f5, f6⟩ := ItemR.at_ (Rd.now HIT.out hb) hlt
      subst hA
      have HTT := Lib.hid (itSum_take (Dv.is ro.dividends (fun p => p == i)) il j hlt)
      generalize il[j] = it at *
      obtain ⟨⟨r1, r2⟩, ie, ia, ip, id, im⟩ := it
      dsimp only at *
      have q11 : ∀ d : Later wr, d.now.cell? ⟨w2.heap.size, 11, none⟩ = some (.slice (some ⟨b, o, none⟩) il.length ic) := fun d => d.cell HXr.out.lt (HXr.out.cell 11)
      have q16 : ∀ d : Later wr, d.now.cell? ⟨w.heap.size, 16, none⟩ = some (.int .i64 ro.dividends) := fun d => d.cell HBr.out.lt ((HBr.out.cell 16).trans (by rw [HG.out]; rfl))
      have q3 : ∀ d : Later wr, d.now.cell? ⟨b, o + j * 7 + 3, none⟩ = some (.int .i64 ia) := fun d => d.cell hbo f3
      have q4 : ∀ d : Later wr, d.now.cell? ⟨b, o + j * 7 + 4, none⟩ = some (.int .i64 ip) := fun d => d.cell hbo f4
      generalize itSum (Dv.is ro.dividends (fun p => p == i)) (il.take j) = s at *
      generalize ro.dividends = dv at *
      clear f0 f1 f2 f3 f4 f5
      go_wp2_with fail
      clear k11
      cases hc : (ia == dv)
      · have HE : Hid (itSum (Dv.is dv (fun p => p == i)) (il.take (j + 1)) = s) := Lib.hid (by rw [HTT.out, is_eq (b := false) (by show (ia == dv && (ip == i)) = false; rw [hc]; rfl)]; rfl)
        refine wp_region_later (by kernel_rfl) (by kernel_rfl) ?_
        (repeat (go_big_quiet_step ((fail)))); refine wpQuiet_nil ?_; rintro _ ⟨dq, rfl⟩
        have hbe := bel hbr dq.below
        go_wp2_with fail
        go_roundw
        case rel => exact ⟨j + 1, by omega, by rw [HE.out], by go_num, hbe⟩
        case measure => simp [intOf]; omega
      · cases hqq : (ip == i)
        · have HE : Hid (itSum (Dv.is dv (fun p => p == i)) (il.take (j + 1)) = s) := Lib.hid (by rw [HTT.out, is_eq (b := false) (by show (ia == dv && (ip == i)) = false; rw [hqq, Bool.and_false])]; rfl)
          refine wp_region_later (by kernel_rfl) (by kernel_rfl) ?_
          (repeat (go_big_quiet_step ((fail)))); refine wpQuiet_nil ?_; rintro _ ⟨dq, rfl⟩
          have hbe := bel hbr dq.below
          go_wp2_with fail
          go_roundw
          case rel => exact ⟨j + 1, by omega, by rw [HE.out], by go_num, hbe⟩
          case measure => simp [intOf]; omega
        · have HE : Hid (itSum (Dv.is dv (fun p => p == i)) (il.take (j + 1)) = wrap64 (s + im)) := Lib.hid (by rw [HTT.out, is_eq (b := true) (by show (ia == dv && (ip == i)) = true; rw [hc, hqq]; rfl)]; rfl)
          refine wp_region_later (by kernel_rfl) (by kernel_rfl) ?_
          (repeat (go_big_quiet_step ((fail)))); refine wpQuiet_nil ?_; rintro _ ⟨dq, rfl⟩
          have hbe := bel hbr dq.below
          have j11 : dq.now.cell? ⟨w2.heap.size, 11, none⟩ = some (.slice (some ⟨b, o, none⟩) il.length ic) := q11 dq
          have j6 : dq.now.cell? ⟨b, o + j * 7 + 6, none⟩ = some (.int .i64 im) := dq.cell hbo f6
          clear q11 q16 q3 q4
          go_wp2_with fail
          clear j11 j6
          go_roundw
          case rel => exact ⟨j + 1, by omega, by rw [HE.out], by go_num, hbe⟩
          case measure => simp [intOf]; omega
    · have HE : Hid (itSum (Dv.is ro.dividends (fun p => p == i)) (il.take j) = itSum (Dv.is ro.dividends (fun p => p == i)) il) := Lib.hid (by rw [List.take_of_length_le (by omega)])
      rw [HE.out]
      go_wp2_with fail
      go_ret
      exact ⟨rfl, hb⟩
set_option maxRecDepth 100000 in
set_option maxHeartbeats 4000000 in
theorem dcheck_any (q : Int) (HG : Hid (gcs = #[.string cur, .int .i64 y, .int .i64 m, .int .i64 p, .slice cA cl.length cc, .int .i64 ro.investment, .int .i64 ro.goodwill, .int .i64 ro.associates, .int .i64 ro.inventory, .int .i64 ro.reserve, .int .i64 ro.minority, .int .i64 ro.retained, .int .i64 ro.acquired, .int .i64 ro.owners, .int .i64 ro.disposal, .int .i64 ro.associateProfit, .int .i64 ro.dividends, .int .i64 ro.minorityProfit, .int .i64 ro.difference, .int .i64 ro.margin, .slice eA el.length ec])) (h : GIn w cl cA el eA) (hF : FewOk cur cl el) :
    Calls Try.prog 69 #[.agg gcs, .int .i64 q] w (IntPost (Dv.ck (Gr.gv cur cl ro el (Cal.ok y m p)) q p) w) := by
  have hgi : (Try.prog.info? 29).map (·.size) = some gcs.size := by rw [HG.out]; exact grp_size
  have hb : Below w.heap.size w (w.alloc (.cells gcs 29)) := (Below.refl _ _).alloc (Nat.le_refl _) _
  have HB := Lib.hid (Blk.new w 29 gcs)
  have KV := Lib.hid (gvalid_any gcs cur y m p cl cA cc ro el eA ec (w.alloc (.cells gcs 29)) HG (h.step hb) hF)
  clear h hF
  unfold IntPost
  have HCK : Hid (Dv.ck (Gr.gv cur cl ro el (Cal.ok y m p)) q p = if Gr.gv cur cl ro el (Cal.ok y m p) = true then (if 0 ≤ q ∧ q < p then 0 else 2) else 1) := Lib.hid rfl
  generalize Dv.ck (Gr.gv cur cl ro el (Cal.ok y m p)) q p = ck at *
  generalize Gr.gv cur cl ro el (Cal.ok y m p) = V at *
  cases V
  · have HE : Hid (ck = 1) := Lib.hid HCK.out
    clear HCK
    go_enter Try.func69, Try.ntmps69
    go_wp2_with (first
      | (refine wpList_load_blk 29 (.tmp 2) rfl (w.heap.size) rfl (by kernel_rfl) (HB).out Try.underlying29 hgi ?_)
      | (go_at_call 14; refine KV.out.mono ?_; rintro en w2 ⟨rfl, hb9⟩; replace hb := bel hb hb9; clear hb9))
    go_ret
    exact ⟨by rw [HE.out]; first | done | rfl, hb⟩
  · by_cases h0 : q < 0
    · have HE : Hid (ck = 2) := Lib.hid (by rw [HCK.out, if_pos rfl, if_neg (by omega)])
      clear HCK
      go_enter Try.func69, Try.ntmps69
      go_wp2_with (first
        | (refine wpList_load_blk 29 (.tmp 2) rfl (w.heap.size) rfl (by kernel_rfl) (HB).out Try.underlying29 hgi ?_)
        | (go_at_call 14; refine KV.out.mono ?_; rintro en w2 ⟨rfl, hb9⟩; replace hb := bel hb hb9; clear hb9))
      go_ret
      exact ⟨by rw [HE.out]; first | done | rfl, hb⟩
    · by_cases h1 : q < p
      · have HE : Hid (ck = 0) := Lib.hid (by rw [HCK.out, if_pos rfl, if_pos (by omega)])
        clear HCK
        go_enter Try.func69, Try.ntmps69
        go_wp2_with (first
          | (refine wpList_load_blk 29 (.tmp 2) rfl (w.heap.size) rfl (by kernel_rfl) (HB).out Try.underlying29 hgi ?_)
          | (go_at_call 14; refine KV.out.mono ?_; rintro en w2 ⟨rfl, hb9⟩; replace hb := bel hb hb9; have k3 : w2.cell? ⟨w.heap.size, 3, none⟩ = some (.int .i64 p) := ((HB.out.step hb9).cell 3).trans (by rw [HG.out]; rfl); clear hb9))
        go_ret
        exact ⟨by rw [HE.out]; first | done | rfl, hb⟩
      · have h1' : p ≤ q := by omega
        have HE : Hid (ck = 2) := Lib.hid (by rw [HCK.out, if_pos rfl, if_neg (by omega)])
        clear HCK
        go_enter Try.func69, Try.ntmps69
        go_wp2_with (first
          | (refine wpList_load_blk 29 (.tmp 2) rfl (w.heap.size) rfl (by kernel_rfl) (HB).out Try.underlying29 hgi ?_)
          | (go_at_call 14; refine KV.out.mono ?_; rintro en w2 ⟨rfl, hb9⟩; replace hb := bel hb hb9; have k3 : w2.cell? ⟨w.heap.size, 3, none⟩ = some (.int .i64 p) := ((HB.out.step hb9).cell 3).trans (by rw [HG.out]; rfl); clear hb9))
        go_ret
        exact ⟨by rw [HE.out]; first | done | rfl, hb⟩
set_option maxRecDepth 100000 in
set_option maxHeartbeats 4000000 in
theorem rdcheck_any (q : Int) (HG : Hid (gcs = #[.string cur, .int .i64 y, .int .i64 m, .int .i64 p, .slice cA cl.length cc, .int .i64 ro.investment, .int .i64 ro.goodwill, .int .i64 ro.associates, .int .i64 ro.inventory, .int .i64 ro.reserve, .int .i64 ro.minority, .int .i64 ro.retained, .int .i64 ro.acquired, .int .i64 ro.owners, .int .i64 ro.disposal, .int .i64 ro.associateProfit, .int .i64 ro.dividends, .int .i64 ro.minorityProfit, .int .i64 ro.difference, .int .i64 ro.margin, .slice eA el.length ec])) (h : GIn w cl cA el eA) (hF : FewOk cur cl el) :
    Calls Try.prog 71 #[.agg gcs, .int .i64 q] w (IntPost (Dv.ck (Gr.gv cur cl ro el (Cal.ok y m p)) q p) w) := by
  have hgi : (Try.prog.info? 29).map (·.size) = some gcs.size := by rw [HG.out]; exact grp_size
  have hb : Below w.heap.size w (w.alloc (.cells gcs 29)) := (Below.refl _ _).alloc (Nat.le_refl _) _
  have HB := Lib.hid (Blk.new w 29 gcs)
  have KV := Lib.hid (rgvalid_any gcs cur y m p cl cA cc ro el eA ec (w.alloc (.cells gcs 29)) HG (h.step hb) hF)
  clear h hF
  unfold IntPost
  have HCK : Hid (Dv.ck (Gr.gv cur cl ro el (Cal.ok y m p)) q p = if Gr.gv cur cl ro el (Cal.ok y m p) = true then (if 0 ≤ q ∧ q < p then 0 else 2) else 1) := Lib.hid rfl
  generalize Dv.ck (Gr.gv cur cl ro el (Cal.ok y m p)) q p = ck at *
  generalize Gr.gv cur cl ro el (Cal.ok y m p) = V at *
  cases V
  · have HE : Hid (ck = 1) := Lib.hid HCK.out
    clear HCK
    go_enter Try.func71, Try.ntmps71
    go_wp2_with (first
      | (refine wpList_load_blk 29 (.tmp 2) rfl (w.heap.size) rfl (by kernel_rfl) (HB).out Try.underlying29 hgi ?_)
      | (go_at_call 12; refine KV.out.mono ?_; rintro en w2 ⟨rfl, hb9⟩; replace hb := bel hb hb9; clear hb9))
    go_ret
    exact ⟨by rw [HE.out]; first | done | rfl, hb⟩
  · by_cases h0 : q < 0
    · have HE : Hid (ck = 2) := Lib.hid (by rw [HCK.out, if_pos rfl, if_neg (by omega)])
      clear HCK
      go_enter Try.func71, Try.ntmps71
      go_wp2_with (first
        | (refine wpList_load_blk 29 (.tmp 2) rfl (w.heap.size) rfl (by kernel_rfl) (HB).out Try.underlying29 hgi ?_)
        | (go_at_call 12; refine KV.out.mono ?_; rintro en w2 ⟨rfl, hb9⟩; replace hb := bel hb hb9; clear hb9))
      go_ret
      exact ⟨by rw [HE.out]; first | done | rfl, hb⟩
    · by_cases h1 : q < p
      · have HE : Hid (ck = 0) := Lib.hid (by rw [HCK.out, if_pos rfl, if_pos (by omega)])
        clear HCK
        go_enter Try.func71, Try.ntmps71
        go_wp2_with (first
          | (refine wpList_load_blk 29 (.tmp 2) rfl (w.heap.size) rfl (by kernel_rfl) (HB).out Try.underlying29 hgi ?_)
          | (go_at_call 12; refine KV.out.mono ?_; rintro en w2 ⟨rfl, hb9⟩; replace hb := bel hb hb9; have k3 : w2.cell? ⟨w.heap.size, 3, none⟩ = some (.int .i64 p) := ((HB.out.step hb9).cell 3).trans (by rw [HG.out]; rfl); clear hb9))
        go_ret
        exact ⟨by rw [HE.out]; first | done | rfl, hb⟩
      · have h1' : p ≤ q := by omega
        have HE : Hid (ck = 2) := Lib.hid (by rw [HCK.out, if_pos rfl, if_neg (by omega)])
        clear HCK
        go_enter Try.func71, Try.ntmps71
        go_wp2_with (first
          | (refine wpList_load_blk 29 (.tmp 2) rfl (w.heap.size) rfl (by kernel_rfl) (HB).out Try.underlying29 hgi ?_)
          | (go_at_call 12; refine KV.out.mono ?_; rintro en w2 ⟨rfl, hb9⟩; replace hb := bel hb hb9; have k3 : w2.cell? ⟨w.heap.size, 3, none⟩ = some (.int .i64 p) := ((HB.out.step hb9).cell 3).trans (by rw [HG.out]; rfl); clear hb9))
        go_ret
        exact ⟨by rw [HE.out]; first | done | rfl, hb⟩
end
end Go.Proofs.Ytnkmjdaeafeaaaa
/- The walk of Posting of dividends and of its reference. -/
namespace Go.Proofs.Ytnkmjdaeafeaaaa
set_option linter.unusedVariables false
set_option linter.unusedSimpArgs false
open Go.RowKit

/-- books that begin with a group -/
structure BkIs (bcs gcs : Array Value) : Prop where
  size : bcs.size = 27
  gsz : gcs.size = 21
  grp : ∀ j, j < 21 → bcs[j]? = gcs[j]?
theorem bk_range {w : World} {b : Nat} {t : TypeId} {bcs gcs : Array Value} (hB : Blk w b t bcs) (h : BkIs bcs gcs) : w.rangeAt b 0 gcs.toList := fun j v hv => by
  have hj : j < 21 := by
    have := (List.getElem?_eq_some_iff.1 hv).1
    rwa [Array.length_toList, h.gsz] at this
  rw [Nat.zero_add, hB.cell j, h.grp j hj, ← Array.getElem?_toList]
  exact hv
theorem grp_one {gcs : Array Value} {cur : ByteArray} {y m p : Int} {cl : List Acc} {cA : Option Addr} {cc : Nat} {ro : RolesR} {el : List EntR} {eA : Option Addr} {ec : Nat} (HG : gcs = #[.string cur, .int .i64 y, .int .i64 m, .int .i64 p, .slice cA cl.length cc, .int .i64 ro.investment, .int .i64 ro.goodwill, .int .i64 ro.associates, .int .i64 ro.inventory, .int .i64 ro.reserve, .int .i64 ro.minority, .int .i64 ro.retained, .int .i64 ro.acquired, .int .i64 ro.owners, .int .i64 ro.disposal, .int .i64 ro.associateProfit, .int .i64 ro.dividends, .int .i64 ro.minorityProfit, .int .i64 ro.difference, .int .i64 ro.margin, .slice eA el.length ec]) : gcs.all (·.oneCell') = true := by
  rw [HG, ← Array.all_toList, List.all_eq_true]
  exact fun u hu => GrpR.one ⟨cur, ⟨y, m, p⟩, ⟨cl, cA, cc⟩, ro, ⟨el, eA, ec⟩⟩ u hu
def zeroPost : Array Value := #[.int .i64 0, .int .i64 0, .int .i64 0, .int .i64 0, .slice none 0 0]
def PostR.arr (x : PostR) : Array Value := #[.int .i64 x.kind, .int .i64 x.entity, .int .i64 x.other, .int .i64 x.rule, x.parts.val]
theorem PostR.arr_one (x : PostR) : x.arr.all (·.oneCell') = true := by
  rw [← Array.all_toList, List.all_eq_true]
  exact fun u hu => x.one u hu
theorem post_size : (Try.prog.info? 55).map (·.size) = some 5 := by kernel_rfl
def noPost : PostR := ⟨0, 0, 0, 0, ⟨[], none, 0⟩⟩
/-- a slice of a call's own -/
def OwnSl {α : Type} (f : α → List Value) (base : Nat) (e : TypeId) (sz : Nat) (w : World) (s : Sl α) : Prop := w.ownsRow base e sz s.val s.l.length (cellsOf f s.l)
def PPost (T : TypeId) (kd i k : Int) (L : List Bal) (E : Int) (w : World) (en : Ending) (w' : World) : Prop :=
  ∃ x : PostR, en = .returned (.tuple #[.agg x.arr, .int .i64 E]) ∧ Dv.IsP kd i k L x ∧ OwnSl Bal.cells w.heap.size T 2 w' x.parts ∧ Below w.heap.size w w'
theorem own_nil {α : Type} (f : α → List Value) (base : Nat) (e : TypeId) (sz : Nat) (w : World) : OwnSl f base e sz w (⟨[], none, 0⟩ : Sl α) := ⟨by simp [cellsOf], .inl ⟨rfl, rfl⟩⟩
theorem own_row {w : World} {base : Nat} {e : TypeId} {sz : Nat} {v : Value} {n : Nat} {xs : List Value} (h : w.ownsRow base e sz v n xs) {g : Nat} (hg : g < base) (cs : Array Value) : (w.setRow g cs).ownsRow base e sz v n xs :=
  ⟨h.1, h.2.imp id fun ⟨g', cap, cur, h1, h2, h3, h4⟩ => ⟨g', cap, cur, h1, h2, (setRow_other w g g' cs (by omega)).trans h3, h4⟩⟩
theorem inN_no {n : Nat} {i k : Int} (h : i < 0 ∨ k < 0 ∨ (n : Int) ≤ i ∨ (n : Int) ≤ k) : Dv.inN n i k = false := by
  unfold Dv.inN
  rw [Bool.eq_false_iff]
  simp only [Bool.and_eq_true, decide_eq_true_eq, ne_eq]
  omega
theorem inN_yes {n : Nat} {i k : Int} (h : 0 ≤ i ∧ 0 ≤ k ∧ i < (n : Int) ∧ k < (n : Int)) : Dv.inN n i k = true := by
  unfold Dv.inN
  simp only [Bool.and_eq_true, decide_eq_true_eq]
  omega
theorem parts_wf {d r n : Int} (h1 : Wf d) (h2 : Wf r) : ∀ x ∈ Dv.parts d r n, (Lit.int .i64 x.account).wf = true := by
  intro x hx
  simp only [Dv.parts, List.mem_cons, List.not_mem_nil, or_false] at hx
  rcases hx with rfl | rfl
  · exact h1
  · exact h2
theorem ppost_none {T : TypeId} {kd i k E : Int} {w w' : World} {en : Ending} {L : List Bal} (hL : L = []) (h : en = .returned (.tuple #[.agg zeroPost, .int .i64 E])) (hb : Below w.heap.size w w') : PPost T kd i k L E w en w' :=
  ⟨noPost, h, ⟨hL.symm, rfl, .inl ⟨hL, rfl, rfl, rfl⟩⟩, own_nil _ _ _ _ _, hb⟩
section
variable (gcs : Array Value) (cur : ByteArray) (y m p : Int) (cl : List Acc) (cA : Option Addr) (cc : Nat) (ro : RolesR) (el : List EntR) (eA : Option Addr) (ec : Nat) (w : World)
set_option maxRecDepth 100000 in
set_option maxHeartbeats 16000000 in
theorem dposting_any (bcs : Array Value) (l : List ConR) (i k q : Int) (A : Option Addr) (c : Nat) (HG : Hid (gcs = #[.string cur, .int .i64 y, .int .i64 m, .int .i64 p, .slice cA cl.length cc, .int .i64 ro.investment, .int .i64 ro.goodwill, .int .i64 ro.associates, .int .i64 ro.inventory, .int .i64 ro.reserve, .int .i64 ro.minority, .int .i64 ro.retained, .int .i64 ro.acquired, .int .i64 ro.owners, .int .i64 ro.disposal, .int .i64 ro.associateProfit, .int .i64 ro.dividends, .int .i64 ro.minorityProfit, .int .i64 ro.difference, .int .i64 ro.margin, .slice eA el.length ec])) (hBK : BkIs bcs gcs) (h : GIn w cl cA el eA) (hF : FewOk cur cl el) (hel : el.length ≤ 1000) (hC : CIn w l A) (hw1 : Wf ro.dividends) (hw2 : Wf ro.retained) :
    Calls Try.prog 27 #[.agg bcs, .slice A l.length c, .int .i64 i, .int .i64 k, .int .i64 q] w
      (PPost 129 9 i k (Dv.pL (Gr.gv cur cl ro el (Cal.ok y m p)) q p el.length ro.dividends ro.retained l i k) (Dv.pE (Gr.gv cur cl ro el (Cal.ok y m p)) q p el.length ro.dividends ro.retained l i k) w) := by
  have hgi : (Try.prog.info? 29).map (·.size) = some gcs.size := by rw [HG.out]; exact grp_size
  have hg21 : (Try.prog.info? 29).map (·.size) = some 21 := grp_size
  have HBK := Lib.hid hBK
  have HG1 := Lib.hid (grp_one HG.out)
  have H := Lib.hid h
  have HC := Lib.hid hC
  have hb : Below w.heap.size w ((w.alloc (.cells bcs 72)).alloc (.cells #[.int .i64 0, .int .i64 0, .int .i64 0, .int .i64 0, .slice none 0 0] 55)) := ((Below.refl _ _).alloc (Nat.le_refl _) _).alloc (by simp) _
  have HB := Lib.hid ((Blk.new w 72 bcs).alloc (.cells #[.int .i64 0, .int .i64 0, .int .i64 0, .int .i64 0, .slice none 0 0] 55))
  have HP := Lib.hid (blk_new2 w (.cells bcs 72) 55 #[.int .i64 0, .int .i64 0, .int .i64 0, .int .i64 0, .slice none 0 0])
  have KC := Lib.hid (fun W h => dcheck_any gcs cur y m p cl cA cc ro el eA ec W q HG h hF)
  clear h hC hBK hF
  generalize Gr.gv cur cl ro el (Cal.ok y m p) = V at *
  have HE : Hid (Dv.pE V q p el.length ro.dividends ro.retained l i k = if Dv.ck V q p = 0 then (if Dv.inN el.length i k = true then (if Dv.pair l i k = true then clnE (Dv.parts ro.dividends ro.retained (Dv.rec ro.dividends l i k)) else 0) else 2) else Dv.ck V q p) := Lib.hid rfl
  have HL : Hid (Dv.pL V q p el.length ro.dividends ro.retained l i k = if Dv.ck V q p = 0 ∧ Dv.inN el.length i k = true ∧ Dv.pair l i k = true then clnL (Dv.parts ro.dividends ro.retained (Dv.rec ro.dividends l i k)) else []) := Lib.hid rfl
  generalize Dv.pE V q p el.length ro.dividends ro.retained l i k = E at *
  generalize Dv.pL V q p el.length ro.dividends ro.retained l i k = L at *
  have KR := Lib.hid (fun W h => drec_any gcs cur y m p cl cA cc ro el eA ec W l i k A c HG h)
  unfold IntPost at KC KR
  generalize Dv.rec ro.dividends l i k = nn at *
  generalize Dv.ck V q p = ck at *
  go_enter Try.func27, Try.ntmps27
  go_upto_region 1 with fail
  generalize (w.alloc (.cells bcs 72)).alloc (.cells #[.int .i64 0, .int .i64 0, .int .i64 0, .int .i64 0, .slice none 0 0] 55) = W at *
  go_upto_region 3 with (first
    | (refine wpList_load_arr rfl 29 (.tmp 17) rfl w.heap.size 0 rfl gcs (bk_range HB.out HBK.out) Try.underlying29 21 hg21 HBK.out.gsz ?_)
    | (refine wpList_alloc_put rfl 29 (.tmp 12) (.tmp 18) rfl rfl gcs _ rfl rfl 21 hg21 HBK.out.gsz rfl HG1.out ?_; have hz := hb.size; replace hb := hb.alloc hb.size (.cells gcs 29); have HG3 := Lib.hid (Blk.new W 29 gcs); have HP3 := Lib.hid (HP.out.alloc (.cells gcs 29)); clear HP; have HP := HP3; clear HP3; clear hz)
    | (refine wpList_load_blk 29 (.tmp 12) rfl (W.heap.size) rfl (by kernel_rfl) (HG3).out Try.underlying29 hgi ?_)
    | (go_at_call 69; refine (KC.out _ (H.out.step hb)).mono ?_; rintro en w4 ⟨rfl, hb9⟩; replace hb := bel hb hb9; have HG4 := Lib.hid (HG3.out.step hb9); clear HG3; replace HP := Lib.hid (HP.out.step hb9); clear hb9))
  cases hx : (ck != 0)
  · have hc0 : ck = 0 := by simpa using hx
    clear hx
    subst hc0
    rw [if_pos rfl] at HE
    go_upto_region 5 with fail
    have e20 : w4.cell? ⟨W.heap.size, 20, none⟩ = some (.slice eA el.length ec) := (HG4.out.cell 20).trans (by rw [HG.out]; rfl)
    go_cut [38] (fun s wx => s = .bool (!Dv.inN el.length i k) ∧ wx = w4)
    case first =>
      by_cases hm1 : min i k < 0
      · have HO := Lib.hid (inN_no (n := el.length) (i := i) (k := k) (by omega))
        go_wp2_with fail
        go_meet
        exact ⟨by rw [HO.out]; rfl, rfl⟩
      · by_cases hm2 : (el.length : Int) ≤ max i k
        · have HO := Lib.hid (inN_no (n := el.length) (i := i) (k := k) (by omega))
          go_wp2_with fail
          go_meet
          exact ⟨by rw [HO.out]; rfl, rfl⟩
        · have HO := Lib.hid (inN_yes (n := el.length) (i := i) (k := k) (by omega))
          go_wp2_with fail
          go_meet
          exact ⟨by rw [HO.out]; rfl, rfl⟩
    case rest =>
      obtain ⟨rfl, rfl⟩ := hcut
      clear e20
      cases hin : Dv.inN el.length i k
      · have HE1 : Hid (E = 2) := Lib.hid (by rw [HE.out, if_neg (by rw [hin]; decide)])
        have HL1 : Hid (L = []) := Lib.hid (by rw [HL.out, if_neg (fun h => by rw [hin] at h; cases h.2.1)])
        clear hin
        simp only [Bool.not_false]
        go_wp2_with (refine wpList_store_row rfl 55 (.tmp 10) (.tmp 39) rfl (w.heap.size + 1) zeroPost rfl rfl 55 zeroPost HP.out post_size rfl (PostR.arr_one noPost) ?_)
        refine bodyPost_ret (v := .tuple #[.agg zeroPost, .int .i64 2]) (results_row2 Try.results27 _ _ (w.heap.size + 1) 55 zeroPost rfl (blk_row HP.out _) Try.underlying55 post_size) rfl ?_
        exact ppost_none HL1.out (by rw [HE1.out]) (below_row hb (by omega))
      · rw [if_pos hin] at HE
        rw [hin] at HL
        clear hin
        simp only [Bool.not_true]
        go_upto_region 7 with fail
        go_cut [54] (fun s wx => s = .bool (!Dv.pair l i k) ∧ Blk wx (w.heap.size + 1) 55 #[.int .i64 0, .int .i64 0, .int .i64 0, .int .i64 0, .slice none 0 0] ∧ Blk wx W.heap.size 29 gcs ∧ Below w.heap.size w wx)
        case first =>
          have KF1 := Lib.hid (fun W h => dfull_any l i A c W h)
          have KF2 := Lib.hid (fun W h => dfull_any l k A c W h)
          cases hik : (i == k)
          · cases hf1 : Dv.full l i
            · have HO : Hid (Dv.pair l i k = false) := Lib.hid (by unfold Dv.pair; rw [hf1]; simp)
              rw [hf1] at KF1
              clear hf1
              go_wp2_with (go_at_call 70; refine (KF1.out _ (HC.out.step hb)).mono ?_; rintro en w5 ⟨rfl, hb9⟩; have hb5 := bel hb hb9; have hP5 := HP.out.step hb9; have hG5 := HG4.out.step hb9; clear hb9)
              go_meet
              exact ⟨by rw [HO.out]; rfl, hP5, hG5, hb5⟩
            · cases hf2 : Dv.full l k
              · have HO : Hid (Dv.pair l i k = false) := Lib.hid (by unfold Dv.pair; rw [hf2]; simp)
                rw [hf1] at KF1
                rw [hf2] at KF2
                clear hf1 hf2
                go_wp2_with (first
                  | (go_at_call 70; refine (KF1.out _ (HC.out.step hb)).mono ?_; rintro en w5 ⟨rfl, hb9⟩; have hb5 := bel hb hb9; have HP5 := Lib.hid (HP.out.step hb9); have HG5 := Lib.hid (HG4.out.step hb9); clear hb9 KF1)
                  | (go_at_call 70; refine (KF2.out _ (HC.out.step hb5)).mono ?_; rintro en w6 ⟨rfl, hb9⟩; have hb6 := bel hb5 hb9; have hP6 := HP5.out.step hb9; have hG6 := HG5.out.step hb9; clear hb9))
                go_meet
                exact ⟨by rw [HO.out]; rfl, hP6, hG6, hb6⟩
              · have HO : Hid (Dv.pair l i k = true) := Lib.hid (by unfold Dv.pair; rw [hik, hf1, hf2]; rfl)
                rw [hf1] at KF1
                rw [hf2] at KF2
                clear hf1 hf2
                go_wp2_with (first
                  | (go_at_call 70; refine (KF1.out _ (HC.out.step hb)).mono ?_; rintro en w5 ⟨rfl, hb9⟩; have hb5 := bel hb hb9; have HP5 := Lib.hid (HP.out.step hb9); have HG5 := Lib.hid (HG4.out.step hb9); clear hb9 KF1)
                  | (go_at_call 70; refine (KF2.out _ (HC.out.step hb5)).mono ?_; rintro en w6 ⟨rfl, hb9⟩; have hb6 := bel hb5 hb9; have hP6 := HP5.out.step hb9; have hG6 := HG5.out.step hb9; clear hb9))
                go_meet
                exact ⟨by rw [HO.out]; rfl, hP6, hG6, hb6⟩
          · have HO : Hid (Dv.pair l i k = false) := Lib.hid (by unfold Dv.pair; rw [hik]; rfl)
            go_wp2_with fail
            go_meet
            exact ⟨by rw [HO.out]; rfl, HP.out, HG4.out, hb⟩
        case rest =>
          clear HP HG4 hb
          obtain ⟨rfl, hP5, hG5, hb⟩ := hcut
          have HP := Lib.hid hP5
          have HG5 := Lib.hid hG5
          clear hP5 hG5
          cases hpr : Dv.pair l i k
          · have HE1 : Hid (E = 0) := Lib.hid (by rw [HE.out, if_neg (by rw [hpr]; decide)])
            have HL1 : Hid (L = []) := Lib.hid (by rw [HL.out, if_neg (fun h => by rw [hpr] at h; cases h.2.2)])
            clear hpr
            simp only [Bool.not_false]
            go_wp2_with (refine wpList_store_row rfl 55 (.tmp 10) (.tmp 55) rfl (w.heap.size + 1) zeroPost rfl rfl 55 zeroPost HP.out post_size rfl (PostR.arr_one noPost) ?_)
            refine bodyPost_ret (v := .tuple #[.agg zeroPost, .int .i64 0]) (results_row2 Try.results27 _ _ (w.heap.size + 1) 55 zeroPost rfl (blk_row HP.out _) Try.underlying55 post_size) rfl ?_
            exact ppost_none HL1.out (by rw [HE1.out]) (below_row hb (by omega))
          · rw [if_pos hpr] at HE
            rw [hpr, if_pos ⟨rfl, rfl, rfl⟩] at HL
            clear hpr
            simp only [Bool.not_true]
            have KCL : Hid (∀ (g : Nat) (W : World), Blk W g 129 #[.int .i64 ro.dividends, .int .i64 (wrap64 (-nn)), .int .i64 ro.retained, .int .i64 nn] → Calls Try.prog 61 #[.slice (some ⟨g, 0, none⟩) 2 2] W (ColPost 129 W.heap.size (ofW (Dv.parts ro.dividends ro.retained nn)) W)) := Lib.hid (fun g W hB => clean_any (Dv.parts ro.dividends ro.retained nn) (some ⟨g, 0, none⟩) 2 W (Rd.of_blk hB rfl rfl) (by show 2 ≤ 1000000; omega) (parts_wf hw1 hw2))
            go_upto_region 11 with (first
              | (refine wpList_load_blk 29 (.tmp 12) rfl (W.heap.size) rfl (by kernel_rfl) (HG5).out Try.underlying29 hgi ?_)
              | (go_at_call 30; refine (KR.out _ (HC.out.step hb)).mono ?_; rintro en w6 ⟨rfl, hb9⟩; have hb6 := bel hb hb9; have HG6 := Lib.hid (HG5.out.step hb9); have HP6 := Lib.hid (HP.out.step hb9); have k16 : w6.cell? ⟨W.heap.size, 16, none⟩ = some (.int .i64 ro.dividends) := (HG6.out.cell 16).trans (by rw [HG.out]; rfl); have k11 : w6.cell? ⟨W.heap.size, 11, none⟩ = some (.int .i64 ro.retained) := (HG6.out.cell 11).trans (by rw [HG.out]; rfl); clear hb9)
              | (go_at_call 61; refine (KCL.out _ _ (Blk.new w6 129 _)).mono ?_; rintro en w7 ⟨v, LL, EE, rfl, ho, hb9, halt⟩; obtain ⟨A2, c2, hv, -⟩ := Rd.of_own ho; subst hv; have hb7 := bel (hb6.alloc hb6.size _) hb9; have HP7 := Lib.hid ((HP6.out.alloc _).step hb9); have HO := Lib.hid ho; have hlo : w.heap.size + 1 < w6.heap.size := HP6.out.lt; have HZ := Lib.hid hb9.size; have HALT := Lib.hid halt; clear hb9 ho halt))
            clear k16 k11 HP
            have HP := HP7
            clear HP7
            have HEL := Lib.hid (cln_is HALT.out)
            have HEE : Hid (E = EE) := Lib.hid (by rw [HE.out, HEL.out.2])
            have HLL : Hid (L = LL) := Lib.hid (by rw [HL.out, HEL.out.1])
            have hEE : EE = 0 ∨ EE = 2 := by rcases HALT.out with h | h <;> simp [h.1]
            have hE2 : EE = 2 → LL = [] := fun h => by rcases HALT.out with h2 | h2; exact absurd (h2.1.symm.trans h) (by decide); exact h2.2.1
            replace hb := hb7
            clear hb7
            rcases hEE with rfl | rfl
            · clear hE2
              by_cases hll : LL = []
              · have HL1 : Hid (L = []) := Lib.hid (HLL.out.trans hll)
                have hl0 : ((LL.length : Int) == 0) = true := by simp [hll]
                clear hll
                go_wp2_with (refine wpList_store_row rfl 55 (.tmp 10) (.tmp 84) rfl (w.heap.size + 1) zeroPost rfl rfl 55 zeroPost HP.out post_size rfl (PostR.arr_one noPost) ?_)
                refine bodyPost_ret (v := .tuple #[.agg zeroPost, .int .i64 0]) (results_row2 Try.results27 _ _ (w.heap.size + 1) 55 zeroPost rfl (blk_row HP.out _) Try.underlying55 post_size) rfl ?_
                exact ppost_none HL1.out (by rw [HEE.out]) (below_row hb (by omega))
              · have hl0 : ((LL.length : Int) == 0) = false := by simpa using hll
                have HNE := Lib.hid hll
                clear hll
                go_wp2_with (refine wpList_store_row rfl 55 (.tmp 10) (.tmp 89) rfl (w.heap.size + 1) (PostR.arr ⟨9, i, k, 0, ⟨LL, A2, c2⟩⟩) rfl rfl 55 zeroPost HP.out post_size rfl (PostR.arr_one _) ?_)
                refine bodyPost_ret (v := .tuple #[.agg (PostR.arr ⟨9, i, k, 0, ⟨LL, A2, c2⟩⟩), .int .i64 0]) (results_row2 Try.results27 _ _ (w.heap.size + 1) 55 (PostR.arr ⟨9, i, k, 0, ⟨LL, A2, c2⟩⟩) rfl (blk_row HP.out _) Try.underlying55 post_size) rfl ?_
                exact ⟨⟨9, i, k, 0, ⟨LL, A2, c2⟩⟩, by rw [HEE.out], ⟨HLL.out.symm, rfl, .inr ⟨by rw [HLL.out]; exact HNE.out, rfl, rfl, rfl⟩⟩, own_base (own_row HO.out (by simp; omega) _) (by simp; omega), below_row hb (by omega)⟩
            · have hll := hE2 rfl
              have HL1 : Hid (L = []) := Lib.hid (HLL.out.trans hll)
              clear hll hE2
              go_wp2_with (refine wpList_store_row rfl 55 (.tmp 10) (.tmp 84) rfl (w.heap.size + 1) zeroPost rfl rfl 55 zeroPost HP.out post_size rfl (PostR.arr_one noPost) ?_)
              refine bodyPost_ret (v := .tuple #[.agg zeroPost, .int .i64 2]) (results_row2 Try.results27 _ _ (w.heap.size + 1) 55 zeroPost rfl (blk_row HP.out _) Try.underlying55 post_size) rfl ?_
              exact ppost_none HL1.out (by rw [HEE.out]) (below_row hb (by omega))
  · have hc0 : ck ≠ 0 := by simpa using hx
    have HE1 : Hid (E = ck) := Lib.hid (by rw [HE.out, if_neg hc0])
    have HL1 : Hid (L = []) := Lib.hid (by rw [HL.out, if_neg (fun h => hc0 h.1)])
    clear hc0
    go_wp2_with (refine wpList_store_row rfl 55 (.tmp 10) (.tmp 24) rfl (w.heap.size + 1) zeroPost rfl rfl 55 zeroPost HP.out post_size rfl (PostR.arr_one noPost) ?_)
    refine bodyPost_ret (v := .tuple #[.agg zeroPost, .int .i64 ck]) (results_row2 Try.results27 _ _ (w.heap.size + 1) 55 zeroPost rfl (blk_row HP.out _) Try.underlying55 post_size) rfl ?_
    exact ppost_none HL1.out (by rw [HE1.out]) (below_row hb (by omega))
set_option maxRecDepth 100000 in
set_option maxHeartbeats 16000000 in
theorem rdposting_any (bcs : Array Value) (l : List ConR) (i k q : Int) (A : Option Addr) (c : Nat) (HG : Hid (gcs = #[.string cur, .int .i64 y, .int .i64 m, .int .i64 p, .slice cA cl.length cc, .int .i64 ro.investment, .int .i64 ro.goodwill, .int .i64 ro.associates, .int .i64 ro.inventory, .int .i64 ro.reserve, .int .i64 ro.minority, .int .i64 ro.retained, .int .i64 ro.acquired, .int .i64 ro.owners, .int .i64 ro.disposal, .int .i64 ro.associateProfit, .int .i64 ro.dividends, .int .i64 ro.minorityProfit, .int .i64 ro.difference, .int .i64 ro.margin, .slice eA el.length ec])) (hBK : BkIs bcs gcs) (h : GIn w cl cA el eA) (hF : FewOk cur cl el) (hel : el.length ≤ 1000) (hC : CIn w l A) :
    Calls Try.prog 28 #[.agg bcs, .slice A l.length c, .int .i64 i, .int .i64 k, .int .i64 q] w
      (PPost 129 9 i k (Dv.pL (Gr.gv cur cl ro el (Cal.ok y m p)) q p el.length ro.dividends ro.retained l i k) (Dv.pE (Gr.gv cur cl ro el (Cal.ok y m p)) q p el.length ro.dividends ro.retained l i k) w) := by
  have hgi : (Try.prog.info? 29).map (·.size) = some gcs.size := by rw [HG.out]; exact grp_size
  have hg21 : (Try.prog.info? 29).map (·.size) = some 21 := grp_size
  have HBK := Lib.hid hBK
  have HG1 := Lib.hid (grp_one HG.out)
  have H := Lib.hid h
  have HC := Lib.hid hC
  have hb : Below w.heap.size w ((w.alloc (.cells bcs 72)).alloc (.cells #[.int .i64 0, .int .i64 0, .int .i64 0, .int .i64 0, .slice none 0 0] 55)) := ((Below.refl _ _).alloc (Nat.le_refl _) _).alloc (by simp) _
  have HB := Lib.hid ((Blk.new w 72 bcs).alloc (.cells #[.int .i64 0, .int .i64 0, .int .i64 0, .int .i64 0, .slice none 0 0] 55))
  have HP := Lib.hid (blk_new2 w (.cells bcs 72) 55 #[.int .i64 0, .int .i64 0, .int .i64 0, .int .i64 0, .slice none 0 0])
  have KC := Lib.hid (fun W h => rdcheck_any gcs cur y m p cl cA cc ro el eA ec W q HG h hF)
  clear h hC hBK hF
  generalize Gr.gv cur cl ro el (Cal.ok y m p) = V at *
  have HE : Hid (Dv.pE V q p el.length ro.dividends ro.retained l i k = if Dv.ck V q p = 0 then (if Dv.inN el.length i k = true then (if Dv.pair l i k = true then clnE (Dv.parts ro.dividends ro.retained (Dv.rec ro.dividends l i k)) else 0) else 2) else Dv.ck V q p) := Lib.hid rfl
  have HL : Hid (Dv.pL V q p el.length ro.dividends ro.retained l i k = if Dv.ck V q p = 0 ∧ Dv.inN el.length i k = true ∧ Dv.pair l i k = true then clnL (Dv.parts ro.dividends ro.retained (Dv.rec ro.dividends l i k)) else []) := Lib.hid rfl
  generalize Dv.pE V q p el.length ro.dividends ro.retained l i k = E at *
  generalize Dv.pL V q p el.length ro.dividends ro.retained l i k = L at *
  have KR := Lib.hid (fun W h => rdrec_any gcs cur y m p cl cA cc ro el eA ec W l i k A c HG h)
  unfold IntPost at KC KR
  generalize Dv.rec ro.dividends l i k = nn at *
  generalize Dv.ck V q p = ck at *
  go_enter Try.func28, Try.ntmps28
  go_upto_region 1 with fail
  generalize (w.alloc (.cells bcs 72)).alloc (.cells #[.int .i64 0, .int .i64 0, .int .i64 0, .int .i64 0, .slice none 0 0] 55) = W at *
  go_upto_region 3 with (first
    | (refine wpList_load_arr rfl 29 (.tmp 17) rfl w.heap.size 0 rfl gcs (bk_range HB.out HBK.out) Try.underlying29 21 hg21 HBK.out.gsz ?_)
    | (refine wpList_alloc_put rfl 29 (.tmp 12) (.tmp 18) rfl rfl gcs _ rfl rfl 21 hg21 HBK.out.gsz rfl HG1.out ?_; have hz := hb.size; replace hb := hb.alloc hb.size (.cells gcs 29); have HG3 := Lib.hid (Blk.new W 29 gcs); have HP3 := Lib.hid (HP.out.alloc (.cells gcs 29)); clear HP; have HP := HP3; clear HP3; clear hz)
    | (refine wpList_load_blk 29 (.tmp 12) rfl (W.heap.size) rfl (by kernel_rfl) (HG3).out Try.underlying29 hgi ?_)
    | (go_at_call 71; refine (KC.out _ (H.out.step hb)).mono ?_; rintro en w4 ⟨rfl, hb9⟩; replace hb := bel hb hb9; have HG4 := Lib.hid (HG3.out.step hb9); clear HG3; replace HP := Lib.hid (HP.out.step hb9); clear hb9))
  cases hx : (ck != 0)
  · have hc0 : ck = 0 := by simpa using hx
    clear hx
    subst hc0
    rw [if_pos rfl] at HE
    go_upto_region 5 with fail
    have e20 : w4.cell? ⟨W.heap.size, 20, none⟩ = some (.slice eA el.length ec) := (HG4.out.cell 20).trans (by rw [HG.out]; rfl)
    go_cut [45] (fun s wx => s = .bool (!Dv.inN el.length i k) ∧ wx = w4)
    case first =>
      by_cases hm1 : i < 0
      · have HO := Lib.hid (inN_no (n := el.length) (i := i) (k := k) (by omega))
        go_wp2_with fail
        go_meet
        exact ⟨by rw [HO.out]; rfl, rfl⟩
      · by_cases hm2 : (el.length : Int) ≤ i
        · have HO := Lib.hid (inN_no (n := el.length) (i := i) (k := k) (by omega))
          go_wp2_with fail
          go_meet
          exact ⟨by rw [HO.out]; rfl, rfl⟩
        · by_cases hm3 : k < 0
          · have HO := Lib.hid (inN_no (n := el.length) (i := i) (k := k) (by omega))
            go_wp2_with fail
            go_meet
            exact ⟨by rw [HO.out]; rfl, rfl⟩
          · by_cases hm4 : (el.length : Int) ≤ k
            · have HO := Lib.hid (inN_no (n := el.length) (i := i) (k := k) (by omega))
              go_wp2_with fail
              go_meet
              exact ⟨by rw [HO.out]; rfl, rfl⟩
            · have HO := Lib.hid (inN_yes (n := el.length) (i := i) (k := k) (by omega))
              go_wp2_with fail
              go_meet
              exact ⟨by rw [HO.out]; rfl, rfl⟩
    case rest =>
      obtain ⟨rfl, rfl⟩ := hcut
      clear e20
      cases hin : Dv.inN el.length i k
      · have HE1 : Hid (E = 2) := Lib.hid (by rw [HE.out, if_neg (by rw [hin]; decide)])
        have HL1 : Hid (L = []) := Lib.hid (by rw [HL.out, if_neg (fun h => by rw [hin] at h; cases h.2.1)])
        clear hin
        simp only [Bool.not_false]
        go_wp2_with (refine wpList_store_row rfl 55 (.tmp 10) (.tmp 46) rfl (w.heap.size + 1) zeroPost rfl rfl 55 zeroPost HP.out post_size rfl (PostR.arr_one noPost) ?_)
        refine bodyPost_ret (v := .tuple #[.agg zeroPost, .int .i64 2]) (results_row2 Try.results28 _ _ (w.heap.size + 1) 55 zeroPost rfl (blk_row HP.out _) Try.underlying55 post_size) rfl ?_
        exact ppost_none HL1.out (by rw [HE1.out]) (below_row hb (by omega))
      · rw [if_pos hin] at HE
        rw [hin] at HL
        clear hin
        simp only [Bool.not_true]
        go_upto_region 7 with fail
        go_cut [61] (fun s wx => s = .bool (!Dv.pair l i k) ∧ Blk wx (w.heap.size + 1) 55 #[.int .i64 0, .int .i64 0, .int .i64 0, .int .i64 0, .slice none 0 0] ∧ Blk wx W.heap.size 29 gcs ∧ Below w.heap.size w wx)
        case first =>
          have KF1 := Lib.hid (fun W h => rdfull_any l i A c W h)
          have KF2 := Lib.hid (fun W h => rdfull_any l k A c W h)
          cases hik : (i == k)
          · cases hf1 : Dv.full l i
            · have HO : Hid (Dv.pair l i k = false) := Lib.hid (by unfold Dv.pair; rw [hf1]; simp)
              rw [hf1] at KF1
              clear hf1
              go_wp2_with (go_at_call 72; refine (KF1.out _ (HC.out.step hb)).mono ?_; rintro en w5 ⟨rfl, hb9⟩; have hb5 := bel hb hb9; have hP5 := HP.out.step hb9; have hG5 := HG4.out.step hb9; clear hb9)
              go_meet
              exact ⟨by rw [HO.out]; rfl, hP5, hG5, hb5⟩
            · cases hf2 : Dv.full l k
              · have HO : Hid (Dv.pair l i k = false) := Lib.hid (by unfold Dv.pair; rw [hf2]; simp)
                rw [hf1] at KF1
                rw [hf2] at KF2
                clear hf1 hf2
                go_wp2_with (first
                  | (go_at_call 72; refine (KF1.out _ (HC.out.step hb)).mono ?_; rintro en w5 ⟨rfl, hb9⟩; have hb5 := bel hb hb9; have HP5 := Lib.hid (HP.out.step hb9); have HG5 := Lib.hid (HG4.out.step hb9); clear hb9 KF1)
                  | (go_at_call 72; refine (KF2.out _ (HC.out.step hb5)).mono ?_; rintro en w6 ⟨rfl, hb9⟩; have hb6 := bel hb5 hb9; have hP6 := HP5.out.step hb9; have hG6 := HG5.out.step hb9; clear hb9))
                go_meet
                exact ⟨by rw [HO.out]; rfl, hP6, hG6, hb6⟩
              · have HO : Hid (Dv.pair l i k = true) := Lib.hid (by unfold Dv.pair; rw [hik, hf1, hf2]; rfl)
                rw [hf1] at KF1
                rw [hf2] at KF2
                clear hf1 hf2
                go_wp2_with (first
                  | (go_at_call 72; refine (KF1.out _ (HC.out.step hb)).mono ?_; rintro en w5 ⟨rfl, hb9⟩; have hb5 := bel hb hb9; have HP5 := Lib.hid (HP.out.step hb9); have HG5 := Lib.hid (HG4.out.step hb9); clear hb9 KF1)
                  | (go_at_call 72; refine (KF2.out _ (HC.out.step hb5)).mono ?_; rintro en w6 ⟨rfl, hb9⟩; have hb6 := bel hb5 hb9; have hP6 := HP5.out.step hb9; have hG6 := HG5.out.step hb9; clear hb9))
                go_meet
                exact ⟨by rw [HO.out]; rfl, hP6, hG6, hb6⟩
          · have HO : Hid (Dv.pair l i k = false) := Lib.hid (by unfold Dv.pair; rw [hik]; rfl)
            go_wp2_with fail
            go_meet
            exact ⟨by rw [HO.out]; rfl, HP.out, HG4.out, hb⟩
        case rest =>
          clear HP HG4 hb
          obtain ⟨rfl, hP5, hG5, hb⟩ := hcut
          have HP := Lib.hid hP5
          have HG5 := Lib.hid hG5
          clear hP5 hG5
          cases hpr : Dv.pair l i k
          · have HE1 : Hid (E = 0) := Lib.hid (by rw [HE.out, if_neg (by rw [hpr]; decide)])
            have HL1 : Hid (L = []) := Lib.hid (by rw [HL.out, if_neg (fun h => by rw [hpr] at h; cases h.2.2)])
            clear hpr
            simp only [Bool.not_false]
            go_wp2_with (refine wpList_store_row rfl 55 (.tmp 10) (.tmp 62) rfl (w.heap.size + 1) zeroPost rfl rfl 55 zeroPost HP.out post_size rfl (PostR.arr_one noPost) ?_)
            refine bodyPost_ret (v := .tuple #[.agg zeroPost, .int .i64 0]) (results_row2 Try.results28 _ _ (w.heap.size + 1) 55 zeroPost rfl (blk_row HP.out _) Try.underlying55 post_size) rfl ?_
            exact ppost_none HL1.out (by rw [HE1.out]) (below_row hb (by omega))
          · rw [if_pos hpr] at HE
            rw [hpr, if_pos ⟨rfl, rfl, rfl⟩] at HL
            clear hpr
            simp only [Bool.not_true]
            have KCL : Hid (∀ (g : Nat) (W : World), Blk W g 129 #[.int .i64 ro.dividends, .int .i64 (wrap64 (-nn)), .int .i64 ro.retained, .int .i64 nn] → Calls Try.prog 73 #[.slice (some ⟨g, 0, none⟩) 2 2] W (ColPost 129 W.heap.size (ofW (Dv.parts ro.dividends ro.retained nn)) W)) := Lib.hid (fun g W hB => rclean_any (Dv.parts ro.dividends ro.retained nn) (some ⟨g, 0, none⟩) 2 W (Rd.of_blk hB rfl rfl) (by show 2 ≤ 1000000; omega))
            go_upto_region 11 with (first
              | (refine wpList_load_blk 29 (.tmp 12) rfl (W.heap.size) rfl (by kernel_rfl) (HG5).out Try.underlying29 hgi ?_)
              | (go_at_call 31; refine (KR.out _ (HC.out.step hb)).mono ?_; rintro en w6 ⟨rfl, hb9⟩; have hb6 := bel hb hb9; have HG6 := Lib.hid (HG5.out.step hb9); have HP6 := Lib.hid (HP.out.step hb9); have k16 : w6.cell? ⟨W.heap.size, 16, none⟩ = some (.int .i64 ro.dividends) := (HG6.out.cell 16).trans (by rw [HG.out]; rfl); have k11 : w6.cell? ⟨W.heap.size, 11, none⟩ = some (.int .i64 ro.retained) := (HG6.out.cell 11).trans (by rw [HG.out]; rfl); clear hb9)
              | (go_at_call 73; refine (KCL.out _ _ (Blk.new w6 129 _)).mono ?_; rintro en w7 ⟨v, LL, EE, rfl, ho, hb9, halt⟩; obtain ⟨A2, c2, hv, -⟩ := Rd.of_own ho; subst hv; have hb7 := bel (hb6.alloc hb6.size _) hb9; have HP7 := Lib.hid ((HP6.out.alloc _).step hb9); have HO := Lib.hid ho; have hlo : w.heap.size + 1 < w6.heap.size := HP6.out.lt; have HZ := Lib.hid hb9.size; have HALT := Lib.hid halt; clear hb9 ho halt))
            clear k16 k11 HP
            have HP := HP7
            clear HP7
            have HEL := Lib.hid (cln_is HALT.out)
            have HEE : Hid (E = EE) := Lib.hid (by rw [HE.out, HEL.out.2])
            have HLL : Hid (L = LL) := Lib.hid (by rw [HL.out, HEL.out.1])
            have hEE : EE = 0 ∨ EE = 2 := by rcases HALT.out with h | h <;> simp [h.1]
            have hE2 : EE = 2 → LL = [] := fun h => by rcases HALT.out with h2 | h2; exact absurd (h2.1.symm.trans h) (by decide); exact h2.2.1
            replace hb := hb7
            clear hb7
            rcases hEE with rfl | rfl
            · clear hE2
              by_cases hll : LL = []
              · have HL1 : Hid (L = []) := Lib.hid (HLL.out.trans hll)
                have hl0 : ((LL.length : Int) == 0) = true := by simp [hll]
                clear hll
                go_wp2_with (refine wpList_store_row rfl 55 (.tmp 10) (.tmp 91) rfl (w.heap.size + 1) zeroPost rfl rfl 55 zeroPost HP.out post_size rfl (PostR.arr_one noPost) ?_)
                refine bodyPost_ret (v := .tuple #[.agg zeroPost, .int .i64 0]) (results_row2 Try.results28 _ _ (w.heap.size + 1) 55 zeroPost rfl (blk_row HP.out _) Try.underlying55 post_size) rfl ?_
                exact ppost_none HL1.out (by rw [HEE.out]) (below_row hb (by omega))
              · have hl0 : ((LL.length : Int) == 0) = false := by simpa using hll
                have HNE := Lib.hid hll
                clear hll
                go_wp2_with (refine wpList_store_row rfl 55 (.tmp 10) (.tmp 96) rfl (w.heap.size + 1) (PostR.arr ⟨9, i, k, 0, ⟨LL, A2, c2⟩⟩) rfl rfl 55 zeroPost HP.out post_size rfl (PostR.arr_one _) ?_)
                refine bodyPost_ret (v := .tuple #[.agg (PostR.arr ⟨9, i, k, 0, ⟨LL, A2, c2⟩⟩), .int .i64 0]) (results_row2 Try.results28 _ _ (w.heap.size + 1) 55 (PostR.arr ⟨9, i, k, 0, ⟨LL, A2, c2⟩⟩) rfl (blk_row HP.out _) Try.underlying55 post_size) rfl ?_
                exact ⟨⟨9, i, k, 0, ⟨LL, A2, c2⟩⟩, by rw [HEE.out], ⟨HLL.out.symm, rfl, .inr ⟨by rw [HLL.out]; exact HNE.out, rfl, rfl, rfl⟩⟩, own_base (own_row HO.out (by simp; omega) _) (by simp; omega), below_row hb (by omega)⟩
            · have hll := hE2 rfl
              have HL1 : Hid (L = []) := Lib.hid (HLL.out.trans hll)
              clear hll hE2
              go_wp2_with (refine wpList_store_row rfl 55 (.tmp 10) (.tmp 91) rfl (w.heap.size + 1) zeroPost rfl rfl 55 zeroPost HP.out post_size rfl (PostR.arr_one noPost) ?_)
              refine bodyPost_ret (v := .tuple #[.agg zeroPost, .int .i64 2]) (results_row2 Try.results28 _ _ (w.heap.size + 1) 55 zeroPost rfl (blk_row HP.out _) Try.underlying55 post_size) rfl ?_
              exact ppost_none HL1.out (by rw [HEE.out]) (below_row hb (by omega))
  · have hc0 : ck ≠ 0 := by simpa using hx
    have HE1 : Hid (E = ck) := Lib.hid (by rw [HE.out, if_neg hc0])
    have HL1 : Hid (L = []) := Lib.hid (by rw [HL.out, if_neg (fun h => hc0 h.1)])
    clear hc0
    go_wp2_with (refine wpList_store_row rfl 55 (.tmp 10) (.tmp 24) rfl (w.heap.size + 1) zeroPost rfl rfl 55 zeroPost HP.out post_size rfl (PostR.arr_one noPost) ?_)
    refine bodyPost_ret (v := .tuple #[.agg zeroPost, .int .i64 ck]) (results_row2 Try.results28 _ _ (w.heap.size + 1) 55 zeroPost rfl (blk_row HP.out _) Try.underlying55 post_size) rfl ?_
    exact ppost_none HL1.out (by rw [HE1.out]) (below_row hb (by omega))
end
end Go.Proofs.Ytnkmjdaeafeaaaa
