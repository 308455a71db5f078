/- Texts of this claim, put together. -/
import Derived.Test.YtpklnlpeedkmdaaGrpWalksRZ
/- The walks of GroupValid and GroupRoles. -/
namespace Go.Proofs.Ytpklnlpeedkmdaa
set_option linter.unusedVariables false
set_option linter.unusedSimpArgs false
open Go.RowKit

def VPost (V : Bool) (w : World) (e : Ending) (w' : World) : Prop := e = .returned (.bool V) ∧ Below w.heap.size w w'
theorem role_is {R : List RoleR} {k : Nat} (hk : k < R.length) (h : Gr.codeBefore R k = false) : Gr.roleAt R R[k].code = some R[k] := by
  refine Gr.role_hit R _ k hk (fun j hj e => ?_) rfl
  rw [codeBefore_yes hk hj e] at h
  cases h
theorem gv_roles {cur : ByteArray} {cl : List Acc} {ro : RolesR} {el : List EntR} {cal : Bool} (h : Gr.gv cur cl ro el cal = true) : Gr.rolesOk cl (Gr.roles ro) = true := by
  unfold Gr.gv at h
  simp only [Bool.and_eq_true] at h
  exact accsV_roles h.2.2.1
section
variable (cur : ByteArray) (y m p : Int) (cl : List Acc) (cA : Option Addr) (cc : Nat) (ro : RolesR) (el : List EntR) (eA : Option Addr) (ec : Nat) (w : World)
set_option maxRecDepth 100000 in
set_option maxHeartbeats 8000000 in
theorem law_GroupValid (h : GIn w cl cA el eA) (hc : cur.size ≤ maxLen) (hcl : cl.length ≤ maxLen) (hel : el.length ≤ maxLen) :
    Calls Try.prog 6 #[.agg #[.string cur, .int .i64 y, .int .i64 m, .int .i64 p, .slice cA cl.length cc, .int .i64 ro.investment, .int .i64 ro.goodwill, .int .i64 ro.associates, .int .i64 ro.inventory, .int .i64 ro.reserve, .int .i64 ro.minority, .int .i64 ro.retained, .int .i64 ro.acquired, .int .i64 ro.owners, .int .i64 ro.disposal, .int .i64 ro.associateProfit, .int .i64 ro.dividends, .int .i64 ro.minorityProfit, .int .i64 ro.difference, .int .i64 ro.margin, .slice eA el.length ec]] w fun e w' => e = .returned (.bool true) ∧ Below w.heap.size w w' := by
  have H := Lib.hid h
  clear h
  obtain ⟨gcs, hgc⟩ : ∃ x : Array Value, x = #[.string cur, .int .i64 y, .int .i64 m, .int .i64 p, .slice cA cl.length cc, .int .i64 ro.investment, .int .i64 ro.goodwill, .int .i64 ro.associates, .int .i64 ro.inventory, .int .i64 ro.reserve, .int .i64 ro.minority, .int .i64 ro.retained, .int .i64 ro.acquired, .int .i64 ro.owners, .int .i64 ro.disposal, .int .i64 ro.associateProfit, .int .i64 ro.dividends, .int .i64 ro.minorityProfit, .int .i64 ro.difference, .int .i64 ro.margin, .slice eA el.length ec] := ⟨_, rfl⟩
  have hgi : (Try.prog.info? 29).map (·.size) = some gcs.size := by rw [hgc]; exact grp_size
  have HG := Lib.hid hgc
  rw [← hgc]
  clear hgc
  have K0 := Lib.hid (fun W h => HG.out.symm ▸ few_any cur y m p cl cA cc ro el eA ec W h hc hcl hel)
  clear hcl hel
  have hb : Below w.heap.size w (w.alloc (.cells gcs 29)) := (Below.refl _ _).alloc (Nat.le_refl _) _
  have HB := Lib.hid (Blk.new w 29 gcs)
  go_enter Try.func6, Try.ntmps6
  go_wp2_with (first
    | (refine wpList_load_blk 29 (.tmp 1) rfl (w.heap.size) rfl (by kernel_rfl) (HB).out Try.underlying29 hgi ?_)
    | (go_at_call 12; refine (grp_awake _).mono ?_; rintro e w2 ⟨rfl, hb9⟩; replace hb := bel hb hb9; replace HB := Lib.hid (HB.out.step hb9); clear hb9))
  refine (K0.out _ (H.out.step hb)).mono ?_
  rintro e w3 ⟨b, rfl, hb9, hok⟩
  replace hb := bel hb hb9
  replace HB := Lib.hid (HB.out.step hb9)
  clear hb9 K0
  cases b
  · clear hok
    go_wp2_with (go_at_call 12; refine (grp_awake _).mono ?_; rintro e w4 ⟨rfl, hb9⟩; replace hb := bel hb hb9; clear hb9)
    go_ret
    exact ⟨rfl, hb⟩
  · have OK := Lib.hid (hok rfl)
    clear hok
    have K1 := Lib.hid (fun W h => gvalid_any gcs cur y m p cl cA cc ro el eA ec W HG h OK.out)
    have K2 := Lib.hid (fun W h => rgvalid_any gcs cur y m p cl cA cc ro el eA ec W HG h OK.out)
    generalize Gr.gv cur cl ro el (Cal.ok y m p) = V at *
    have hs : (V == V) = true := by simp
    go_wp2_with fail
    refine wp_region_later (by kernel_rfl) (by kernel_rfl) ?_
    (repeat (go_big_quiet_step ((fail)))); refine quiet_load_blk 29 (.tmp 1) rfl (w.heap.size) rfl (by kernel_rfl) (HB).out Try.underlying29 hgi ?_; (try simp only [Act.put, List.setIfInBounds_toArray, List.set_cons_zero, List.set_cons_succ])
    (repeat (go_big_quiet_step ((fail)))); go_big_quiet_step ((go_at_call 29; exact Later.call _ (K1.out _ (H.out.step (bel hb (Later.below _))))))
    (repeat (go_big_quiet_step ((fail)))); refine quiet_load_blk 29 (.tmp 1) rfl (w.heap.size) rfl (by kernel_rfl) (HB).out Try.underlying29 hgi ?_; (try simp only [Act.put, List.setIfInBounds_toArray, List.set_cons_zero, List.set_cons_succ])
    (repeat (go_big_quiet_step ((fail)))); go_big_quiet_step ((go_at_call 19; exact Later.call _ (K2.out _ (H.out.step (bel hb (Later.below _))))))
    (repeat (go_big_quiet_step ((fail)))); refine wpQuiet_nil ?_; rintro _ ⟨dq, rfl⟩
    have hbe := bel hb dq.below
    go_wp2_with fail
    go_ret
    exact ⟨rfl, hbe⟩
set_option maxRecDepth 100000 in
set_option maxHeartbeats 16000000 in
theorem law_GroupRoles (h : GIn w cl cA el eA) (hc : cur.size ≤ maxLen) (hcl : cl.length ≤ maxLen) (hel : el.length ≤ maxLen) :
    Calls Try.prog 4 #[.agg #[.string cur, .int .i64 y, .int .i64 m, .int .i64 p, .slice cA cl.length cc, .int .i64 ro.investment, .int .i64 ro.goodwill, .int .i64 ro.associates, .int .i64 ro.inventory, .int .i64 ro.reserve, .int .i64 ro.minority, .int .i64 ro.retained, .int .i64 ro.acquired, .int .i64 ro.owners, .int .i64 ro.disposal, .int .i64 ro.associateProfit, .int .i64 ro.dividends, .int .i64 ro.minorityProfit, .int .i64 ro.difference, .int .i64 ro.margin, .slice eA el.length ec]] w fun e w' => e = .returned (.bool true) ∧ Below w.heap.size w w' := by
  have H := Lib.hid h
  clear h
  obtain ⟨gcs, hgc⟩ : ∃ x : Array Value, x = #[.string cur, .int .i64 y, .int .i64 m, .int .i64 p, .slice cA cl.length cc, .int .i64 ro.investment, .int .i64 ro.goodwill, .int .i64 ro.associates, .int .i64 ro.inventory, .int .i64 ro.reserve, .int .i64 ro.minority, .int .i64 ro.retained, .int .i64 ro.acquired, .int .i64 ro.owners, .int .i64 ro.disposal, .int .i64 ro.associateProfit, .int .i64 ro.dividends, .int .i64 ro.minorityProfit, .int .i64 ro.difference, .int .i64 ro.margin, .slice eA el.length ec] := ⟨_, rfl⟩
  have hgi : (Try.prog.info? 29).map (·.size) = some gcs.size := by rw [hgc]; exact grp_size
  have HG := Lib.hid hgc
  rw [← hgc]
  clear hgc
  have K0 := Lib.hid (fun W h => HG.out.symm ▸ few_any cur y m p cl cA cc ro el eA ec W h hc hcl hel)
  clear hcl hel
  have hb : Below w.heap.size w (w.alloc (.cells gcs 29)) := (Below.refl _ _).alloc (Nat.le_refl _) _
  have HB := Lib.hid (Blk.new w 29 gcs)
  go_enter Try.func4, Try.ntmps4
  go_wp2_with (first
    | (refine wpList_load_blk 29 (.tmp 1) rfl (w.heap.size) rfl (by kernel_rfl) (HB).out Try.underlying29 hgi ?_)
    | (go_at_call 12; refine (grp_awake _).mono ?_; rintro e w2 ⟨rfl, hb9⟩; replace hb := bel hb hb9; replace HB := Lib.hid (HB.out.step hb9); clear hb9))
  refine (K0.out _ (H.out.step hb)).mono ?_
  rintro e w3 ⟨b, rfl, hb9, hok⟩
  replace hb := bel hb hb9
  replace HB := Lib.hid (HB.out.step hb9)
  clear hb9 K0
  cases b
  · clear hok
    go_wp2_with (go_at_call 12; refine (grp_awake _).mono ?_; rintro e w4 ⟨rfl, hb9⟩; replace hb := bel hb hb9; clear hb9)
    go_ret
    exact ⟨rfl, hb⟩
  · have OK := Lib.hid (hok rfl)
    clear hok
    have hn : cl.length ≤ 100000 := by have := OK.out.ch; omega
    have K2 := Lib.hid (fun W h => rgvalid_any gcs cur y m p cl cA cc ro el eA ec W HG h OK.out)
    have HGV := Lib.hid (gv_roles (cur := cur) (cl := cl) (ro := ro) (el := el) (cal := Cal.ok y m p))
    generalize Gr.gv cur cl ro el (Cal.ok y m p) = V at *
    cases V
    · go_wp2_with (first
        | (refine wpList_load_blk 29 (.tmp 1) rfl (w.heap.size) rfl (by kernel_rfl) (HB).out Try.underlying29 hgi ?_)
        | (go_at_call 19; refine (K2.out _ (H.out.step hb)).mono ?_; rintro e w4 ⟨rfl, hb9⟩; replace hb := bel hb hb9; clear hb9)
        | (go_at_call 12; refine (grp_awake _).mono ?_; rintro e w5 ⟨rfl, hb9⟩; replace hb := bel hb hb9; clear hb9))
      go_ret
      exact ⟨rfl, hb⟩
    · have HR0 := Lib.hid (HGV.out rfl)
      clear HGV
      go_wp2_with (first
        | (refine wpList_load_blk 29 (.tmp 1) rfl (w.heap.size) rfl (by kernel_rfl) (HB).out Try.underlying29 hgi ?_)
        | (go_at_call 19; refine (K2.out _ (H.out.step hb)).mono ?_; rintro e w4 ⟨rfl, hb9⟩; replace hb := bel hb hb9; replace HB := Lib.hid (HB.out.step hb9); clear hb9; have g5 : w4.cell? ⟨w.heap.size, 5, none⟩ = some (.int .i64 ro.investment) := (HB.out.cell 5).trans (by rw [HG.out]; rfl); have g6 : w4.cell? ⟨w.heap.size, 6, none⟩ = some (.int .i64 ro.goodwill) := (HB.out.cell 6).trans (by rw [HG.out]; rfl); have g7 : w4.cell? ⟨w.heap.size, 7, none⟩ = some (.int .i64 ro.associates) := (HB.out.cell 7).trans (by rw [HG.out]; rfl); have g8 : w4.cell? ⟨w.heap.size, 8, none⟩ = some (.int .i64 ro.inventory) := (HB.out.cell 8).trans (by rw [HG.out]; rfl); have g9 : w4.cell? ⟨w.heap.size, 9, none⟩ = some (.int .i64 ro.reserve) := (HB.out.cell 9).trans (by rw [HG.out]; rfl); have g10 : w4.cell? ⟨w.heap.size, 10, none⟩ = some (.int .i64 ro.minority) := (HB.out.cell 10).trans (by rw [HG.out]; rfl); have g11 : w4.cell? ⟨w.heap.size, 11, none⟩ = some (.int .i64 ro.retained) := (HB.out.cell 11).trans (by rw [HG.out]; rfl); have g12 : w4.cell? ⟨w.heap.size, 12, none⟩ = some (.int .i64 ro.acquired) := (HB.out.cell 12).trans (by rw [HG.out]; rfl); have g13 : w4.cell? ⟨w.heap.size, 13, none⟩ = some (.int .i64 ro.owners) := (HB.out.cell 13).trans (by rw [HG.out]; rfl); have g14 : w4.cell? ⟨w.heap.size, 14, none⟩ = some (.int .i64 ro.disposal) := (HB.out.cell 14).trans (by rw [HG.out]; rfl); have g15 : w4.cell? ⟨w.heap.size, 15, none⟩ = some (.int .i64 ro.associateProfit) := (HB.out.cell 15).trans (by rw [HG.out]; rfl); have g16 : w4.cell? ⟨w.heap.size, 16, none⟩ = some (.int .i64 ro.dividends) := (HB.out.cell 16).trans (by rw [HG.out]; rfl); have g17 : w4.cell? ⟨w.heap.size, 17, none⟩ = some (.int .i64 ro.minorityProfit) := (HB.out.cell 17).trans (by rw [HG.out]; rfl); have g18 : w4.cell? ⟨w.heap.size, 18, none⟩ = some (.int .i64 ro.difference) := (HB.out.cell 18).trans (by rw [HG.out]; rfl); have g19 : w4.cell? ⟨w.heap.size, 19, none⟩ = some (.int .i64 ro.margin) := (HB.out.cell 19).trans (by rw [HG.out]; rfl)))
      clear g5 g6 g7 g8 g9 g10 g11 g12 g13 g14 g15 g16 g17 g18 g19 K2
      refine (rroles_any ro w4).mono ?_
      rintro e w5 ⟨A, lc, rfl, hr, hb9⟩
      replace hb := bel hb hb9
      have hlR : (Gr.roles ro).length ≤ 15 := Nat.le_of_eq (Gr.roles_len ro)
      have K3 := Lib.hid (fun W c => role_any gcs cur y m p cl cA cc ro el eA ec W c HG)
      generalize Gr.roles ro = R at *
      have HR := Lib.hid hr
      replace HB := Lib.hid (HB.out.step hb9)
      clear hr hb9
      go_wp2_with fail
      go_loopw [27] (fun t wr => ∃ k : Nat, k ≤ R.length ∧ t = .int .i64 k ∧ Below w5.heap.size w5 wr) (fun t _ => R.length - (intOf t).toNat)
      case atStart => exact ⟨0, by omega, rfl, Below.refl _ _⟩
      case round =>
        obtain ⟨k, hk, rfl, hbr⟩ := hrel
        obtain ⟨wo, rfl⟩ : ∃ wo : World, wo = wr := ⟨_, rfl⟩
        have hbw := bel hb hbr
        by_cases hlt : k < R.length
        · obtain ⟨b, o, hA, hbo, f0, f1, f2, f3, f4⟩ := RoleR.at_ (Rd.now HR.out hbr) hlt
          subst hA
          have hro := allAt_at HR0.out hlt
          have HRN := Lib.hid (role_is hlt (Gr.rolesOk_apart HR0.out k hlt))
          unfold Gr.roleOk at hro
          rw [getD_lt R k default hlt] at hro
          simp only [Bool.and_eq_true, decide_eq_true_eq] at hro
          have HRO := Lib.hid hro
          have HBr := Lib.hid (HB.out.step hbr)
          clear hro
          generalize R[k] = x at *
          obtain ⟨nm, c, kd, bs, mp⟩ := x
          dsimp only at *
          have K4 := Lib.hid (fun W h => account_any gcs cur y m p cl cA cc ro el eA ec W c HG h hn)
          have HN : Hid (Gr.roleN R c = nm) := Lib.hid (by unfold Gr.roleN; rw [HRN.out])
          have HNB : Hid (Gr.roleB R c = true) := Lib.hid (by unfold Gr.roleB; rw [HRN.out]; rfl)
          have K5 := Lib.hid (fun W => K3.out W c)
          unfold AccPost at K4
          unfold RolePost at K5
          rw [HN.out, HNB.out] at K5
          have HFB : Hid (Ch.fnB cl c = true) := Lib.hid HRO.out.1
          rw [HFB.out] at K4
          have HKD : Hid ((Ch.fnV cl c).kind = kd) := Lib.hid HRO.out.2.2.1
          have HBS : Hid ((Ch.fnV cl c).basis = bs) := Lib.hid HRO.out.2.2.2
          generalize Ch.fnV cl c = a at *
          have q1 : ∀ d : Later wo, d.now.cell? ⟨b, o + k * 5 + 1, none⟩ = some (.int .i64 c) := fun d => d.cell hbo f1
          have HF : Hid (∀ W, Below wo.heap.size wo W → W.cell? ⟨b, o + k * 5, none⟩ = some (.string nm) ∧ W.cell? ⟨b, o + k * 5 + 1, none⟩ = some (.int .i64 c) ∧ W.cell? ⟨b, o + k * 5 + 2, none⟩ = some (.int .i64 kd) ∧ W.cell? ⟨b, o + k * 5 + 3, none⟩ = some (.int .i64 bs)) := Lib.hid (fun W h =>
            ⟨(h.cell (p := ⟨b, o + k * 5, none⟩) hbo).trans f0, (h.cell (p := ⟨b, o + k * 5 + 1, none⟩) hbo).trans f1, (h.cell (p := ⟨b, o + k * 5 + 2, none⟩) hbo).trans f2, (h.cell (p := ⟨b, o + k * 5 + 3, none⟩) hbo).trans f3⟩)
          clear f0 f1 f2 f3 f4 HN HNB HRN HRO HFB K3
          go_wp2_with fail
          refine wp_region_later (by kernel_rfl) (by kernel_rfl) ?_
          (repeat (go_big_quiet_step ((fail)))); refine quiet_load_blk 29 (.tmp 1) rfl (w.heap.size) rfl (by kernel_rfl) (HBr).out Try.underlying29 hgi ?_; (try simp only [Act.put, List.setIfInBounds_toArray, List.set_cons_zero, List.set_cons_succ])
          (repeat (go_big_quiet_step ((fail)))); go_big_quiet_step ((go_at_call 21; exact Later.call _ (K5.out _)))
          (repeat (go_big_quiet_step ((fail)))); refine wpQuiet_nil ?_; rintro _ ⟨dq, rfl⟩
          have hb6 := bel hbr dq.below
          have hb6w := bel hbw dq.below
          have HB6 := Lib.hid (HBr.out.step dq.below)
          have HF6 := Lib.hid (fun W h => HF.out W (bel dq.below h))
          clear q1
          generalize dq.now = W6 at *
          clear HF HBr K5
          have q1 : ∀ d : Later W6, d.now.cell? ⟨b, o + k * 5 + 1, none⟩ = some (.int .i64 c) := fun d => (HF6.out _ d.below).2.1
          go_upto_region 8 with fail
          go_cut [7, 8] (fun s6 s7 wx => ∃ g : Nat, s6 = .pointer (some ⟨g, 0, none⟩) ∧ s7 = .bool true ∧ Blk wx g 45 #[.int .i64 a.code, .int .i64 a.kind, .int .i64 a.basis, .int .i64 a.parent] ∧ Below W6.heap.size W6 wx)
          case first =>
            refine rel_begin (n := 13) (W6) (by kernel_rfl) rfl ?_; have hC := Near.drew (W6)
            refine rel_load_blk (i := 0) rfl 29 (.tmp 1) rfl (w.heap.size) rfl (by kernel_rfl) (by kernel_rfl) (by kernel_rfl) rfl (fun _ _ _ _ h => h) hC (HB6).out Try.underlying29 hgi ?_; (try simp only [Act.put, List.setIfInBounds_toArray, List.set_cons_zero, List.set_cons_succ])
            (first | (refine rel_want (i := 1) rfl rfl (by kernel_rfl) (by kernel_rfl) (by kernel_rfl) rfl (fun _ _ _ _ h => h) hC ?_; intro K hK; go_big_quiet_op; go_big_quiet_on) | (refine rel_skip (i := 1) rfl (by kernel_rfl) (by kernel_rfl) (by kernel_rfl) rfl (fun _ _ _ _ h => h) hC ?_; simp only [Act.put, List.setIfInBounds_toArray, List.set_cons_zero, List.set_cons_succ])); (first | (refine rel_want (i := 2) rfl rfl (by kernel_rfl) (by kernel_rfl) (by kernel_rfl) rfl (fun _ _ _ _ h => h) hC ?_; intro K hK; go_big_quiet_op; go_big_quiet_on) | (refine rel_skip (i := 2) rfl (by kernel_rfl) (by kernel_rfl) (by kernel_rfl) rfl (fun _ _ _ _ h => h) hC ?_; simp only [Act.put, List.setIfInBounds_toArray, List.set_cons_zero, List.set_cons_succ])); (first | (refine rel_want (i := 3) rfl rfl (by kernel_rfl) (by kernel_rfl) (by kernel_rfl) rfl (fun _ _ _ _ h => h) hC ?_; intro K hK; go_big_quiet_op; go_big_quiet_on) | (refine rel_skip (i := 3) rfl (by kernel_rfl) (by kernel_rfl) (by kernel_rfl) rfl (fun _ _ _ _ h => h) hC ?_; simp only [Act.put, List.setIfInBounds_toArray, List.set_cons_zero, List.set_cons_succ])); (first | (refine rel_want (i := 4) rfl rfl (by kernel_rfl) (by kernel_rfl) (by kernel_rfl) rfl (fun _ _ _ _ h => h) hC ?_; intro K hK; go_big_quiet_op; go_big_quiet_on) | (refine rel_skip (i := 4) rfl (by kernel_rfl) (by kernel_rfl) (by kernel_rfl) rfl (fun _ _ _ _ h => h) hC ?_; simp only [Act.put, List.setIfInBounds_toArray, List.set_cons_zero, List.set_cons_succ])); (first | (refine rel_want (i := 5) rfl rfl (by kernel_rfl) (by kernel_rfl) (by kernel_rfl) rfl (fun _ _ _ _ h => h) hC ?_; intro K hK; go_big_quiet_op; go_big_quiet_on) | (refine rel_skip (i := 5) rfl (by kernel_rfl) (by kernel_rfl) (by kernel_rfl) rfl (fun _ _ _ _ h => h) hC ?_; simp only [Act.put, List.setIfInBounds_toArray, List.set_cons_zero, List.set_cons_succ]))
            refine rel_calls (is := [6, 10]) (by kernel_rfl) (by simp) ?_
            intro j hj
            simp only [List.mem_cons, List.not_mem_nil, or_false] at hj
            rcases hj with rfl | rfl
            · refine ⟨_, rfl, rfl, ?_⟩
              intro K hK
              go_simp
              go_at_call 22
              refine (K4.out _ (H.out.step (bel hb6w hC.below))).mono ?_
              rintro e w5 ⟨rfl, hb5⟩
              (try go_wp2_with fail)
              replace hC := hC.on hb5
              refine hK _ _ hC (fun _ => ?_)
              clear hK K
              (try simp only [Act.put, List.setIfInBounds_toArray, List.set_cons_zero, List.set_cons_succ])
              (first | (refine rel_want (i := 7) rfl rfl (by kernel_rfl) (by kernel_rfl) (by kernel_rfl) rfl (fun _ _ _ _ h => h) hC ?_; intro K hK; go_big_quiet_op; go_big_quiet_on) | (refine rel_skip (i := 7) rfl (by kernel_rfl) (by kernel_rfl) (by kernel_rfl) rfl (fun _ _ _ _ h => h) hC ?_; simp only [Act.put, List.setIfInBounds_toArray, List.set_cons_zero, List.set_cons_succ])); (first | (refine rel_want (i := 8) rfl rfl (by kernel_rfl) (by kernel_rfl) (by kernel_rfl) rfl (fun _ _ _ _ h => h) hC ?_; intro K hK; go_big_quiet_op; go_big_quiet_on) | (refine rel_skip (i := 8) rfl (by kernel_rfl) (by kernel_rfl) (by kernel_rfl) rfl (fun _ _ _ _ h => h) hC ?_; simp only [Act.put, List.setIfInBounds_toArray, List.set_cons_zero, List.set_cons_succ])); (first | (refine rel_want (i := 9) rfl rfl (by kernel_rfl) (by kernel_rfl) (by kernel_rfl) rfl (fun _ _ _ _ h => h) hC ?_; intro K hK; go_big_quiet_op; go_big_quiet_on) | (refine rel_skip (i := 9) rfl (by kernel_rfl) (by kernel_rfl) (by kernel_rfl) rfl (fun _ _ _ _ h => h) hC ?_; simp only [Act.put, List.setIfInBounds_toArray, List.set_cons_zero, List.set_cons_succ]))
              have hC5 := hC.below
              refine rel_call (i := 10) (by kernel_rfl) rfl rfl ?_; intro K hK; go_simp; have hC2 := hC.below; refine hK _ _ (Near.of (by repeat (first | exact hC2 | refine Below.alloc ?_ (by have hbs := hC2.size; first | omega | (simp; done) | (simp at hbs ⊢; omega)) _ | refine Below.drew ?_ | refine below_drewN_ ?_ _))) ?_; clear hK K hC hC2; intro hC; (try simp only [Act.put, List.setIfInBounds_toArray, List.set_cons_zero, List.set_cons_succ])
              refine rel_call (i := 11) (by kernel_rfl) rfl rfl ?_
              intro K hK
              go_simp
              refine hK _ _ (Near.of (hC5.alloc hC5.size _)) ?_
              clear hK K hC
              intro hC
              (try simp only [Act.put, List.setIfInBounds_toArray, List.set_cons_zero, List.set_cons_succ])
              (first | (refine rel_want (i := 12) rfl rfl (by kernel_rfl) (by kernel_rfl) (by kernel_rfl) rfl (fun _ _ _ _ h => h) hC ?_; intro K hK; go_big_quiet_op; go_big_quiet_on) | (refine rel_skip (i := 12) rfl (by kernel_rfl) (by kernel_rfl) (by kernel_rfl) rfl (fun _ _ _ _ h => h) hC ?_; simp only [Act.put, List.setIfInBounds_toArray, List.set_cons_zero, List.set_cons_succ]))
              refine wpAnyH_done (by kernel_rfl) ?_ _
              go_wp2_with fail
              go_meet
              exact ⟨w5.heap.size, rfl, rfl, Blk.new w5 _ _, hC5.alloc hC5.size _⟩
            · refine ⟨_, rfl, rfl, ?_⟩
              intro K hK
              go_simp
              have hC4 : Below (W6).heap.size (W6) ((W6).alloc (.cells #[.int .i64 0, .int .i64 0, .int .i64 0, .int .i64 0] 45)).drew := ((Below.refl _ _).alloc (Nat.le_refl _) _).drew
              have hX := (Blk.new (W6) 45 #[.int .i64 0, .int .i64 0, .int .i64 0, .int .i64 0]).drew
              refine hK _ _ (Near.of hC4) (fun hC => ?_)
              clear hK K
              generalize ((W6).alloc (.cells #[.int .i64 0, .int .i64 0, .int .i64 0, .int .i64 0] 45)).drew = w4 at *
              (try simp only [Act.put, List.setIfInBounds_toArray, List.set_cons_zero, List.set_cons_succ])
              refine rel_call (i := 6) (by kernel_rfl) rfl rfl ?_
              intro K hK
              go_simp
              go_at_call 22
              refine (K4.out _ (H.out.step (bel hb6w hC.below))).mono ?_
              rintro e w5 ⟨rfl, hb5⟩
              (try go_wp2_with fail)
              replace hC := hC.on hb5
              replace hX := hX.step hb5
              refine hK _ _ hC (fun _ => ?_)
              clear hK K
              (try simp only [Act.put, List.setIfInBounds_toArray, List.set_cons_zero, List.set_cons_succ])
              (first | (refine rel_want (i := 7) rfl rfl (by kernel_rfl) (by kernel_rfl) (by kernel_rfl) rfl (fun _ _ _ _ h => h) hC ?_; intro K hK; go_big_quiet_op; go_big_quiet_on) | (refine rel_skip (i := 7) rfl (by kernel_rfl) (by kernel_rfl) (by kernel_rfl) rfl (fun _ _ _ _ h => h) hC ?_; simp only [Act.put, List.setIfInBounds_toArray, List.set_cons_zero, List.set_cons_succ])); (first | (refine rel_want (i := 8) rfl rfl (by kernel_rfl) (by kernel_rfl) (by kernel_rfl) rfl (fun _ _ _ _ h => h) hC ?_; intro K hK; go_big_quiet_op; go_big_quiet_on) | (refine rel_skip (i := 8) rfl (by kernel_rfl) (by kernel_rfl) (by kernel_rfl) rfl (fun _ _ _ _ h => h) hC ?_; simp only [Act.put, List.setIfInBounds_toArray, List.set_cons_zero, List.set_cons_succ])); (first | (refine rel_want (i := 9) rfl rfl (by kernel_rfl) (by kernel_rfl) (by kernel_rfl) rfl (fun _ _ _ _ h => h) hC ?_; intro K hK; go_big_quiet_op; go_big_quiet_on) | (refine rel_skip (i := 9) rfl (by kernel_rfl) (by kernel_rfl) (by kernel_rfl) rfl (fun _ _ _ _ h => h) hC ?_; simp only [Act.put, List.setIfInBounds_toArray, List.set_cons_zero, List.set_cons_succ]))
              refine rel_call (i := 11) (by kernel_rfl) rfl rfl ?_
              intro K hK
              have g0 : w5.cell? ⟨(W6).heap.size, 0, none⟩ = some (.int .i64 0) := hX.cell 0
              have g1 : w5.cell? ⟨(W6).heap.size, 1, none⟩ = some (.int .i64 0) := hX.cell 1
              have g2 : w5.cell? ⟨(W6).heap.size, 2, none⟩ = some (.int .i64 0) := hX.cell 2
              have g3 : w5.cell? ⟨(W6).heap.size, 3, none⟩ = some (.int .i64 0) := hX.cell 3
              have h0 : w5.frozen? ⟨(W6).heap.size, 0, none⟩ = false := hX.frozen 0
              have h1 : w5.frozen? ⟨(W6).heap.size, 1, none⟩ = false := hX.frozen 1
              have h2 : w5.frozen? ⟨(W6).heap.size, 2, none⟩ = false := hX.frozen 2
              have h3 : w5.frozen? ⟨(W6).heap.size, 3, none⟩ = false := hX.frozen 3
              go_simp
              have hZ : Below (W6).heap.size (W6) ((((w5.setCell ⟨(W6).heap.size, 0, none⟩ (.int .i64 a.code)).setCell ⟨(W6).heap.size, 1, none⟩ (.int .i64 a.kind)).setCell ⟨(W6).heap.size, 2, none⟩ (.int .i64 a.basis)).setCell ⟨(W6).heap.size, 3, none⟩ (.int .i64 a.parent)) :=
                (((hC.below.setCell (by simp) _).setCell (by simp) _).setCell (by simp) _).setCell (by simp) _
              have hY := (((hX.set_ 0 (.int .i64 a.code)).set_ 1 (.int .i64 a.kind)).set_ 2 (.int .i64 a.basis)).set_ 3 (.int .i64 a.parent)
              refine hK _ _ (Near.of hZ) ?_
              clear hC
              intro hC
              clear hK K g0 g1 g2 g3 h0 h1 h2 h3
              generalize ((((w5.setCell ⟨(W6).heap.size, 0, none⟩ (.int .i64 a.code)).setCell ⟨(W6).heap.size, 1, none⟩ (.int .i64 a.kind)).setCell ⟨(W6).heap.size, 2, none⟩ (.int .i64 a.basis)).setCell ⟨(W6).heap.size, 3, none⟩ (.int .i64 a.parent)) = w6 at *
              (try simp only [Act.put, List.setIfInBounds_toArray, List.set_cons_zero, List.set_cons_succ])
              (first | (refine rel_want (i := 12) rfl rfl (by kernel_rfl) (by kernel_rfl) (by kernel_rfl) rfl (fun _ _ _ _ h => h) hC ?_; intro K hK; go_big_quiet_op; go_big_quiet_on) | (refine rel_skip (i := 12) rfl (by kernel_rfl) (by kernel_rfl) (by kernel_rfl) rfl (fun _ _ _ _ h => h) hC ?_; simp only [Act.put, List.setIfInBounds_toArray, List.set_cons_zero, List.set_cons_succ]))
              refine wpAnyH_done (by kernel_rfl) ?_ _
              go_wp2_with fail
              go_meet
              exact ⟨(W6).heap.size, rfl, rfl, hY, hZ⟩
          case rest =>
            obtain ⟨g, rfl, rfl, hAc, hb9⟩ := hcut
            have hbx := bel hb6 hb9
            have p1 : ∀ d : Later wc, d.now.cell? ⟨g, 1, none⟩ = some (.int .i64 a.kind) := fun d => d.cell hAc.lt (hAc.cell 1)
            have p2 : ∀ d : Later wc, d.now.cell? ⟨g, 2, none⟩ = some (.int .i64 a.basis) := fun d => d.cell hAc.lt (hAc.cell 2)
            have r0 : ∀ d : Later wc, d.now.cell? ⟨b, o + k * 5, none⟩ = some (.string nm) := fun d => (HF6.out _ (bel hb9 d.below)).1
            have r2 : ∀ d : Later wc, d.now.cell? ⟨b, o + k * 5 + 2, none⟩ = some (.int .i64 kd) := fun d => (HF6.out _ (bel hb9 d.below)).2.2.1
            have r3 : ∀ d : Later wc, d.now.cell? ⟨b, o + k * 5 + 3, none⟩ = some (.int .i64 bs) := fun d => (HF6.out _ (bel hb9 d.below)).2.2.2
            have t1 : (nm.toList == nm.toList) = true := by simp
            have t2 : (a.kind != kd) = false := by rw [HKD.out]; simp
            have t3 : (a.basis != bs) = false := by rw [HBS.out]; simp
            clear q1 HF6 K4 hAc
            go_wp2_with fail
            refine wp_region_later (by kernel_rfl) (by kernel_rfl) ?_; (repeat (go_big_quiet_step ((fail)))); refine wpQuiet_nil ?_; rintro _ ⟨dq, rfl⟩
            have hbe := bel hbx dq.below
            go_wp2_with fail
            go_roundw
            case rel => exact ⟨k + 1, by omega, by go_num, hbe⟩
            case measure => simp [intOf]; omega
        · go_wp2_with fail
          go_ret
          exact ⟨rfl, hbw⟩
end
end Go.Proofs.Ytpklnlpeedkmdaa
