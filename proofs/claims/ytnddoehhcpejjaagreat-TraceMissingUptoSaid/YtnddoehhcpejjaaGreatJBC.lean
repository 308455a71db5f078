/- Texts of this claim, put together. -/
import Derived.Test.YtnddoehhcpejjaaGreatJBA
import Derived.Test.YtnddoehhcpejjaaGreatJBI
import Derived.Test.YtnddoehhcpejjaaGreatJBB
/- The walks of posting.Total and of the reference's Parts. -/
namespace Go.Proofs.YtnddoehhcpejjaaGreat
set_option linter.unusedVariables false
set_option linter.unusedSimpArgs false
open Go.RowKit

set_option maxRecDepth 100000 in
set_option maxHeartbeats 4000000 in
theorem total_any (I : List ItemR) (AI : Option Addr) (cI : Nat) (P : List PostR) (AP : Option Addr) (cP : Nat) (w : World)
    (hI : Rd w w.heap.size 7 AI I.length (cellsOf ItemR.cells I)) (hP : Rd w w.heap.size 5 AP P.length (cellsOf PostR.cells P)) (hPP : ∀ p ∈ P, p.Ok w) (hW : ∀ x ∈ allB I P, Wf x.account)
    (hn : (allB I P).length ≤ 1000000) (hnI : I.length ≤ 1000000) (hnP : P.length ≤ 1000000) :
    Calls Tryz.prog 21 #[.slice AI I.length cI, .slice AP P.length cP] w (ColPost 61 w.heap.size (ofW (allB I P)) w) := by
  have hb := Below.refl w.heap.size w
  have HI := Lib.hid hI
  have HP := Lib.hid hP
  have HPP := Lib.hid hPP
  have HW := Lib.hid hW
  have HN := Lib.hid hn
  have hmm := @run_makeMap Tryz.prog
  clear hI hP hPP hW hn
  go_enter Tryz.func21, Tryz.ntmps21
  go_wp2_with fail
  go_loopw [16] (fun t wr => ∃ k : Nat, k ≤ I.length ∧ t = .int .i64 k ∧ SumW Tryz.prog 3 3 wr w.heap.size k (ofW (itBals (I.take k))) ∧ Below w.heap.size w wr) (fun t _ => I.length - (intOf t).toNat)
  case atStart => exact ⟨0, by omega, rfl, SumW.made w, (by repeat (first | exact hb | refine Below.alloc ?_ (by have hbs := hb.size; first | omega | (simp; done) | (simp; omega)) _ | refine Below.drew ?_ | refine below_drewN_ ?_ _ | refine Below.setCell ?_ (by simp) _))⟩
  case round =>
    clear hb
    obtain ⟨k, hk, rfl, hS, hb⟩ := hrel
    have hz := hb.size
    by_cases hlt : k < I.length
    · obtain ⟨x, o, hA, hbo, f0, f1, f2, f3, f4, f5, f6⟩ := ItemR.at_ (HI.out.below hb (Nat.le_refl _)) hlt
      subst hA
      have hc : (Lit.int .i64 I[k].account).wf = true := HW.out (itBal I[k]) (List.mem_append_left _ (List.mem_map.2 ⟨_, List.getElem_mem hlt, rfl⟩))
      have hy := wrap64_wf (ofW (itBals (I.take k)) I[k].account + I[k].amount)
      have hLL := (hS.alloc (.cells #[.int .i64 I[k].ref.entry, .int .i64 I[k].ref.line, .int .i64 I[k].entity, .int .i64 I[k].account, .int .i64 I[k].partner, .int .i64 I[k].date, .int .i64 I[k].amount] 55)).look (t := 99) Tryz.underlying3 Tryz.underlying3 Tryz.underlying99 (zero_int _) hc
      have HX := Lib.hid ((ofW_snoc (itBals (I.take k)) (itBal I[k])).trans (congrArg ofW (itBals_take I k hlt).symm))
      go_wp2_with (at_mapUpdate; refine wpList_sum_put rfl _ _ _ 99 rfl Tryz.underlying3 Tryz.underlying3 Tryz.underlying99 (hS.alloc _) (by unfold maxLen; omega) _ _ hc hy rfl rfl rfl ?_; intro w4 hS4 hg4)
      replace hS4 : SumW Tryz.prog 3 3 w4 w.heap.size (k + 1) (ofW (itBals (I.take (k + 1)))) := HX.out ▸ hS4
      have hb4 : Below w.heap.size w w4 := Below.grown (hb.alloc hz _) hg4 (by simp; omega) (fun k hk => by injection hk with hk; omega)
      clear hg4 hS hLL
      go_wp2_with fail
      go_roundw
      case rel => exact ⟨k + 1, by omega, by go_num, hS4, hb4⟩
      case measure => simp [intOf]; omega
    · have HE : Hid (I.take k = I) := Lib.hid (List.take_of_length_le (by omega))
      rw [HE.out] at hS
      replace hS : SumW Tryz.prog 3 3 wr w.heap.size k (ofW (itBals I ++ poBals (P.take 0))) := by simpa [poBals] using hS
      go_wp2_with fail
      go_loopw [30] (fun t wr => ∃ k n : Nat, k ≤ P.length ∧ t = .int .i64 k ∧ n = (itBals I ++ poBals (P.take k)).length ∧ SumW Tryz.prog 3 3 wr w.heap.size n (ofW (itBals I ++ poBals (P.take k))) ∧ Below w.heap.size w wr) (fun t _ => P.length - (intOf t).toNat)
      case atStart => exact ⟨0, k, by omega, rfl, by simp [poBals, itBals_len]; omega, hS, hb⟩
      case round =>
        clear hb hS
        obtain ⟨wo, rfl⟩ : ∃ wo : World, wo = wr := ⟨_, rfl⟩
        obtain ⟨k, n, hk, rfl, hnn, hS, hb⟩ := hrel
        have hz := hb.size
        by_cases hlt : k < P.length
        · obtain ⟨x, o, hA, hbo, f0, f1, f2, f3, f4⟩ := PostR.at_ (HP.out.below hb (Nat.le_refl _)) hlt
          subst hA
          have HT := Lib.hid (poBals_take P k hlt)
          obtain ⟨T, hT⟩ : ∃ T, T = itBals I ++ poBals (P.take k) := ⟨_, rfl⟩
          rw [← hT] at hnn hS
          have HTT := Lib.hid hT
          clear hT
          have HL := Lib.hid (poBals_len P k hlt)
          have HM : Hid (∀ x ∈ P[k].parts.l, Wf x.account) := Lib.hid fun x hx => HW.out x (List.mem_append_right _ (po_mem hlt hx))
          have HQ := Lib.hid (HPP.out _ (List.getElem_mem hlt)).2.2.2.2.1.1
          generalize P[k] = p at *
          obtain ⟨p1, p2, p3, p4, ⟨q, A, cap⟩⟩ := p
          dsimp only [Sl.val] at *
          have hb1 : Below w.heap.size w (wo.alloc (.cells #[.int .i64 p1, .int .i64 p2, .int .i64 p3, .int .i64 p4, .slice A q.length cap] 60)) := hb.alloc hz _
          have hS1 := hS.alloc (.cells #[.int .i64 p1, .int .i64 p2, .int .i64 p3, .int .i64 p4, .slice A q.length cap] 60)
          have hql : T.length + q.length ≤ 1000000 := by have h1 := HL.out; have h2 := HN.out; unfold allB at h2; rw [HTT.out]; rw [List.length_append] at h2 ⊢; omega
          go_wp2_with fail
          go_loopw [37] (fun t wr => ∃ j : Nat, j ≤ q.length ∧ t = .int .i64 j ∧ SumW Tryz.prog 3 3 wr w.heap.size (n + j) (ofW (T ++ q.take j)) ∧ Below w.heap.size w wr) (fun t _ => q.length - (intOf t).toNat)
          case atStart => exact ⟨0, by omega, rfl, by simpa using hS1, hb1⟩
          case round =>
            clear hb1 hS1 hS hb
            obtain ⟨j, hj, rfl, hS, hb⟩ := hrel
            have hz := hb.size
            by_cases hjl : j < q.length
            · obtain ⟨x, o, hA, hbo, f0, f1⟩ := Bal.at_ (HQ.out.below hb (Nat.le_refl _)) hjl
              subst hA
              have hc : (Lit.int .i64 q[j].account).wf = true := HM.out _ (List.getElem_mem hjl)
              have hy := wrap64_wf (ofW (T ++ q.take j) q[j].account + q[j].amount)
              have hLL := (hS.alloc (.cells #[.int .i64 q[j].account, .int .i64 q[j].amount] 57)).look (t := 99) Tryz.underlying3 Tryz.underlying3 Tryz.underlying99 (zero_int _) hc
              have HX := Lib.hid ((ofW_snoc (T ++ q.take j) q[j]).trans (congrArg ofW (show _ = T ++ q.take (j + 1) by rw [take_snoc' q j hjl, List.append_assoc])))
              go_wp2_with (at_mapUpdate; (refine wpList_sum_put rfl _ _ _ 99 rfl Tryz.underlying3 Tryz.underlying3 Tryz.underlying99 (hS.alloc _) (by unfold maxLen; omega) _ _ hc hy rfl rfl rfl ?_; intro w4 hS4 hg4))
              rw [HX.out] at hS4
              have hb4 : Below w.heap.size w w4 := Below.grown (hb.alloc hz _) hg4 (by simp; omega) (fun k hk => by injection hk with hk; omega)
              clear hg4 hS hLL
              go_wp2_with fail
              go_roundw
              case rel => exact ⟨j + 1, by omega, by go_num, hS4, hb4⟩
              case measure => simp [intOf]; omega
            · have HE : Hid (q.take j = q) := Lib.hid (List.take_of_length_le (by omega))
              rw [HE.out, HTT.out, List.append_assoc, ← HT.out] at hS
              go_wp2_with fail
              go_roundw
              case rel => exact ⟨k + 1, n + j, by omega, by go_num, by rw [HT.out, ← List.append_assoc, ← HTT.out, List.length_append, hnn]; have := congrArg List.length HE.out; simp at this; omega, hS, hb⟩
              case measure => simp [intOf]; omega
        · have HE : Hid (P.take k = P) := Lib.hid (List.take_of_length_le (by omega))
          rw [HE.out] at hS hnn
          have hN := HN.out
          unfold allB at hN
          go_wp2_with (go_at_call 36; refine (colb_any w.heap.size n (ofW (itBals I ++ poBals P)) wo hS (by omega)).mono ?_; rintro e w5 ⟨v5, L, E, rfl, ho5, hb5, hc5⟩)
          go_ret2
          exact ⟨v5, L, E, rfl, own_base ho5 hb.size, bel hb hb5, hc5⟩
end Go.Proofs.YtnddoehhcpejjaaGreat
/- The walks of the reference's Parts, Total, SameTotals. -/
namespace Go.Proofs.YtnddoehhcpejjaaGreat
set_option linter.unusedVariables false
set_option linter.unusedSimpArgs false
open Go.RowKit

set_option maxRecDepth 100000 in
set_option maxHeartbeats 4000000 in
theorem rparts_any (I : List ItemR) (AI : Option Addr) (cI : Nat) (P : List PostR) (AP : Option Addr) (cP : Nat) (w : World)
    (hI : Rd w w.heap.size 7 AI I.length (cellsOf ItemR.cells I)) (hP : Rd w w.heap.size 5 AP P.length (cellsOf PostR.cells P)) (hPP : ∀ p ∈ P, p.Ok w)
    (hn : (allB I P).length ≤ 1000000) (hnI : I.length ≤ 1000000) (hnP : P.length ≤ 1000000) :
    Calls Tryz.prog 15 #[.slice AI I.length cI, .slice AP P.length cP] w (OwnParts w.heap.size (allB I P) w) := by
  have hb := Below.refl w.heap.size w
  have HI := Lib.hid hI
  have HP := Lib.hid hP
  have HPP := Lib.hid hPP
  have HN := Lib.hid hn
  obtain ⟨i0, hi, hz0, hz1, hz2⟩ := info_parts colp_info
  clear hI hP hPP hn
  go_enter Tryz.func15, Tryz.ntmps15
  go_wp2_with fail
  go_loopw [5, 6] (fun v t wr => ∃ k : Nat, k ≤ I.length ∧ t = .int .i64 k ∧ wr.ownsRow w.heap.size 57 2 v (itBals (I.take k)).length (cellsOf Bal.cells (itBals (I.take k))) ∧ Below w.heap.size w wr) (fun _ t _ => I.length - (intOf t).toNat)
  case atStart => exact ⟨0, by omega, rfl, World.ownsRow_nil _ _ _ _, hb⟩
  case round =>
    clear hb
    obtain ⟨k, hk, rfl, ho, hb⟩ := hrel
    have hz := hb.size
    by_cases hlt : k < I.length
    · obtain ⟨x, o, hA, hbo, f0, f1, f2, f3, f4, f5, f6⟩ := ItemR.at_ HI.out hlt
      subst hA
      have q0 : ∀ d : Later w, d.now.cell? ⟨x, o + k * 7 + 3, none⟩ = some (.int .i64 I[k].account) := fun d => d.cell hbo f3
      have q1 : ∀ d : Later w, d.now.cell? ⟨x, o + k * 7 + 6, none⟩ = some (.int .i64 I[k].amount) := fun d => d.cell hbo f6
      have HX := Lib.hid (itBals_take I k hlt)
      have hln : (itBals (I.take k)).length ≤ 1000000 := by rw [itBals_len, List.length_take]; omega
      clear f0 f1 f2 f3 f4 f5 f6
      go_wp2_with fail
      refine rel_begin (n := 15) (w) (by kernel_rfl) rfl ?_; have hC := Near.of (hb.drew)
      (first | (refine rel_want (i := 0) rfl rfl (by kernel_rfl) (by kernel_rfl) (by kernel_rfl) rfl (fun _ _ _ _ h => h) hC ?_; intro K hK; go_big_quiet_op; go_big_quiet_on) | (refine rel_skip (i := 0) rfl (by kernel_rfl) (by kernel_rfl) (by kernel_rfl) rfl (fun _ _ _ _ h => h) hC ?_; simp only [Act.put, List.setIfInBounds_toArray, List.set_cons_zero, List.set_cons_succ])); (first | (refine rel_want (i := 1) rfl rfl (by kernel_rfl) (by kernel_rfl) (by kernel_rfl) rfl (fun _ _ _ _ h => h) hC ?_; intro K hK; go_big_quiet_op; go_big_quiet_on) | (refine rel_skip (i := 1) rfl (by kernel_rfl) (by kernel_rfl) (by kernel_rfl) rfl (fun _ _ _ _ h => h) hC ?_; simp only [Act.put, List.setIfInBounds_toArray, List.set_cons_zero, List.set_cons_succ])); (first | (refine rel_want (i := 2) rfl rfl (by kernel_rfl) (by kernel_rfl) (by kernel_rfl) rfl (fun _ _ _ _ h => h) hC ?_; intro K hK; go_big_quiet_op; go_big_quiet_on) | (refine rel_skip (i := 2) rfl (by kernel_rfl) (by kernel_rfl) (by kernel_rfl) rfl (fun _ _ _ _ h => h) hC ?_; simp only [Act.put, List.setIfInBounds_toArray, List.set_cons_zero, List.set_cons_succ])); (first | (refine rel_want (i := 3) rfl rfl (by kernel_rfl) (by kernel_rfl) (by kernel_rfl) rfl (fun _ _ _ _ h => h) hC ?_; intro K hK; go_big_quiet_op; go_big_quiet_on) | (refine rel_skip (i := 3) rfl (by kernel_rfl) (by kernel_rfl) (by kernel_rfl) rfl (fun _ _ _ _ h => h) hC ?_; simp only [Act.put, List.setIfInBounds_toArray, List.set_cons_zero, List.set_cons_succ])); (first | (refine rel_want (i := 4) rfl rfl (by kernel_rfl) (by kernel_rfl) (by kernel_rfl) rfl (fun _ _ _ _ h => h) hC ?_; intro K hK; go_big_quiet_op; go_big_quiet_on) | (refine rel_skip (i := 4) rfl (by kernel_rfl) (by kernel_rfl) (by kernel_rfl) rfl (fun _ _ _ _ h => h) hC ?_; simp only [Act.put, List.setIfInBounds_toArray, List.set_cons_zero, List.set_cons_succ])); (first | (refine rel_want (i := 5) rfl rfl (by kernel_rfl) (by kernel_rfl) (by kernel_rfl) rfl (fun _ _ _ _ h => h) hC ?_; intro K hK; go_big_quiet_op; go_big_quiet_on) | (refine rel_skip (i := 5) rfl (by kernel_rfl) (by kernel_rfl) (by kernel_rfl) rfl (fun _ _ _ _ h => h) hC ?_; simp only [Act.put, List.setIfInBounds_toArray, List.set_cons_zero, List.set_cons_succ])); (first | (refine rel_want (i := 6) rfl rfl (by kernel_rfl) (by kernel_rfl) (by kernel_rfl) rfl (fun _ _ _ _ h => h) hC ?_; intro K hK; go_big_quiet_op; go_big_quiet_on) | (refine rel_skip (i := 6) rfl (by kernel_rfl) (by kernel_rfl) (by kernel_rfl) rfl (fun _ _ _ _ h => h) hC ?_; simp only [Act.put, List.setIfInBounds_toArray, List.set_cons_zero, List.set_cons_succ])); (first | (refine rel_want (i := 7) rfl rfl (by kernel_rfl) (by kernel_rfl) (by kernel_rfl) rfl (fun _ _ _ _ h => h) hC ?_; intro K hK; go_big_quiet_op; go_big_quiet_on) | (refine rel_skip (i := 7) rfl (by kernel_rfl) (by kernel_rfl) (by kernel_rfl) rfl (fun _ _ _ _ h => h) hC ?_; simp only [Act.put, List.setIfInBounds_toArray, List.set_cons_zero, List.set_cons_succ])); (first | (refine rel_want (i := 8) rfl rfl (by kernel_rfl) (by kernel_rfl) (by kernel_rfl) rfl (fun _ _ _ _ h => h) hC ?_; intro K hK; go_big_quiet_op; go_big_quiet_on) | (refine rel_skip (i := 8) rfl (by kernel_rfl) (by kernel_rfl) (by kernel_rfl) rfl (fun _ _ _ _ h => h) hC ?_; simp only [Act.put, List.setIfInBounds_toArray, List.set_cons_zero, List.set_cons_succ])); (first | (refine rel_want (i := 9) rfl rfl (by kernel_rfl) (by kernel_rfl) (by kernel_rfl) rfl (fun _ _ _ _ h => h) hC ?_; intro K hK; go_big_quiet_op; go_big_quiet_on) | (refine rel_skip (i := 9) rfl (by kernel_rfl) (by kernel_rfl) (by kernel_rfl) rfl (fun _ _ _ _ h => h) hC ?_; simp only [Act.put, List.setIfInBounds_toArray, List.set_cons_zero, List.set_cons_succ])); (first | (refine rel_want (i := 10) rfl rfl (by kernel_rfl) (by kernel_rfl) (by kernel_rfl) rfl (fun _ _ _ _ h => h) hC ?_; intro K hK; go_big_quiet_op; go_big_quiet_on) | (refine rel_skip (i := 10) rfl (by kernel_rfl) (by kernel_rfl) (by kernel_rfl) rfl (fun _ _ _ _ h => h) hC ?_; simp only [Act.put, List.setIfInBounds_toArray, List.set_cons_zero, List.set_cons_succ]))
      refine rel_call (i := 11) (by kernel_rfl) rfl rfl ?_; intro K hK; go_simp; have hC2 := hC.below; refine hK _ _ (Near.of (by repeat (first | exact hC2 | refine Below.alloc ?_ (by have hbs := hC2.size; first | omega | (simp; done) | (simp at hbs ⊢; omega)) _ | refine Below.drew ?_ | refine below_drewN_ ?_ _))) ?_; clear hK K hC hC2; intro hC; (try simp only [Act.put, List.setIfInBounds_toArray, List.set_cons_zero, List.set_cons_succ])
      refine rel_call (i := 12) (by kernel_rfl) rfl rfl ?_; intro K hK; go_simp; have hC2 := hC.below; refine hK _ _ (Near.of (by repeat (first | exact hC2 | refine Below.alloc ?_ (by have hbs := hC2.size; first | omega | (simp; done) | (simp at hbs ⊢; omega)) _ | refine Below.drew ?_ | refine below_drewN_ ?_ _))) ?_; clear hK K hC hC2; intro hC; (try simp only [Act.put, List.setIfInBounds_toArray, List.set_cons_zero, List.set_cons_succ])
      refine rel_call (i := 13) (by kernel_rfl) rfl rfl ?_
      intro K hK
      refine wp_append_rec _ Bal.cells 2 (fun _ => rfl) Bal.one (.tmp 14) (.tmp 26) 58 rfl w.heap.size 57 i0 (.agg #[.int .i64 0, .int .i64 0]) 16 Tryz.underlying58 hi hz0 hz1 hz2 rfl (by decide) _ (itBals (I.take k)) rfl (ho.alloc (.cells #[.int .i64 I[k].account, .int .i64 I[k].amount] 57)) wr.heap.size 1 (itBal I[k]) _ rfl (Blk.new wr _ _) rfl ?c3 ?c4 ?c5 ?_
      case c3 => simp only [maxLen]; omega
      case c4 => omega
      case c5 => simp; omega
      intro v4 w4 ho4 hg4
      have hb4 : Below w.heap.size w w4 := bel_own (w1 := (wr.alloc (.cells #[.int .i64 I[k].account, .int .i64 I[k].amount] 57)).drew) (hb.alloc hz _).drew (by show _ ≤ (wr.alloc _).heap.size; simp; omega) (show World.ownsRow ((wr.alloc (.cells #[.int .i64 I[k].account, .int .i64 I[k].amount] 57)).drew) w.heap.size 57 2 u5 (itBals (I.take k)).length (cellsOf Bal.cells (itBals (I.take k))) from ho.alloc _) hg4
      refine hK _ _ (Near.of hb4) ?_
      clear hK K hC
      intro hC
      clear hg4
      (try simp only [Act.put, List.setIfInBounds_toArray, List.set_cons_zero, List.set_cons_succ])
      (first | (refine rel_want (i := 14) rfl rfl (by kernel_rfl) (by kernel_rfl) (by kernel_rfl) rfl (fun _ _ _ _ h => h) hC ?_; intro K hK; go_big_quiet_op; go_big_quiet_on) | (refine rel_skip (i := 14) rfl (by kernel_rfl) (by kernel_rfl) (by kernel_rfl) rfl (fun _ _ _ _ h => h) hC ?_; simp only [Act.put, List.setIfInBounds_toArray, List.set_cons_zero, List.set_cons_succ]))
      refine wpAnyH_done (by kernel_rfl) ?_ _
      go_wp2_with fail
      go_roundw
      case rel => exact ⟨k + 1, by omega, by go_num, by rw [HX.out]; exact ho4, hb4⟩
      case measure => simp [intOf]; omega
    · have HE : Hid (I.take k = I) := Lib.hid (List.take_of_length_le (by omega))
      rw [HE.out] at ho
      replace ho : wr.ownsRow w.heap.size 57 2 u5 (itBals I ++ poBals (P.take 0)).length (cellsOf Bal.cells (itBals I ++ poBals (P.take 0))) := by simpa [poBals] using ho
      go_wp2_with fail
      go_loopw [5, 7] (fun v t wr => ∃ k : Nat, k ≤ P.length ∧ t = .int .i64 k ∧ wr.ownsRow w.heap.size 57 2 v (itBals I ++ poBals (P.take k)).length (cellsOf Bal.cells (itBals I ++ poBals (P.take k))) ∧ Below w.heap.size w wr) (fun _ t _ => P.length - (intOf t).toNat)
      case atStart => exact ⟨0, by omega, rfl, ho, hb⟩
      case round =>
        clear hb ho
        obtain ⟨k, hk, rfl, ho, hb⟩ := hrel
        have hz := hb.size
        by_cases hlt : k < P.length
        · obtain ⟨x, o, hA, hbo, f0, f1, f2, f3, f4⟩ := PostR.at_ (HP.out.below hb (Nat.le_refl _)) hlt
          subst hA
          have HT := Lib.hid (poBals_take P k hlt)
          have HL := Lib.hid (poBals_len P k hlt)
          have HQ := Lib.hid (HPP.out _ (List.getElem_mem hlt)).2.2.2.2.1.1
          generalize P[k] = p at *
          obtain ⟨p1, p2, p3, p4, ⟨q, A, cap⟩⟩ := p
          dsimp only [Sl.val] at *
          have hql : (itBals I ++ poBals (P.take k)).length + q.length ≤ 1000000 := by have h1 := HL.out; have h2 := HN.out; unfold allB at h2; rw [List.length_append] at h2 ⊢; omega
          go_wp2_with (at_builtin; refine wpList_append_any _ rfl (.tmp 34) (.tmp 39) 58 rfl w.heap.size 57 i0 (.agg #[.int .i64 0, .int .i64 0]) 2 16 Tryz.underlying58 hi hz0 hz1 hz2 rfl (by decide) _ _ _ rfl ho _ A q.length cap _ rfl (Rd.now HQ.out hb) (cells_one Bal.one q) ?c3 ?c4 ?c5 ?_)
          case c3 => simp only [maxLen]; omega
          case c4 => omega
          case c5 => exact hz
          intro v4 w4 ho4 hg4
          have hb4 := bel_own hb hz ho hg4
          clear hg4 f0 f1 f2 f3 f4
          go_wp2_with fail
          go_roundw
          case rel => exact ⟨k + 1, by omega, by go_num, by rw [HT.out, ← List.append_assoc]; simpa [cellsOf_app, Nat.add_assoc] using ho4, hb4⟩
          case measure => simp [intOf]; omega
        · have HE : Hid (P.take k = P) := Lib.hid (List.take_of_length_le (by omega))
          rw [HE.out] at ho
          go_wp2_with fail
          go_ret
          exact ⟨_, rfl, ho, hb⟩
end Go.Proofs.YtnddoehhcpejjaaGreat
/- The walks of Check of a result, of its reference and of Has. -/
namespace Go.Proofs.YtnddoehhcpejjaaGreat
set_option linter.unusedVariables false
set_option linter.unusedSimpArgs false
open Go.RowKit
open Go.Maps (Keyed)

theorem keyed_ref : Keyed Tryz.prog 50 := Keyed.of_law (deep_law_laid (by kernel_rfl) (m := 3) (by decide) (of_decide_eq_true (by kernel_rfl)) (by kernel_rfl) (by kernel_rfl))
theorem int_lits_ (d : Nat) (hd : 0 < d) {a : Int} (ha : (Lit.int .i64 a).wf = true) : (Tryz.prog).keyLits d 3 [.int .i64 a] = some [.int .i64 a] := by
  obtain ⟨d, rfl⟩ : ∃ k, d = k + 1 := ⟨d - 1, by omega⟩
  unfold Program.keyLits
  rw [Tryz.underlying3]
  simp [ha]
def rval (r : RefR) : Value := .agg #[.int .i64 r.entry, .int .i64 r.line]
theorem rval_inj {a b : RefR} (h : rval a = rval b) : a = b := by
  cases a; cases b; unfold rval at h; simpa using h
theorem ref_key {r : RefR} (ha : Wf r.entry) (hb : Wf r.line) : ∃ l, keyOf Tryz.prog 50 (rval r) = some l := by
  obtain ⟨a, b⟩ := r
  have h1 : (Tryz.prog).keyType 50 = true := by kernel_rfl
  have h2 : (Tryz.prog).cellsOf 50 = 2 := by kernel_rfl
  have h3 : (Tryz.prog).cellsOf 3 = 1 := by kernel_rfl
  unfold keyOf rval
  rw [Tryz.underlying50]
  simp only [h1, Value.formed, Tryz.underlying50, h2, Bool.true_and]
  unfold Program.keyLits
  rw [Tryz.underlying50]
  simp [h2, h3, Value.cells, int_lits_ _ _ ha, int_lits_ _ _ hb]
theorem zero_unit (w : World) : (zeroValue 76).run Tryz.prog w = .ok (.agg #[]) w := by kernel_rfl
open Classical in
/-- the references of the items before number k -/
noncomputable def refSeen (I : List ItemR) (k : Nat) (v : Value) : Bool := decide (∃ x ∈ I.take k, v = rval x.ref)
theorem refSeen_zero (I : List ItemR) : refSeen I 0 = fun _ => false := by
  funext v
  simp [refSeen]
def refBefore (I : List ItemR) (k : Nat) (r : RefR) : Bool := ((I.take k).map ItemR.ref).contains r
theorem refSeen_at (I : List ItemR) (k : Nat) (r : RefR) : refSeen I k (rval r) = refBefore I k r := by
  unfold refSeen refBefore
  rw [List.contains_eq_mem, Bool.eq_iff_iff]
  simp only [decide_eq_true_eq, List.mem_map]
  constructor
  · rintro ⟨x, hx, e⟩; exact ⟨x, hx, (rval_inj e).symm⟩
  · rintro ⟨x, hx, rfl⟩; exact ⟨x, hx, rfl⟩
theorem refSeen_here (I : List ItemR) (k : Nat) (h : k < I.length) : refSeen I (k + 1) (rval I[k].ref) = true := by
  unfold refSeen
  rw [List.take_succ_eq_append_getElem h]
  simp only [decide_eq_true_eq]
  exact ⟨I[k], List.mem_append.2 (.inr (List.mem_singleton.2 rfl)), rfl⟩
theorem refSeen_other (I : List ItemR) (k : Nat) (h : k < I.length) (u : Value) (hu : u ≠ rval I[k].ref) : refSeen I (k + 1) u = refSeen I k u := by
  unfold refSeen
  rw [List.take_succ_eq_append_getElem h, Bool.eq_iff_iff]
  simp only [decide_eq_true_eq, List.mem_append, List.mem_singleton]
  constructor
  · rintro ⟨x, hx | rfl, e⟩
    · exact ⟨x, hx, e⟩
    · exact absurd e hu
  · rintro ⟨x, hx, e⟩; exact ⟨x, .inl hx, e⟩
theorem getD_item (I : List ItemR) (k : Nat) (h : k < I.length) : I.getD k default = I[k] := by simp [h]
theorem item_yes {I : List ItemR} {k : Nat} (hk : k < I.length) (h0 : k = 0 ∨ cmpI (I[k - 1]'(by omega)) I[k] < 0) (hc : refBefore I k I[k].ref = false) : itemAt I k = true := by
  unfold itemAt
  rw [getD_item I k hk]
  unfold refBefore at hc
  rw [hc]
  rcases h0 with rfl | h0
  · rfl
  · rw [getD_item I (k - 1) (by omega)]; simp [h0]
theorem item_no1 {I : List ItemR} {k : Nat} (hk : k < I.length) (hc : refBefore I k I[k].ref = true) : itemAt I k = false := by
  unfold itemAt
  rw [getD_item I k hk]
  unfold refBefore at hc
  rw [hc]; simp
theorem item_no2 {I : List ItemR} {k : Nat} (hk : k < I.length) (h0 : 0 < k) (hc : 0 ≤ cmpI (I[k - 1]'(by omega)) I[k]) : itemAt I k = false := by
  unfold itemAt
  rw [getD_item I k hk, getD_item I (k - 1) (by omega)]
  have h1 : (k == 0) = false := by simp; omega
  have h2 : decide (cmpI (I[k - 1]'(by omega)) I[k] < 0) = false := by simp; omega
  rw [h1, h2]; rfl
theorem check_bad {I : List ItemR} {P : List PostR} {T : List Bal} {k : Nat} (hk : k < I.length) (h : itemAt I k = false) : checkV I P T = false :=
  check_no fun hc => by
    have := allAt_at hc.1 hk
    rw [h] at this; cases this
theorem check_tot {I : List ItemR} {P : List PostR} {T L : List Bal} {E : Int} (h : itemsV I = true) (hc : ColAlt (ofW (allB I P)) L E) : checkV I P T = ((E == 0) && decide (L = T)) := by
  rcases hc with ⟨rfl, h1, h2⟩ | ⟨rfl, rfl, c, h1⟩
  · by_cases e : L = T
    · subst e; rw [check_yes ⟨h, h1, h2⟩]; simp
    · rw [check_no fun hk => e (isC_unique h1 hk.2.1 fun _ => rfl)]; simp [e]
  · rw [check_no fun hk => by have := hk.2.2 c; rw [h1] at this; cases this]; rfl
theorem ref_cases (s t : RefR) : s = t ∨ ((s.entry == t.entry) = false ∧ s ≠ t) ∨ ((s.entry == t.entry) = true ∧ (s.line == t.line) = false ∧ s ≠ t) := by
  by_cases h1 : s.entry = t.entry
  · by_cases h2 : s.line = t.line
    · refine .inl ?_
      cases s; cases t; simp at h1 h2 ⊢; exact ⟨h1, h2⟩
    · exact .inr (.inr ⟨by simpa using h1, by simpa using h2, fun e => h2 (by rw [e])⟩)
  · exact .inr (.inl ⟨by simpa using h1, fun e => h1 (by rw [e])⟩)
def hasV (I : List ItemR) (r : RefR) : Bool := (I.map ItemR.ref).contains r
theorem has_hit {I : List ItemR} {r : RefR} {k : Nat} (hk : k < I.length) (h : I[k].ref = r) : hasV I r = true := by
  unfold hasV; rw [List.contains_eq_mem, decide_eq_true_eq]; exact List.mem_map.2 ⟨_, List.getElem_mem hk, h⟩
theorem has_miss {I : List ItemR} {r : RefR} (h : ∀ j (hj : j < I.length), I[j].ref ≠ r) : hasV I r = false := by
  unfold hasV; rw [List.contains_eq_mem, decide_eq_false_iff_not, List.mem_map]
  rintro ⟨x, hx, e⟩
  obtain ⟨j, hj, rfl⟩ := List.mem_iff_getElem.1 hx
  exact h j hj e
set_option maxRecDepth 100000 in
set_option maxHeartbeats 2000000 in
theorem rhas_any (per : Int) (I : List ItemR) (A : Option Addr) (c : Nat) (vP vT : Value) (r : RefR) (w : World) (hI : Rd w w.heap.size 7 A I.length (cellsOf ItemR.cells I)) (hn : I.length ≤ 2000000) :
    Calls Tryz.prog 10 #[.agg #[.int .i64 per, .slice A I.length c, vP, vT], .agg #[.int .i64 r.entry, .int .i64 r.line]] w (BoolPost (hasV I r) w) := by
  have hb0 := Below.refl w.heap.size w
  have hb : Below w.heap.size w ((w.alloc (.cells #[.int .i64 per, .slice A I.length c, vP, vT] 41)).alloc (.cells #[.int .i64 r.entry, .int .i64 r.line] 50)) := by
    have hb := hb0
    exact (by repeat (first | exact hb | refine Below.alloc ?_ (by have hbs := hb.size; first | omega | (simp; done) | (simp; omega)) _ | refine Below.drew ?_ | refine below_drewN_ ?_ _ | refine Below.setCell ?_ (by simp) _))
  clear hb0
  have HB := Lib.hid ((Blk.new w 41 #[.int .i64 per, .slice A I.length c, vP, vT]).alloc (.cells #[.int .i64 r.entry, .int .i64 r.line] 50))
  have HR0 := Blk.new (w.alloc (.cells #[.int .i64 per, .slice A I.length c, vP, vT] 41)) 50 #[.int .i64 r.entry, .int .i64 r.line]
  rw [World.size_alloc] at HR0
  have HR := Lib.hid HR0
  have H := Lib.hid hI
  clear hI HR0
  go_enter Tryz.func10, Tryz.ntmps10
  go_wp2_with fail
  generalize hWW : (w.alloc (.cells #[.int .i64 per, .slice A I.length c, vP, vT] 41)).alloc (.cells #[.int .i64 r.entry, .int .i64 r.line] 50) = W at *
  clear hWW
  go_loopw [5] (fun t wr => ∃ k : Nat, k ≤ I.length ∧ (∀ j (hj : j < k) (h : j < I.length), (I[j]'h).ref ≠ r) ∧ t = .int .i64 k ∧ Below W.heap.size W wr) (fun t _ => I.length - (intOf t).toNat)
  case atStart => exact ⟨0, by omega, fun j h => by omega, rfl, Below.refl _ _⟩
  case round =>
    obtain ⟨k, hk, hno, rfl, hbr⟩ := hrel
    have HN := Lib.hid hno
    clear hno
    have hbw := bel hb hbr
    have HB2 := HB.out.step hbr
    have HR2 := HR.out.step hbr
    have e1 : wr.cell? ⟨w.heap.size, 1, none⟩ = some (.slice A I.length c) := HB2.cell 1
    have l1 := HB2.lt
    have l2 := HR2.lt
    have q7 : ∀ d : Later wr, d.now.cell? ⟨w.heap.size + 1, 0, none⟩ = some (.int .i64 r.entry) := fun d => d.cell l2 (HR2.cell 0)
    have q8 : ∀ d : Later wr, d.now.cell? ⟨w.heap.size + 1, 1, none⟩ = some (.int .i64 r.line) := fun d => d.cell l2 (HR2.cell 1)
    clear HB2 HR2
    by_cases hlt : k < I.length
    · obtain ⟨b, o, hA, hbo, f0, f1, f2, f3, f4, f5, f6⟩ := ItemR.at_ (Rd.now H.out hbw) hlt
      subst hA
      have q0 : ∀ d : Later wr, d.now.cell? ⟨b, o + k * 7, none⟩ = some (.int .i64 I[k].ref.entry) := fun d => d.cell hbo f0
      have q1 : ∀ d : Later wr, d.now.cell? ⟨b, o + k * 7 + 1, none⟩ = some (.int .i64 I[k].ref.line) := fun d => d.cell hbo f1
      have q9 : ∀ d : Later wr, d.now.cell? ⟨w.heap.size, 1, none⟩ = some (.slice (some ⟨b, o, none⟩) I.length c) := fun d => d.cell l1 e1
      clear f0 f1 f2 f3 f4 f5 f6
      rcases ref_cases I[k].ref r with hc | ⟨hc1, hc2⟩ | ⟨hc1, hc2, hc3⟩
      · have HE : Hid (hasV I r = true) := Lib.hid (has_hit hlt hc)
        rw [hc] at q0 q1
        clear hc
        go_wp2_with fail
        refine wp_region_later (by kernel_rfl) (by kernel_rfl) ?_; (repeat (go_big_quiet_step ((fail)))); refine wpQuiet_nil ?_; rintro _ ⟨dq, rfl⟩
        have hbe := bel hbw dq.below
        go_wp2_with fail
        go_ret
        exact ⟨ret_bool HE.out.symm, hbe⟩
      · have HC := Lib.hid hc2
        clear hc2
        go_wp2_with fail
        refine wp_region_later (by kernel_rfl) (by kernel_rfl) ?_; (repeat (go_big_quiet_step ((fail)))); refine wpQuiet_nil ?_; rintro _ ⟨dq, rfl⟩
        have hbe := bel hbr dq.below
        go_wp2_with fail
        go_roundw
        case rel =>
          refine ⟨k + 1, by omega, fun j h h1 => ?_, by go_num, hbe⟩
          by_cases hj : j = k
          · subst hj; exact HC.out
          · exact HN.out j (by omega) h1
        case measure => simp [intOf]; omega
      · have HC := Lib.hid hc3
        clear hc3
        go_wp2_with fail
        refine wp_region_later (by kernel_rfl) (by kernel_rfl) ?_; (repeat (go_big_quiet_step ((fail)))); refine wpQuiet_nil ?_; rintro _ ⟨dq, rfl⟩
        have hbe := bel hbr dq.below
        go_wp2_with fail
        go_roundw
        case rel =>
          refine ⟨k + 1, by omega, fun j h h1 => ?_, by go_num, hbe⟩
          by_cases hj : j = k
          · subst hj; exact HC.out
          · exact HN.out j (by omega) h1
        case measure => simp [intOf]; omega
    · have HE : Hid (hasV I r = false) := Lib.hid (has_miss fun j hj => HN.out j (by omega) hj)
      go_wp2_with fail
      go_ret
      exact ⟨ret_bool HE.out.symm, hbw⟩
end Go.Proofs.YtnddoehhcpejjaaGreat
