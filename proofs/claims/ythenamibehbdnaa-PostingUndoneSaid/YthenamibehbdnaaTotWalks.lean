/- The walks of posting.Total and of the reference's Parts. -/
import Derived.Test.YthenamibehbdnaaTotMath
import Derived.Test.YthenamibehbdnaaPostWalksB
namespace Go.Proofs.Ythenamibehbdnaa
set_option linter.unusedVariables false
set_option linter.unusedSimpArgs false
open Go.RowKit

set_option maxRecDepth 100000 in
set_option maxHeartbeats 4000000 in
theorem total_any (I : List ItemR) (AI : Option Addr) (cI : Nat) (P : List PostR) (AP : Option Addr) (cP : Nat) (w : World)
    (hI : Rd w w.heap.size 7 AI I.length (cellsOf ItemR.cells I)) (hP : Rd w w.heap.size 5 AP P.length (cellsOf PostR.cells P)) (hPP : ∀ p ∈ P, p.Ok w) (hW : ∀ x ∈ allB I P, Wf x.account)
    (hn : (allB I P).length ≤ 1000000) (hnI : I.length ≤ 1000000) (hnP : P.length ≤ 1000000) :
    Calls Try.prog 25 #[.slice AI I.length cI, .slice AP P.length cP] w (ColPost 35 w.heap.size (ofW (allB I P)) w) := by
  have hb := Below.refl w.heap.size w
  have HI := Lib.hid hI
  have HP := Lib.hid hP
  have HPP := Lib.hid hPP
  have HW := Lib.hid hW
  have HN := Lib.hid hn
  have hmm := @run_makeMap Try.prog
  clear hI hP hPP hW hn
  go_enter Try.func25, Try.ntmps25
  go_wp2_with fail
  go_loopw [16] (fun t wr => ∃ k : Nat, k ≤ I.length ∧ t = .int .i64 k ∧ SumW Try.prog 3 3 wr w.heap.size k (ofW (itBals (I.take k))) ∧ Below w.heap.size w wr) (fun t _ => I.length - (intOf t).toNat)
  case atStart => exact ⟨0, by omega, rfl, SumW.made w, (by repeat (first | exact hb | refine Below.alloc ?_ (by have hbs := hb.size; first | omega | (simp; done) | (simp; omega)) _ | refine Below.drew ?_ | refine below_drewN_ ?_ _ | refine Below.setCell ?_ (by simp) _))⟩
  case round =>
    clear hb
    obtain ⟨k, hk, rfl, hS, hb⟩ := hrel
    have hz := hb.size
    by_cases hlt : k < I.length
    · obtain ⟨x, o, hA, hbo, f0, f1, f2, f3, f4, f5, f6⟩ := ItemR.at_ (HI.out.below hb (Nat.le_refl _)) hlt
      subst hA
      have hc : (Lit.int .i64 I[k].account).wf = true := HW.out (itBal I[k]) (List.mem_append_left _ (List.mem_map.2 ⟨_, List.getElem_mem hlt, rfl⟩))
      have hy := wrap64_wf (ofW (itBals (I.take k)) I[k].account + I[k].amount)
      have hLL := (hS.alloc (.cells #[.int .i64 I[k].ref.entry, .int .i64 I[k].ref.line, .int .i64 I[k].entity, .int .i64 I[k].account, .int .i64 I[k].partner, .int .i64 I[k].date, .int .i64 I[k].amount] 54)).look (t := 70) Try.underlying3 Try.underlying3 Try.underlying70 (zero_int _) hc
      have HX := Lib.hid ((ofW_snoc (itBals (I.take k)) (itBal I[k])).trans (congrArg ofW (itBals_take I k hlt).symm))
      go_wp2_with (at_mapUpdate; refine wpList_sum_put rfl _ _ _ 70 rfl Try.underlying3 Try.underlying3 Try.underlying70 (hS.alloc _) (by unfold maxLen; omega) _ _ hc hy rfl rfl rfl ?_; intro w4 hS4 hg4)
      replace hS4 : SumW Try.prog 3 3 w4 w.heap.size (k + 1) (ofW (itBals (I.take (k + 1)))) := HX.out ▸ hS4
      have hb4 : Below w.heap.size w w4 := Below.grown (hb.alloc hz _) hg4 (by simp; omega) (fun k hk => by injection hk with hk; omega)
      clear hg4 hS hLL
      go_wp2_with fail
      go_roundw
      case rel => exact ⟨k + 1, by omega, by go_num, hS4, hb4⟩
      case measure => simp [intOf]; omega
    · have HE : Hid (I.take k = I) := Lib.hid (List.take_of_length_le (by omega))
      rw [HE.out] at hS
      replace hS : SumW Try.prog 3 3 wr w.heap.size k (ofW (itBals I ++ poBals (P.take 0))) := by simpa [poBals] using hS
      go_wp2_with fail
      go_loopw [30] (fun t wr => ∃ k n : Nat, k ≤ P.length ∧ t = .int .i64 k ∧ n = (itBals I ++ poBals (P.take k)).length ∧ SumW Try.prog 3 3 wr w.heap.size n (ofW (itBals I ++ poBals (P.take k))) ∧ Below w.heap.size w wr) (fun t _ => P.length - (intOf t).toNat)
      case atStart => exact ⟨0, k, by omega, rfl, by simp [poBals, itBals_len]; omega, hS, hb⟩
      case round =>
        clear hb hS
        obtain ⟨wo, rfl⟩ : ∃ wo : World, wo = wr := ⟨_, rfl⟩
        obtain ⟨k, n, hk, rfl, hnn, hS, hb⟩ := hrel
        have hz := hb.size
        by_cases hlt : k < P.length
        · obtain ⟨x, o, hA, hbo, f0, f1, f2, f3, f4⟩ := PostR.at_ (HP.out.below hb (Nat.le_refl _)) hlt
          subst hA
          have HT := Lib.hid (poBals_take P k hlt)
          obtain ⟨T, hT⟩ : ∃ T, T = itBals I ++ poBals (P.take k) := ⟨_, rfl⟩
          rw [← hT] at hnn hS
          have HTT := Lib.hid hT
          clear hT
          have HL := Lib.hid (poBals_len P k hlt)
          have HM : Hid (∀ x ∈ P[k].parts.l, Wf x.account) := Lib.hid fun x hx => HW.out x (List.mem_append_right _ (po_mem hlt hx))
          have HQ := Lib.hid (HPP.out _ (List.getElem_mem hlt)).2.2.2.2.1.1
          generalize P[k] = p at *
          obtain ⟨p1, p2, p3, p4, ⟨q, A, cap⟩⟩ := p
          dsimp only [Sl.val] at *
          have hb1 : Below w.heap.size w (wo.alloc (.cells #[.int .i64 p1, .int .i64 p2, .int .i64 p3, .int .i64 p4, .slice A q.length cap] 45)) := hb.alloc hz _
          have hS1 := hS.alloc (.cells #[.int .i64 p1, .int .i64 p2, .int .i64 p3, .int .i64 p4, .slice A q.length cap] 45)
          have hql : T.length + q.length ≤ 1000000 := by have h1 := HL.out; have h2 := HN.out; unfold allB at h2; rw [HTT.out]; rw [List.length_append] at h2 ⊢; omega
          go_wp2_with fail
          go_loopw [37] (fun t wr => ∃ j : Nat, j ≤ q.length ∧ t = .int .i64 j ∧ SumW Try.prog 3 3 wr w.heap.size (n + j) (ofW (T ++ q.take j)) ∧ Below w.heap.size w wr) (fun t _ => q.length - (intOf t).toNat)
          case atStart => exact ⟨0, by omega, rfl, by simpa using hS1, hb1⟩
          case round =>
            clear hb1 hS1 hS hb
            obtain ⟨j, hj, rfl, hS, hb⟩ := hrel
            have hz := hb.size
            by_cases hjl : j < q.length
            · obtain ⟨x, o, hA, hbo, f0, f1⟩ := Bal.at_ (HQ.out.below hb (Nat.le_refl _)) hjl
              subst hA
              have hc : (Lit.int .i64 q[j].account).wf = true := HM.out _ (List.getElem_mem hjl)
              have hy := wrap64_wf (ofW (T ++ q.take j) q[j].account + q[j].amount)
              have hLL := (hS.alloc (.cells #[.int .i64 q[j].account, .int .i64 q[j].amount] 26)).look (t := 70) Try.underlying3 Try.underlying3 Try.underlying70 (zero_int _) hc
              have HX := Lib.hid ((ofW_snoc (T ++ q.take j) q[j]).trans (congrArg ofW (show _ = T ++ q.take (j + 1) by rw [take_snoc' q j hjl, List.append_assoc])))
              go_wp2_with (at_mapUpdate; (refine wpList_sum_put rfl _ _ _ 70 rfl Try.underlying3 Try.underlying3 Try.underlying70 (hS.alloc _) (by unfold maxLen; omega) _ _ hc hy rfl rfl rfl ?_; intro w4 hS4 hg4))
              rw [HX.out] at hS4
              have hb4 : Below w.heap.size w w4 := Below.grown (hb.alloc hz _) hg4 (by simp; omega) (fun k hk => by injection hk with hk; omega)
              clear hg4 hS hLL
              go_wp2_with fail
              go_roundw
              case rel => exact ⟨j + 1, by omega, by go_num, hS4, hb4⟩
              case measure => simp [intOf]; omega
            · have HE : Hid (q.take j = q) := Lib.hid (List.take_of_length_le (by omega))
              rw [HE.out, HTT.out, List.append_assoc, ← HT.out] at hS
              go_wp2_with fail
              go_roundw
              case rel => exact ⟨k + 1, n + j, by omega, by go_num, by rw [HT.out, ← List.append_assoc, ← HTT.out, List.length_append, hnn]; have := congrArg List.length HE.out; simp at this; omega, hS, hb⟩
              case measure => simp [intOf]; omega
        · have HE : Hid (P.take k = P) := Lib.hid (List.take_of_length_le (by omega))
          rw [HE.out] at hS hnn
          have hN := HN.out
          unfold allB at hN
          go_wp2_with (go_at_call 44; refine (colb_any w.heap.size n (ofW (itBals I ++ poBals P)) wo hS (by omega)).mono ?_; rintro e w5 ⟨v5, L, E, rfl, ho5, hb5, hc5⟩)
          go_ret2
          exact ⟨v5, L, E, rfl, own_base ho5 hb.size, bel hb hb5, hc5⟩
end Go.Proofs.Ythenamibehbdnaa
