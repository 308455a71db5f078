/- Texts of this claim, put together. -/
import Derived.Test.YtnddoehhcpejjaaGreatTrcWalksCZ
import Derived.Test.YtnddoehhcpejjaaGreatJAS
import Derived.RangeFuncNested
import Derived.RangeFuncBound
import Derived.RangeFuncCalls
import Derived.RangeFuncLeaves
import Derived.RangeFuncBox
import Derived.Shelf.Abstract
import Derived.Shelf.RegionOpen
import Derived.OwnWalkIn
import Derived.TacticsInMore
import Derived.LoopNIn
import Derived.LoopIn
import Derived.Maps.AppendAt
/- The walk of the reference's Check of a result. -/
namespace Go.Proofs.YtnddoehhcpejjaaGreat
set_option linter.unusedVariables false
set_option linter.unusedSimpArgs false
open Go.RowKit
open Go.Maps (Keyed)

def Mid (k n : Nat) : Prop := 1 ≤ k ∧ k ≤ n + 1
theorem has_before (I : List ItemR) (k : Nat) (r : RefR) : hasV (I.take k) r = refBefore I k r := rfl
end Go.Proofs.YtnddoehhcpejjaaGreat
/- The walk of the reference's Lines of a result. -/
namespace Go.Proofs.YtnddoehhcpejjaaGreat
set_option linter.unusedVariables false
set_option linter.unusedSimpArgs false
open Go.RowKit

def OwnSrc (T : TypeId) (base : Nat) (L : List SrcR) (w : World) (e : Ending) (w' : World) : Prop := ∃ v, e = .returned v ∧ w'.ownsRow base T 6 v L.length (cellsOf SrcR.cells L) ∧ Below base w w'
theorem tsrc_info : (Tryz.prog.info? 87).map (fun i => (i.zero, i.size, i.bytes)) = some (some (.agg #[.int .i64 0, .int .i64 0, .int .i64 0, .int .i64 0, .int .i64 0, .int .i64 0]), 6, 48) := by kernel_rfl
end Go.Proofs.YtnddoehhcpejjaaGreat
/- The iterator over the sources of a result. -/
namespace Go.Proofs.YtnddoehhcpejjaaGreat
set_option linter.unusedVariables false
set_option linter.unusedSimpArgs false
open Go.RowKit Go.Shelf

attribute [local go_sem] Oper.semAt_some

/-- what a round keeps: all below s, and block B -/
def KeepB (s B : Nat) (W W' : World) : Prop := Below s W W' ∧ W'.heap[B]? = W.heap[B]?
theorem KeepB.trans {s B : Nat} {A W C : World} (h : KeepB s B A W) (k : KeepB s B W C) : KeepB s B A C := ⟨h.1.trans k.1, k.2.trans h.2⟩
def SrcR.enc (x : SrcR) : Array Value := #[.agg #[.int .i64 x.ref.entry, .int .i64 x.ref.line, .int .i64 x.posting, .int .i64 x.index, .int .i64 x.account, .int .i64 x.amount]]
set_option maxRecDepth 100000 in
set_option maxHeartbeats 8000000 in
theorem all_stops (F : Fence) (n : Nat) (hF : F.fn 37) (hro : F.round = none) (hn : 1 ≤ n) (per : Int) (I : List ItemR) (AI : Option Addr) (cI : Nat) (P : List PostR) (AP : Option Addr) (cP : Nat) (T : List Bal) (AT : Option Addr) (cT : Nat)
    (w0 w : World) (B : Nat) (h : RIn w0 I AI P AP T AT) (hb0 : Below w0.heap.size w0 w) (hB : Blk w B 41 #[.int .i64 per, .slice AI I.length cI, .slice AP P.length cP, .slice AT T.length cT]) (hnI : I.length ≤ 1000000) (hnP : P.length ≤ 1000000) (hnQ : ∀ p ∈ P, p.parts.l.length ≤ 1000000) :
    SeqStopsK F n Tryz.prog 37 #[.pointer (some ⟨B, 0, none⟩)] SrcR.enc (KeepB w0.heap.size B) (fun ys => ys = srcs I P) (fun _ => True) (srcs I P).length w := fun l J Jx W hW hJ hJx hY h0 => by
  have HB := Lib.hid (hB.below hW hB.lt)
  have hbW : Below w0.heap.size w0 W := hb0.trans (hW.mono hb0.size)
  have H := Lib.hid h
  have HJ : Hid (∀ s A o, J s A → J s (A.alloc o)) := Lib.hid fun s A o hs => hJ s A _ none hs (World.grownBy_alloc A o none) (fun r e => by cases e)
  have HY := Lib.hid hY
  have e1 : W.cell? ⟨B, 1, none⟩ = some (.slice AI I.length cI) := HB.out.cell 1
  clear hB hb0 hW h hJ hJx hY
  refine callsIn_of_wp Tryz.func37 rfl hF ?_ hro
  simp only [Tryz.ntmps37, List.size_toArray, List.length_cons, List.length_nil, Nat.reduceAdd, Nat.reduceSub, Array.replicate_succ, Array.replicate_zero, List.push_toArray, List.append_toArray, List.nil_append, List.cons_append]
  gi_wp2
  clear e1
  gi_loopw [12] (fun i wr => ∃ k : Nat, k ≤ I.length ∧ i = .int .i64 k ∧ J (itS 0 (I.take k)) wr ∧ Blk wr B 41 #[.int .i64 per, .slice AI I.length cI, .slice AP P.length cP, .slice AT T.length cT] ∧ Below w0.heap.size w0 wr) (fun i _ => I.length - (intOf i).toNat)
  case atStart => exact ⟨0, Nat.zero_le _, rfl, h0, HB.out, hbW⟩
  case round =>
    clear HB hbW h0
    obtain ⟨k, hk, rfl, hJs, hBr, hb⟩ := hrel
    by_cases hlt : k < I.length
    · obtain ⟨b, o, hA, hbo, f0, f1, f2, f3, f4, f5, f6⟩ := ItemR.at_ (H.out.it.below hb (Nat.le_refl _)) hlt
      subst hA
      have HT := Lib.hid (itS_take I k hlt)
      have hll : (itS 0 (I.take k)).length < (srcs I P).length := by unfold srcs; rw [itS_len, List.length_append, itS_len, List.length_take]; omega
      have HBA := Lib.hid (hBr.alloc (.cells #[.int .i64 I[k].ref.entry, .int .i64 I[k].ref.line, .int .i64 I[k].entity, .int .i64 I[k].account, .int .i64 I[k].partner, .int .i64 I[k].date, .int .i64 I[k].amount] 55))
      have hbA : Below w0.heap.size w0 (wr.alloc (.cells #[.int .i64 I[k].ref.entry, .int .i64 I[k].ref.line, .int .i64 I[k].entity, .int .i64 I[k].account, .int .i64 I[k].partner, .int .i64 I[k].date, .int .i64 I[k].amount] 55)) := hb.alloc hb.size _
      obtain ⟨fn, tmps, assign, body, hy, hR⟩ := HY.out _ ⟨I[k].ref, -1, k, I[k].account, I[k].amount⟩ _ (HJ.out _ _ (.cells #[.int .i64 I[k].ref.entry, .int .i64 I[k].ref.line, .int .i64 I[k].entity, .int .i64 I[k].account, .int .i64 I[k].partner, .int .i64 I[k].date, .int .i64 I[k].amount] 55) hJs) hll
      unfold SrcR.enc at hy
      dsimp only at hy
      clear hll hBr
      gi_wp2
      refine hR.mono ?_
      rintro e W3 (⟨rfl, hJ3, hk3, hk4⟩ | ⟨rfl, hJx3⟩)
      · have hB3 : Blk W3 B 41 _ := hk4.trans HBA.out
        have hb3 := hbA.trans hk3
        clear hk4 hk3 hbA HBA
        gi_wp2
        go_roundw
        case rel => exact ⟨k + 1, by omega, by go_num, by rw [HT.out]; exact hJ3, hB3, hb3⟩
        case measure => simp [intOf]; omega
      · gi_wp2
        refine bodyPost_ret (results_none rfl _ _ _) rfl ?_
        exact ⟨⟨_, rfl⟩, .inr ⟨_, trivial, hJx3⟩⟩
    · have HE : Hid (I.take k = I) := Lib.hid (List.take_of_length_le (by omega))
      rw [HE.out] at hJs
      have HJS : Hid (J (itS 0 I ++ poS 0 (P.take 0)) wr) := Lib.hid (by simpa [poS] using hJs)
      have e2 : wr.cell? ⟨B, 2, none⟩ = some (.slice AP P.length cP) := hBr.cell 2
      have HBr := Lib.hid hBr
      clear hJs hBr
      gi_wp2
      clear e2
      gi_loopw [32] (fun i wr => ∃ k : Nat, k ≤ P.length ∧ i = .int .i64 k ∧ J (itS 0 I ++ poS 0 (P.take k)) wr ∧ Blk wr B 41 #[.int .i64 per, .slice AI I.length cI, .slice AP P.length cP, .slice AT T.length cT] ∧ Below w0.heap.size w0 wr) (fun i _ => P.length - (intOf i).toNat)
      case atStart => exact ⟨0, Nat.zero_le _, rfl, HJS.out, HBr.out, hb⟩
      case round =>
        clear HJS HBr hb
        obtain ⟨wo, rfl⟩ : ∃ wo : World, wo = wr := ⟨_, rfl⟩
        obtain ⟨k, hk, rfl, hJs, hBr, hb⟩ := hrel
        by_cases hlt : k < P.length
        · obtain ⟨x0, o, hA, hbo, f0, f1, f2, f3, f4⟩ := PostR.at_ (H.out.po.below hb (Nat.le_refl _)) hlt
          subst hA
          have HT := Lib.hid (poS_take P k hlt)
          have HQ := Lib.hid ((H.out.pok _ (List.getElem_mem hlt)).2.2.2.2.1.1)
          have hql := hnQ _ (List.getElem_mem hlt)
          have HLE : Hid (∀ j, j < P[k].parts.l.length → (itS 0 I ++ poS 0 (P.take k) ++ paS k 0 (P[k].parts.l.take j)).length < (srcs I P).length) := Lib.hid fun j hj => by
            have h1 : poS 0 (P.take (k + 1)) = _ := HT.out
            have h2 : poS 0 P = poS 0 (P.take (k + 1)) ++ poS (0 + (P.take (k + 1)).length) (P.drop (k + 1)) := by rw [← poS_app, List.take_append_drop]
            unfold srcs
            rw [h2, h1]
            simp only [List.length_append, itS_len, paS_len, List.length_take]
            omega
          obtain ⟨pk, hpk⟩ : ∃ y, y = P[k] := ⟨_, rfl⟩
          rw [← hpk] at f0 f1 f2 f3 f4 HT HQ hql HLE
          clear hpk
          obtain ⟨p1, p2, p3, p4, ⟨q, A, cap⟩⟩ := pk
          dsimp only [Sl.val] at *
          obtain ⟨S0, hS0⟩ : ∃ S0, S0 = itS 0 I ++ poS 0 (P.take k) := ⟨_, rfl⟩
          rw [← hS0] at hJs HLE
          have HS0 := Lib.hid hS0
          clear hS0
          have HJ0 : Hid (J (S0 ++ paS k 0 (q.take 0)) (wo.alloc (.cells #[.int .i64 p1, .int .i64 p2, .int .i64 p3, .int .i64 p4, .slice A q.length cap] 60))) := Lib.hid (by have := HJ.out _ _ (.cells #[.int .i64 p1, .int .i64 p2, .int .i64 p3, .int .i64 p4, .slice A q.length cap] 60) hJs; simpa [paS] using this)
          have HBA := Lib.hid (hBr.alloc (.cells #[.int .i64 p1, .int .i64 p2, .int .i64 p3, .int .i64 p4, .slice A q.length cap] 60))
          have hbA : Below w0.heap.size w0 (wo.alloc (.cells #[.int .i64 p1, .int .i64 p2, .int .i64 p3, .int .i64 p4, .slice A q.length cap] 60)) := hb.alloc hb.size _
          clear hJs hBr
          gi_wp2
          gi_loopw [40] (fun i wr => ∃ j : Nat, j ≤ q.length ∧ i = .int .i64 j ∧ J (S0 ++ paS k 0 (q.take j)) wr ∧ Blk wr B 41 #[.int .i64 per, .slice AI I.length cI, .slice (some ⟨x0, o, none⟩) P.length cP, .slice AT T.length cT] ∧ Below w0.heap.size w0 wr) (fun i _ => q.length - (intOf i).toNat)
          case atStart => exact ⟨0, Nat.zero_le _, rfl, HJ0.out, HBA.out, hbA⟩
          case round =>
            clear HJ0 HBA hbA hb f0 f1 f2 f3 f4
            obtain ⟨j, hj, rfl, hJs, hBr, hb⟩ := hrel
            by_cases hjl : j < q.length
            · obtain ⟨x, oo, hA, hbx, f0, f1⟩ := Bal.at_ (HQ.out.below hb (Nat.le_refl _)) hjl
              subst hA
              have HTJ := Lib.hid (paS_take k q j hjl)
              have hll := HLE.out j hjl
              have HBA := Lib.hid (hBr.alloc (.cells #[.int .i64 q[j].account, .int .i64 q[j].amount] 57))
              have hbA : Below w0.heap.size w0 (wr.alloc (.cells #[.int .i64 q[j].account, .int .i64 q[j].amount] 57)) := hb.alloc hb.size _
              obtain ⟨fn, tmps, assign, body, hy, hR⟩ := HY.out _ ⟨⟨0, 0⟩, k, j, q[j].account, q[j].amount⟩ _ (HJ.out _ _ (.cells #[.int .i64 q[j].account, .int .i64 q[j].amount] 57) hJs) hll
              unfold SrcR.enc at hy
              dsimp only at hy
              clear hll hBr
              gi_wp2
              refine hR.mono ?_
              rintro e W3 (⟨rfl, hJ3, hk3, hk4⟩ | ⟨rfl, hJx3⟩)
              · have hB3 : Blk W3 B 41 _ := hk4.trans HBA.out
                have hb3 := hbA.trans hk3
                clear hk4 hk3 hbA HBA
                gi_wp2
                go_roundw
                case rel => exact ⟨j + 1, by omega, by go_num, by rw [HTJ.out, ← List.append_assoc]; exact hJ3, hB3, hb3⟩
                case measure => simp [intOf]; omega
              · gi_wp2
                refine bodyPost_ret (results_none rfl _ _ _) rfl ?_
                exact ⟨⟨_, rfl⟩, .inr ⟨_, trivial, hJx3⟩⟩
            · have HE : Hid (q.take j = q) := Lib.hid (List.take_of_length_le (by omega))
              rw [HE.out] at hJs
              gi_wp2
              go_roundw
              case rel => exact ⟨k + 1, by omega, by go_num, by rw [HT.out, ← List.append_assoc, ← HS0.out]; exact hJs, hBr, hb⟩
              case measure => simp [intOf]; omega
        · have HE : Hid (P.take k = P) := Lib.hid (List.take_of_length_le (by omega))
          rw [HE.out] at hJs
          gi_wp2
          go_end0
          exact ⟨⟨_, rfl⟩, .inl ⟨_, rfl, hJs⟩⟩
end Go.Proofs.YtnddoehhcpejjaaGreat
