/- Texts of this claim, put together. -/
import Derived.Test.YtkfbchgabmffoaaJAK
import Derived.Test.YtkfbchgabmffoaaJAI
import Derived.Test.YtkfbchgabmffoaaJAJ
/- The walks of the reference's Parts, Total, SameTotals. -/
namespace Go.Proofs.Ytkfbchgabmffoaa
set_option linter.unusedVariables false
set_option linter.unusedSimpArgs false
open Go.RowKit

set_option maxRecDepth 100000 in
set_option maxHeartbeats 4000000 in
theorem rparts_any (I : List ItemR) (AI : Option Addr) (cI : Nat) (P : List PostR) (AP : Option Addr) (cP : Nat) (w : World)
    (hI : Rd w w.heap.size 7 AI I.length (cellsOf ItemR.cells I)) (hP : Rd w w.heap.size 5 AP P.length (cellsOf PostR.cells P)) (hPP : ∀ p ∈ P, p.Ok w)
    (hn : (allB I P).length ≤ 1000000) (hnI : I.length ≤ 1000000) (hnP : P.length ≤ 1000000) :
    Calls Try.prog 16 #[.slice AI I.length cI, .slice AP P.length cP] w (OwnParts w.heap.size (allB I P) w) := by
  have hb := Below.refl w.heap.size w
  have HI := Lib.hid hI
  have HP := Lib.hid hP
  have HPP := Lib.hid hPP
  have HN := Lib.hid hn
  obtain ⟨i0, hi, hz0, hz1, hz2⟩ := info_parts colp_info
  clear hI hP hPP hn
  go_enter Try.func16, Try.ntmps16
  go_wp2_with fail
  go_loopw [5, 6] (fun v t wr => ∃ k : Nat, k ≤ I.length ∧ t = .int .i64 k ∧ wr.ownsRow w.heap.size 51 2 v (itBals (I.take k)).length (cellsOf Bal.cells (itBals (I.take k))) ∧ Below w.heap.size w wr) (fun _ t _ => I.length - (intOf t).toNat)
  case atStart => exact ⟨0, by omega, rfl, World.ownsRow_nil _ _ _ _, hb⟩
  case round =>
    clear hb
    obtain ⟨k, hk, rfl, ho, hb⟩ := hrel
    have hz := hb.size
    by_cases hlt : k < I.length
    · obtain ⟨x, o, hA, hbo, f0, f1, f2, f3, f4, f5, f6⟩ := ItemR.at_ HI.out hlt
      subst hA
      have q0 : ∀ d : Later w, d.now.cell? ⟨x, o + k * 7 + 3, none⟩ = some (.int .i64 I[k].account) := fun d => d.cell hbo f3
      have q1 : ∀ d : Later w, d.now.cell? ⟨x, o + k * 7 + 6, none⟩ = some (.int .i64 I[k].amount) := fun d => d.cell hbo f6
      have HX := Lib.hid (itBals_take I k hlt)
      have hln : (itBals (I.take k)).length ≤ 1000000 := by rw [itBals_len, List.length_take]; omega
      clear f0 f1 f2 f3 f4 f5 f6
      go_wp2_with fail
      refine rel_begin (n := 15) (w) (by kernel_rfl) rfl ?_; have hC := Near.of (hb.drew)
      (first | (refine rel_want (i := 0) rfl rfl (by kernel_rfl) (by kernel_rfl) (by kernel_rfl) rfl (fun _ _ _ _ h => h) hC ?_; intro K hK; go_big_quiet_op; go_big_quiet_on) | (refine rel_skip (i := 0) rfl (by kernel_rfl) (by kernel_rfl) (by kernel_rfl) rfl (fun _ _ _ _ h => h) hC ?_; simp only [Act.put, List.setIfInBounds_toArray, List.set_cons_zero, List.set_cons_succ])); (first | (refine rel_want (i := 1) rfl rfl (by kernel_rfl) (by kernel_rfl) (by kernel_rfl) rfl (fun _ _ _ _ h => h) hC ?_; intro K hK; go_big_quiet_op; go_big_quiet_on) | (refine rel_skip (i := 1) rfl (by kernel_rfl) (by kernel_rfl) (by kernel_rfl) rfl (fun _ _ _ _ h => h) hC ?_; simp only [Act.put, List.setIfInBounds_toArray, List.set_cons_zero, List.set_cons_succ])); (first | (refine rel_want (i := 2) rfl rfl (by kernel_rfl) (by kernel_rfl) (by kernel_rfl) rfl (fun _ _ _ _ h => h) hC ?_; intro K hK; go_big_quiet_op; go_big_quiet_on) | (refine rel_skip (i := 2) rfl (by kernel_rfl) (by kernel_rfl) (by kernel_rfl) rfl (fun _ _ _ _ h => h) hC ?_; simp only [Act.put, List.setIfInBounds_toArray, List.set_cons_zero, List.set_cons_succ])); (first | (refine rel_want (i := 3) rfl rfl (by kernel_rfl) (by kernel_rfl) (by kernel_rfl) rfl (fun _ _ _ _ h => h) hC ?_; intro K hK; go_big_quiet_op; go_big_quiet_on) | (refine rel_skip (i := 3) rfl (by kernel_rfl) (by kernel_rfl) (by kernel_rfl) rfl (fun _ _ _ _ h => h) hC ?_; simp only [Act.put, List.setIfInBounds_toArray, List.set_cons_zero, List.set_cons_succ])); (first | (refine rel_want (i := 4) rfl rfl (by kernel_rfl) (by kernel_rfl) (by kernel_rfl) rfl (fun _ _ _ _ h => h) hC ?_; intro K hK; go_big_quiet_op; go_big_quiet_on) | (refine rel_skip (i := 4) rfl (by kernel_rfl) (by kernel_rfl) (by kernel_rfl) rfl (fun _ _ _ _ h => h) hC ?_; simp only [Act.put, List.setIfInBounds_toArray, List.set_cons_zero, List.set_cons_succ])); (first | (refine rel_want (i := 5) rfl rfl (by kernel_rfl) (by kernel_rfl) (by kernel_rfl) rfl (fun _ _ _ _ h => h) hC ?_; intro K hK; go_big_quiet_op; go_big_quiet_on) | (refine rel_skip (i := 5) rfl (by kernel_rfl) (by kernel_rfl) (by kernel_rfl) rfl (fun _ _ _ _ h => h) hC ?_; simp only [Act.put, List.setIfInBounds_toArray, List.set_cons_zero, List.set_cons_succ])); (first | (refine rel_want (i := 6) rfl rfl (by kernel_rfl) (by kernel_rfl) (by kernel_rfl) rfl (fun _ _ _ _ h => h) hC ?_; intro K hK; go_big_quiet_op; go_big_quiet_on) | (refine rel_skip (i := 6) rfl (by kernel_rfl) (by kernel_rfl) (by kernel_rfl) rfl (fun _ _ _ _ h => h) hC ?_; simp only [Act.put, List.setIfInBounds_toArray, List.set_cons_zero, List.set_cons_succ])); (first | (refine rel_want (i := 7) rfl rfl (by kernel_rfl) (by kernel_rfl) (by kernel_rfl) rfl (fun _ _ _ _ h => h) hC ?_; intro K hK; go_big_quiet_op; go_big_quiet_on) | (refine rel_skip (i := 7) rfl (by kernel_rfl) (by kernel_rfl) (by kernel_rfl) rfl (fun _ _ _ _ h => h) hC ?_; simp only [Act.put, List.setIfInBounds_toArray, List.set_cons_zero, List.set_cons_succ])); (first | (refine rel_want (i := 8) rfl rfl (by kernel_rfl) (by kernel_rfl) (by kernel_rfl) rfl (fun _ _ _ _ h => h) hC ?_; intro K hK; go_big_quiet_op; go_big_quiet_on) | (refine rel_skip (i := 8) rfl (by kernel_rfl) (by kernel_rfl) (by kernel_rfl) rfl (fun _ _ _ _ h => h) hC ?_; simp only [Act.put, List.setIfInBounds_toArray, List.set_cons_zero, List.set_cons_succ])); (first | (refine rel_want (i := 9) rfl rfl (by kernel_rfl) (by kernel_rfl) (by kernel_rfl) rfl (fun _ _ _ _ h => h) hC ?_; intro K hK; go_big_quiet_op; go_big_quiet_on) | (refine rel_skip (i := 9) rfl (by kernel_rfl) (by kernel_rfl) (by kernel_rfl) rfl (fun _ _ _ _ h => h) hC ?_; simp only [Act.put, List.setIfInBounds_toArray, List.set_cons_zero, List.set_cons_succ])); (first | (refine rel_want (i := 10) rfl rfl (by kernel_rfl) (by kernel_rfl) (by kernel_rfl) rfl (fun _ _ _ _ h => h) hC ?_; intro K hK; go_big_quiet_op; go_big_quiet_on) | (refine rel_skip (i := 10) rfl (by kernel_rfl) (by kernel_rfl) (by kernel_rfl) rfl (fun _ _ _ _ h => h) hC ?_; simp only [Act.put, List.setIfInBounds_toArray, List.set_cons_zero, List.set_cons_succ]))
      refine rel_call (i := 11) (by kernel_rfl) rfl rfl ?_; intro K hK; go_simp; have hC2 := hC.below; refine hK _ _ (Near.of (by repeat (first | exact hC2 | refine Below.alloc ?_ (by have hbs := hC2.size; first | omega | (simp; done) | (simp at hbs ⊢; omega)) _ | refine Below.drew ?_ | refine below_drewN_ ?_ _))) ?_; clear hK K hC hC2; intro hC; (try simp only [Act.put, List.setIfInBounds_toArray, List.set_cons_zero, List.set_cons_succ])
      refine rel_call (i := 12) (by kernel_rfl) rfl rfl ?_; intro K hK; go_simp; have hC2 := hC.below; refine hK _ _ (Near.of (by repeat (first | exact hC2 | refine Below.alloc ?_ (by have hbs := hC2.size; first | omega | (simp; done) | (simp at hbs ⊢; omega)) _ | refine Below.drew ?_ | refine below_drewN_ ?_ _))) ?_; clear hK K hC hC2; intro hC; (try simp only [Act.put, List.setIfInBounds_toArray, List.set_cons_zero, List.set_cons_succ])
      refine rel_call (i := 13) (by kernel_rfl) rfl rfl ?_
      intro K hK
      refine wp_append_rec _ Bal.cells 2 (fun _ => rfl) Bal.one (.tmp 14) (.tmp 26) 48 rfl w.heap.size 51 i0 (.agg #[.int .i64 0, .int .i64 0]) 16 Try.underlying48 hi hz0 hz1 hz2 rfl (by decide) _ (itBals (I.take k)) rfl (ho.alloc (.cells #[.int .i64 I[k].account, .int .i64 I[k].amount] 51)) wr.heap.size 1 (itBal I[k]) _ rfl (Blk.new wr _ _) rfl ?c3 ?c4 ?c5 ?_
      case c3 => simp only [maxLen]; omega
      case c4 => omega
      case c5 => simp; omega
      intro v4 w4 ho4 hg4
      have hb4 : Below w.heap.size w w4 := bel_own (w1 := (wr.alloc (.cells #[.int .i64 I[k].account, .int .i64 I[k].amount] 51)).drew) (hb.alloc hz _).drew (by show _ ≤ (wr.alloc _).heap.size; simp; omega) (show World.ownsRow ((wr.alloc (.cells #[.int .i64 I[k].account, .int .i64 I[k].amount] 51)).drew) w.heap.size 51 2 u5 (itBals (I.take k)).length (cellsOf Bal.cells (itBals (I.take k))) from ho.alloc _) hg4
      refine hK _ _ (Near.of hb4) ?_
      clear hK K hC
      intro hC
      clear hg4
      (try simp only [Act.put, List.setIfInBounds_toArray, List.set_cons_zero, List.set_cons_succ])
      (first | (refine rel_want (i := 14) rfl rfl (by kernel_rfl) (by kernel_rfl) (by kernel_rfl) rfl (fun _ _ _ _ h => h) hC ?_; intro K hK; go_big_quiet_op; go_big_quiet_on) | (refine rel_skip (i := 14) rfl (by kernel_rfl) (by kernel_rfl) (by kernel_rfl) rfl (fun _ _ _ _ h => h) hC ?_; simp only [Act.put, List.setIfInBounds_toArray, List.set_cons_zero, List.set_cons_succ]))
      refine wpAnyH_done (by kernel_rfl) ?_ _
      go_wp2_with fail
      go_roundw
      case rel => exact ⟨k + 1, by omega, by go_num, by rw [HX.out]; exact ho4, hb4⟩
      case measure => simp [intOf]; omega
    · have HE : Hid (I.take k = I) := Lib.hid (List.take_of_length_le (by omega))
      rw [HE.out] at ho
      replace ho : wr.ownsRow w.heap.size 51 2 u5 (itBals I ++ poBals (P.take 0)).length (cellsOf Bal.cells (itBals I ++ poBals (P.take 0))) := by simpa [poBals] using ho
      go_wp2_with fail
      go_loopw [5, 7] (fun v t wr => ∃ k : Nat, k ≤ P.length ∧ t = .int .i64 k ∧ wr.ownsRow w.heap.size 51 2 v (itBals I ++ poBals (P.take k)).length (cellsOf Bal.cells (itBals I ++ poBals (P.take k))) ∧ Below w.heap.size w wr) (fun _ t _ => P.length - (intOf t).toNat)
      case atStart => exact ⟨0, by omega, rfl, ho, hb⟩
      case round =>
        clear hb ho
        obtain ⟨k, hk, rfl, ho, hb⟩ := hrel
        have hz := hb.size
        by_cases hlt : k < P.length
        · obtain ⟨x, o, hA, hbo, f0, f1, f2, f3, f4⟩ := PostR.at_ (HP.out.below hb (Nat.le_refl _)) hlt
          subst hA
          have HT := Lib.hid (poBals_take P k hlt)
          have HL := Lib.hid (poBals_len P k hlt)
          have HQ := Lib.hid (HPP.out _ (List.getElem_mem hlt)).2.2.2.2.1.1
          generalize P[k] = p at *
          obtain ⟨p1, p2, p3, p4, ⟨q, A, cap⟩⟩ := p
          dsimp only [Sl.val] at *
          have hql : (itBals I ++ poBals (P.take k)).length + q.length ≤ 1000000 := by have h1 := HL.out; have h2 := HN.out; unfold allB at h2; rw [List.length_append] at h2 ⊢; omega
          go_wp2_with (at_builtin; refine wpList_append_any _ rfl (.tmp 34) (.tmp 39) 48 rfl w.heap.size 51 i0 (.agg #[.int .i64 0, .int .i64 0]) 2 16 Try.underlying48 hi hz0 hz1 hz2 rfl (by decide) _ _ _ rfl ho _ A q.length cap _ rfl (Rd.now HQ.out hb) (cells_one Bal.one q) ?c3 ?c4 ?c5 ?_)
          case c3 => simp only [maxLen]; omega
          case c4 => omega
          case c5 => exact hz
          intro v4 w4 ho4 hg4
          have hb4 := bel_own hb hz ho hg4
          clear hg4 f0 f1 f2 f3 f4
          go_wp2_with fail
          go_roundw
          case rel => exact ⟨k + 1, by omega, by go_num, by rw [HT.out, ← List.append_assoc]; simpa [cellsOf_app, Nat.add_assoc] using ho4, hb4⟩
          case measure => simp [intOf]; omega
        · have HE : Hid (P.take k = P) := Lib.hid (List.take_of_length_le (by omega))
          rw [HE.out] at ho
          go_wp2_with fail
          go_ret
          exact ⟨_, rfl, ho, hb⟩
set_option maxRecDepth 100000 in
set_option maxHeartbeats 4000000 in
theorem rtotal_any (I : List ItemR) (AI : Option Addr) (cI : Nat) (P : List PostR) (AP : Option Addr) (cP : Nat) (w : World)
    (hI : Rd w w.heap.size 7 AI I.length (cellsOf ItemR.cells I)) (hP : Rd w w.heap.size 5 AP P.length (cellsOf PostR.cells P)) (hPP : ∀ p ∈ P, p.Ok w)
    (hn : (allB I P).length ≤ 1000000) (hnI : I.length ≤ 1000000) (hnP : P.length ≤ 1000000) :
    Calls Try.prog 25 #[.slice AI I.length cI, .slice AP P.length cP] w (ColPost 47 w.heap.size (ofW (allB I P)) w) := by
  have hb := Below.refl w.heap.size w
  have HI := Lib.hid hI
  have HP := Lib.hid hP
  have HPP := Lib.hid hPP
  have HN := Lib.hid hn
  obtain ⟨i0, hi, hz0, hz1, hz2⟩ := info_parts colb_info
  clear hI hP hPP hn
  go_enter Try.func25, Try.ntmps25
  go_wp2_with fail
  refine (rparts_any I AI cI P AP cP w HI.out HP.out HPP.out HN.out hnI hnP).mono ?_
  rintro e w1 ⟨v1, rfl, ho1, hb1⟩
  replace hb := bel hb hb1
  obtain ⟨A1, c1, rfl, hrx⟩ := Rd.of_own ho1
  have H1 := Lib.hid hrx
  clear hrx ho1
  go_wp2_with fail
  refine (rclean_any (allB I P) A1 c1 _ H1.out HN.out).mono ?_
  rintro e w2 ⟨v2, L, E, rfl, ho2, hb2, hc2⟩
  replace hb := bel hb hb2
  have HC := Lib.hid hc2
  have hlL : L.length ≤ 1000000 := by
    have := HN.out
    rcases hc2 with ⟨_, h, _⟩ | ⟨_, rfl, _⟩
    · have := clean_len h; omega
    · simp
  clear hb1 hb2 H1 hc2
  obtain ⟨A2, c2, rfl, hrx⟩ := Rd.of_own ho2
  have H2 := Lib.hid hrx
  clear hrx ho2
  go_wp2_with fail
  go_loopw [8, 9] (fun v t wr => ∃ k : Nat, k ≤ L.length ∧ t = .int .i64 k ∧ wr.ownsRow w2.heap.size 47 2 v (L.take k).length (cellsOf Bal.cells (L.take k)) ∧ Below w2.heap.size w2 wr) (fun _ t _ => L.length - (intOf t).toNat)
  case atStart => exact ⟨0, by omega, rfl, World.ownsRow_nil _ _ _ _, Below.refl _ _⟩
  case round =>
    obtain ⟨k, hk, rfl, ho, hbr⟩ := hrel
    have hz := hbr.size
    have hz0' := hb.size
    by_cases hlt : k < L.length
    · obtain ⟨x, o, hA, hbo, f0, f1⟩ := Bal.at_ (H2.out.below hbr (Nat.le_refl _)) hlt
      subst hA
      have HX := Lib.hid (take_snoc' L k hlt)
      have hln : (L.take k).length ≤ 1000000 := by rw [List.length_take]; omega
      go_wp2_with (at_builtin; refine wpList_append_rec Bal.cells 2 (fun _ => rfl) Bal.one rfl (.tmp 23) (.tmp 28) 24 rfl w2.heap.size 47 i0 (.agg #[.int .i64 0, .int .i64 0]) 16 Try.underlying24 hi hz0 hz1 hz2 rfl (by decide) _ (L.take k) rfl (ho.alloc (.cells #[.int .i64 L[k].account, .int .i64 L[k].amount] 47)) wr.heap.size 1 L[k] _ rfl (Blk.new wr _ _) rfl ?c3 ?c4 ?c5 ?_)
      case c3 => simp only [maxLen]; omega
      case c4 => omega
      case c5 => simp; omega
      intro v4 w4 ho4 hg4
      have hb3 : Below w2.heap.size w2 (wr.alloc (.cells #[.int .i64 L[k].account, .int .i64 L[k].amount] 47)) := hbr.alloc hz _
      have hb4 : Below w2.heap.size w2 w4 := bel_own hb3 (by simp; omega) (ho.alloc _) hg4
      clear hg4 hb3
      go_wp2_with fail
      go_roundw
      case rel => exact ⟨k + 1, by omega, by go_num, by simpa using ho4, hb4⟩
      case measure => simp [intOf]; omega
    · have HE : Hid (L.take k = L) := Lib.hid (List.take_of_length_le (by omega))
      rw [HE.out] at ho
      go_wp2_with fail
      go_ret2
      exact ⟨_, L, E, rfl, own_base ho hb.size, bel hb hbr, HC.out⟩

set_option maxHeartbeats 1000000 in
theorem sametot_any (m n : List Bal) (A B : Option Addr) (c1 c2 : Nat) (w : World) (hr : Rd w w.heap.size 2 A m.length (cellsOf Bal.cells m)) (hq : Rd w w.heap.size 2 B n.length (cellsOf Bal.cells n)) (hn : m.length ≤ 1000000) (hn2 : n.length ≤ 1000000) :
    Calls Try.prog 26 #[.slice A m.length c1, .slice B n.length c2] w (BoolPost (decide (m = n)) w) := by
  have hb := Below.refl w.heap.size w
  have HR := Lib.hid hr
  have HQ := Lib.hid hq
  clear hr hq
  cases hl : ((m.length : Int) != (n.length : Int))
  · have HL : Hid (m.length = n.length) := Lib.hid (by simp at hl; omega)
    go_enter Try.func26, Try.ntmps26
    go_wp2_with fail
    go_loopw [5] (fun t wr => ∃ k : Nat, k ≤ m.length ∧ (∀ j (h : j < k) (h1 : j < m.length) (h2 : j < n.length), m[j]'h1 = n[j]'h2) ∧ t = .int .i64 k ∧ Below w.heap.size w wr) (fun t _ => m.length - (intOf t).toNat)
    case atStart => exact ⟨0, by omega, fun j h => by omega, rfl, hb⟩
    case round =>
      clear hb
      obtain ⟨k, hk, hno, rfl, hb⟩ := hrel
      have HN := Lib.hid hno
      clear hno
      by_cases hlt : k < m.length
      · have hlt2 : k < n.length := by have := HL.out; omega
        obtain ⟨x, o, hA, hbo, f0, f1⟩ := Bal.at_ (Rd.now HR.out hb) hlt
        obtain ⟨y, p, hB, hbp, g0, g1⟩ := Bal.at_ (Rd.now HQ.out hb) hlt2
        subst hA hB
        have q0 : ∀ d : Later wr, d.now.cell? ⟨x, o + k * 2, none⟩ = some (.int .i64 m[k].account) := fun d => d.cell hbo f0
        have q1 : ∀ d : Later wr, d.now.cell? ⟨x, o + k * 2 + 1, none⟩ = some (.int .i64 m[k].amount) := fun d => d.cell hbo f1
        have q2 : ∀ d : Later wr, d.now.cell? ⟨y, p + k * 2, none⟩ = some (.int .i64 n[k].account) := fun d => d.cell hbp g0
        have q3 : ∀ d : Later wr, d.now.cell? ⟨y, p + k * 2 + 1, none⟩ = some (.int .i64 n[k].amount) := fun d => d.cell hbp g1
        clear f0 f1 g0 g1
        rcases bal_cases m[k] n[k] with hc | ⟨hc1, hc2⟩ | ⟨hc1, hc2, hc3⟩
        · have HC := Lib.hid hc
          rw [hc] at q0 q1
          clear hc
          go_wp2_with fail
          refine wp_region_later (by kernel_rfl) (by kernel_rfl) ?_; (repeat (go_big_quiet_step ((fail)))); refine wpQuiet_nil ?_; rintro _ ⟨dq, rfl⟩
          have hbe := bel hb dq.below
          go_wp2_with fail
          go_roundw
          case rel =>
            refine ⟨k + 1, by omega, fun j h h1 h2 => ?_, by go_num, hbe⟩
            by_cases hj : j = k
            · subst hj; exact HC.out
            · exact HN.out j (by omega) h1 h2
          case measure => simp [intOf]; omega
        · have HE : Hid (¬ m = n) := Lib.hid (fun e => hc2 (by subst e; rfl))
          clear hc2
          go_wp2_with fail
          refine wp_region_later (by kernel_rfl) (by kernel_rfl) ?_; (repeat (go_big_quiet_step ((fail)))); refine wpQuiet_nil ?_; rintro _ ⟨dq, rfl⟩
          have hbe := bel hb dq.below
          go_wp2_with fail
          go_ret
          exact ⟨ret_bool (by simp [HE.out]), hbe⟩
        · have HE : Hid (¬ m = n) := Lib.hid (fun e => hc3 (by subst e; rfl))
          clear hc3
          go_wp2_with fail
          refine wp_region_later (by kernel_rfl) (by kernel_rfl) ?_; (repeat (go_big_quiet_step ((fail)))); refine wpQuiet_nil ?_; rintro _ ⟨dq, rfl⟩
          have hbe := bel hb dq.below
          go_wp2_with fail
          go_ret
          exact ⟨ret_bool (by simp [HE.out]), hbe⟩
      · have HE : Hid (m = n) := Lib.hid (List.ext_getElem HL.out (fun j h1 h2 => HN.out j (by omega) h1 h2))
        go_wp2_with fail
        go_ret
        exact ⟨ret_bool (by simp [HE.out]), hb⟩
  · have HE : Hid (¬ m = n) := Lib.hid (fun e => by subst e; simp at hl)
    go_enter Try.func26, Try.ntmps26
    go_wp2_with fail
    go_ret
    exact ⟨ret_bool (by simp [HE.out]), hb⟩
end Go.Proofs.Ytkfbchgabmffoaa
