/- Texts of this claim, put together. -/
import Derived.Test.YthfbpbbepogllaaGreatJAZ
import Derived.Test.YthfbpbbepogllaaGreatJAX
/- The walk of SamePostings, for lists that are equal. -/
namespace Go.Proofs.YthfbpbbepogllaaGreat
set_option linter.unusedVariables false
set_option linter.unusedSimpArgs false
open Go.RowKit

def SameP (x y : PostR) : Prop := x.kind = y.kind ∧ x.entity = y.entity ∧ x.other = y.other ∧ x.rule = y.rule ∧ x.parts.l = y.parts.l
/-- postings as they lie in a world -/
structure PIn (w : World) (L : List PostR) (A : Option Addr) : Prop where
  rd : Rd w w.heap.size 5 A L.length (cellsOf PostR.cells L)
  pt : ∀ x ∈ L, Rd w w.heap.size 2 x.parts.A x.parts.l.length (cellsOf Bal.cells x.parts.l)
  few : ∀ x ∈ L, x.parts.l.length ≤ 1000000
  len : L.length ≤ 1000000
theorem PIn.step {w w2 : World} {L : List PostR} {A : Option Addr} (h : PIn w L A) (hb : Below w.heap.size w w2) : PIn w2 L A :=
  ⟨Rd.now h.rd hb, fun x hx => Rd.now (h.pt x hx) hb, h.few, h.len⟩
set_option maxRecDepth 100000 in
set_option maxHeartbeats 16000000 in
theorem samep_yes (L M : List PostR) (A B : Option Addr) (c1 c2 : Nat) (w : World) (hL : PIn w L A) (hM : PIn w M B) (hlen : L.length = M.length) (hs : ∀ k (h1 : k < L.length) (h2 : k < M.length), SameP L[k] M[k]) :
    Calls Tryz.prog 15 #[.slice A L.length c1, .slice B M.length c2] w (BoolPost true w) := by
  have hb := Below.refl w.heap.size w
  have HL := Lib.hid hL
  have HM := Lib.hid hM
  have HS := Lib.hid hs
  have hn := hL.len
  rw [← hlen]
  have HE := Lib.hid hlen
  clear hL hM hs hlen
  have hnn : ((L.length : Int) != (L.length : Int)) = false := by simp
  go_enter Tryz.func15, Tryz.ntmps15
  go_wp2_with fail
  clear hnn
  go_loopw [5] (fun t wr => ∃ k : Nat, k ≤ L.length ∧ t = .int .i64 k ∧ Below w.heap.size w wr) (fun t _ => L.length - (intOf t).toNat)
  case atStart => exact ⟨0, by omega, rfl, hb⟩
  case round =>
    clear hb
    obtain ⟨k, hk, rfl, hb⟩ := hrel
    by_cases hlt : k < L.length
    · have hlt2 : k < M.length := by have := HE.out; omega
      obtain ⟨b, o, hA, hbo, hx⟩ := rd_at (f := PostR.cells) (sz := 5) (fun _ => rfl) (Rd.now HL.out.rd hb) hlt
      subst hA
      obtain ⟨b2, o2, hA2, hbo2, hx2⟩ := rd_at (f := PostR.cells) (sz := 5) (fun _ => rfl) (Rd.now HM.out.rd hb) hlt2
      subst hA2
      have HX := Lib.hid hx
      have HZ := Lib.hid hx2
      have HSK := Lib.hid (HS.out k hlt hlt2)
      have HPL := Lib.hid (HL.out.pt _ (List.getElem_mem hlt))
      have HPM := Lib.hid (HM.out.pt _ (List.getElem_mem hlt2))
      have hfew := HL.out.few _ (List.getElem_mem hlt)
      clear hx hx2
      generalize L[k] = x at *
      generalize M[k] = z at *
      obtain ⟨xk, xe, xo, xr, ⟨pl, pA, pc⟩⟩ := x
      obtain ⟨zk, ze, zo, zr, ⟨pm, qA, qc⟩⟩ := z
      obtain ⟨e1, e2, e3, e4, e5⟩ := HSK.out
      dsimp only at e1 e2 e3 e4 e5
      subst e1 e2 e3 e4 e5
      clear HSK
      dsimp only at *
      have q0 : ∀ d : Later wr, d.now.cell? ⟨b, o + k * 5, none⟩ = some (.int .i64 xk) := fun d => d.cell hbo (HX.out 0 _ rfl)
      have q1 : ∀ d : Later wr, d.now.cell? ⟨b, o + k * 5 + 1, none⟩ = some (.int .i64 xe) := fun d => d.cell hbo (HX.out 1 _ rfl)
      have q2 : ∀ d : Later wr, d.now.cell? ⟨b, o + k * 5 + 2, none⟩ = some (.int .i64 xo) := fun d => d.cell hbo (HX.out 2 _ rfl)
      have q3 : ∀ d : Later wr, d.now.cell? ⟨b, o + k * 5 + 3, none⟩ = some (.int .i64 xr) := fun d => d.cell hbo (HX.out 3 _ rfl)
      have q4 : ∀ d : Later wr, d.now.cell? ⟨b, o + k * 5 + 4, none⟩ = some (.slice pA pl.length pc) := fun d => d.cell hbo (HX.out 4 _ rfl)
      have p0 : ∀ d : Later wr, d.now.cell? ⟨b2, o2 + k * 5, none⟩ = some (.int .i64 xk) := fun d => d.cell hbo2 (HZ.out 0 _ rfl)
      have p1 : ∀ d : Later wr, d.now.cell? ⟨b2, o2 + k * 5 + 1, none⟩ = some (.int .i64 xe) := fun d => d.cell hbo2 (HZ.out 1 _ rfl)
      have p2 : ∀ d : Later wr, d.now.cell? ⟨b2, o2 + k * 5 + 2, none⟩ = some (.int .i64 xo) := fun d => d.cell hbo2 (HZ.out 2 _ rfl)
      have p3 : ∀ d : Later wr, d.now.cell? ⟨b2, o2 + k * 5 + 3, none⟩ = some (.int .i64 xr) := fun d => d.cell hbo2 (HZ.out 3 _ rfl)
      have p4 : ∀ d : Later wr, d.now.cell? ⟨b2, o2 + k * 5 + 4, none⟩ = some (.slice qA pl.length qc) := fun d => d.cell hbo2 (HZ.out 4 _ rfl)
      go_upto_region 6 with fail
      go_cut [6, 7] (fun s6 s7 wx => ∃ g1 g2 : Nat, s6 = .pointer (some ⟨g1, 0, none⟩) ∧ s7 = .pointer (some ⟨g2, 0, none⟩) ∧ Blk wx g1 48 (PostR.arr ⟨xk, xe, xo, xr, ⟨pl, pA, pc⟩⟩) ∧ Blk wx g2 48 (PostR.arr ⟨xk, xe, xo, xr, ⟨pl, qA, qc⟩⟩) ∧ Below wr.heap.size wr wx)
      case first =>
        refine rel_begin (n := 12) (wr) (by kernel_rfl) rfl ?_; have hC := Near.drew (wr)
        (first | (refine rel_want (i := 0) rfl rfl (by kernel_rfl) (by kernel_rfl) (by kernel_rfl) rfl (fun _ _ _ _ h => h) hC ?_; intro K hK; go_big_quiet_op; go_big_quiet_on) | (refine rel_skip (i := 0) rfl (by kernel_rfl) (by kernel_rfl) (by kernel_rfl) rfl (fun _ _ _ _ h => h) hC ?_; simp only [Act.put, List.setIfInBounds_toArray, List.set_cons_zero, List.set_cons_succ])); (first | (refine rel_want (i := 1) rfl rfl (by kernel_rfl) (by kernel_rfl) (by kernel_rfl) rfl (fun _ _ _ _ h => h) hC ?_; intro K hK; go_big_quiet_op; go_big_quiet_on) | (refine rel_skip (i := 1) rfl (by kernel_rfl) (by kernel_rfl) (by kernel_rfl) rfl (fun _ _ _ _ h => h) hC ?_; simp only [Act.put, List.setIfInBounds_toArray, List.set_cons_zero, List.set_cons_succ])); (first | (refine rel_want (i := 2) rfl rfl (by kernel_rfl) (by kernel_rfl) (by kernel_rfl) rfl (fun _ _ _ _ h => h) hC ?_; intro K hK; go_big_quiet_op; go_big_quiet_on) | (refine rel_skip (i := 2) rfl (by kernel_rfl) (by kernel_rfl) (by kernel_rfl) rfl (fun _ _ _ _ h => h) hC ?_; simp only [Act.put, List.setIfInBounds_toArray, List.set_cons_zero, List.set_cons_succ])); (first | (refine rel_want (i := 3) rfl rfl (by kernel_rfl) (by kernel_rfl) (by kernel_rfl) rfl (fun _ _ _ _ h => h) hC ?_; intro K hK; go_big_quiet_op; go_big_quiet_on) | (refine rel_skip (i := 3) rfl (by kernel_rfl) (by kernel_rfl) (by kernel_rfl) rfl (fun _ _ _ _ h => h) hC ?_; simp only [Act.put, List.setIfInBounds_toArray, List.set_cons_zero, List.set_cons_succ])); (first | (refine rel_want (i := 4) rfl rfl (by kernel_rfl) (by kernel_rfl) (by kernel_rfl) rfl (fun _ _ _ _ h => h) hC ?_; intro K hK; go_big_quiet_op; go_big_quiet_on) | (refine rel_skip (i := 4) rfl (by kernel_rfl) (by kernel_rfl) (by kernel_rfl) rfl (fun _ _ _ _ h => h) hC ?_; simp only [Act.put, List.setIfInBounds_toArray, List.set_cons_zero, List.set_cons_succ])); (first | (refine rel_want (i := 5) rfl rfl (by kernel_rfl) (by kernel_rfl) (by kernel_rfl) rfl (fun _ _ _ _ h => h) hC ?_; intro K hK; go_big_quiet_op; go_big_quiet_on) | (refine rel_skip (i := 5) rfl (by kernel_rfl) (by kernel_rfl) (by kernel_rfl) rfl (fun _ _ _ _ h => h) hC ?_; simp only [Act.put, List.setIfInBounds_toArray, List.set_cons_zero, List.set_cons_succ])); (first | (refine rel_want (i := 6) rfl rfl (by kernel_rfl) (by kernel_rfl) (by kernel_rfl) rfl (fun _ _ _ _ h => h) hC ?_; intro K hK; go_big_quiet_op; go_big_quiet_on) | (refine rel_skip (i := 6) rfl (by kernel_rfl) (by kernel_rfl) (by kernel_rfl) rfl (fun _ _ _ _ h => h) hC ?_; simp only [Act.put, List.setIfInBounds_toArray, List.set_cons_zero, List.set_cons_succ])); (first | (refine rel_want (i := 7) rfl rfl (by kernel_rfl) (by kernel_rfl) (by kernel_rfl) rfl (fun _ _ _ _ h => h) hC ?_; intro K hK; go_big_quiet_op; go_big_quiet_on) | (refine rel_skip (i := 7) rfl (by kernel_rfl) (by kernel_rfl) (by kernel_rfl) rfl (fun _ _ _ _ h => h) hC ?_; simp only [Act.put, List.setIfInBounds_toArray, List.set_cons_zero, List.set_cons_succ]))
        clear q0 q1 q2 q3 q4 p0 p1 p2 p3 p4
        refine rel_calls (is := [8, 9]) (by kernel_rfl) (by simp) ?_
        intro j hj
        simp only [List.mem_cons, List.not_mem_nil, or_false] at hj
        rcases hj with rfl | rfl
        · refine ⟨_, rfl, rfl, ?_⟩
          intro K hK
          go_simp
          have hC4 : Below wr.heap.size wr (wr.alloc (.cells #[.int .i64 0, .int .i64 0, .int .i64 0, .int .i64 0, .slice none 0 0] 48)).drew := ((Below.refl _ _).alloc (Nat.le_refl _) _).drew
          have hX0 : Blk (wr.alloc (.cells #[.int .i64 0, .int .i64 0, .int .i64 0, .int .i64 0, .slice none 0 0] 48)).drew wr.heap.size 48 zeroPost := (Blk.new wr _ _).drew
          refine hK _ _ (Near.of hC4) ?_
          clear hK K hC
          generalize (wr.alloc (.cells #[.int .i64 0, .int .i64 0, .int .i64 0, .int .i64 0, .slice none 0 0] 48)).drew = w4 at *
          intro hC
          (try simp only [Act.put, List.setIfInBounds_toArray, List.set_cons_zero, List.set_cons_succ])
          refine rel_call (i := 9) (by kernel_rfl) rfl rfl ?_
          intro K hK
          go_simp
          have hlt4 := hX0.lt
          have hC5 : Below wr.heap.size wr (w4.alloc (.cells #[.int .i64 0, .int .i64 0, .int .i64 0, .int .i64 0, .slice none 0 0] 48)) := hC4.alloc hC4.size _
          have hX1 : Blk (w4.alloc (.cells #[.int .i64 0, .int .i64 0, .int .i64 0, .int .i64 0, .slice none 0 0] 48)) wr.heap.size 48 zeroPost := hX0.alloc _
          have hX2 : Blk (w4.alloc (.cells #[.int .i64 0, .int .i64 0, .int .i64 0, .int .i64 0, .slice none 0 0] 48)) w4.heap.size 48 zeroPost := Blk.new w4 _ _
          refine hK _ _ (Near.of hC5) ?_
          clear hK K hC
          generalize w4.alloc (.cells #[.int .i64 0, .int .i64 0, .int .i64 0, .int .i64 0, .slice none 0 0] 48) = w5 at *
          intro hC
          (try simp only [Act.put, List.setIfInBounds_toArray, List.set_cons_zero, List.set_cons_succ])
          refine rel_call (i := 10) (by kernel_rfl) rfl rfl ?_
          intro K hK
          refine wp_store_row 48 (.tmp 6) (.tmp 23) rfl (wr.heap.size) (PostR.arr ⟨xk, xe, xo, xr, ⟨pl, pA, pc⟩⟩) rfl rfl 48 zeroPost hX1 post_size rfl (PostR.arr_one _) ?_
          have hY1 : Blk (w5.setRow (wr.heap.size) (PostR.arr ⟨xk, xe, xo, xr, ⟨pl, pA, pc⟩⟩)) (wr.heap.size) 48 (PostR.arr ⟨xk, xe, xo, xr, ⟨pl, pA, pc⟩⟩) := setRow_heap _ _ zeroPost _ _ _ hX1
          have hY2 : Blk (w5.setRow (wr.heap.size) (PostR.arr ⟨xk, xe, xo, xr, ⟨pl, pA, pc⟩⟩)) (w4.heap.size) 48 zeroPost := (setRow_other _ _ _ _ (by omega)).trans hX2
          have hC6 := below_row (cs := (PostR.arr ⟨xk, xe, xo, xr, ⟨pl, pA, pc⟩⟩)) (g := wr.heap.size) hC5 (by omega)
          refine hK _ _ (Near.of hC6) ?_
          clear hK K hC hX1 hX2
          generalize w5.setRow (wr.heap.size) (PostR.arr ⟨xk, xe, xo, xr, ⟨pl, pA, pc⟩⟩) = w6 at *
          intro hC
          (try simp only [Act.put, List.setIfInBounds_toArray, List.set_cons_zero, List.set_cons_succ])
          refine rel_call (i := 11) (by kernel_rfl) rfl rfl ?_
          intro K hK
          refine wp_store_row 48 (.tmp 7) (.tmp 27) rfl (w4.heap.size) (PostR.arr ⟨xk, xe, xo, xr, ⟨pl, qA, qc⟩⟩) rfl rfl 48 zeroPost hY2 post_size rfl (PostR.arr_one _) ?_
          have hZ2 : Blk (w6.setRow (w4.heap.size) (PostR.arr ⟨xk, xe, xo, xr, ⟨pl, qA, qc⟩⟩)) (w4.heap.size) 48 (PostR.arr ⟨xk, xe, xo, xr, ⟨pl, qA, qc⟩⟩) := setRow_heap _ _ zeroPost _ _ _ hY2
          have hZ1 : Blk (w6.setRow (w4.heap.size) (PostR.arr ⟨xk, xe, xo, xr, ⟨pl, qA, qc⟩⟩)) (wr.heap.size) 48 (PostR.arr ⟨xk, xe, xo, xr, ⟨pl, pA, pc⟩⟩) := (setRow_other _ _ _ _ (by omega)).trans hY1
          have hC7 := below_row (cs := (PostR.arr ⟨xk, xe, xo, xr, ⟨pl, qA, qc⟩⟩)) (g := w4.heap.size) hC6 (by omega)
          refine hK _ _ (Near.of hC7) ?_
          clear hK K hC
          generalize w6.setRow (w4.heap.size) (PostR.arr ⟨xk, xe, xo, xr, ⟨pl, qA, qc⟩⟩) = w7 at *
          intro hC
          (try simp only [Act.put, List.setIfInBounds_toArray, List.set_cons_zero, List.set_cons_succ])
          refine wpAnyH_done (by kernel_rfl) ?_ _
          go_wp2_with fail
          go_meet
          exact ⟨wr.heap.size, w4.heap.size, rfl, rfl, hZ1, hZ2, hC7⟩
        · refine ⟨_, rfl, rfl, ?_⟩
          intro K hK
          go_simp
          have hC4 : Below wr.heap.size wr (wr.alloc (.cells #[.int .i64 0, .int .i64 0, .int .i64 0, .int .i64 0, .slice none 0 0] 48)).drew := ((Below.refl _ _).alloc (Nat.le_refl _) _).drew
          have hX0 : Blk (wr.alloc (.cells #[.int .i64 0, .int .i64 0, .int .i64 0, .int .i64 0, .slice none 0 0] 48)).drew wr.heap.size 48 zeroPost := (Blk.new wr _ _).drew
          refine hK _ _ (Near.of hC4) ?_
          clear hK K hC
          generalize (wr.alloc (.cells #[.int .i64 0, .int .i64 0, .int .i64 0, .int .i64 0, .slice none 0 0] 48)).drew = w4 at *
          intro hC
          (try simp only [Act.put, List.setIfInBounds_toArray, List.set_cons_zero, List.set_cons_succ])
          refine rel_call (i := 8) (by kernel_rfl) rfl rfl ?_
          intro K hK
          go_simp
          have hlt4 := hX0.lt
          have hC5 : Below wr.heap.size wr (w4.alloc (.cells #[.int .i64 0, .int .i64 0, .int .i64 0, .int .i64 0, .slice none 0 0] 48)) := hC4.alloc hC4.size _
          have hX1 : Blk (w4.alloc (.cells #[.int .i64 0, .int .i64 0, .int .i64 0, .int .i64 0, .slice none 0 0] 48)) wr.heap.size 48 zeroPost := hX0.alloc _
          have hX2 : Blk (w4.alloc (.cells #[.int .i64 0, .int .i64 0, .int .i64 0, .int .i64 0, .slice none 0 0] 48)) w4.heap.size 48 zeroPost := Blk.new w4 _ _
          refine hK _ _ (Near.of hC5) ?_
          clear hK K hC
          generalize w4.alloc (.cells #[.int .i64 0, .int .i64 0, .int .i64 0, .int .i64 0, .slice none 0 0] 48) = w5 at *
          intro hC
          (try simp only [Act.put, List.setIfInBounds_toArray, List.set_cons_zero, List.set_cons_succ])
          refine rel_call (i := 10) (by kernel_rfl) rfl rfl ?_
          intro K hK
          refine wp_store_row 48 (.tmp 6) (.tmp 23) rfl (w4.heap.size) (PostR.arr ⟨xk, xe, xo, xr, ⟨pl, pA, pc⟩⟩) rfl rfl 48 zeroPost hX2 post_size rfl (PostR.arr_one _) ?_
          have hY1 : Blk (w5.setRow (w4.heap.size) (PostR.arr ⟨xk, xe, xo, xr, ⟨pl, pA, pc⟩⟩)) (w4.heap.size) 48 (PostR.arr ⟨xk, xe, xo, xr, ⟨pl, pA, pc⟩⟩) := setRow_heap _ _ zeroPost _ _ _ hX2
          have hY2 : Blk (w5.setRow (w4.heap.size) (PostR.arr ⟨xk, xe, xo, xr, ⟨pl, pA, pc⟩⟩)) (wr.heap.size) 48 zeroPost := (setRow_other _ _ _ _ (by omega)).trans hX1
          have hC6 := below_row (cs := (PostR.arr ⟨xk, xe, xo, xr, ⟨pl, pA, pc⟩⟩)) (g := w4.heap.size) hC5 (by omega)
          refine hK _ _ (Near.of hC6) ?_
          clear hK K hC hX1 hX2
          generalize w5.setRow (w4.heap.size) (PostR.arr ⟨xk, xe, xo, xr, ⟨pl, pA, pc⟩⟩) = w6 at *
          intro hC
          (try simp only [Act.put, List.setIfInBounds_toArray, List.set_cons_zero, List.set_cons_succ])
          refine rel_call (i := 11) (by kernel_rfl) rfl rfl ?_
          intro K hK
          refine wp_store_row 48 (.tmp 7) (.tmp 27) rfl (wr.heap.size) (PostR.arr ⟨xk, xe, xo, xr, ⟨pl, qA, qc⟩⟩) rfl rfl 48 zeroPost hY2 post_size rfl (PostR.arr_one _) ?_
          have hZ2 : Blk (w6.setRow (wr.heap.size) (PostR.arr ⟨xk, xe, xo, xr, ⟨pl, qA, qc⟩⟩)) (wr.heap.size) 48 (PostR.arr ⟨xk, xe, xo, xr, ⟨pl, qA, qc⟩⟩) := setRow_heap _ _ zeroPost _ _ _ hY2
          have hZ1 : Blk (w6.setRow (wr.heap.size) (PostR.arr ⟨xk, xe, xo, xr, ⟨pl, qA, qc⟩⟩)) (w4.heap.size) 48 (PostR.arr ⟨xk, xe, xo, xr, ⟨pl, pA, pc⟩⟩) := (setRow_other _ _ _ _ (by omega)).trans hY1
          have hC7 := below_row (cs := (PostR.arr ⟨xk, xe, xo, xr, ⟨pl, qA, qc⟩⟩)) (g := wr.heap.size) hC6 (by omega)
          refine hK _ _ (Near.of hC7) ?_
          clear hK K hC
          generalize w6.setRow (wr.heap.size) (PostR.arr ⟨xk, xe, xo, xr, ⟨pl, qA, qc⟩⟩) = w7 at *
          intro hC
          (try simp only [Act.put, List.setIfInBounds_toArray, List.set_cons_zero, List.set_cons_succ])
          refine wpAnyH_done (by kernel_rfl) ?_ _
          go_wp2_with fail
          go_meet
          exact ⟨w4.heap.size, wr.heap.size, rfl, rfl, hZ1, hZ2, hC7⟩
      case rest =>
        obtain ⟨g1, g2, rfl, rfl, h1, h2, hbc⟩ := hcut
        have h10 : wc.cell? ⟨g1, 0, none⟩ = some (.int .i64 xk) := h1.cell 0
        have h11 : wc.cell? ⟨g1, 1, none⟩ = some (.int .i64 xe) := h1.cell 1
        have h12 : wc.cell? ⟨g1, 2, none⟩ = some (.int .i64 xo) := h1.cell 2
        have h13 : wc.cell? ⟨g1, 3, none⟩ = some (.int .i64 xr) := h1.cell 3
        have h14 : wc.cell? ⟨g1, 4, none⟩ = some (.slice pA pl.length pc) := h1.cell 4
        have h20 : wc.cell? ⟨g2, 0, none⟩ = some (.int .i64 xk) := h2.cell 0
        have h21 : wc.cell? ⟨g2, 1, none⟩ = some (.int .i64 xe) := h2.cell 1
        have h22 : wc.cell? ⟨g2, 2, none⟩ = some (.int .i64 xo) := h2.cell 2
        have h23 : wc.cell? ⟨g2, 3, none⟩ = some (.int .i64 xr) := h2.cell 3
        have h24 : wc.cell? ⟨g2, 4, none⟩ = some (.slice qA pl.length qc) := h2.cell 4
        have H1 := Lib.hid h1
        have H2 := Lib.hid h2
        have hbw := bel hb hbc
        have n1 : (xk != xk) = false := by simp
        have n2 : (xe != xe) = false := by simp
        have n3 : (xo != xo) = false := by simp
        have n4 : (xr != xr) = false := by simp
        have n5 : ((pl.length : Int) != (pl.length : Int)) = false := by simp
        have HPL2 := Lib.hid (Rd.now HPL.out hbw)
        have HPM2 := Lib.hid (Rd.now HPM.out hbw)
        clear h1 h2 q0 q1 q2 q3 q4 p0 p1 p2 p3 p4 HX HZ
        go_wp2_with fail
        clear h10 h11 h12 h13 h14 h20 h21 h22 h23 h24 n1 n2 n3 n4 n5
        obtain ⟨wo, hwo⟩ : ∃ x, x = wr := ⟨_, rfl⟩
        subst hwo
        go_loopw [8] (fun t ws => ∃ j : Nat, j ≤ pl.length ∧ t = .int .i64 j ∧ Below wc.heap.size wc ws) (fun t _ => pl.length - (intOf t).toNat)
        case atStart => exact ⟨0, by omega, rfl, Below.refl _ _⟩
        case round =>
          obtain ⟨j, hj, rfl, hbs⟩ := hrel
          have H1s := Lib.hid (H1.out.step hbs)
          have H2s := Lib.hid (H2.out.step hbs)
          have h14 : wr.cell? ⟨g1, 4, none⟩ = some (.slice pA pl.length pc) := H1s.out.cell 4
          have hbz := bel hbw hbs
          by_cases hjl : j < pl.length
          · obtain ⟨b3, o3, hA3, hbo3, f0, f1⟩ := Bal.at_ (Rd.now HPL2.out hbs) hjl
            subst hA3
            obtain ⟨b4, o4, hA4, hbo4, f2, f3⟩ := Bal.at_ (Rd.now HPM2.out hbs) hjl
            subst hA4
            generalize pl[j] = x at *
            obtain ⟨xc, xa⟩ := x
            dsimp only at *
            have q1 : ∀ d : Later wr, d.now.cell? ⟨g1, 4, none⟩ = some (.slice (some ⟨b3, o3, none⟩) pl.length pc) := fun d => d.cell H1s.out.lt (H1s.out.cell 4)
            have q2 : ∀ d : Later wr, d.now.cell? ⟨g2, 4, none⟩ = some (.slice (some ⟨b4, o4, none⟩) pl.length qc) := fun d => d.cell H2s.out.lt (H2s.out.cell 4)
            have q3 : ∀ d : Later wr, d.now.cell? ⟨b3, o3 + j * 2, none⟩ = some (.int .i64 xc) := fun d => d.cell hbo3 f0
            have q4 : ∀ d : Later wr, d.now.cell? ⟨b3, o3 + j * 2 + 1, none⟩ = some (.int .i64 xa) := fun d => d.cell hbo3 f1
            have q5 : ∀ d : Later wr, d.now.cell? ⟨b4, o4 + j * 2, none⟩ = some (.int .i64 xc) := fun d => d.cell hbo4 f2
            have q6 : ∀ d : Later wr, d.now.cell? ⟨b4, o4 + j * 2 + 1, none⟩ = some (.int .i64 xa) := fun d => d.cell hbo4 f3
            have n1 : (xc == xc) = true := by simp
            have n2 : (xa == xa) = true := by simp
            go_wp2_with fail
            refine wp_region_later (by kernel_rfl) (by kernel_rfl) ?_
            (repeat (go_big_quiet_step ((fail)))); refine wpQuiet_nil ?_; rintro _ ⟨dq, rfl⟩
            have hbe := bel hbs dq.below
            clear q1 q2 q3 q4 q5 q6 f0 f1 f2 f3 h14
            go_wp2_with fail
            go_roundw
            case rel => exact ⟨j + 1, by omega, by go_num, hbe⟩
            case measure => simp [intOf]; omega
          · go_wp2_with fail
            go_roundw
            case rel => exact ⟨k + 1, by omega, by go_num, hbz⟩
            case measure => simp [intOf]; omega
    · go_wp2_with fail
      go_ret
      exact ⟨rfl, hb⟩
end Go.Proofs.YthfbpbbepogllaaGreat
