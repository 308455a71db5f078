/- Texts of this claim, put together. -/
import Derived.Test.YthfbpbbepogllaaGreatSamWalksBZ
import Derived.Test.YthfbpbbepogllaaGreatGrpWalksOZ
import Derived.Test.YthfbpbbepogllaaGreatInvPostWZ
import Derived.Test.YthfbpbbepogllaaGreatSamPostZ
/- The walk of Sample. -/
namespace Go.Proofs.YthfbpbbepogllaaGreat
set_option linter.unusedVariables false
set_option linter.unusedSimpArgs false
open Go.RowKit

theorem below_setRow {B g : Nat} {w w' : World} {cs : Array Value} (h : Below B w w') (hg : B ≤ g) : Below B w (w'.setRow g cs) :=
  ⟨h.os, h.tape, h.output, by have := h.size; simpa [World.setRow] using this, fun b hb => (setRow_other w' g b cs (by omega)).trans (h.block b hb)⟩
namespace Sam
def eur : ByteArray := Gr.txt [69, 85, 82]
def usd : ByteArray := Gr.txt [85, 83, 68]
def ro : RolesR := ⟨1500, 1600, 1700, 1200, 3100, 3200, 3300, 3400, 3500, 4500, 4600, 4700, 5500, 5600, 5700⟩
def ent (n c : ByteArray) (j : Bool) (s : Sl Acc) (r : Sl LinkR) : EntR := ⟨n, c, ⟨ech, s.A, s.cap⟩, ⟨eli, r.A, r.cap⟩, j⟩
def ents (s1 s2 s3 s4 : Sl Acc) (r1 r2 r3 r4 : Sl LinkR) : List EntR :=
  [ent (Gr.txt [112, 97, 114, 101, 110, 116]) eur false s1 r1, ent (Gr.txt [110, 111, 114, 116, 104]) eur false s2 r2, ent (Gr.txt [119, 101, 115, 116]) usd false s3 r3, ent (Gr.txt [106, 111, 105, 110, 116]) usd true s4 r4]
theorem good (s1 s2 s3 s4 : Sl Acc) (r1 r2 r3 r4 : Sl LinkR) : Gr.gv eur chart ro (ents s1 s2 s3 s4 r1 r2 r3 r4) (Cal.ok 2026 1 36) = true := by kernel_rfl
theorem small (s1 s2 s3 s4 : Sl Acc) (r1 r2 r3 r4 : Sl LinkR) : FewOk eur chart (ents s1 s2 s3 s4 r1 r2 r3 r4) :=
  ⟨by decide, by show 4 ≤ 20; omega, by unfold maxLen; decide, fun j h => by
    have h4 : j < 4 := h
    match j, h4 with
    | 0, _ => exact ⟨by show (Sam.ech).length ≤ 300000; decide, by show (Sam.eli).length ≤ 300000; decide⟩
    | 1, _ => exact ⟨by show (Sam.ech).length ≤ 300000; decide, by show (Sam.eli).length ≤ 300000; decide⟩
    | 2, _ => exact ⟨by show (Sam.ech).length ≤ 300000; decide, by show (Sam.eli).length ≤ 300000; decide⟩
    | 3, _ => exact ⟨by show (Sam.ech).length ≤ 300000; decide, by show (Sam.eli).length ≤ 300000; decide⟩⟩
end Sam
theorem Sl.Past.mono {α : Type} {s : Sl α} {B C : Nat} (h : s.Past C) (hB : B ≤ C) : s.Past B := by
  obtain ⟨g, e, hg⟩ := h
  exact ⟨g, e, by omega⟩
theorem chart_wf : ∀ a ∈ Sam.chart, (Lit.int .i64 a.code).wf = true := by decide
theorem row_turn {w w' : World} {o : Obj} {g : Nat} {cs : Array Value} (h : w' = (w.alloc o).setRow g cs) : (∀ k, g + 1 ≤ k → k < w.heap.size → w'.heap[k]? = w.heap[k]?) ∧ w.heap.size ≤ w'.heap.size := by
  subst h
  refine ⟨fun k h1 h2 => (setRow_other _ g k cs (by omega)).trans (Below.heap_alloc w o k h2), ?_⟩
  simp [World.setRow]
def gcells (cur : ByteArray) (y m p : Int) (cl : List Acc) (cA : Option Addr) (cc : Nat) (ro : RolesR) (el : List EntR) (eA : Option Addr) (ec : Nat) : Array Value := #[.string cur, .int .i64 y, .int .i64 m, .int .i64 p, .slice cA cl.length cc, .int .i64 ro.investment, .int .i64 ro.goodwill, .int .i64 ro.associates, .int .i64 ro.inventory, .int .i64 ro.reserve, .int .i64 ro.minority, .int .i64 ro.retained, .int .i64 ro.acquired, .int .i64 ro.owners, .int .i64 ro.disposal, .int .i64 ro.associateProfit, .int .i64 ro.dividends, .int .i64 ro.minorityProfit, .int .i64 ro.difference, .int .i64 ro.margin, .slice eA el.length ec]
/-- the sample group -/
def SamGrp (w : World) (e : Ending) (w' : World) : Prop :=
  ∃ (gcs : Array Value) (cA : Option Addr) (cc : Nat) (s1 s2 s3 s4 : Sl Acc) (r1 r2 r3 r4 : Sl LinkR) (eA : Option Addr) (ec : Nat), e = .returned (.agg gcs) ∧ gcs = gcells Sam.eur 2026 1 36 Sam.chart cA cc Sam.ro (Sam.ents s1 s2 s3 s4 r1 r2 r3 r4) eA ec ∧
    GIn w' Sam.chart cA (Sam.ents s1 s2 s3 s4 r1 r2 r3 r4) eA ∧ Below w.heap.size w w'
def zeroG : Array Value := #[.string ⟨#[]⟩, .int .i64 0, .int .i64 0, .int .i64 0, .slice none 0 0, .int .i64 0, .int .i64 0, .int .i64 0, .int .i64 0, .int .i64 0, .int .i64 0, .int .i64 0, .int .i64 0, .int .i64 0, .int .i64 0, .int .i64 0, .int .i64 0, .int .i64 0, .int .i64 0, .int .i64 0, .slice none 0 0]
set_option maxRecDepth 100000 in
set_option maxHeartbeats 16000000 in
theorem sample_any (w : World) : Calls Tryz.prog 34 #[] w (SamGrp w) := by
  have hb := Below.refl w.heap.size w
  have hb1 := hb.alloc hb.size (.cells zeroG 29)
  have HZ := Lib.hid (Blk.new w 29 zeroG)
  have hz1 : (w.alloc (.cells zeroG 29)).heap.size = w.heap.size + 1 := by simp
  go_enter Tryz.func34, Tryz.ntmps34
  go_wp2_with fail
  generalize hgen : w.alloc (.cells _ 29) = W1
  rw [show w.alloc (.cells zeroG 29) = W1 from hgen] at hb1 HZ hz1
  clear hgen hb
  refine (sampleChart_any W1).mono ?_
  rintro e w2 ⟨v2, rfl, ho2, hb2⟩
  obtain ⟨cA, cn, cc, hv2⟩ := own_shape ho2
  subst hv2
  obtain ⟨hcn, hl2⟩ := own_lies ho2
  have hp2 : (Sl.mk Sam.chart cA cc).Past W1.heap.size := own_past ho2 (by decide)
  have HB2 := Lib.hid (bel hb1 hb2)
  have HZ2 := Lib.hid (HZ.out.step hb2)
  have HL2 := Lib.hid hl2
  subst hcn
  have hz12 := hb2.size
  clear ho2 hl2 hb2 hb1 HZ
  go_wp2_with fail
  refine (sampleEntity_any (Gr.txt [112, 97, 114, 101, 110, 116]) Sam.eur false w2 (by decide) (by decide)).mono ?_
  rintro e w3 ⟨A1, c1, B1, d1, rfl, k1, p1, q1, hb9⟩
  have hb3 := bel HB2.out hb9
  have HL3 := Lib.hid (HL2.out.step hb9)
  have HZ3 := Lib.hid (HZ2.out.step hb9)
  have K13 := Lib.hid k1
  have hz3 := hb9.size
  clear hb9 k1
  go_wp2_with fail
  refine (sampleEntity_any (Gr.txt [110, 111, 114, 116, 104]) Sam.eur false w3 (by decide) (by decide)).mono ?_
  rintro e w4 ⟨A2, c2, B2, d2, rfl, k2, p2, q2, hb9⟩
  have hb4 := bel hb3 hb9
  have HL4 := Lib.hid (HL3.out.step hb9)
  have HZ4 := Lib.hid (HZ3.out.step hb9)
  have K14 := Lib.hid (K13.out.step hb9)
  have K24 := Lib.hid k2
  have hz4 := hb9.size
  clear hb9 k2
  go_wp2_with fail
  refine (sampleEntity_any (Gr.txt [119, 101, 115, 116]) Sam.usd false w4 (by decide) (by decide)).mono ?_
  rintro e w5 ⟨A3, c3, B3, d3, rfl, k3, p3, q3, hb9⟩
  have hb5 := bel hb4 hb9
  have HL5 := Lib.hid (HL4.out.step hb9)
  have HZ5 := Lib.hid (HZ4.out.step hb9)
  have K15 := Lib.hid (K14.out.step hb9)
  have K25 := Lib.hid (K24.out.step hb9)
  have K35 := Lib.hid k3
  have hz5 := hb9.size
  clear hb9 k3
  go_wp2_with fail
  refine (sampleEntity_any (Gr.txt [106, 111, 105, 110, 116]) Sam.usd true w5 (by decide) (by decide)).mono ?_
  rintro e w6 ⟨A4, c4, B4, d4, rfl, k4, p4, q4, hb9⟩
  have hb6 := bel hb5 hb9
  have HL6 := Lib.hid (HL5.out.step hb9)
  have HZ6 := Lib.hid (HZ5.out.step hb9)
  have K16 := Lib.hid (K15.out.step hb9)
  have K26 := Lib.hid (K25.out.step hb9)
  have K36 := Lib.hid (K35.out.step hb9)
  have K46 := Lib.hid k4
  have hz6 := hb9.size
  clear hb9 k4
  clear HL2 HL3 HL4 HL5 HZ2 HZ3 HZ4 HZ5 K13 K14 K15 K24 K25 K35 hb3 hb4 hb5 HB2
  have HE : Hid ((cellsOf EntR.cells (Sam.ents ⟨[], A1, c1⟩ ⟨[], A2, c2⟩ ⟨[], A3, c3⟩ ⟨[], A4, c4⟩ ⟨[], B1, d1⟩ ⟨[], B2, d2⟩ ⟨[], B3, d3⟩ ⟨[], B4, d4⟩)).length = 20) := Lib.hid rfl
  go_wp2_with (refine wpList_store_row rfl 29 (.tmp 0) (.tmp 9) rfl w.heap.size (gcells Sam.eur 2026 1 36 Sam.chart cA cc Sam.ro (Sam.ents ⟨[], A1, c1⟩ ⟨[], A2, c2⟩ ⟨[], A3, c3⟩ ⟨[], A4, c4⟩ ⟨[], B1, d1⟩ ⟨[], B2, d2⟩ ⟨[], B3, d3⟩ ⟨[], B4, d4⟩) (some ⟨w6.heap.size, 0, none⟩) 4) rfl rfl 29 zeroG (HZ6.out.alloc _) (by kernel_rfl) rfl (by kernel_rfl) ?_)
  refine bodyPost_ret (v := .agg (gcells Sam.eur 2026 1 36 Sam.chart cA cc Sam.ro (Sam.ents ⟨[], A1, c1⟩ ⟨[], A2, c2⟩ ⟨[], A3, c3⟩ ⟨[], A4, c4⟩ ⟨[], B1, d1⟩ ⟨[], B2, d2⟩ ⟨[], B3, d3⟩ ⟨[], B4, d4⟩) (some ⟨w6.heap.size, 0, none⟩) 4)) (results_cell_row Tryz.results34 _ _ w.heap.size 29 (gcells Sam.eur 2026 1 36 Sam.chart cA cc Sam.ro (Sam.ents ⟨[], A1, c1⟩ ⟨[], A2, c2⟩ ⟨[], A3, c3⟩ ⟨[], A4, c4⟩ ⟨[], B1, d1⟩ ⟨[], B2, d2⟩ ⟨[], B3, d3⟩ ⟨[], B4, d4⟩) (some ⟨w6.heap.size, 0, none⟩) 4) (0, 0) _ rfl (setRow_heap _ _ zeroG _ _ _ (HZ6.out.alloc _)) Tryz.underlying29 rfl (by kernel_rfl)) rfl ?_
  refine ⟨_, cA, cc, ⟨[], A1, c1⟩, ⟨[], A2, c2⟩, ⟨[], A3, c3⟩, ⟨[], A4, c4⟩, ⟨[], B1, d1⟩, ⟨[], B2, d2⟩, ⟨[], B3, d3⟩, ⟨[], B4, d4⟩, some ⟨w6.heap.size, 0, none⟩, 4, rfl, rfl, ?_, below_setRow (hb6.alloc hb6.size _) (Nat.le_refl _)⟩
  have hE : Blk ((w6.alloc (.cells (cellsOf EntR.cells (Sam.ents ⟨[], A1, c1⟩ ⟨[], A2, c2⟩ ⟨[], A3, c3⟩ ⟨[], A4, c4⟩ ⟨[], B1, d1⟩ ⟨[], B2, d2⟩ ⟨[], B3, d3⟩ ⟨[], B4, d4⟩)).toArray 118)).setRow w.heap.size (gcells Sam.eur 2026 1 36 Sam.chart cA cc Sam.ro (Sam.ents ⟨[], A1, c1⟩ ⟨[], A2, c2⟩ ⟨[], A3, c3⟩ ⟨[], A4, c4⟩ ⟨[], B1, d1⟩ ⟨[], B2, d2⟩ ⟨[], B3, d3⟩ ⟨[], B4, d4⟩) (some ⟨w6.heap.size, 0, none⟩) 4)) w6.heap.size 118 (cellsOf EntR.cells (Sam.ents ⟨[], A1, c1⟩ ⟨[], A2, c2⟩ ⟨[], A3, c3⟩ ⟨[], A4, c4⟩ ⟨[], B1, d1⟩ ⟨[], B2, d2⟩ ⟨[], B3, d3⟩ ⟨[], B4, d4⟩)).toArray := (setRow_other _ _ _ _ (by omega)).trans (Blk.new w6 _ _)
  generalize hw7 : (w6.alloc (.cells _ 118)).setRow w.heap.size _ = w7
  have hE7 : Blk w7 w6.heap.size 118 (cellsOf EntR.cells (Sam.ents ⟨[], A1, c1⟩ ⟨[], A2, c2⟩ ⟨[], A3, c3⟩ ⟨[], A4, c4⟩ ⟨[], B1, d1⟩ ⟨[], B2, d2⟩ ⟨[], B3, d3⟩ ⟨[], B4, d4⟩)).toArray := by rw [← hw7]; exact hE
  obtain ⟨t1, t2⟩ := row_turn hw7.symm
  refine ⟨by rw [← acc_gen]; exact (HL6.out.turn (hp2.mono (by omega)) t1 t2).1, Rd.of_blk hE7 rfl (cellsOf_len EntR.len _), fun x hx => ?_, chart_wf⟩
  simp only [Sam.ents, List.mem_cons, List.not_mem_nil, or_false] at hx
  rcases hx with rfl | rfl | rfl | rfl
  · exact EntR.Ok.turn K16.out (p1.mono (by omega)) (q1.mono (by omega)) t1 t2
  · exact EntR.Ok.turn K26.out (p2.mono (by omega)) (q2.mono (by omega)) t1 t2
  · exact EntR.Ok.turn K36.out (p3.mono (by omega)) (q3.mono (by omega)) t1 t2
  · exact EntR.Ok.turn K46.out (p4.mono (by omega)) (q4.mono (by omega)) t1 t2
end Go.Proofs.YthfbpbbepogllaaGreat
/- The law's own 'awake' for inventory. -/
namespace Go.Proofs.YthfbpbbepogllaaGreat
set_option linter.unusedVariables false
set_option linter.unusedSimpArgs false
open Go.RowKit

theorem wpList_alloc_putN {P : Program} {ops : Array Oper} {w : World} {o : Oper} {rest : List Oper} {a : Act} {t : TypeId} {Q : Exit → Act → World → Prop} (hgd : o.guard = none) (ty : TypeId) (x y : Operand) (ho : o.op = .store ty x y) (hd : o.dst = none)
    (g : Nat) (hg : g = w.heap.size) (cells : Array Value) (zs : Array Value) (hx : a.eval x = .pointer (some ⟨g, 0, none⟩)) (hy : a.eval y = .agg cells)
    (n : Nat) (hi : (P.info? ty).map (·.size) = some n) (hn : cells.size = n) (hz : zs.size = n) (h1 : cells.all (·.oneCell') = true)
    (h : wpList P ops Q rest a (w.alloc (.cells cells t))) : wpList P ops Q (o :: rest) a (w.alloc (.cells zs t)) := by
  subst hg
  exact wpList_alloc_put hgd ty x y ho hd cells zs hx hy n hi hn hz h1 h
theorem wpList_builtG {P : Program} {ops : Array Oper} {w : World} {o : Oper} {rest : List Oper} {a : Act} {Q : Exit → Act → World → Prop} (hw : Region.wanted o (yielded ops a.tmps) = true) (dst : Tmp) (hdst : o.dst = some dst) (T : TypeId) (parts : Array (Nat × Operand)) (ho : o.op = .build T parts) (cs : Array Value) (vs : List (Nat × Value))
    (hv : (parts.map fun (i, x) => (i, a.eval x)).toList = vs) (h : P.built T vs = some cs) (hK : wpList P ops Q rest (a.put (some dst) (.agg cs)) w) : wpList P ops Q (o :: rest) a w := by
  refine BigFrame.wpList_want hw fun K' hK' => ?_
  have h1 : (execOp a.eval o).run P w = .ok (.value (.agg cs)) w := by
    unfold execOp
    simp only [ho, Sem.run_bind, Sem.run_pure, Result.andThen_ok, run_build w T _ cs (hv ▸ h)]
  unfold Oper.wp
  rw [h1, Oper.upon_value, hdst]
  exact hK' _ _ hK
def iawkS : List StkR := [⟨11, 0, 1, 999, 2500⟩]
def iawkC : List ConR := [⟨0, 3, ⟨[], none, 0⟩⟩, ⟨1, 3, ⟨[], none, 0⟩⟩]
def iawkP : List Bal := [⟨1200, -250⟩, ⟨3300, 0⟩, ⟨5700, 250⟩]
def iawkL : List Bal := [⟨1200, -250⟩, ⟨5700, 250⟩]
theorem iawk_of (c : Int) : ofW iawkP c = if c = 1200 then -250 else if c = 5700 then 250 else 0 := by
  rw [ofW_eq' (M := 250) iawkP c (by unfold within iawkP; decide) (by decide) (by decide)]
  unfold ofV iawkP
  by_cases h1 : c = 1200
  · subst h1; decide
  by_cases h2 : c = 5700
  · subst h2; decide
  rw [if_neg h1, if_neg h2]
  simp only [sm_cons, sm_nil]
  rw [if_neg (fun e => h1 e.symm), if_neg (show ¬ (5700 : Int) = c from fun e => h2 e.symm)]
  split <;> rfl
theorem iawk_is : IsC (ofW iawkP) iawkL := by
  refine ⟨by decide, fun x => ?_⟩
  rw [iawk_of]
  obtain ⟨a, n⟩ := x
  simp only [iawkL, List.mem_cons, List.not_mem_nil, or_false, Bal.mk.injEq]
  by_cases h1 : a = 1200
  · subst h1; simp; omega
  by_cases h2 : a = 5700
  · subst h2; simp; omega
  simp [h1, h2]
  omega
theorem iawk_am (c : Int) : amV (ofW iawkP c) = true := by
  rw [iawk_of]
  by_cases h1 : c = 1200
  · rw [if_pos h1]; decide
  by_cases h2 : c = 5700
  · rw [if_neg h1, if_pos h2]; decide
  · rw [if_neg h1, if_neg h2]; decide
theorem iawk_cln : clnL iawkP = iawkL ∧ clnE iawkP = 0 := by
  obtain ⟨h1, h2⟩ := cln_is (m := iawkP) (L := iawkL) (E := 0) (.inl ⟨rfl, iawk_is, iawk_am⟩)
  exact ⟨h1.symm, h2.symm⟩
theorem iawk_pts : Iv.pts Sam.ro 11 iawkS 0 1 = iawkP := by kernel_rfl
theorem iawk_e : Iv.pE true 11 36 4 Sam.ro iawkS iawkC 0 1 = 0 := by
  unfold Iv.pE
  rw [if_pos (by kernel_rfl), if_pos (by decide), if_pos (by kernel_rfl), iawk_pts, iawk_cln.2]
theorem iawk_l : Iv.pL true 11 36 4 Sam.ro iawkS iawkC 0 1 = iawkL := by
  unfold Iv.pL
  rw [if_pos ⟨by kernel_rfl, by decide, by kernel_rfl⟩, iawk_pts, iawk_cln.1]
theorem iwf_sam : Wf Sam.ro.inventory ∧ Wf Sam.ro.retained ∧ Wf Sam.ro.margin := ⟨by decide, by decide, by decide⟩
theorem isampost_any (gcs : Array Value) (cA : Option Addr) (cc : Nat) (s1 s2 s3 s4 : Sl Acc) (r1 r2 r3 r4 : Sl LinkR) (eA : Option Addr) (ec : Nat) (w : World) (hg : gcs = gcells Sam.eur 2026 1 36 Sam.chart cA cc Sam.ro (Sam.ents s1 s2 s3 s4 r1 r2 r3 r4) eA ec)
    (hG : GIn w Sam.chart cA (Sam.ents s1 s2 s3 s4 r1 r2 r3 r4) eA) (sA A : Option Addr) (c : Nat) (hS : SIn w iawkS sA) (hC : CIn w iawkC A) :
    Calls Tryz.prog 13 #[.agg (bkS gcs (.slice sA 1 1)), .slice A 2 c, .int .i64 0, .int .i64 1, .int .i64 11] w (PPost 68 8 0 1 iawkL 0 w) := by
  have := iposting_any gcs Sam.eur 2026 1 36 Sam.chart cA cc Sam.ro (Sam.ents s1 s2 s3 s4 r1 r2 r3 r4) eA ec w (bkS gcs (.slice sA 1 1)) iawkS sA 1 iawkC 0 1 11 A c (Lib.hid hg) (bkS_is (gsz21 hg)) hG (Sam.small s1 s2 s3 s4 r1 r2 r3 r4) hS hC iwf_sam.1 iwf_sam.2.1 iwf_sam.2.2
  rw [Sam.good] at this
  have e1 : Iv.pL true 11 36 (Sam.ents s1 s2 s3 s4 r1 r2 r3 r4).length Sam.ro iawkS iawkC 0 1 = iawkL := iawk_l
  have e2 : Iv.pE true 11 36 (Sam.ents s1 s2 s3 s4 r1 r2 r3 r4).length Sam.ro iawkS iawkC 0 1 = 0 := iawk_e
  rw [e1, e2] at this
  exact this
theorem iawk_pins (w : World) (xA : Option Addr) (xc : Nat) (h : Rd w w.heap.size 2 xA iawkL.length (cellsOf Bal.cells iawkL)) :
    PIn ((((w.alloc (.cells #[.int .i64 8, .int .i64 0, .int .i64 1, .int .i64 0, .slice xA iawkL.length xc] 48)).alloc (.cells #[.int .i64 8, .int .i64 0, .int .i64 1, .int .i64 0, .slice xA iawkL.length xc] 48)).alloc (.cells #[.int .i64 1200, .int .i64 (-250), .int .i64 5700, .int .i64 250] 68)).alloc (.cells #[.int .i64 8, .int .i64 0, .int .i64 1, .int .i64 0, .slice (some ⟨w.heap.size + 1 + 1, 0, none⟩) 2 2] 48)) [⟨8, 0, 1, 0, ⟨iawkL, xA, xc⟩⟩] (some ⟨w.heap.size + 1, 0, none⟩) ∧ PIn ((((w.alloc (.cells #[.int .i64 8, .int .i64 0, .int .i64 1, .int .i64 0, .slice xA iawkL.length xc] 48)).alloc (.cells #[.int .i64 8, .int .i64 0, .int .i64 1, .int .i64 0, .slice xA iawkL.length xc] 48)).alloc (.cells #[.int .i64 1200, .int .i64 (-250), .int .i64 5700, .int .i64 250] 68)).alloc (.cells #[.int .i64 8, .int .i64 0, .int .i64 1, .int .i64 0, .slice (some ⟨w.heap.size + 1 + 1, 0, none⟩) 2 2] 48)) [⟨8, 0, 1, 0, ⟨iawkL, some ⟨w.heap.size + 1 + 1, 0, none⟩, 2⟩⟩] (some ⟨w.heap.size + 1 + 1 + 1, 0, none⟩) := by
  refine ⟨⟨Rd.of_blk (((Blk.newAt (by simp)).alloc _).alloc _) rfl rfl, fun x hx => ?_, fun x hx => ?_, by show 1 ≤ 1000000; omega⟩, ⟨Rd.of_blk (Blk.newAt (by simp)) rfl rfl, fun x hx => ?_, fun x hx => ?_, by show 1 ≤ 1000000; omega⟩⟩
  · simp only [List.mem_cons, List.not_mem_nil, or_false] at hx
    subst hx
    exact Rd.now h (((((Below.refl _ _).alloc (Nat.le_refl _) _).alloc (by simp) _).alloc (by simp; omega) _).alloc (by simp; omega) _)
  · simp only [List.mem_cons, List.not_mem_nil, or_false] at hx
    subst hx
    show 2 ≤ 1000000; omega
  · simp only [List.mem_cons, List.not_mem_nil, or_false] at hx
    subst hx
    exact Rd.of_blk ((Blk.newAt (by simp)).alloc _) rfl rfl
  · simp only [List.mem_cons, List.not_mem_nil, or_false] at hx
    subst hx
    show 2 ≤ 1000000; omega
theorem iawk_worlds (w4 : World) (arr : Array Value) (T : TypeId) : let W := ((w4.alloc (.cells #[.int .i64 11, .int .i64 0, .int .i64 1, .int .i64 999, .int .i64 2500] 59)).alloc (.cells arr 36)).alloc (.cells (conCs 0 3 (.slice none 0 0) ++ conCs 1 3 (.slice none 0 0)) T)
    Below w4.heap.size w4 W ∧ SIn W iawkS (some ⟨w4.heap.size, 0, none⟩) ∧ CIn W iawkC (some ⟨w4.heap.size + 1 + 1, 0, none⟩) ∧ Blk W (w4.heap.size + 1) 36 arr := by
  intro W
  have h1 := (Below.refl w4.heap.size w4).alloc (Nat.le_refl _) (.cells #[.int .i64 11, .int .i64 0, .int .i64 1, .int .i64 999, .int .i64 2500] 59)
  have h2 := h1.alloc h1.size (.cells arr 36)
  have h3 := h2.alloc h2.size (.cells (conCs 0 3 (.slice none 0 0) ++ conCs 1 3 (.slice none 0 0)) T)
  refine ⟨h3, ⟨Rd.of_blk (((Blk.new w4 59 _).alloc _).alloc _) rfl rfl, by show 1 ≤ 1000000; omega⟩, ⟨Rd.of_blk (Blk.newAt (by simp)) rfl rfl, fun x hx => ?_, fun x hx => ?_, by show 2 ≤ 1000; omega⟩, (Blk.newAt (by simp)).alloc _⟩
  all_goals
    simp only [iawkC, List.mem_cons, List.not_mem_nil, or_false] at hx
    rcases hx with rfl | rfl
  · exact Rd.none_
  · exact Rd.none_
  · exact Nat.zero_le _
  · exact Nat.zero_le _
set_option maxRecDepth 100000 in
set_option maxHeartbeats 8000000 in
theorem inv_awake (w : World) : Calls Tryz.prog 10 #[] w (BoolPost true w) := by
  go_enter Tryz.func10, Tryz.ntmps10
  go_wp2_with fail
  refine (sample_any w).mono ?_
  rintro en w4 ⟨gcs, cA, cc, s1, s2, s3, s4, r1, r2, r3, r4, eA, ec, rfl, hg, hG, hb⟩
  have HBT := Lib.hid (bkS_built hg (some ⟨w4.heap.size, 0, none⟩) 1 1)
  have HG1 := Lib.hid (bkS_one (v := .slice (some ⟨w4.heap.size, 0, none⟩) 1 1) (grp_one hg) rfl)
  have HBS := Lib.hid (bkS_is (v := .slice (some ⟨w4.heap.size, 0, none⟩) 1 1) (gsz21 hg))
  have HGE := Lib.hid hg
  have HGI := Lib.hid hG
  have bk27 := bk_size
  clear hg hG
  go_upto_region 3 with (first
    | (refine wpList_builtV rfl 8 rfl 36 _ rfl (bkS gcs (.slice (some ⟨w4.heap.size, 0, none⟩) 1 1)) [(0, .agg gcs), (5, .slice (some ⟨w4.heap.size, 0, none⟩) 1 1)] (by kernel_rfl) HBT.out ?_)
    | (refine wpList_alloc_putN rfl 36 (.tmp 1) (.tmp 8) rfl rfl (w4.heap.size + 1) (by simp) (bkS gcs (.slice (some ⟨w4.heap.size, 0, none⟩) 1 1)) _ rfl rfl 27 bk27 HBS.out.size rfl HG1.out ?_))
  obtain ⟨i1, i2, i3, i4⟩ := iawk_worlds w4 (bkS gcs (.slice (some ⟨w4.heap.size, 0, none⟩) 1 1)) 93
  simp only [conCs, List.append_toArray, List.cons_append, List.nil_append] at i1 i2 i3 i4
  replace hb := bel hb i1
  have HB := Lib.hid i4
  have hbz : (Tryz.prog.info? 36).map (·.size) = some (bkS gcs (.slice (some ⟨w4.heap.size, 0, none⟩) 1 1)).size := by rw [HBS.out.size]; exact bk27
  have K := Lib.hid (isampost_any gcs cA cc s1 s2 s3 s4 r1 r2 r3 r4 eA ec _ HGE.out (HGI.out.step i1) (some ⟨w4.heap.size, 0, none⟩) (some ⟨w4.heap.size + 1 + 1, 0, none⟩) 2 i2 i3)
  clear i1 i2 i3 i4 HGE HGI HBT HG1
  generalize ((w4.alloc _).alloc _).alloc _ = W at *
  go_upto_region 4 with (first
    | (refine wpList_load_blk 36 (.tmp 1) rfl (w4.heap.size + 1) rfl (by kernel_rfl) HB.out Tryz.underlying36 hbz ?_)
    | (go_at_call 13; refine K.out.mono ?_; rintro en w5 ⟨x, rfl, hI, hOw, hb9⟩; replace hb := bel hb hb9; obtain ⟨xk, xe, xo, xr, ⟨xl, xA, xc⟩⟩ := x; obtain ⟨h1, h2, h3⟩ := hI; dsimp only at h1 h2 h3; obtain ⟨h3, -⟩ | ⟨-, h4, h5, h6⟩ := h3; · exact absurd h3 (by decide)
       subst h1 h2 h4 h5 h6; have hrx := own_rd hOw; have HRX := Lib.hid hrx; simp only [PostR.arr, Sl.val]; clear hb9 hOw hrx K))
  have KP := Lib.hid (iawk_pins w5 xA xc HRX.out)
  go_wp2_with (go_at_call 15; refine (samep_yes [⟨8, 0, 1, 0, ⟨iawkL, xA, xc⟩⟩] [⟨8, 0, 1, 0, ⟨iawkL, some ⟨w5.heap.size + 1 + 1, 0, none⟩, 2⟩⟩] (some ⟨w5.heap.size + 1, 0, none⟩) (some ⟨w5.heap.size + 1 + 1 + 1, 0, none⟩) 1 1 _ KP.out.1 KP.out.2 rfl (fun k h1 h2 => by
    have : k = 0 := by have h3 : k < 1 := h1; omega
    subst this
    exact ⟨rfl, rfl, rfl, rfl, rfl⟩)).mono ?_; rintro en w6 ⟨rfl, hb9⟩; replace hb := bel' (w := w) hb9 ((((hb.alloc hb.size _).alloc (by have := hb.size; simp; omega) _).alloc (by have := hb.size; simp; omega) _).alloc (by have := hb.size; simp; omega) _); clear hb9)
  go_ret
  exact ⟨rfl, hb⟩
end Go.Proofs.YthfbpbbepogllaaGreat
