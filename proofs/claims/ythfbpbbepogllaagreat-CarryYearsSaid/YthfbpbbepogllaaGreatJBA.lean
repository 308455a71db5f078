/- Texts of this claim, put together. -/
import Derived.Test.YthfbpbbepogllaaGreatSamWalksBZ
import Derived.Test.YthfbpbbepogllaaGreatGrpWalksOZ
/- The walk of Sample. -/
namespace Go.Proofs.YthfbpbbepogllaaGreat
set_option linter.unusedVariables false
set_option linter.unusedSimpArgs false
open Go.RowKit

theorem below_setRow {B g : Nat} {w w' : World} {cs : Array Value} (h : Below B w w') (hg : B ≤ g) : Below B w (w'.setRow g cs) :=
  ⟨h.os, h.tape, h.output, by have := h.size; simpa [World.setRow] using this, fun b hb => (setRow_other w' g b cs (by omega)).trans (h.block b hb)⟩
namespace Sam
def eur : ByteArray := Gr.txt [69, 85, 82]
def usd : ByteArray := Gr.txt [85, 83, 68]
def ro : RolesR := ⟨1500, 1600, 1700, 1200, 3100, 3200, 3300, 3400, 3500, 4500, 4600, 4700, 5500, 5600, 5700⟩
def ent (n c : ByteArray) (j : Bool) (s : Sl Acc) (r : Sl LinkR) : EntR := ⟨n, c, ⟨ech, s.A, s.cap⟩, ⟨eli, r.A, r.cap⟩, j⟩
def ents (s1 s2 s3 s4 : Sl Acc) (r1 r2 r3 r4 : Sl LinkR) : List EntR :=
  [ent (Gr.txt [112, 97, 114, 101, 110, 116]) eur false s1 r1, ent (Gr.txt [110, 111, 114, 116, 104]) eur false s2 r2, ent (Gr.txt [119, 101, 115, 116]) usd false s3 r3, ent (Gr.txt [106, 111, 105, 110, 116]) usd true s4 r4]
theorem good (s1 s2 s3 s4 : Sl Acc) (r1 r2 r3 r4 : Sl LinkR) : Gr.gv eur chart ro (ents s1 s2 s3 s4 r1 r2 r3 r4) (Cal.ok 2026 1 36) = true := by kernel_rfl
theorem small (s1 s2 s3 s4 : Sl Acc) (r1 r2 r3 r4 : Sl LinkR) : FewOk eur chart (ents s1 s2 s3 s4 r1 r2 r3 r4) :=
  ⟨by decide, by show 4 ≤ 20; omega, by unfold maxLen; decide, fun j h => by
    have h4 : j < 4 := h
    match j, h4 with
    | 0, _ => exact ⟨by show (Sam.ech).length ≤ 300000; decide, by show (Sam.eli).length ≤ 300000; decide⟩
    | 1, _ => exact ⟨by show (Sam.ech).length ≤ 300000; decide, by show (Sam.eli).length ≤ 300000; decide⟩
    | 2, _ => exact ⟨by show (Sam.ech).length ≤ 300000; decide, by show (Sam.eli).length ≤ 300000; decide⟩
    | 3, _ => exact ⟨by show (Sam.ech).length ≤ 300000; decide, by show (Sam.eli).length ≤ 300000; decide⟩⟩
end Sam
theorem Sl.Past.mono {α : Type} {s : Sl α} {B C : Nat} (h : s.Past C) (hB : B ≤ C) : s.Past B := by
  obtain ⟨g, e, hg⟩ := h
  exact ⟨g, e, by omega⟩
theorem chart_wf : ∀ a ∈ Sam.chart, (Lit.int .i64 a.code).wf = true := by decide
theorem row_turn {w w' : World} {o : Obj} {g : Nat} {cs : Array Value} (h : w' = (w.alloc o).setRow g cs) : (∀ k, g + 1 ≤ k → k < w.heap.size → w'.heap[k]? = w.heap[k]?) ∧ w.heap.size ≤ w'.heap.size := by
  subst h
  refine ⟨fun k h1 h2 => (setRow_other _ g k cs (by omega)).trans (Below.heap_alloc w o k h2), ?_⟩
  simp [World.setRow]
def gcells (cur : ByteArray) (y m p : Int) (cl : List Acc) (cA : Option Addr) (cc : Nat) (ro : RolesR) (el : List EntR) (eA : Option Addr) (ec : Nat) : Array Value := #[.string cur, .int .i64 y, .int .i64 m, .int .i64 p, .slice cA cl.length cc, .int .i64 ro.investment, .int .i64 ro.goodwill, .int .i64 ro.associates, .int .i64 ro.inventory, .int .i64 ro.reserve, .int .i64 ro.minority, .int .i64 ro.retained, .int .i64 ro.acquired, .int .i64 ro.owners, .int .i64 ro.disposal, .int .i64 ro.associateProfit, .int .i64 ro.dividends, .int .i64 ro.minorityProfit, .int .i64 ro.difference, .int .i64 ro.margin, .slice eA el.length ec]
/-- the sample group -/
def SamGrp (w : World) (e : Ending) (w' : World) : Prop :=
  ∃ (gcs : Array Value) (cA : Option Addr) (cc : Nat) (s1 s2 s3 s4 : Sl Acc) (r1 r2 r3 r4 : Sl LinkR) (eA : Option Addr) (ec : Nat), e = .returned (.agg gcs) ∧ gcs = gcells Sam.eur 2026 1 36 Sam.chart cA cc Sam.ro (Sam.ents s1 s2 s3 s4 r1 r2 r3 r4) eA ec ∧
    GIn w' Sam.chart cA (Sam.ents s1 s2 s3 s4 r1 r2 r3 r4) eA ∧ Below w.heap.size w w'
def zeroG : Array Value := #[.string ⟨#[]⟩, .int .i64 0, .int .i64 0, .int .i64 0, .slice none 0 0, .int .i64 0, .int .i64 0, .int .i64 0, .int .i64 0, .int .i64 0, .int .i64 0, .int .i64 0, .int .i64 0, .int .i64 0, .int .i64 0, .int .i64 0, .int .i64 0, .int .i64 0, .int .i64 0, .int .i64 0, .slice none 0 0]
set_option maxRecDepth 100000 in
set_option maxHeartbeats 16000000 in
theorem sample_any (w : World) : Calls Tryz.prog 34 #[] w (SamGrp w) := by
  have hb := Below.refl w.heap.size w
  have hb1 := hb.alloc hb.size (.cells zeroG 29)
  have HZ := Lib.hid (Blk.new w 29 zeroG)
  have hz1 : (w.alloc (.cells zeroG 29)).heap.size = w.heap.size + 1 := by simp
  go_enter Tryz.func34, Tryz.ntmps34
  go_wp2_with fail
  generalize hgen : w.alloc (.cells _ 29) = W1
  rw [show w.alloc (.cells zeroG 29) = W1 from hgen] at hb1 HZ hz1
  clear hgen hb
  refine (sampleChart_any W1).mono ?_
  rintro e w2 ⟨v2, rfl, ho2, hb2⟩
  obtain ⟨cA, cn, cc, hv2⟩ := own_shape ho2
  subst hv2
  obtain ⟨hcn, hl2⟩ := own_lies ho2
  have hp2 : (Sl.mk Sam.chart cA cc).Past W1.heap.size := own_past ho2 (by decide)
  have HB2 := Lib.hid (bel hb1 hb2)
  have HZ2 := Lib.hid (HZ.out.step hb2)
  have HL2 := Lib.hid hl2
  subst hcn
  have hz12 := hb2.size
  clear ho2 hl2 hb2 hb1 HZ
  go_wp2_with fail
  refine (sampleEntity_any (Gr.txt [112, 97, 114, 101, 110, 116]) Sam.eur false w2 (by decide) (by decide)).mono ?_
  rintro e w3 ⟨A1, c1, B1, d1, rfl, k1, p1, q1, hb9⟩
  have hb3 := bel HB2.out hb9
  have HL3 := Lib.hid (HL2.out.step hb9)
  have HZ3 := Lib.hid (HZ2.out.step hb9)
  have K13 := Lib.hid k1
  have hz3 := hb9.size
  clear hb9 k1
  go_wp2_with fail
  refine (sampleEntity_any (Gr.txt [110, 111, 114, 116, 104]) Sam.eur false w3 (by decide) (by decide)).mono ?_
  rintro e w4 ⟨A2, c2, B2, d2, rfl, k2, p2, q2, hb9⟩
  have hb4 := bel hb3 hb9
  have HL4 := Lib.hid (HL3.out.step hb9)
  have HZ4 := Lib.hid (HZ3.out.step hb9)
  have K14 := Lib.hid (K13.out.step hb9)
  have K24 := Lib.hid k2
  have hz4 := hb9.size
  clear hb9 k2
  go_wp2_with fail
  refine (sampleEntity_any (Gr.txt [119, 101, 115, 116]) Sam.usd false w4 (by decide) (by decide)).mono ?_
  rintro e w5 ⟨A3, c3, B3, d3, rfl, k3, p3, q3, hb9⟩
  have hb5 := bel hb4 hb9
  have HL5 := Lib.hid (HL4.out.step hb9)
  have HZ5 := Lib.hid (HZ4.out.step hb9)
  have K15 := Lib.hid (K14.out.step hb9)
  have K25 := Lib.hid (K24.out.step hb9)
  have K35 := Lib.hid k3
  have hz5 := hb9.size
  clear hb9 k3
  go_wp2_with fail
  refine (sampleEntity_any (Gr.txt [106, 111, 105, 110, 116]) Sam.usd true w5 (by decide) (by decide)).mono ?_
  rintro e w6 ⟨A4, c4, B4, d4, rfl, k4, p4, q4, hb9⟩
  have hb6 := bel hb5 hb9
  have HL6 := Lib.hid (HL5.out.step hb9)
  have HZ6 := Lib.hid (HZ5.out.step hb9)
  have K16 := Lib.hid (K15.out.step hb9)
  have K26 := Lib.hid (K25.out.step hb9)
  have K36 := Lib.hid (K35.out.step hb9)
  have K46 := Lib.hid k4
  have hz6 := hb9.size
  clear hb9 k4
  clear HL2 HL3 HL4 HL5 HZ2 HZ3 HZ4 HZ5 K13 K14 K15 K24 K25 K35 hb3 hb4 hb5 HB2
  have HE : Hid ((cellsOf EntR.cells (Sam.ents ⟨[], A1, c1⟩ ⟨[], A2, c2⟩ ⟨[], A3, c3⟩ ⟨[], A4, c4⟩ ⟨[], B1, d1⟩ ⟨[], B2, d2⟩ ⟨[], B3, d3⟩ ⟨[], B4, d4⟩)).length = 20) := Lib.hid rfl
  go_wp2_with (refine wpList_store_row rfl 29 (.tmp 0) (.tmp 9) rfl w.heap.size (gcells Sam.eur 2026 1 36 Sam.chart cA cc Sam.ro (Sam.ents ⟨[], A1, c1⟩ ⟨[], A2, c2⟩ ⟨[], A3, c3⟩ ⟨[], A4, c4⟩ ⟨[], B1, d1⟩ ⟨[], B2, d2⟩ ⟨[], B3, d3⟩ ⟨[], B4, d4⟩) (some ⟨w6.heap.size, 0, none⟩) 4) rfl rfl 29 zeroG (HZ6.out.alloc _) (by kernel_rfl) rfl (by kernel_rfl) ?_)
  refine bodyPost_ret (v := .agg (gcells Sam.eur 2026 1 36 Sam.chart cA cc Sam.ro (Sam.ents ⟨[], A1, c1⟩ ⟨[], A2, c2⟩ ⟨[], A3, c3⟩ ⟨[], A4, c4⟩ ⟨[], B1, d1⟩ ⟨[], B2, d2⟩ ⟨[], B3, d3⟩ ⟨[], B4, d4⟩) (some ⟨w6.heap.size, 0, none⟩) 4)) (results_cell_row Tryz.results34 _ _ w.heap.size 29 (gcells Sam.eur 2026 1 36 Sam.chart cA cc Sam.ro (Sam.ents ⟨[], A1, c1⟩ ⟨[], A2, c2⟩ ⟨[], A3, c3⟩ ⟨[], A4, c4⟩ ⟨[], B1, d1⟩ ⟨[], B2, d2⟩ ⟨[], B3, d3⟩ ⟨[], B4, d4⟩) (some ⟨w6.heap.size, 0, none⟩) 4) (0, 0) _ rfl (setRow_heap _ _ zeroG _ _ _ (HZ6.out.alloc _)) Tryz.underlying29 rfl (by kernel_rfl)) rfl ?_
  refine ⟨_, cA, cc, ⟨[], A1, c1⟩, ⟨[], A2, c2⟩, ⟨[], A3, c3⟩, ⟨[], A4, c4⟩, ⟨[], B1, d1⟩, ⟨[], B2, d2⟩, ⟨[], B3, d3⟩, ⟨[], B4, d4⟩, some ⟨w6.heap.size, 0, none⟩, 4, rfl, rfl, ?_, below_setRow (hb6.alloc hb6.size _) (Nat.le_refl _)⟩
  have hE : Blk ((w6.alloc (.cells (cellsOf EntR.cells (Sam.ents ⟨[], A1, c1⟩ ⟨[], A2, c2⟩ ⟨[], A3, c3⟩ ⟨[], A4, c4⟩ ⟨[], B1, d1⟩ ⟨[], B2, d2⟩ ⟨[], B3, d3⟩ ⟨[], B4, d4⟩)).toArray 118)).setRow w.heap.size (gcells Sam.eur 2026 1 36 Sam.chart cA cc Sam.ro (Sam.ents ⟨[], A1, c1⟩ ⟨[], A2, c2⟩ ⟨[], A3, c3⟩ ⟨[], A4, c4⟩ ⟨[], B1, d1⟩ ⟨[], B2, d2⟩ ⟨[], B3, d3⟩ ⟨[], B4, d4⟩) (some ⟨w6.heap.size, 0, none⟩) 4)) w6.heap.size 118 (cellsOf EntR.cells (Sam.ents ⟨[], A1, c1⟩ ⟨[], A2, c2⟩ ⟨[], A3, c3⟩ ⟨[], A4, c4⟩ ⟨[], B1, d1⟩ ⟨[], B2, d2⟩ ⟨[], B3, d3⟩ ⟨[], B4, d4⟩)).toArray := (setRow_other _ _ _ _ (by omega)).trans (Blk.new w6 _ _)
  generalize hw7 : (w6.alloc (.cells _ 118)).setRow w.heap.size _ = w7
  have hE7 : Blk w7 w6.heap.size 118 (cellsOf EntR.cells (Sam.ents ⟨[], A1, c1⟩ ⟨[], A2, c2⟩ ⟨[], A3, c3⟩ ⟨[], A4, c4⟩ ⟨[], B1, d1⟩ ⟨[], B2, d2⟩ ⟨[], B3, d3⟩ ⟨[], B4, d4⟩)).toArray := by rw [← hw7]; exact hE
  obtain ⟨t1, t2⟩ := row_turn hw7.symm
  refine ⟨by rw [← acc_gen]; exact (HL6.out.turn (hp2.mono (by omega)) t1 t2).1, Rd.of_blk hE7 rfl (cellsOf_len EntR.len _), fun x hx => ?_, chart_wf⟩
  simp only [Sam.ents, List.mem_cons, List.not_mem_nil, or_false] at hx
  rcases hx with rfl | rfl | rfl | rfl
  · exact EntR.Ok.turn K16.out (p1.mono (by omega)) (q1.mono (by omega)) t1 t2
  · exact EntR.Ok.turn K26.out (p2.mono (by omega)) (q2.mono (by omega)) t1 t2
  · exact EntR.Ok.turn K36.out (p3.mono (by omega)) (q3.mono (by omega)) t1 t2
  · exact EntR.Ok.turn K46.out (p4.mono (by omega)) (q4.mono (by omega)) t1 t2
end Go.Proofs.YthfbpbbepogllaaGreat
