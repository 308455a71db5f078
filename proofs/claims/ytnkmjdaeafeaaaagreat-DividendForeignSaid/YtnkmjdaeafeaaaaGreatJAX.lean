/- Texts of this claim, put together. -/
import Derived.Test.YtnkmjdaeafeaaaaGreatSamWalksBZ
import Derived.Test.YtnkmjdaeafeaaaaGreatGrpWalksOZ
import Derived.Test.YtnkmjdaeafeaaaaGreatJAW
import Derived.Test.YtnkmjdaeafeaaaaGreatJAJ
/- The walk of Sample. -/
namespace Go.Proofs.YtnkmjdaeafeaaaaGreat
set_option linter.unusedVariables false
set_option linter.unusedSimpArgs false
open Go.RowKit

theorem below_setRow {B g : Nat} {w w' : World} {cs : Array Value} (h : Below B w w') (hg : B ≤ g) : Below B w (w'.setRow g cs) :=
  ⟨h.os, h.tape, h.output, by have := h.size; simpa [World.setRow] using this, fun b hb => (setRow_other w' g b cs (by omega)).trans (h.block b hb)⟩
namespace Sam
def eur : ByteArray := Gr.txt [69, 85, 82]
def usd : ByteArray := Gr.txt [85, 83, 68]
def ro : RolesR := ⟨1500, 1600, 1700, 1200, 3100, 3200, 3300, 3400, 3500, 4500, 4600, 4700, 5500, 5600, 5700⟩
def ent (n c : ByteArray) (j : Bool) (s : Sl Acc) (r : Sl LinkR) : EntR := ⟨n, c, ⟨ech, s.A, s.cap⟩, ⟨eli, r.A, r.cap⟩, j⟩
def ents (s1 s2 s3 s4 : Sl Acc) (r1 r2 r3 r4 : Sl LinkR) : List EntR :=
  [ent (Gr.txt [112, 97, 114, 101, 110, 116]) eur false s1 r1, ent (Gr.txt [110, 111, 114, 116, 104]) eur false s2 r2, ent (Gr.txt [119, 101, 115, 116]) usd false s3 r3, ent (Gr.txt [106, 111, 105, 110, 116]) usd true s4 r4]
theorem good (s1 s2 s3 s4 : Sl Acc) (r1 r2 r3 r4 : Sl LinkR) : Gr.gv eur chart ro (ents s1 s2 s3 s4 r1 r2 r3 r4) (Cal.ok 2026 1 36) = true := by kernel_rfl
theorem small (s1 s2 s3 s4 : Sl Acc) (r1 r2 r3 r4 : Sl LinkR) : FewOk eur chart (ents s1 s2 s3 s4 r1 r2 r3 r4) :=
  ⟨by decide, by show 4 ≤ 20; omega, by unfold maxLen; decide, fun j h => by
    have h4 : j < 4 := h
    match j, h4 with
    | 0, _ => exact ⟨by show (Sam.ech).length ≤ 300000; decide, by show (Sam.eli).length ≤ 300000; decide⟩
    | 1, _ => exact ⟨by show (Sam.ech).length ≤ 300000; decide, by show (Sam.eli).length ≤ 300000; decide⟩
    | 2, _ => exact ⟨by show (Sam.ech).length ≤ 300000; decide, by show (Sam.eli).length ≤ 300000; decide⟩
    | 3, _ => exact ⟨by show (Sam.ech).length ≤ 300000; decide, by show (Sam.eli).length ≤ 300000; decide⟩⟩
end Sam
theorem Sl.Past.mono {α : Type} {s : Sl α} {B C : Nat} (h : s.Past C) (hB : B ≤ C) : s.Past B := by
  obtain ⟨g, e, hg⟩ := h
  exact ⟨g, e, by omega⟩
theorem chart_wf : ∀ a ∈ Sam.chart, (Lit.int .i64 a.code).wf = true := by decide
theorem row_turn {w w' : World} {o : Obj} {g : Nat} {cs : Array Value} (h : w' = (w.alloc o).setRow g cs) : (∀ k, g + 1 ≤ k → k < w.heap.size → w'.heap[k]? = w.heap[k]?) ∧ w.heap.size ≤ w'.heap.size := by
  subst h
  refine ⟨fun k h1 h2 => (setRow_other _ g k cs (by omega)).trans (Below.heap_alloc w o k h2), ?_⟩
  simp [World.setRow]
def gcells (cur : ByteArray) (y m p : Int) (cl : List Acc) (cA : Option Addr) (cc : Nat) (ro : RolesR) (el : List EntR) (eA : Option Addr) (ec : Nat) : Array Value := #[.string cur, .int .i64 y, .int .i64 m, .int .i64 p, .slice cA cl.length cc, .int .i64 ro.investment, .int .i64 ro.goodwill, .int .i64 ro.associates, .int .i64 ro.inventory, .int .i64 ro.reserve, .int .i64 ro.minority, .int .i64 ro.retained, .int .i64 ro.acquired, .int .i64 ro.owners, .int .i64 ro.disposal, .int .i64 ro.associateProfit, .int .i64 ro.dividends, .int .i64 ro.minorityProfit, .int .i64 ro.difference, .int .i64 ro.margin, .slice eA el.length ec]
/-- the sample group -/
def SamGrp (w : World) (e : Ending) (w' : World) : Prop :=
  ∃ (gcs : Array Value) (cA : Option Addr) (cc : Nat) (s1 s2 s3 s4 : Sl Acc) (r1 r2 r3 r4 : Sl LinkR) (eA : Option Addr) (ec : Nat), e = .returned (.agg gcs) ∧ gcs = gcells Sam.eur 2026 1 36 Sam.chart cA cc Sam.ro (Sam.ents s1 s2 s3 s4 r1 r2 r3 r4) eA ec ∧
    GIn w' Sam.chart cA (Sam.ents s1 s2 s3 s4 r1 r2 r3 r4) eA ∧ Below w.heap.size w w'
def zeroG : Array Value := #[.string ⟨#[]⟩, .int .i64 0, .int .i64 0, .int .i64 0, .slice none 0 0, .int .i64 0, .int .i64 0, .int .i64 0, .int .i64 0, .int .i64 0, .int .i64 0, .int .i64 0, .int .i64 0, .int .i64 0, .int .i64 0, .int .i64 0, .int .i64 0, .int .i64 0, .int .i64 0, .int .i64 0, .slice none 0 0]
set_option maxRecDepth 100000 in
set_option maxHeartbeats 16000000 in
theorem sample_any (w : World) : Calls Tryz.prog 28 #[] w (SamGrp w) := by
  have hb := Below.refl w.heap.size w
  have hb1 := hb.alloc hb.size (.cells zeroG 29)
  have HZ := Lib.hid (Blk.new w 29 zeroG)
  have hz1 : (w.alloc (.cells zeroG 29)).heap.size = w.heap.size + 1 := by simp
  go_enter Tryz.func28, Tryz.ntmps28
  go_wp2_with fail
  generalize hgen : w.alloc (.cells _ 29) = W1
  rw [show w.alloc (.cells zeroG 29) = W1 from hgen] at hb1 HZ hz1
  clear hgen hb
  refine (sampleChart_any W1).mono ?_
  rintro e w2 ⟨v2, rfl, ho2, hb2⟩
  obtain ⟨cA, cn, cc, hv2⟩ := own_shape ho2
  subst hv2
  obtain ⟨hcn, hl2⟩ := own_lies ho2
  have hp2 : (Sl.mk Sam.chart cA cc).Past W1.heap.size := own_past ho2 (by decide)
  have HB2 := Lib.hid (bel hb1 hb2)
  have HZ2 := Lib.hid (HZ.out.step hb2)
  have HL2 := Lib.hid hl2
  subst hcn
  have hz12 := hb2.size
  clear ho2 hl2 hb2 hb1 HZ
  go_wp2_with fail
  refine (sampleEntity_any (Gr.txt [112, 97, 114, 101, 110, 116]) Sam.eur false w2 (by decide) (by decide)).mono ?_
  rintro e w3 ⟨A1, c1, B1, d1, rfl, k1, p1, q1, hb9⟩
  have hb3 := bel HB2.out hb9
  have HL3 := Lib.hid (HL2.out.step hb9)
  have HZ3 := Lib.hid (HZ2.out.step hb9)
  have K13 := Lib.hid k1
  have hz3 := hb9.size
  clear hb9 k1
  go_wp2_with fail
  refine (sampleEntity_any (Gr.txt [110, 111, 114, 116, 104]) Sam.eur false w3 (by decide) (by decide)).mono ?_
  rintro e w4 ⟨A2, c2, B2, d2, rfl, k2, p2, q2, hb9⟩
  have hb4 := bel hb3 hb9
  have HL4 := Lib.hid (HL3.out.step hb9)
  have HZ4 := Lib.hid (HZ3.out.step hb9)
  have K14 := Lib.hid (K13.out.step hb9)
  have K24 := Lib.hid k2
  have hz4 := hb9.size
  clear hb9 k2
  go_wp2_with fail
  refine (sampleEntity_any (Gr.txt [119, 101, 115, 116]) Sam.usd false w4 (by decide) (by decide)).mono ?_
  rintro e w5 ⟨A3, c3, B3, d3, rfl, k3, p3, q3, hb9⟩
  have hb5 := bel hb4 hb9
  have HL5 := Lib.hid (HL4.out.step hb9)
  have HZ5 := Lib.hid (HZ4.out.step hb9)
  have K15 := Lib.hid (K14.out.step hb9)
  have K25 := Lib.hid (K24.out.step hb9)
  have K35 := Lib.hid k3
  have hz5 := hb9.size
  clear hb9 k3
  go_wp2_with fail
  refine (sampleEntity_any (Gr.txt [106, 111, 105, 110, 116]) Sam.usd true w5 (by decide) (by decide)).mono ?_
  rintro e w6 ⟨A4, c4, B4, d4, rfl, k4, p4, q4, hb9⟩
  have hb6 := bel hb5 hb9
  have HL6 := Lib.hid (HL5.out.step hb9)
  have HZ6 := Lib.hid (HZ5.out.step hb9)
  have K16 := Lib.hid (K15.out.step hb9)
  have K26 := Lib.hid (K25.out.step hb9)
  have K36 := Lib.hid (K35.out.step hb9)
  have K46 := Lib.hid k4
  have hz6 := hb9.size
  clear hb9 k4
  clear HL2 HL3 HL4 HL5 HZ2 HZ3 HZ4 HZ5 K13 K14 K15 K24 K25 K35 hb3 hb4 hb5 HB2
  have HE : Hid ((cellsOf EntR.cells (Sam.ents ⟨[], A1, c1⟩ ⟨[], A2, c2⟩ ⟨[], A3, c3⟩ ⟨[], A4, c4⟩ ⟨[], B1, d1⟩ ⟨[], B2, d2⟩ ⟨[], B3, d3⟩ ⟨[], B4, d4⟩)).length = 20) := Lib.hid rfl
  go_wp2_with (refine wpList_store_row rfl 29 (.tmp 0) (.tmp 9) rfl w.heap.size (gcells Sam.eur 2026 1 36 Sam.chart cA cc Sam.ro (Sam.ents ⟨[], A1, c1⟩ ⟨[], A2, c2⟩ ⟨[], A3, c3⟩ ⟨[], A4, c4⟩ ⟨[], B1, d1⟩ ⟨[], B2, d2⟩ ⟨[], B3, d3⟩ ⟨[], B4, d4⟩) (some ⟨w6.heap.size, 0, none⟩) 4) rfl rfl 29 zeroG (HZ6.out.alloc _) (by kernel_rfl) rfl (by kernel_rfl) ?_)
  refine bodyPost_ret (v := .agg (gcells Sam.eur 2026 1 36 Sam.chart cA cc Sam.ro (Sam.ents ⟨[], A1, c1⟩ ⟨[], A2, c2⟩ ⟨[], A3, c3⟩ ⟨[], A4, c4⟩ ⟨[], B1, d1⟩ ⟨[], B2, d2⟩ ⟨[], B3, d3⟩ ⟨[], B4, d4⟩) (some ⟨w6.heap.size, 0, none⟩) 4)) (results_cell_row Tryz.results28 _ _ w.heap.size 29 (gcells Sam.eur 2026 1 36 Sam.chart cA cc Sam.ro (Sam.ents ⟨[], A1, c1⟩ ⟨[], A2, c2⟩ ⟨[], A3, c3⟩ ⟨[], A4, c4⟩ ⟨[], B1, d1⟩ ⟨[], B2, d2⟩ ⟨[], B3, d3⟩ ⟨[], B4, d4⟩) (some ⟨w6.heap.size, 0, none⟩) 4) (0, 0) _ rfl (setRow_heap _ _ zeroG _ _ _ (HZ6.out.alloc _)) Tryz.underlying29 rfl (by kernel_rfl)) rfl ?_
  refine ⟨_, cA, cc, ⟨[], A1, c1⟩, ⟨[], A2, c2⟩, ⟨[], A3, c3⟩, ⟨[], A4, c4⟩, ⟨[], B1, d1⟩, ⟨[], B2, d2⟩, ⟨[], B3, d3⟩, ⟨[], B4, d4⟩, some ⟨w6.heap.size, 0, none⟩, 4, rfl, rfl, ?_, below_setRow (hb6.alloc hb6.size _) (Nat.le_refl _)⟩
  have hE : Blk ((w6.alloc (.cells (cellsOf EntR.cells (Sam.ents ⟨[], A1, c1⟩ ⟨[], A2, c2⟩ ⟨[], A3, c3⟩ ⟨[], A4, c4⟩ ⟨[], B1, d1⟩ ⟨[], B2, d2⟩ ⟨[], B3, d3⟩ ⟨[], B4, d4⟩)).toArray 120)).setRow w.heap.size (gcells Sam.eur 2026 1 36 Sam.chart cA cc Sam.ro (Sam.ents ⟨[], A1, c1⟩ ⟨[], A2, c2⟩ ⟨[], A3, c3⟩ ⟨[], A4, c4⟩ ⟨[], B1, d1⟩ ⟨[], B2, d2⟩ ⟨[], B3, d3⟩ ⟨[], B4, d4⟩) (some ⟨w6.heap.size, 0, none⟩) 4)) w6.heap.size 120 (cellsOf EntR.cells (Sam.ents ⟨[], A1, c1⟩ ⟨[], A2, c2⟩ ⟨[], A3, c3⟩ ⟨[], A4, c4⟩ ⟨[], B1, d1⟩ ⟨[], B2, d2⟩ ⟨[], B3, d3⟩ ⟨[], B4, d4⟩)).toArray := (setRow_other _ _ _ _ (by omega)).trans (Blk.new w6 _ _)
  generalize hw7 : (w6.alloc (.cells _ 120)).setRow w.heap.size _ = w7
  have hE7 : Blk w7 w6.heap.size 120 (cellsOf EntR.cells (Sam.ents ⟨[], A1, c1⟩ ⟨[], A2, c2⟩ ⟨[], A3, c3⟩ ⟨[], A4, c4⟩ ⟨[], B1, d1⟩ ⟨[], B2, d2⟩ ⟨[], B3, d3⟩ ⟨[], B4, d4⟩)).toArray := by rw [← hw7]; exact hE
  obtain ⟨t1, t2⟩ := row_turn hw7.symm
  refine ⟨by rw [← acc_gen]; exact (HL6.out.turn (hp2.mono (by omega)) t1 t2).1, Rd.of_blk hE7 rfl (cellsOf_len EntR.len _), fun x hx => ?_, chart_wf⟩
  simp only [Sam.ents, List.mem_cons, List.not_mem_nil, or_false] at hx
  rcases hx with rfl | rfl | rfl | rfl
  · exact EntR.Ok.turn K16.out (p1.mono (by omega)) (q1.mono (by omega)) t1 t2
  · exact EntR.Ok.turn K26.out (p2.mono (by omega)) (q2.mono (by omega)) t1 t2
  · exact EntR.Ok.turn K36.out (p3.mono (by omega)) (q3.mono (by omega)) t1 t2
  · exact EntR.Ok.turn K46.out (p4.mono (by omega)) (q4.mono (by omega)) t1 t2
end Go.Proofs.YtnkmjdaeafeaaaaGreat
/- The law's own 'awake' for dividends. -/
namespace Go.Proofs.YtnkmjdaeafeaaaaGreat
set_option linter.unusedVariables false
set_option linter.unusedSimpArgs false
open Go.RowKit

/-- books that hold a group alone -/
def bkOf (gcs : Array Value) : Array Value := (gcs.toList ++ ([.slice none 0 0, .slice none 0 0, .slice none 0 0, .slice none 0 0, .slice none 0 0, .string ⟨#[]⟩] : List Value)).toArray
theorem bkOf_is {gcs : Array Value} (h : gcs.size = 21) : BkIs (bkOf gcs) gcs := by
  refine ⟨?_, h, fun j hj => ?_⟩
  · simp [bkOf, h]
  · have : j < gcs.toList.length := by rw [Array.length_toList, h]; exact hj
    unfold bkOf
    rw [List.getElem?_toArray, List.getElem?_append_left this, Array.getElem?_toList]
theorem bkOf_built {gcs : Array Value} {cur : ByteArray} {y m p : Int} {cl : List Acc} {cA : Option Addr} {cc : Nat} {ro : RolesR} {el : List EntR} {eA : Option Addr} {ec : Nat} (HG : gcs = #[.string cur, .int .i64 y, .int .i64 m, .int .i64 p, .slice cA cl.length cc, .int .i64 ro.investment, .int .i64 ro.goodwill, .int .i64 ro.associates, .int .i64 ro.inventory, .int .i64 ro.reserve, .int .i64 ro.minority, .int .i64 ro.retained, .int .i64 ro.acquired, .int .i64 ro.owners, .int .i64 ro.disposal, .int .i64 ro.associateProfit, .int .i64 ro.dividends, .int .i64 ro.minorityProfit, .int .i64 ro.difference, .int .i64 ro.margin, .slice eA el.length ec]) :
    (Tryz.prog).built 47 [(0, .agg gcs)] = some (bkOf gcs) := by
  rw [HG]
  kernel_rfl
theorem gsize21 {gcs : Array Value} {cur : ByteArray} {y m p : Int} {cl : List Acc} {cA : Option Addr} {cc : Nat} {ro : RolesR} {el : List EntR} {eA : Option Addr} {ec : Nat} (HG : gcs = #[.string cur, .int .i64 y, .int .i64 m, .int .i64 p, .slice cA cl.length cc, .int .i64 ro.investment, .int .i64 ro.goodwill, .int .i64 ro.associates, .int .i64 ro.inventory, .int .i64 ro.reserve, .int .i64 ro.minority, .int .i64 ro.retained, .int .i64 ro.acquired, .int .i64 ro.owners, .int .i64 ro.disposal, .int .i64 ro.associateProfit, .int .i64 ro.dividends, .int .i64 ro.minorityProfit, .int .i64 ro.difference, .int .i64 ro.margin, .slice eA el.length ec]) : gcs.size = 21 := by rw [HG]; rfl
def awkI : List ItemR := [⟨⟨0, 0⟩, 0, 4700, 1, 0, -30⟩]
def awk (g : Nat) : List ConR := [⟨0, 3, ⟨awkI, some ⟨g, 0, none⟩, 1⟩⟩, ⟨1, 3, ⟨[], none, 0⟩⟩]
def awkP : List Bal := [⟨4700, 30⟩, ⟨3300, -30⟩]
def awkL : List Bal := [⟨3300, -30⟩, ⟨4700, 30⟩]
theorem awk_of (c : Int) : ofW awkP c = if c = 4700 then 30 else if c = 3300 then -30 else 0 := by
  rw [ofW_eq' (M := 30) awkP c (by unfold within awkP; decide) (by decide) (by decide)]
  unfold ofV awkP
  by_cases h1 : c = 4700
  · subst h1; decide
  by_cases h2 : c = 3300
  · subst h2; decide
  rw [if_neg h1, if_neg h2]
  simp only [sm_cons, sm_nil]
  rw [if_neg (fun e => h1 e.symm), if_neg (fun e => h2 e.symm)]
  rfl
theorem awk_is : IsC (ofW awkP) awkL := by
  refine ⟨by decide, fun x => ?_⟩
  rw [awk_of]
  obtain ⟨a, n⟩ := x
  simp only [awkL, List.mem_cons, List.not_mem_nil, or_false, Bal.mk.injEq]
  by_cases h1 : a = 4700
  · subst h1; simp; omega
  by_cases h2 : a = 3300
  · subst h2; simp; omega
  simp [h1, h2]
  omega
theorem awk_am (c : Int) : amV (ofW awkP c) = true := by
  rw [awk_of]
  by_cases h1 : c = 4700
  · rw [if_pos h1]; decide
  by_cases h2 : c = 3300
  · rw [if_neg h1, if_pos h2]; decide
  · rw [if_neg h1, if_neg h2]; decide
theorem awk_cln : clnL awkP = awkL ∧ clnE awkP = 0 := by
  obtain ⟨h1, h2⟩ := cln_is (m := awkP) (L := awkL) (E := 0) (.inl ⟨rfl, awk_is, awk_am⟩)
  exact ⟨h1.symm, h2.symm⟩
theorem awk_parts (g : Nat) : Dv.parts 4700 3300 (Dv.rec 4700 (awk g) 1 0) = awkP := by kernel_rfl
theorem awk_e (g : Nat) : Dv.pE true 0 36 4 4700 3300 (awk g) 1 0 = 0 := by
  unfold Dv.pE
  rw [if_pos (by decide), if_pos (by decide), if_pos (by kernel_rfl), awk_parts, awk_cln.2]
theorem awk_l (g : Nat) : Dv.pL true 0 36 4 4700 3300 (awk g) 1 0 = awkL := by
  unfold Dv.pL
  rw [if_pos ⟨by decide, by decide, by kernel_rfl⟩, awk_parts, awk_cln.1]
theorem awk_in (w : World) : OIn ((w.alloc (.cells #[.int .i64 0, .int .i64 0, .int .i64 0, .int .i64 4700, .int .i64 1, .int .i64 0, .int .i64 (-30)] 75)).alloc (.cells #[.int .i64 0, .int .i64 3, .slice (some ⟨w.heap.size, 0, none⟩) 1 1, .int .i64 1, .int .i64 3, .slice none 0 0] 78)) (awk w.heap.size) (some ⟨w.heap.size + 1, 0, none⟩) := by
  refine ⟨Rd.of_blk (blk_new2 w _ _ _) rfl rfl, fun x hx => ?_, by show 2 ≤ maxLen; unfold maxLen; decide⟩
  simp only [awk, List.mem_cons, List.not_mem_nil, or_false] at hx
  rcases hx with rfl | rfl
  · exact ⟨Rd.of_blk ((Blk.new w 75 _).alloc _) rfl rfl, by show 1 ≤ maxLen; unfold maxLen; decide⟩
  · exact ⟨Rd.none_, by unfold maxLen; decide⟩
theorem own_cin {w : World} {base : Nat} {T : TypeId} {A : Option Addr} {n c : Nat} {l : List ConR} (h : w.ownsRow base T 13 (.slice A n c) l.length (cellsOf ConR.cells l)) (hi : ∀ x ∈ l, Rd w w.heap.size 7 x.items.A x.items.l.length (cellsOf ItemR.cells x.items.l)) (hf : ∀ x ∈ l, x.items.l.length ≤ 1000) (hl : l.length ≤ 1000) : n = l.length ∧ CIn w l A := by
  obtain ⟨A', c', e, hr⟩ := Rd.of_own h
  injection e with e1 e2 e3
  subst e1 e2 e3
  exact ⟨rfl, hr, hi, hf, hl⟩
theorem wf_sam : Wf Sam.ro.dividends ∧ Wf Sam.ro.retained := ⟨by decide, by decide⟩
theorem ent_len (s1 s2 s3 s4 : Sl Acc) (r1 r2 r3 r4 : Sl LinkR) : (Sam.ents s1 s2 s3 s4 r1 r2 r3 r4).length ≤ 1000 := by show 4 ≤ 1000; omega
theorem sampost_any (g : Nat) (gcs : Array Value) (cA : Option Addr) (cc : Nat) (s1 s2 s3 s4 : Sl Acc) (r1 r2 r3 r4 : Sl LinkR) (eA : Option Addr) (ec : Nat) (w : World) (hg : gcs = gcells Sam.eur 2026 1 36 Sam.chart cA cc Sam.ro (Sam.ents s1 s2 s3 s4 r1 r2 r3 r4) eA ec)
    (hG : GIn w Sam.chart cA (Sam.ents s1 s2 s3 s4 r1 r2 r3 r4) eA) (A : Option Addr) (c : Nat) (hC : CIn w (awk g) A) :
    Calls Tryz.prog 27 #[.agg (bkOf gcs), .slice A 2 c, .int .i64 1, .int .i64 0, .int .i64 0] w (PPost 53 9 1 0 awkL 0 w) := by
  have := dposting_any gcs Sam.eur 2026 1 36 Sam.chart cA cc Sam.ro (Sam.ents s1 s2 s3 s4 r1 r2 r3 r4) eA ec w (bkOf gcs) (awk g) 1 0 0 A c (Lib.hid hg) (bkOf_is (gsize21 hg)) hG (Sam.small s1 s2 s3 s4 r1 r2 r3 r4) (ent_len s1 s2 s3 s4 r1 r2 r3 r4) hC wf_sam.1 wf_sam.2
  rw [Sam.good] at this
  have e1 : Dv.pL true 0 36 (Sam.ents s1 s2 s3 s4 r1 r2 r3 r4).length Sam.ro.dividends Sam.ro.retained (awk g) 1 0 = awkL := awk_l g
  have e2 : Dv.pE true 0 36 (Sam.ents s1 s2 s3 s4 r1 r2 r3 r4).length Sam.ro.dividends Sam.ro.retained (awk g) 1 0 = 0 := awk_e g
  rw [e1, e2] at this
  exact this
theorem awk_pins (w : World) (xA : Option Addr) (xc : Nat) (h : Rd w w.heap.size 2 xA awkL.length (cellsOf Bal.cells awkL)) :
    PIn ((((w.alloc (.cells #[.int .i64 9, .int .i64 1, .int .i64 0, .int .i64 0, .slice xA awkL.length xc] 51)).alloc (.cells #[.int .i64 9, .int .i64 1, .int .i64 0, .int .i64 0, .slice xA awkL.length xc] 51)).alloc (.cells #[.int .i64 3300, .int .i64 (-30), .int .i64 4700, .int .i64 30] 53)).alloc (.cells #[.int .i64 9, .int .i64 1, .int .i64 0, .int .i64 0, .slice (some ⟨w.heap.size + 1 + 1, 0, none⟩) 2 2] 51)) [⟨9, 1, 0, 0, ⟨awkL, xA, xc⟩⟩] (some ⟨w.heap.size + 1, 0, none⟩) ∧ PIn ((((w.alloc (.cells #[.int .i64 9, .int .i64 1, .int .i64 0, .int .i64 0, .slice xA awkL.length xc] 51)).alloc (.cells #[.int .i64 9, .int .i64 1, .int .i64 0, .int .i64 0, .slice xA awkL.length xc] 51)).alloc (.cells #[.int .i64 3300, .int .i64 (-30), .int .i64 4700, .int .i64 30] 53)).alloc (.cells #[.int .i64 9, .int .i64 1, .int .i64 0, .int .i64 0, .slice (some ⟨w.heap.size + 1 + 1, 0, none⟩) 2 2] 51)) [⟨9, 1, 0, 0, ⟨awkL, some ⟨w.heap.size + 1 + 1, 0, none⟩, 2⟩⟩] (some ⟨w.heap.size + 1 + 1 + 1, 0, none⟩) := by
  refine ⟨⟨Rd.of_blk (((Blk.newAt (by simp)).alloc _).alloc _) rfl rfl, fun x hx => ?_, fun x hx => ?_, by show 1 ≤ 1000000; omega⟩, ⟨Rd.of_blk (Blk.newAt (by simp)) rfl rfl, fun x hx => ?_, fun x hx => ?_, by show 1 ≤ 1000000; omega⟩⟩
  · simp only [List.mem_cons, List.not_mem_nil, or_false] at hx
    subst hx
    exact Rd.now h (((((Below.refl _ _).alloc (Nat.le_refl _) _).alloc (by simp) _).alloc (by simp; omega) _).alloc (by simp; omega) _)
  · simp only [List.mem_cons, List.not_mem_nil, or_false] at hx
    subst hx
    show 2 ≤ 1000000; omega
  · simp only [List.mem_cons, List.not_mem_nil, or_false] at hx
    subst hx
    exact Rd.of_blk ((Blk.newAt (by simp)).alloc _) rfl rfl
  · simp only [List.mem_cons, List.not_mem_nil, or_false] at hx
    subst hx
    show 2 ≤ 1000000; omega
set_option maxRecDepth 100000 in
set_option maxHeartbeats 8000000 in
theorem div_awake (w : World) : Calls Tryz.prog 8 #[] w (BoolPost true w) := by
  have hb : Below w.heap.size w ((w.alloc (.cells #[.int .i64 0, .int .i64 0, .int .i64 0, .int .i64 4700, .int .i64 1, .int .i64 0, .int .i64 (-30)] 75)).alloc (.cells #[.int .i64 0, .int .i64 3, .slice (some ⟨w.heap.size, 0, none⟩) 1 1, .int .i64 1, .int .i64 3, .slice none 0 0] 78)) := ((Below.refl _ _).alloc (Nat.le_refl _) _).alloc (by simp) _
  have HIN := Lib.hid (awk_in w)
  have HLT : w.heap.size < ((w.alloc (.cells #[.int .i64 0, .int .i64 0, .int .i64 0, .int .i64 4700, .int .i64 1, .int .i64 0, .int .i64 (-30)] 75)).alloc (.cells #[.int .i64 0, .int .i64 3, .slice (some ⟨w.heap.size, 0, none⟩) 1 1, .int .i64 1, .int .i64 3, .slice none 0 0] 78)).heap.size := by simp; omega
  go_enter Tryz.func8, Tryz.ntmps8
  go_wp2_with fail
  generalize (w.alloc (.cells #[.int .i64 0, .int .i64 0, .int .i64 0, .int .i64 4700, .int .i64 1, .int .i64 0, .int .i64 (-30)] 75)).alloc (.cells #[.int .i64 0, .int .i64 3, .slice (some ⟨w.heap.size, 0, none⟩) 1 1, .int .i64 1, .int .i64 3, .slice none 0 0] 78) = W at *
  refine (both_any (awk w.heap.size) (some ⟨w.heap.size + 1, 0, none⟩) 2 W HIN.out (by show 2 ≤ 1000; omega)).mono ?_
  rintro en w3 ⟨v, u, rfl, hv, hu, hb9⟩
  obtain ⟨A, n, c, hvv⟩ := own_shape hv
  subst hvv
  obtain ⟨hn, hC⟩ := own_cin hv (fun x hx => Rd.now (HIN.out.it x hx).1 hb9) (fun x hx => by
    simp only [awk, List.mem_cons, List.not_mem_nil, or_false] at hx
    rcases hx with rfl | rfl
    · show 1 ≤ 1000; omega
    · show 0 ≤ 1000; omega) (by show 2 ≤ 1000; omega)
  have hn2 : n = 2 := hn
  clear hn
  subst hn2
  have HC := Lib.hid hC
  replace hb := bel hb hb9
  clear hv hu hb9 hC
  go_wp2_with fail
  refine (sample_any w3).mono ?_
  rintro en w4 ⟨gcs, cA, cc, s1, s2, s3, s4, r1, r2, r3, r4, eA, ec, rfl, hg, hG, hb9⟩
  have HBT := Lib.hid (bkOf_built hg)
  have K := Lib.hid (sampost_any w.heap.size gcs cA cc s1 s2 s3 s4 r1 r2 r3 r4 eA ec w4 hg hG A c (HC.out.step hb9))
  replace hb := bel hb hb9
  clear hg hG hb9
  go_upto_region 3 with (first
    | (refine wpList_builtV rfl 16 rfl 47 _ rfl (bkOf gcs) [(0, .agg gcs)] (by kernel_rfl) HBT.out ?_)
    | (go_at_call 27; refine K.out.mono ?_; rintro en w5 ⟨x, rfl, hI, hOw, hb9⟩; replace hb := bel hb hb9; obtain ⟨xk, xe, xo, xr, ⟨xl, xA, xc⟩⟩ := x; obtain ⟨h1, h2, h3⟩ := hI; dsimp only at h1 h2 h3; obtain ⟨h3, -⟩ | ⟨-, h4, h5, h6⟩ := h3; · exact absurd h3 (by decide)
       subst h1 h2 h4 h5 h6; have hrx := own_rd hOw; have HRX := Lib.hid hrx; simp only [PostR.arr, Sl.val]; clear hb9 hOw hrx K))
  have KP := Lib.hid (awk_pins w5 xA xc HRX.out)
  go_wp2_with (go_at_call 13; refine (samep_yes [⟨9, 1, 0, 0, ⟨awkL, xA, xc⟩⟩] [⟨9, 1, 0, 0, ⟨awkL, some ⟨w5.heap.size + 1 + 1, 0, none⟩, 2⟩⟩] (some ⟨w5.heap.size + 1, 0, none⟩) (some ⟨w5.heap.size + 1 + 1 + 1, 0, none⟩) 1 1 _ KP.out.1 KP.out.2 rfl (fun k h1 h2 => by
    have : k = 0 := by have h3 : k < 1 := h1; omega
    subst this
    exact ⟨rfl, rfl, rfl, rfl, rfl⟩)).mono ?_; rintro en w6 ⟨rfl, hb9⟩; replace hb := bel' (w := w) hb9 ((((hb.alloc hb.size _).alloc (by have := hb.size; simp; omega) _).alloc (by have := hb.size; simp; omega) _).alloc (by have := hb.size; simp; omega) _); clear hb9)
  go_ret
  exact ⟨rfl, hb⟩
end Go.Proofs.YtnkmjdaeafeaaaaGreat
