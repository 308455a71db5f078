/- Texts of this claim, put together. -/
import Derived.Test.YthfbpbbepogllaaGreatApiZ
import Derived.Test.YthfbpbbepogllaaGreatJAC
import Derived.Test.YthfbpbbepogllaaGreatChecked
/- The walks of account and sampleChart: the chart of the sample group. -/
namespace Go.Proofs.YthfbpbbepogllaaGreat
set_option linter.unusedVariables false
set_option linter.unusedSimpArgs false
open Go.RowKit

theorem Blk.ne_own {w : World} {g : Nat} {t e : TypeId} {cs : Array Value} {base sz : Nat} {v : Value} {n : Nat} {xs : List Value} (h : Blk w g t cs) (ho : w.ownsRow base e sz v n xs) (hne : t ≠ e) : some g ≠ v.ownBlock := by
  rcases ho.2 with ⟨rfl, _⟩ | ⟨g', cap, cur, rfl, _, hg, _⟩
  · simp [Value.ownBlock]
  · simp only [Value.ownBlock, ne_eq, Option.some.injEq]
    rintro rfl
    unfold Blk at h
    rw [hg] at h
    simp at h
    exact hne h.2.symm
theorem own_cast {w : World} {base : Nat} {e : TypeId} {α : Type} {f : α → List Value} {sz : Nat} {v : Value} {l l' : List α} (h : w.ownsRow base e sz v l.length (cellsOf f l)) (hl : l = l') : w.ownsRow base e sz v l'.length (cellsOf f l') := by
  subst hl; exact h
theorem Acc.one (x : Acc) : ∀ u ∈ x.cells, u.oneCell' = true := by
  intro u hu
  simp only [Acc.cells, Ch.cells1, List.mem_cons, List.not_mem_nil, or_false] at hu
  rcases hu with rfl | rfl | rfl | rfl
  all_goals rfl
theorem Acc.info : (Tryz.prog.info? 129).map (fun i => (i.zero, i.size, i.bytes)) = some (some (.agg #[.int .i64 0, .int .i64 0, .int .i64 0, .int .i64 0]), 4, 32) := by kernel_rfl
def pairC (x : Int × Int) : List Value := [.int .i64 x.1, .int .i64 x.2]
namespace Sam
def ta : List (Int × Int) := [(1000, 0), (1010, 1000), (1100, 1000), (1200, 1000)]
def tb : List Int := [1300, 1500, 1600, 1700]
def td : List Int := [3000, 3100, 3200, 3300, 3400, 3500]
def te : List (Int × Int) := [(4000, 0), (4100, 4000), (4500, 0), (4600, 0), (4700, 0)]
def tf : List Int := [5000, 5100, 5500, 5600, 5700]
def mp (kd bs : Int) (x : Int × Int) : Acc := ⟨x.1, kd, bs, x.2⟩
def mi (kd bs : Int) (c : Int) : Acc := ⟨c, kd, bs, 0⟩
def s0 : List Acc := []
def s1 : List Acc := s0 ++ ta.map (mp 1 1)
def s2 : List Acc := s1 ++ tb.map (mi 1 3)
def s3 : List Acc := s2 ++ [⟨2000, 2, 1, 0⟩, ⟨2100, 2, 1, 2000⟩]
def s4 : List Acc := s3 ++ td.map (mi 3 3)
def s5 : List Acc := s4 ++ te.map (mp 4 2)
/-- the chart of the sample group -/
def chart : List Acc := s5 ++ tf.map (mi 5 2)
end Sam
theorem gaccount_any (c kd bs pr : Int) (w : World) : Calls Tryz.prog 103 #[.int .i64 c, .int .i64 kd, .int .i64 bs, .int .i64 pr] w fun e w' => e = .returned (.agg #[.int .i64 c, .int .i64 kd, .int .i64 bs, .int .i64 pr]) ∧ Below w.heap.size w w' := by
  have hb : Below w.heap.size w (w.alloc (.cells #[.int .i64 c, .int .i64 kd, .int .i64 bs, .int .i64 pr] 129)) := (Below.refl _ _).alloc (Nat.le_refl _) _
  go_enter Tryz.func103, Tryz.ntmps103
  go_wp2
  refine bodyPost_ret (v := .agg #[.int .i64 c, .int .i64 kd, .int .i64 bs, .int .i64 pr]) (by simp [results, Tryz.results103, go_sem]) rfl ?_
  exact ⟨rfl, hb⟩
theorem sam_len {α : Type} (P : List Acc) (X : List α) (f : α → Acc) (k : Nat) (h : P.length ≤ 50) (hk : k ≤ 10) : (P ++ (X.map f).take k).length ≤ 100 := by
  rw [List.length_append]
  have := List.length_take_le k (X.map f)
  omega
theorem sam_snoc {α : Type} (P : List Acc) (X : List α) (f : α → Acc) (k : Nat) (h : k < X.length) : P ++ (X.map f).take k ++ [f X[k]] = P ++ (X.map f).take (k + 1) := by
  rw [List.append_assoc, List.take_succ_eq_append_getElem (by simpa using h), List.getElem_map]
set_option maxRecDepth 100000 in
set_option maxHeartbeats 16000000 in
theorem sampleChart_any (w : World) : Calls Tryz.prog 70 #[] w fun e w' => ∃ v, e = .returned v ∧ w'.ownsRow w.heap.size 129 4 v Sam.chart.length (cellsOf Acc.cells Sam.chart) ∧ Below w.heap.size w w' := by
  obtain ⟨i0, hi, hz0, hz1, hz2⟩ := info_parts Acc.info
  have hb := Below.refl w.heap.size w
  have ho : w.ownsRow w.heap.size 129 4 (.slice none 0 0) (Sam.s0).length (cellsOf Acc.cells Sam.s0) := World.ownsRow_nil _ _ _ _
  go_enter Tryz.func70, Tryz.ntmps70
  go_wp2_with fail
  go_loopw [1, 18] (fun v t wr => ∃ k : Nat, k ≤ 4 ∧ t = .int .i64 k ∧ wr.ownsRow w.heap.size 129 4 v (Sam.s0 ++ (Sam.ta.map (Sam.mp 1 1)).take k).length (cellsOf Acc.cells (Sam.s0 ++ (Sam.ta.map (Sam.mp 1 1)).take k)) ∧ Blk wr w.heap.size 103 (cellsOf pairC Sam.ta).toArray ∧ Below w.heap.size w wr) (fun _ t _ => 4 - (intOf t).toNat)
  case atStart => exact ⟨0, by omega, rfl, own_cast (ho.alloc _) (by simp), Blk.new _ _ _, hb.alloc hb.size _⟩
  case round =>
    clear ho hb
    obtain ⟨k, hk, rfl, ho, hT, hb⟩ := hrel
    have hz := hb.size
    by_cases hlt : k < 4
    · have hln : (Sam.s0 ++ (Sam.ta.map (Sam.mp 1 1)).take k).length ≤ 100 := sam_len Sam.s0 Sam.ta (Sam.mp 1 1) k (by decide) (by omega)
      have hxl : k < Sam.ta.length := hlt
      have HSN := Lib.hid (sam_snoc Sam.s0 Sam.ta (Sam.mp 1 1) k hxl)
      obtain ⟨b, o, hA, hbo, hcs⟩ := rd_at (f := pairC) (sz := 2) (fun _ => rfl) (Rd.of_blk (sz := 2) (n := (Sam.ta).length) hT (xs := cellsOf pairC Sam.ta) (by simp) (by rw [cellsOf_len (sz := 2) (fun _ => rfl)])) hxl
      injection hA with hA
      injection hA with hA1 hA2
      subst hA1 hA2
      have f0 := hcs 0 _ rfl
      have f1 := hcs 1 _ rfl
      simp only [Nat.zero_add, Nat.add_zero] at f0 f1
      have HT := Lib.hid hT
      have HO := Lib.hid ho
      clear hT ho hcs
      generalize hxk : (Sam.ta)[k] = c at *
      have HXK := Lib.hid hxk
      clear hxk
      obtain ⟨c, d⟩ := c
      dsimp only at *
      have hb1 := hb.alloc hz (.cells #[.int .i64 c, .int .i64 d] 103)
      go_wp2_with (first
        | (go_at_call 103; refine (gaccount_any _ _ _ _ _).mono ?_; rintro e w2 ⟨rfl, hb2⟩; have ho3 := (own_step (HO.out.alloc (.cells #[.int .i64 c, .int .i64 d] 103)) hb2).alloc (.cells #[.int .i64 c, .int .i64 1, .int .i64 1, .int .i64 d] 129); have hT3 := ((HT.out.alloc (.cells #[.int .i64 c, .int .i64 d] 103)).step hb2).alloc (.cells #[.int .i64 c, .int .i64 1, .int .i64 1, .int .i64 d] 129); have hb3 := (bel hb1 hb2).alloc (bel hb1 hb2).size (.cells #[.int .i64 c, .int .i64 1, .int .i64 1, .int .i64 d] 129); clear hb2)
        | (at_builtin; refine wpList_append_rec Acc.cells 4 (fun _ => rfl) Acc.one rfl (.tmp 22) (.tmp 28) 24 rfl w.heap.size 129 i0 (.agg #[.int .i64 0, .int .i64 0, .int .i64 0, .int .i64 0]) 32 Tryz.underlying24 hi hz0 hz1 hz2 rfl (by decide) _ (Sam.s0 ++ (Sam.ta.map (Sam.mp 1 1)).take k) rfl (ho3) (w2).heap.size 1 (Sam.mp 1 1 (c, d)) _ rfl (Blk.new (w2) _ _) rfl (by simp only [maxLen]; omega) (by omega) (hb3).size ?_; intro v4 w4 ho4 hg4))
      have hb4 := bel_own (hb3) (hb3).size ho3 hg4
      have hT4 := hT3.grown hg4 (hT3.ne_own ho3 (by decide))
      clear hg4 ho3 hT3
      go_wp2_with fail
      go_roundw
      case rel => exact ⟨k + 1, by omega, by go_num, own_cast ho4 HSN.out, hT4, hb4⟩
      case measure => simp [intOf]; omega
    · replace ho := own_cast (l' := Sam.s1) ho (by rw [show k = 4 by omega]; rfl)
      obtain ⟨wA, rfl⟩ : ∃ x : World, x = wr := ⟨_, rfl⟩
      obtain ⟨kA, rfl⟩ : ∃ x : Nat, x = k := ⟨_, rfl⟩
      have HKA : Hid (kA = 4) := Lib.hid (by omega)
      clear hT hz
      go_wp2_with fail
      go_loopw [1, 33] (fun v t wr => ∃ k : Nat, k ≤ 4 ∧ t = .int .i64 k ∧ wr.ownsRow w.heap.size 129 4 v (Sam.s1 ++ (Sam.tb.map (Sam.mi 1 3)).take k).length (cellsOf Acc.cells (Sam.s1 ++ (Sam.tb.map (Sam.mi 1 3)).take k)) ∧ Blk wr wA.heap.size 3 (intCells Sam.tb).toArray ∧ Below w.heap.size w wr) (fun _ t _ => 4 - (intOf t).toNat)
      case atStart => exact ⟨0, by omega, rfl, own_cast (ho.alloc _) (by simp), Blk.new _ _ _, hb.alloc hb.size _⟩
      case round =>
        clear ho hb
        obtain ⟨k, hk, rfl, ho, hT, hb⟩ := hrel
        have hz := hb.size
        by_cases hlt : k < 4
        · have hln : (Sam.s1 ++ (Sam.tb.map (Sam.mi 1 3)).take k).length ≤ 100 := sam_len Sam.s1 Sam.tb (Sam.mi 1 3) k (by decide) (by omega)
          have hxl : k < Sam.tb.length := hlt
          have HSN := Lib.hid (sam_snoc Sam.s1 Sam.tb (Sam.mi 1 3) k hxl)
          obtain ⟨b, o, hA, hbo, f0⟩ := int_at (Rd.of_blk (sz := 1) (n := (Sam.tb).length) hT (xs := intCells Sam.tb) (by simp) (by rw [intCells_len, Nat.mul_one])) hxl
          injection hA with hA
          injection hA with hA1 hA2
          subst hA1 hA2
          rw [Nat.zero_add] at f0
          have HT := Lib.hid hT
          have HO := Lib.hid ho
          clear hT ho
          generalize hxk : (Sam.tb)[k] = c at *
          have HXK := Lib.hid hxk
          clear hxk
          go_wp2_with (first
            | (go_at_call 103; refine (gaccount_any _ _ _ _ _).mono ?_; rintro e w2 ⟨rfl, hb2⟩; have ho3 := (own_step HO.out hb2).alloc (.cells #[.int .i64 c, .int .i64 1, .int .i64 3, .int .i64 0] 129); have hT3 := (HT.out.step hb2).alloc (.cells #[.int .i64 c, .int .i64 1, .int .i64 3, .int .i64 0] 129); have hb3 := (bel hb hb2).alloc (bel hb hb2).size (.cells #[.int .i64 c, .int .i64 1, .int .i64 3, .int .i64 0] 129); clear hb2)
            | (at_builtin; refine wpList_append_rec Acc.cells 4 (fun _ => rfl) Acc.one rfl (.tmp 37) (.tmp 40) 24 rfl w.heap.size 129 i0 (.agg #[.int .i64 0, .int .i64 0, .int .i64 0, .int .i64 0]) 32 Tryz.underlying24 hi hz0 hz1 hz2 rfl (by decide) _ (Sam.s1 ++ (Sam.tb.map (Sam.mi 1 3)).take k) rfl (ho3) (w2).heap.size 1 (Sam.mi 1 3 c) _ rfl (Blk.new (w2) _ _) rfl (by simp only [maxLen]; omega) (by omega) (hb3).size ?_; intro v4 w4 ho4 hg4))
          have hb4 := bel_own (hb3) (hb3).size ho3 hg4
          have hT4 := hT3.grown hg4 (hT3.ne_own ho3 (by decide))
          clear hg4 ho3 hT3
          go_wp2_with fail
          go_roundw
          case rel => exact ⟨k + 1, by omega, by go_num, own_cast ho4 HSN.out, hT4, hb4⟩
          case measure => simp [intOf]; omega
        · replace ho := own_cast (l' := Sam.s2) ho (by rw [show k = 4 by omega]; rfl)
          obtain ⟨wB, rfl⟩ : ∃ x : World, x = wr := ⟨_, rfl⟩
          obtain ⟨kB, rfl⟩ : ∃ x : Nat, x = k := ⟨_, rfl⟩
          have HKB : Hid (kB = 4) := Lib.hid (by omega)
          clear hT hz
          have HO := Lib.hid ho
          clear ho
          go_wp2_with fail
          refine (gaccount_any 2000 2 1 0 wB).mono ?_
          rintro e w2 ⟨rfl, hb2⟩
          have ho2 := Lib.hid (own_step HO.out hb2)
          replace hb := bel hb hb2
          clear hb2 HO
          go_wp2_with fail
          refine (gaccount_any 2100 2 1 2000 w2).mono ?_
          rintro e w3 ⟨rfl, hb3⟩
          have ho3 := (own_step ho2.out hb3).alloc (.cells #[.int .i64 2000, .int .i64 2, .int .i64 1, .int .i64 0, .int .i64 2100, .int .i64 2, .int .i64 1, .int .i64 2000] 129)
          replace hb := (bel hb hb3).alloc (bel hb hb3).size (.cells #[.int .i64 2000, .int .i64 2, .int .i64 1, .int .i64 0, .int .i64 2100, .int .i64 2, .int .i64 1, .int .i64 2000] 129)
          clear hb3 ho2
          have hr3 := Rd.of_blk (sz := 4) (n := 2) (Blk.new w3 129 #[.int .i64 2000, .int .i64 2, .int .i64 1, .int .i64 0, .int .i64 2100, .int .i64 2, .int .i64 1, .int .i64 2000]) (xs := cellsOf Acc.cells [⟨2000, 2, 1, 0⟩, ⟨2100, 2, 1, 2000⟩]) rfl rfl
          go_wp2_with (at_builtin; refine wpList_append_any _ rfl (.tmp 43) (.tmp 46) 24 rfl w.heap.size 129 i0 (.agg #[.int .i64 0, .int .i64 0, .int .i64 0, .int .i64 0]) 4 32 Tryz.underlying24 hi hz0 hz1 hz2 rfl (by decide) _ (Sam.s2).length (cellsOf Acc.cells Sam.s2) rfl ho3 _ (some ⟨w3.heap.size, 0, none⟩) 2 2 _ rfl hr3 (cells_one Acc.one _) (by decide) (by decide) hb.size ?_; intro v4 w4 ho4 hg4)
          have hb4 := bel_own hb hb.size ho3 hg4
          rw [← cellsOf_app] at ho4
          have ho5 : w4.ownsRow w.heap.size 129 4 v4 (Sam.s3).length (cellsOf Acc.cells Sam.s3) := ho4
          clear hg4 ho3 hr3 hb ho4
          obtain ⟨hb, ho⟩ : Below w.heap.size w w4 ∧ w4.ownsRow w.heap.size 129 4 v4 (Sam.s3).length (cellsOf Acc.cells Sam.s3) := ⟨hb4, ho5⟩
          clear hb4 ho5
          go_wp2_with fail
          go_loopw [1, 50] (fun v t wr => ∃ k : Nat, k ≤ 6 ∧ t = .int .i64 k ∧ wr.ownsRow w.heap.size 129 4 v (Sam.s3 ++ (Sam.td.map (Sam.mi 3 3)).take k).length (cellsOf Acc.cells (Sam.s3 ++ (Sam.td.map (Sam.mi 3 3)).take k)) ∧ Blk wr w4.heap.size 3 (intCells Sam.td).toArray ∧ Below w.heap.size w wr) (fun _ t _ => 6 - (intOf t).toNat)
          case atStart => exact ⟨0, by omega, rfl, own_cast (ho.alloc _) (by simp), Blk.new _ _ _, hb.alloc hb.size _⟩
          case round =>
            clear ho hb
            obtain ⟨k, hk, rfl, ho, hT, hb⟩ := hrel
            have hz := hb.size
            by_cases hlt : k < 6
            · have hln : (Sam.s3 ++ (Sam.td.map (Sam.mi 3 3)).take k).length ≤ 100 := sam_len Sam.s3 Sam.td (Sam.mi 3 3) k (by decide) (by omega)
              have hxl : k < Sam.td.length := hlt
              have HSN := Lib.hid (sam_snoc Sam.s3 Sam.td (Sam.mi 3 3) k hxl)
              obtain ⟨b, o, hA, hbo, f0⟩ := int_at (Rd.of_blk (sz := 1) (n := (Sam.td).length) hT (xs := intCells Sam.td) (by simp) (by rw [intCells_len, Nat.mul_one])) hxl
              injection hA with hA
              injection hA with hA1 hA2
              subst hA1 hA2
              rw [Nat.zero_add] at f0
              have HT := Lib.hid hT
              have HO := Lib.hid ho
              clear hT ho
              generalize hxk : (Sam.td)[k] = c at *
              have HXK := Lib.hid hxk
              clear hxk
              go_wp2_with (first
                | (go_at_call 103; refine (gaccount_any _ _ _ _ _).mono ?_; rintro e w2 ⟨rfl, hb2⟩; have ho3 := (own_step HO.out hb2).alloc (.cells #[.int .i64 c, .int .i64 3, .int .i64 3, .int .i64 0] 129); have hT3 := (HT.out.step hb2).alloc (.cells #[.int .i64 c, .int .i64 3, .int .i64 3, .int .i64 0] 129); have hb3 := (bel hb hb2).alloc (bel hb hb2).size (.cells #[.int .i64 c, .int .i64 3, .int .i64 3, .int .i64 0] 129); clear hb2)
                | (at_builtin; refine wpList_append_rec Acc.cells 4 (fun _ => rfl) Acc.one rfl (.tmp 54) (.tmp 57) 24 rfl w.heap.size 129 i0 (.agg #[.int .i64 0, .int .i64 0, .int .i64 0, .int .i64 0]) 32 Tryz.underlying24 hi hz0 hz1 hz2 rfl (by decide) _ (Sam.s3 ++ (Sam.td.map (Sam.mi 3 3)).take k) rfl (ho3) (w2).heap.size 1 (Sam.mi 3 3 c) _ rfl (Blk.new (w2) _ _) rfl (by simp only [maxLen]; omega) (by omega) (hb3).size ?_; intro v4 w4 ho4 hg4))
              have hb4 := bel_own (hb3) (hb3).size ho3 hg4
              have hT4 := hT3.grown hg4 (hT3.ne_own ho3 (by decide))
              clear hg4 ho3 hT3
              go_wp2_with fail
              go_roundw
              case rel => exact ⟨k + 1, by omega, by go_num, own_cast ho4 HSN.out, hT4, hb4⟩
              case measure => simp [intOf]; omega
            · replace ho := own_cast (l' := Sam.s4) ho (by rw [show k = 6 by omega]; rfl)
              obtain ⟨wC, rfl⟩ : ∃ x : World, x = wr := ⟨_, rfl⟩
              obtain ⟨kC, rfl⟩ : ∃ x : Nat, x = k := ⟨_, rfl⟩
              have HKC : Hid (kC = 6) := Lib.hid (by omega)
              clear hT hz
              go_wp2_with fail
              go_loopw [1, 67] (fun v t wr => ∃ k : Nat, k ≤ 5 ∧ t = .int .i64 k ∧ wr.ownsRow w.heap.size 129 4 v (Sam.s4 ++ (Sam.te.map (Sam.mp 4 2)).take k).length (cellsOf Acc.cells (Sam.s4 ++ (Sam.te.map (Sam.mp 4 2)).take k)) ∧ Blk wr wC.heap.size 103 (cellsOf pairC Sam.te).toArray ∧ Below w.heap.size w wr) (fun _ t _ => 5 - (intOf t).toNat)
              case atStart => exact ⟨0, by omega, rfl, own_cast (ho.alloc _) (by simp), Blk.new _ _ _, hb.alloc hb.size _⟩
              case round =>
                clear ho hb
                obtain ⟨k, hk, rfl, ho, hT, hb⟩ := hrel
                have hz := hb.size
                by_cases hlt : k < 5
                · have hln : (Sam.s4 ++ (Sam.te.map (Sam.mp 4 2)).take k).length ≤ 100 := sam_len Sam.s4 Sam.te (Sam.mp 4 2) k (by decide) (by omega)
                  have hxl : k < Sam.te.length := hlt
                  have HSN := Lib.hid (sam_snoc Sam.s4 Sam.te (Sam.mp 4 2) k hxl)
                  obtain ⟨b, o, hA, hbo, hcs⟩ := rd_at (f := pairC) (sz := 2) (fun _ => rfl) (Rd.of_blk (sz := 2) (n := (Sam.te).length) hT (xs := cellsOf pairC Sam.te) (by simp) (by rw [cellsOf_len (sz := 2) (fun _ => rfl)])) hxl
                  injection hA with hA
                  injection hA with hA1 hA2
                  subst hA1 hA2
                  have f0 := hcs 0 _ rfl
                  have f1 := hcs 1 _ rfl
                  simp only [Nat.zero_add, Nat.add_zero] at f0 f1
                  have HT := Lib.hid hT
                  have HO := Lib.hid ho
                  clear hT ho hcs
                  generalize hxk : (Sam.te)[k] = c at *
                  have HXK := Lib.hid hxk
                  clear hxk
                  obtain ⟨c, d⟩ := c
                  dsimp only at *
                  have hb1 := hb.alloc hz (.cells #[.int .i64 c, .int .i64 d] 103)
                  go_wp2_with (first
                    | (go_at_call 103; refine (gaccount_any _ _ _ _ _).mono ?_; rintro e w2 ⟨rfl, hb2⟩; have ho3 := (own_step (HO.out.alloc (.cells #[.int .i64 c, .int .i64 d] 103)) hb2).alloc (.cells #[.int .i64 c, .int .i64 4, .int .i64 2, .int .i64 d] 129); have hT3 := ((HT.out.alloc (.cells #[.int .i64 c, .int .i64 d] 103)).step hb2).alloc (.cells #[.int .i64 c, .int .i64 4, .int .i64 2, .int .i64 d] 129); have hb3 := (bel hb1 hb2).alloc (bel hb1 hb2).size (.cells #[.int .i64 c, .int .i64 4, .int .i64 2, .int .i64 d] 129); clear hb2)
                    | (at_builtin; refine wpList_append_rec Acc.cells 4 (fun _ => rfl) Acc.one rfl (.tmp 71) (.tmp 77) 24 rfl w.heap.size 129 i0 (.agg #[.int .i64 0, .int .i64 0, .int .i64 0, .int .i64 0]) 32 Tryz.underlying24 hi hz0 hz1 hz2 rfl (by decide) _ (Sam.s4 ++ (Sam.te.map (Sam.mp 4 2)).take k) rfl (ho3) (w2).heap.size 1 (Sam.mp 4 2 (c, d)) _ rfl (Blk.new (w2) _ _) rfl (by simp only [maxLen]; omega) (by omega) (hb3).size ?_; intro v4 w4 ho4 hg4))
                  have hb4 := bel_own (hb3) (hb3).size ho3 hg4
                  have hT4 := hT3.grown hg4 (hT3.ne_own ho3 (by decide))
                  clear hg4 ho3 hT3
                  go_wp2_with fail
                  go_roundw
                  case rel => exact ⟨k + 1, by omega, by go_num, own_cast ho4 HSN.out, hT4, hb4⟩
                  case measure => simp [intOf]; omega
                · replace ho := own_cast (l' := Sam.s5) ho (by rw [show k = 5 by omega]; rfl)
                  obtain ⟨wD, rfl⟩ : ∃ x : World, x = wr := ⟨_, rfl⟩
                  obtain ⟨kD, rfl⟩ : ∃ x : Nat, x = k := ⟨_, rfl⟩
                  have HKD : Hid (kD = 5) := Lib.hid (by omega)
                  clear hT hz
                  go_wp2_with fail
                  go_loopw [1, 82] (fun v t wr => ∃ k : Nat, k ≤ 5 ∧ t = .int .i64 k ∧ wr.ownsRow w.heap.size 129 4 v (Sam.s5 ++ (Sam.tf.map (Sam.mi 5 2)).take k).length (cellsOf Acc.cells (Sam.s5 ++ (Sam.tf.map (Sam.mi 5 2)).take k)) ∧ Blk wr wD.heap.size 3 (intCells Sam.tf).toArray ∧ Below w.heap.size w wr) (fun _ t _ => 5 - (intOf t).toNat)
                  case atStart => exact ⟨0, by omega, rfl, own_cast (ho.alloc _) (by simp), Blk.new _ _ _, hb.alloc hb.size _⟩
                  case round =>
                    clear ho hb
                    obtain ⟨k, hk, rfl, ho, hT, hb⟩ := hrel
                    have hz := hb.size
                    by_cases hlt : k < 5
                    · have hln : (Sam.s5 ++ (Sam.tf.map (Sam.mi 5 2)).take k).length ≤ 100 := sam_len Sam.s5 Sam.tf (Sam.mi 5 2) k (by decide) (by omega)
                      have hxl : k < Sam.tf.length := hlt
                      have HSN := Lib.hid (sam_snoc Sam.s5 Sam.tf (Sam.mi 5 2) k hxl)
                      obtain ⟨b, o, hA, hbo, f0⟩ := int_at (Rd.of_blk (sz := 1) (n := (Sam.tf).length) hT (xs := intCells Sam.tf) (by simp) (by rw [intCells_len, Nat.mul_one])) hxl
                      injection hA with hA
                      injection hA with hA1 hA2
                      subst hA1 hA2
                      rw [Nat.zero_add] at f0
                      have HT := Lib.hid hT
                      have HO := Lib.hid ho
                      clear hT ho
                      generalize hxk : (Sam.tf)[k] = c at *
                      have HXK := Lib.hid hxk
                      clear hxk
                      go_wp2_with (first
                        | (go_at_call 103; refine (gaccount_any _ _ _ _ _).mono ?_; rintro e w2 ⟨rfl, hb2⟩; have ho3 := (own_step HO.out hb2).alloc (.cells #[.int .i64 c, .int .i64 5, .int .i64 2, .int .i64 0] 129); have hT3 := (HT.out.step hb2).alloc (.cells #[.int .i64 c, .int .i64 5, .int .i64 2, .int .i64 0] 129); have hb3 := (bel hb hb2).alloc (bel hb hb2).size (.cells #[.int .i64 c, .int .i64 5, .int .i64 2, .int .i64 0] 129); clear hb2)
                        | (at_builtin; refine wpList_append_rec Acc.cells 4 (fun _ => rfl) Acc.one rfl (.tmp 86) (.tmp 89) 24 rfl w.heap.size 129 i0 (.agg #[.int .i64 0, .int .i64 0, .int .i64 0, .int .i64 0]) 32 Tryz.underlying24 hi hz0 hz1 hz2 rfl (by decide) _ (Sam.s5 ++ (Sam.tf.map (Sam.mi 5 2)).take k) rfl (ho3) (w2).heap.size 1 (Sam.mi 5 2 c) _ rfl (Blk.new (w2) _ _) rfl (by simp only [maxLen]; omega) (by omega) (hb3).size ?_; intro v4 w4 ho4 hg4))
                      have hb4 := bel_own (hb3) (hb3).size ho3 hg4
                      have hT4 := hT3.grown hg4 (hT3.ne_own ho3 (by decide))
                      clear hg4 ho3 hT3
                      go_wp2_with fail
                      go_roundw
                      case rel => exact ⟨k + 1, by omega, by go_num, own_cast ho4 HSN.out, hT4, hb4⟩
                      case measure => simp [intOf]; omega
                    · replace ho := own_cast (l' := Sam.chart) ho (by rw [show k = 5 by omega]; rfl)
                      obtain ⟨wE, rfl⟩ : ∃ x : World, x = wr := ⟨_, rfl⟩
                      obtain ⟨kE, rfl⟩ : ∃ x : Nat, x = k := ⟨_, rfl⟩
                      have HKE : Hid (kE = 5) := Lib.hid (by omega)
                      clear hT hz
                      go_wp2_with fail
                      go_ret
                      exact ⟨_, rfl, ho, hb⟩
end Go.Proofs.YthfbpbbepogllaaGreat
