/- Texts of this claim, put together. -/
import Derived.Test.YthfbpbbepogllaaGreatSamWalksZ
import Derived.Test.YthfbpbbepogllaaGreatJAH
import Derived.Deep.RegionLaw
/- The walk of sampleEntity: an entity of the sample group. -/
namespace Go.Proofs.YthfbpbbepogllaaGreat
set_option linter.unusedVariables false
set_option linter.unusedSimpArgs false
open Go.RowKit

theorem own_otherblk {w : World} {base base' : Nat} {e e' : TypeId} {sz sz' n n' : Nat} {v v' : Value} {xs xs' : List Value} (h : w.ownsRow base e sz v n xs) (h' : w.ownsRow base' e' sz' v' n' xs') (hne : e ≠ e') : v'.ownBlock = none ∨ v'.ownBlock ≠ v.ownBlock := by
  rcases h'.2 with ⟨rfl, _⟩ | ⟨g', cap', cur', rfl, _, hg', _⟩
  · exact .inl rfl
  · refine .inr ?_
    rcases h.2 with ⟨rfl, _⟩ | ⟨g, cap, cur, rfl, _, hg, _⟩
    · simp [Value.ownBlock]
    · simp only [Value.ownBlock, ne_eq, Option.some.injEq]
      rintro rfl
      rw [hg] at hg'
      simp at hg'
      exact hne hg'.2
theorem own_away {w : World} {base : Nat} {e : TypeId} {sz : Nat} {v : Value} {n : Nat} {xs : List Value} (h : w.ownsRow base e sz v n xs) {g i : Nat} (hp : g < base) (u : Value) : (w.setCell ⟨g, i, none⟩ u).ownsRow base e sz v n xs :=
  ⟨h.1, h.2.imp id fun ⟨g', cap, cur, h1, h2, h3, h4⟩ => ⟨g', cap, cur, h1, h2, (Below.heap_setCell w ⟨g, i, none⟩ u g' (by show g' ≠ g; omega)).trans h3, h4⟩⟩
theorem own_shape {w : World} {base : Nat} {e : TypeId} {sz : Nat} {v : Value} {n : Nat} {xs : List Value} (h : w.ownsRow base e sz v n xs) : ∃ A m c, v = .slice A m c := by
  obtain ⟨A, c, rfl, _⟩ := Rd.of_own h
  exact ⟨A, n, c, rfl⟩
theorem own_lies {w : World} {base : Nat} {e : TypeId} {α : Type} {f : α → List Value} {sz : Nat} {A : Option Addr} {m c : Nat} {l : List α} (h : w.ownsRow base e sz (.slice A m c) l.length (cellsOf f l)) : m = l.length ∧ (Sl.mk l A c).Lies w f sz := by
  have hm : m = l.length := own_slice h
  subst hm
  obtain ⟨B, d, e1, hr⟩ := Rd.of_own h
  injection e1 with e1 _ _
  subst e1
  refine ⟨rfl, hr, ?_⟩
  rcases h.2 with ⟨h1, h0⟩ | ⟨g, cap, cur, h1, hb, hg, hnc, hcm, _⟩
  · injection h1 with _ _ e3
    subst e3
    exact ⟨by show l.length ≤ 0; omega, by simp [maxLen]⟩
  · injection h1 with _ _ e3
    subst e3
    exact ⟨hnc, hcm⟩
theorem Blk.newAt {w : World} {g : Nat} {t : TypeId} {cs : Array Value} (h : w.heap.size = g) : Blk (w.alloc (.cells cs t)) g t cs := by subst h; exact Blk.new w t cs
/-- an append of one struct, as a step of a region that draws -/
theorem step_append_rec {P : Program} {ops : Array Oper} {o : Oper} {a : Act} {w : World} {K : Act → World → Prop} {Q : Exit → Act → World → Prop} {E : Prop} {α : Type} (hgd : o.guard = none) (f : α → List Value) (size : Nat) (hf : ∀ a, (f a).length = size) (hone : ∀ a, ∀ u ∈ f a, u.oneCell' = true)
    (s x : Operand) (t : TypeId) (ho : o.op = .call { callee := .builtin .append, args := #[s, x], argTypes := #[t, t] })
    (base : Nat) (e : TypeId) (i : TypeInfo) (z : Value) (bytes : Nat) (ht : P.underlying t = some (.slice e)) (hi : P.info? e = some i) (hz : i.zero = some z) (hsize : i.size = size) (hby : i.bytes = bytes) (hzs : z.cells.size = size) (hsz : 0 < size)
    (v : Value) (l : List α) (hs : a.eval s = v) (hown : w.ownsRow base e size v l.length (cellsOf f l)) (g c : Nat) (y : α) (cs : Array Value) (hx : a.eval x = .slice (some ⟨g, 0, none⟩) 1 c) (hB : Blk w g e cs) (hcs : cs.toList = f y)
    (h63 : l.length + 1 ≤ maxLen) (hbytes : (l.length + 1) * bytes ≤ 140737488355328) (hbase : base ≤ w.heap.size)
    (h : ∀ v' w', w'.ownsRow base e size v' (l ++ [y]).length (cellsOf f (l ++ [y])) → w.grownBy w' v.ownBlock → K (a.put o.dst v') w') : if Region.wanted o (yielded ops a.tmps) = true then Oper.wp P o a w K Q else E := by
  have hw : Region.wanted o (yielded ops a.tmps) = true := by simp [Region.wanted, hgd]
  rw [if_pos hw]
  exact wp_append_rec w f size hf hone s x t ho base e i z bytes ht hi hz hsize hby hzs hsz v l hs hown g c y cs hx hB hcs h63 hbytes hbase h
namespace Sam
def ek : List Int := [1, 1, 1, 1, 1, 2, 2, 3, 3, 4, 4, 4, 5, 5]
def et : List Int := [1010, 1100, 1200, 1300, 1500, 2000, 2100, 3000, 3300, 4000, 4100, 4700, 5000, 5100]
def ech : List Acc := (List.range 14).map fun (k : Nat) => (⟨10 * ((k : Int) + 1), ek.getD k 0, 0, 0⟩ : Acc)
def eli : List LinkR := (List.range 14).map fun (k : Nat) => (⟨10 * ((k : Int) + 1), et.getD k 0, -25567⟩ : LinkR)
theorem ech_snoc (k : Nat) (h : k < 14) : ech.take k ++ [⟨10 * ((k : Int) + 1), ek[k]'h, 0, 0⟩] = ech.take (k + 1) := by
  rw [List.take_succ_eq_append_getElem (by unfold ech; simpa using h)]
  congr 1
  unfold ech
  rw [List.getElem_map, List.getElem_range, getD_lt ek k 0 h]
theorem eli_snoc (k : Nat) (h : k < 14) : eli.take k ++ [⟨10 * ((k : Int) + 1), et[k]'h, -25567⟩] = eli.take (k + 1) := by
  rw [List.take_succ_eq_append_getElem (by unfold eli; simpa using h)]
  congr 1
  unfold eli
  rw [List.getElem_map, List.getElem_range, getD_lt et k 0 h]
theorem ech_ok : ∀ y ∈ ech, Wf y.code ∧ Wf y.kind ∧ Wf y.basis ∧ Wf y.parent := by decide
theorem eli_ok : ∀ y ∈ eli, Wf y.from_ ∧ Wf y.to ∧ Wf y.since := by decide
theorem take_le {α : Type} (l : List α) (k : Nat) (h : k ≤ 14) : (l.take k).length ≤ 100 := by
  have := List.length_take_le k l
  omega
end Sam
/-- the slice lies in a block from B on -/
def Sl.Past {α : Type} (s : Sl α) (B : Nat) : Prop := ∃ g, s.A = some ⟨g, 0, none⟩ ∧ B ≤ g
theorem Sl.Lies.turn {α : Type} {s : Sl α} {w w' : World} {f : α → List Value} {sz B : Nat} (h : s.Lies w f sz) (hp : s.Past B) (ht : ∀ g, B ≤ g → g < w.heap.size → w'.heap[g]? = w.heap[g]?) (hs : w.heap.size ≤ w'.heap.size) : s.Lies w' f sz := by
  refine ⟨⟨h.1.1, fun hn => ?_⟩, h.2⟩
  obtain ⟨b, o, e, hb, hc⟩ := h.1.2 hn
  obtain ⟨g, e2, hg⟩ := hp
  rw [e] at e2
  injection e2 with e2
  injection e2 with e3 e4
  subst e3 e4
  refine ⟨b, 0, e, by omega, fun j u hu => ?_⟩
  have := hc j u hu
  unfold World.cell? at this ⊢
  rw [ht b hg hb]
  exact this
theorem EntR.Ok.turn {x : EntR} {w w' : World} {B : Nat} (h : x.Ok w) (h1 : x.chart.Past B) (h2 : x.links.Past B) (ht : ∀ g, B ≤ g → g < w.heap.size → w'.heap[g]? = w.heap[g]?) (hs : w.heap.size ≤ w'.heap.size) : x.Ok w' :=
  ⟨h.1, h.2.1, ⟨h.2.2.1.1.turn h1 ht hs, h.2.2.1.2⟩, ⟨h.2.2.2.1.1.turn h2 ht hs, h.2.2.2.1.2⟩, trivial⟩
theorem own_past {w : World} {base : Nat} {e : TypeId} {sz : Nat} {A : Option Addr} {m c n : Nat} {xs : List Value} {α : Type} {l : List α} (h : w.ownsRow base e sz (.slice A m c) n xs) (hn : 0 < n) : (Sl.mk l A c).Past base := by
  obtain ⟨g, cap, e1, h1, _, _⟩ := own_form h hn
  injection e1 with e1 _ _
  exact ⟨g, e1, h1⟩
/-- an entity with the chart and the links of those of the sample group -/
def SamEnt (xn xc : ByteArray) (xj : Bool) (w : World) (e : Ending) (w' : World) : Prop :=
  ∃ (A1 : Option Addr) (c1 : Nat) (A2 : Option Addr) (c2 : Nat), e = .returned (.agg #[.string xn, .string xc, .slice A1 (Sam.ech).length c1, .slice A2 (Sam.eli).length c2, .bool xj]) ∧ EntR.Ok w' ⟨xn, xc, ⟨Sam.ech, A1, c1⟩, ⟨Sam.eli, A2, c2⟩, xj⟩ ∧ (Sl.mk Sam.ech A1 c1).Past w.heap.size ∧ (Sl.mk Sam.eli A2 c2).Past w.heap.size ∧ Below w.heap.size w w'
set_option maxRecDepth 100000 in
set_option maxHeartbeats 16000000 in
theorem sampleEntity_any (xn xc : ByteArray) (xj : Bool) (w : World) (hn : xn.size ≤ maxLen) (hc : xc.size ≤ maxLen) : Calls Tryz.prog 71 #[.string xn, .string xc, .bool xj] w (SamEnt xn xc xj w) := by
  obtain ⟨i0, hi, hz0, hz1, hz2⟩ := info_parts Acc.info
  obtain ⟨j0, hj, hy0, hy1, hy2⟩ := info_parts LinkR.info
  have hb := Below.refl w.heap.size w
  go_enter Tryz.func71, Tryz.ntmps71
  go_wp2_with fail
  go_loopw [21] (fun t wr => ∃ (k : Nat) (A1 : Option Addr) (n1 c1 : Nat) (A2 : Option Addr) (n2 c2 : Nat), k ≤ 14 ∧ t = .int .i64 k ∧ Blk wr (w.heap.size + 1) 118 #[.string xn, .string xc, .slice A1 n1 c1, .slice A2 n2 c2, .bool xj] ∧
    wr.ownsRow (w.heap.size + 4) 129 4 (.slice A1 n1 c1) (Sam.ech.take k).length (cellsOf Acc.cells (Sam.ech.take k)) ∧ wr.ownsRow (w.heap.size + 4) 162 3 (.slice A2 n2 c2) (Sam.eli.take k).length (cellsOf LinkR.cells (Sam.eli.take k)) ∧
    Blk wr (w.heap.size + 2) 3 (intCells Sam.ek).toArray ∧ Blk wr (w.heap.size + 3) 3 (intCells Sam.et).toArray ∧ Blk wr w.heap.size 118 #[.string ⟨#[]⟩, .string ⟨#[]⟩, .slice none 0 0, .slice none 0 0, .bool false] ∧ Below w.heap.size w wr) (fun t _ => 14 - (intOf t).toNat)
  case atStart =>
    refine ⟨0, none, 0, 0, none, 0, 0, by omega, rfl, ?_, World.ownsRow_nil _ _ _ _, World.ownsRow_nil _ _ _ _, ?_, ?_, ?_, (by repeat (first | exact hb | refine Below.alloc ?_ (by have hbs := hb.size; first | omega | (simp; done) | (simp; omega)) _ | refine Below.drew ?_ | refine below_drewN_ ?_ _ | refine Below.setCell ?_ (by simp) _))⟩
    · exact ((Blk.newAt (by simp)).alloc _).alloc _
    · exact (Blk.newAt (by simp)).alloc _
    · exact Blk.newAt (by simp)
    · exact (((Blk.newAt rfl).alloc _).alloc _).alloc _
  case round =>
    obtain ⟨k, A1, n1, c1, A2, n2, c2, hk, rfl, hX, ho1, ho2, hK, hT, hR, hb⟩ := hrel
    have hz := hb.size
    have hlT := hT.lt
    by_cases hlt : k < 14
    · have hln1 := Sam.take_le Sam.ech k (by omega)
      have hln2 := Sam.take_le Sam.eli k (by omega)
      have HS1 := Lib.hid (Sam.ech_snoc k hlt)
      have HS2 := Lib.hid (Sam.eli_snoc k hlt)
      obtain ⟨b, o, hA, hbo, f0⟩ := int_at (Rd.of_blk (sz := 1) (n := (Sam.ek).length) hK (xs := intCells Sam.ek) (by simp) (by rw [intCells_len, Nat.mul_one])) hlt
      injection hA with hA
      injection hA with hA1 hA2
      subst hA1 hA2
      obtain ⟨b, o, hA, hbo', g0⟩ := int_at (Rd.of_blk (sz := 1) (n := (Sam.et).length) hT (xs := intCells Sam.et) (by simp) (by rw [intCells_len, Nat.mul_one])) hlt
      injection hA with hA
      injection hA with hA1 hA2
      subst hA1 hA2
      rw [Nat.zero_add] at f0 g0
      have x2 : wr.cell? ⟨w.heap.size + 1, 2, none⟩ = some (.slice A1 n1 c1) := hX.cell 2
      have HCT := Lib.hid ((hT.cell k).symm.trans g0)
      have HX := Lib.hid hX
      have HO1 := Lib.hid ho1
      have HO2 := Lib.hid ho2
      have HK := Lib.hid hK
      have HT := Lib.hid hT
      have HR := Lib.hid hR
      generalize hkk : (Sam.ek)[k]'hlt = kd at *
      generalize htt : (Sam.et)[k]'hlt = tt at *
      clear hX ho1 ho2 hK hT hR hkk htt g0
      go_wp2_with (at_builtin; refine wpList_append_rec Acc.cells 4 (fun _ => rfl) Acc.one rfl (.tmp 30) (.tmp 34) 24 rfl (w.heap.size + 4) 129 i0 (.agg #[.int .i64 0, .int .i64 0, .int .i64 0, .int .i64 0]) 32 Tryz.underlying24 hi hz0 hz1 hz2 rfl (by decide) _ (Sam.ech.take k) rfl (HO1.out.alloc _) wr.heap.size 1 ⟨10 * ((k : Int) + 1), kd, 0, 0⟩ _ rfl (Blk.new wr _ _) rfl (by simp only [maxLen]; omega) (by omega) (by simp; omega) ?_; intro v4 w4 ho4 hg4; obtain ⟨A4, n4, c4, hv4⟩ := own_shape ho4; subst hv4; have hX4 := (HX.out.alloc (.cells #[.int .i64 (10 * ((k : Int) + 1)), .int .i64 kd, .int .i64 0, .int .i64 0] 129)).grown hg4 ((HX.out.alloc (.cells #[.int .i64 (10 * ((k : Int) + 1)), .int .i64 kd, .int .i64 0, .int .i64 0] 129)).ne_own (HO1.out.alloc (.cells #[.int .i64 (10 * ((k : Int) + 1)), .int .i64 kd, .int .i64 0, .int .i64 0] 129)) (by decide)); have x4 := hX4.cell 2; have y4 := hX4.frozen 2)
      have hX5 : Blk (w4.setCell ⟨w.heap.size + 1, 2, none⟩ (.slice A4 n4 c4)) (w.heap.size + 1) 118 #[.string xn, .string xc, .slice A4 n4 c4, .slice A2 n2 c2, .bool xj] := hX4.set_ 2 _
      have ho5 := own_away ho4 (g := w.heap.size + 1) (i := 2) (by omega) (.slice A4 n4 c4)
      have hoL := own_away ((HO2.out.alloc (.cells #[.int .i64 (10 * ((k : Int) + 1)), .int .i64 kd, .int .i64 0, .int .i64 0] 129)).kept hg4 (own_otherblk (HO1.out.alloc (.cells #[.int .i64 (10 * ((k : Int) + 1)), .int .i64 kd, .int .i64 0, .int .i64 0] 129)) (HO2.out.alloc (.cells #[.int .i64 (10 * ((k : Int) + 1)), .int .i64 kd, .int .i64 0, .int .i64 0] 129)) (by decide))) (g := w.heap.size + 1) (i := 2) (by omega) (.slice A4 n4 c4)
      have hK5 := ((HK.out.alloc (.cells #[.int .i64 (10 * ((k : Int) + 1)), .int .i64 kd, .int .i64 0, .int .i64 0] 129)).grown hg4 ((HK.out.alloc (.cells #[.int .i64 (10 * ((k : Int) + 1)), .int .i64 kd, .int .i64 0, .int .i64 0] 129)).ne_own (HO1.out.alloc (.cells #[.int .i64 (10 * ((k : Int) + 1)), .int .i64 kd, .int .i64 0, .int .i64 0] 129)) (by decide))).far (p := ⟨w.heap.size + 1, 2, none⟩) (by show w.heap.size + 2 ≠ w.heap.size + 1; omega) (.slice A4 n4 c4)
      have hT5 := ((HT.out.alloc (.cells #[.int .i64 (10 * ((k : Int) + 1)), .int .i64 kd, .int .i64 0, .int .i64 0] 129)).grown hg4 ((HT.out.alloc (.cells #[.int .i64 (10 * ((k : Int) + 1)), .int .i64 kd, .int .i64 0, .int .i64 0] 129)).ne_own (HO1.out.alloc (.cells #[.int .i64 (10 * ((k : Int) + 1)), .int .i64 kd, .int .i64 0, .int .i64 0] 129)) (by decide))).far (p := ⟨w.heap.size + 1, 2, none⟩) (by show w.heap.size + 3 ≠ w.heap.size + 1; omega) (.slice A4 n4 c4)
      have hR5 := ((HR.out.alloc (.cells #[.int .i64 (10 * ((k : Int) + 1)), .int .i64 kd, .int .i64 0, .int .i64 0] 129)).grown hg4 ((HR.out.alloc (.cells #[.int .i64 (10 * ((k : Int) + 1)), .int .i64 kd, .int .i64 0, .int .i64 0] 129)).ne_own (HO1.out.alloc (.cells #[.int .i64 (10 * ((k : Int) + 1)), .int .i64 kd, .int .i64 0, .int .i64 0] 129)) (by decide))).far (p := ⟨w.heap.size + 1, 2, none⟩) (by show w.heap.size ≠ w.heap.size + 1; omega) (.slice A4 n4 c4)
      have hb5 : Below w.heap.size w (w4.setCell ⟨w.heap.size + 1, 2, none⟩ (.slice A4 n4 c4)) := (bel_own (hb.alloc hz (.cells #[.int .i64 (10 * ((k : Int) + 1)), .int .i64 kd, .int .i64 0, .int .i64 0] 129)) (hb.alloc hz (.cells #[.int .i64 (10 * ((k : Int) + 1)), .int .i64 kd, .int .i64 0, .int .i64 0] 129)).size (own_base (HO1.out.alloc (.cells #[.int .i64 (10 * ((k : Int) + 1)), .int .i64 kd, .int .i64 0, .int .i64 0] 129)) (by omega)) hg4).setCell (by simp) _
      generalize hgen : w4.setCell ⟨w.heap.size + 1, 2, none⟩ (.slice A4 n4 c4) = W5 at *
      clear hgen hg4 x4 y4 hX4 ho4 HX HO1 HO2 HK HT HR x2 f0
      have x3 : W5.cell? ⟨w.heap.size + 1, 3, none⟩ = some (.slice A2 n2 c2) := hX5.cell 3
      have y3 := hX5.frozen 3
      have ft : W5.cell? ⟨w.heap.size + 3, k, none⟩ = some (.int .i64 tt) := (hT5.cell k).trans HCT.out
      have hlT5 := hT5.lt
      have hz5 := hb5.size
      have hlX := hX5.lt
      have HX5 := Lib.hid hX5
      have HOL := Lib.hid hoL
      clear hX5 hoL
      go_region_law (refine step_append_rec rfl LinkR.cells 3 LinkR.len LinkR.one (.tmp 38) (.tmp 45) 116 rfl (w.heap.size + 4) 162 j0 (.agg #[.int .i64 0, .int .i64 0, .int .i64 0]) 24 Tryz.underlying116 hj hy0 hy1 hy2 rfl (by decide) _ (Sam.eli.take k) (by simp [Act.eval, Act.put]) (HOL.out.alloc (.cells #[.int .i64 (10 * ((k : Int) + 1)), .int .i64 tt, .int .i64 (-25567)] 162)) W5.heap.size 1 ⟨10 * ((k : Int) + 1), tt, -25567⟩ _ (by simp [Act.eval, Act.put]) (Blk.new W5 _ _) rfl (by simp only [maxLen]; omega) (by omega) (by simp; omega) ?_; intro v6 w6 ho6 hg6; obtain ⟨A6, n6, c6, hv6⟩ := own_shape ho6; subst hv6; have hX6 := ((HX5.out.alloc (.cells #[.int .i64 (10 * ((k : Int) + 1)), .int .i64 tt, .int .i64 (-25567)] 162)).drew).grown hg6 ((HX5.out.alloc (.cells #[.int .i64 (10 * ((k : Int) + 1)), .int .i64 tt, .int .i64 (-25567)] 162)).drew.ne_own (w := (W5.alloc (.cells #[.int .i64 (10 * ((k : Int) + 1)), .int .i64 tt, .int .i64 (-25567)] 162)).drew) (HOL.out.alloc (.cells #[.int .i64 (10 * ((k : Int) + 1)), .int .i64 tt, .int .i64 (-25567)] 162)) (by decide)); have x6 := hX6.cell 3; have y6 := hX6.frozen 3)
      all_goals
        have hX7 : Blk (w6.setCell ⟨w.heap.size + 1, 3, none⟩ (.slice A6 n6 c6)) (w.heap.size + 1) 118 #[.string xn, .string xc, .slice A4 n4 c4, .slice A6 n6 c6, .bool xj] := hX6.set_ 3 _
        have ho7 := own_away ho6 (g := w.heap.size + 1) (i := 3) (by omega) (.slice A6 n6 c6)
        have hoA := own_away ((show World.ownsRow (W5.alloc (.cells #[.int .i64 (10 * ((k : Int) + 1)), .int .i64 tt, .int .i64 (-25567)] 162)).drew _ _ _ _ _ _ from ho5.alloc (.cells #[.int .i64 (10 * ((k : Int) + 1)), .int .i64 tt, .int .i64 (-25567)] 162)).kept hg6 (own_otherblk (show World.ownsRow (W5.alloc (.cells #[.int .i64 (10 * ((k : Int) + 1)), .int .i64 tt, .int .i64 (-25567)] 162)).drew _ _ _ _ _ _ from HOL.out.alloc (.cells #[.int .i64 (10 * ((k : Int) + 1)), .int .i64 tt, .int .i64 (-25567)] 162)) (show World.ownsRow (W5.alloc (.cells #[.int .i64 (10 * ((k : Int) + 1)), .int .i64 tt, .int .i64 (-25567)] 162)).drew _ _ _ _ _ _ from ho5.alloc (.cells #[.int .i64 (10 * ((k : Int) + 1)), .int .i64 tt, .int .i64 (-25567)] 162)) (by decide))) (g := w.heap.size + 1) (i := 3) (by omega) (.slice A6 n6 c6)
        have hK7 := ((hK5.alloc (.cells #[.int .i64 (10 * ((k : Int) + 1)), .int .i64 tt, .int .i64 (-25567)] 162)).drew.grown hg6 ((hK5.alloc (.cells #[.int .i64 (10 * ((k : Int) + 1)), .int .i64 tt, .int .i64 (-25567)] 162)).drew.ne_own (w := (W5.alloc (.cells #[.int .i64 (10 * ((k : Int) + 1)), .int .i64 tt, .int .i64 (-25567)] 162)).drew) (HOL.out.alloc (.cells #[.int .i64 (10 * ((k : Int) + 1)), .int .i64 tt, .int .i64 (-25567)] 162)) (by decide))).far (p := ⟨w.heap.size + 1, 3, none⟩) (by show w.heap.size + 2 ≠ w.heap.size + 1; omega) (.slice A6 n6 c6)
        have hT7 := ((hT5.alloc (.cells #[.int .i64 (10 * ((k : Int) + 1)), .int .i64 tt, .int .i64 (-25567)] 162)).drew.grown hg6 ((hT5.alloc (.cells #[.int .i64 (10 * ((k : Int) + 1)), .int .i64 tt, .int .i64 (-25567)] 162)).drew.ne_own (w := (W5.alloc (.cells #[.int .i64 (10 * ((k : Int) + 1)), .int .i64 tt, .int .i64 (-25567)] 162)).drew) (HOL.out.alloc (.cells #[.int .i64 (10 * ((k : Int) + 1)), .int .i64 tt, .int .i64 (-25567)] 162)) (by decide))).far (p := ⟨w.heap.size + 1, 3, none⟩) (by show w.heap.size + 3 ≠ w.heap.size + 1; omega) (.slice A6 n6 c6)
        have hR7 := ((hR5.alloc (.cells #[.int .i64 (10 * ((k : Int) + 1)), .int .i64 tt, .int .i64 (-25567)] 162)).drew.grown hg6 ((hR5.alloc (.cells #[.int .i64 (10 * ((k : Int) + 1)), .int .i64 tt, .int .i64 (-25567)] 162)).drew.ne_own (w := (W5.alloc (.cells #[.int .i64 (10 * ((k : Int) + 1)), .int .i64 tt, .int .i64 (-25567)] 162)).drew) (HOL.out.alloc (.cells #[.int .i64 (10 * ((k : Int) + 1)), .int .i64 tt, .int .i64 (-25567)] 162)) (by decide))).far (p := ⟨w.heap.size + 1, 3, none⟩) (by show w.heap.size ≠ w.heap.size + 1; omega) (.slice A6 n6 c6)
        have hb7 : Below w.heap.size w (w6.setCell ⟨w.heap.size + 1, 3, none⟩ (.slice A6 n6 c6)) := (bel_own (hb5.alloc hb5.size (.cells #[.int .i64 (10 * ((k : Int) + 1)), .int .i64 tt, .int .i64 (-25567)] 162)).drew (hb5.alloc hb5.size (.cells #[.int .i64 (10 * ((k : Int) + 1)), .int .i64 tt, .int .i64 (-25567)] 162)).drew.size (own_base (show World.ownsRow (W5.alloc (.cells #[.int .i64 (10 * ((k : Int) + 1)), .int .i64 tt, .int .i64 (-25567)] 162)).drew _ _ _ _ _ _ from HOL.out.alloc (.cells #[.int .i64 (10 * ((k : Int) + 1)), .int .i64 tt, .int .i64 (-25567)] 162)) (by omega)) hg6).setCell (by simp) _
        generalize hgen : w6.setCell ⟨w.heap.size + 1, 3, none⟩ (.slice A6 n6 c6) = W7 at *
        clear hgen hg6 x6 y6 hX6 ho6 x3 y3 ft
        go_wp2_with fail
        go_roundw
        case rel => exact ⟨k + 1, A4, n4, c4, A6, n6, c6, by omega, by go_num, hX7, own_cast hoA HS1.out, own_cast ho7 HS2.out, hK7, hT7, hR7, hb7⟩
        case measure => simp [intOf]; omega
    · have hk14 : k = 14 := by omega
      replace ho1 := own_cast (l' := Sam.ech) ho1 (by rw [hk14]; rfl)
      replace ho2 := own_cast (l' := Sam.eli) ho2 (by rw [hk14]; rfl)
      have HO1 := Lib.hid ho1
      have HO2 := Lib.hid ho2
      have HR := Lib.hid hR
      have x0 := hX.cell 0
      have x1 := hX.cell 1
      have x2 := hX.cell 2
      have x3 := hX.cell 3
      have x4 := hX.cell 4
      have r0 := hR.cell 0
      have r1 := hR.cell 1
      have r2 := hR.cell 2
      have r3 := hR.cell 3
      have r4 := hR.cell 4
      have y0 := hR.frozen 0
      have y1 := hR.frozen 1
      have y2 := hR.frozen 2
      have y3 := hR.frozen 3
      have y4 := hR.frozen 4
      clear hk14 ho1 ho2 hX hK hT hR
      go_wp2_with fail
      have hB2 := ((((HR.out.set_ 0 (.string xn)).set_ 1 (.string xc)).set_ 2 (.slice A1 n1 c1)).set_ 3 (.slice A2 n2 c2)).set_ 4 (.bool xj)
      have p0 := hB2.cell 0
      have p1 := hB2.cell 1
      have p2 := hB2.cell 2
      have p3 := hB2.cell 3
      have p4 := hB2.cell 4
      simp only [Array.setIfInBounds] at p0 p1 p2 p3 p4
      obtain ⟨e1, hl1⟩ := own_lies (own_away (own_away (own_away (own_away (own_away HO1.out (g := w.heap.size) (i := 0) (by omega) (.string xn)) (g := w.heap.size) (i := 1) (by omega) (.string xc)) (g := w.heap.size) (i := 2) (by omega) (.slice A1 n1 c1)) (g := w.heap.size) (i := 3) (by omega) (.slice A2 n2 c2)) (g := w.heap.size) (i := 4) (by omega) (.bool xj))
      obtain ⟨e2, hl2⟩ := own_lies (own_away (own_away (own_away (own_away (own_away HO2.out (g := w.heap.size) (i := 0) (by omega) (.string xn)) (g := w.heap.size) (i := 1) (by omega) (.string xc)) (g := w.heap.size) (i := 2) (by omega) (.slice A1 n1 c1)) (g := w.heap.size) (i := 3) (by omega) (.slice A2 n2 c2)) (g := w.heap.size) (i := 4) (by omega) (.bool xj))
      refine bodyPost_ret (v := .agg #[.string xn, .string xc, .slice A1 n1 c1, .slice A2 n2 c2, .bool xj]) (by simp [results, Tryz.results71, go_sem, p0, p1, p2, p3, p4]) rfl ?_
      refine ⟨A1, c1, A2, c2, by rw [← e1, ← e2], ⟨hn, hc, ⟨hl1, fun y hy => Sam.ech_ok y hy⟩, ⟨hl2, fun y hy => Sam.eli_ok y hy⟩, trivial⟩, own_past (own_base HO1.out (by omega)) (by decide), own_past (own_base HO2.out (by omega)) (by decide), ?_⟩
      exact ((((hb.setCell (by simp) _).setCell (by simp) _).setCell (by simp) _).setCell (by simp) _).setCell (by simp) _
end Go.Proofs.YthfbpbbepogllaaGreat
