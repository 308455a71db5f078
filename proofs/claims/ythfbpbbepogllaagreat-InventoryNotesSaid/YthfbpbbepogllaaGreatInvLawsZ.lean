/- Texts of this claim, put together. -/
import Derived.Test.YthfbpbbepogllaaGreatJAZ
import Derived.Test.YthfbpbbepogllaaGreatJAJ
import Derived.Test.YthfbpbbepogllaaGreatJAI
/- The walks of the law's own 'few' and 'both'. -/
namespace Go.Proofs.YthfbpbbepogllaaGreat
set_option linter.unusedVariables false
set_option linter.unusedSimpArgs false
open Go.RowKit

/-- books that hold a group and notes -/
def bkS (gcs : Array Value) (v : Value) : Array Value := (gcs.toList ++ ([.slice none 0 0, .slice none 0 0, .slice none 0 0, .slice none 0 0, v, .string ⟨#[]⟩] : List Value)).toArray
structure BkSt (bcs gcs : Array Value) (v : Value) : Prop extends BkIs bcs gcs where
  st : bcs[25]? = some v
theorem bkS_is {gcs : Array Value} {v : Value} (h : gcs.size = 21) : BkSt (bkS gcs v) gcs v := by
  refine ⟨⟨?_, h, fun j hj => ?_⟩, ?_⟩
  · simp [bkS, h]
  · have : j < gcs.toList.length := by rw [Array.length_toList, h]; exact hj
    unfold bkS
    rw [List.getElem?_toArray, List.getElem?_append_left this, Array.getElem?_toList]
  · unfold bkS
    rw [List.getElem?_toArray, List.getElem?_append_right (by rw [Array.length_toList, h]; omega), Array.length_toList, h]
    rfl
theorem bkS_one {gcs : Array Value} {v : Value} (h : gcs.all (·.oneCell') = true) (hv : v.oneCell' = true) : (bkS gcs v).all (·.oneCell') = true := by
  rw [← Array.all_toList, List.all_eq_true] at h ⊢
  intro u hu
  unfold bkS at hu
  simp only [List.mem_append] at hu
  rcases hu with hu | hu
  · exact h u hu
  · simp only [List.mem_cons, List.not_mem_nil, or_false] at hu
    rcases hu with rfl | rfl | rfl | rfl | rfl | rfl
    all_goals first | rfl | exact hv
theorem bkS_built {gcs : Array Value} {cur : ByteArray} {y m p : Int} {cl : List Acc} {cA : Option Addr} {cc : Nat} {ro : RolesR} {el : List EntR} {eA : Option Addr} {ec : Nat} (HG : gcs = #[.string cur, .int .i64 y, .int .i64 m, .int .i64 p, .slice cA cl.length cc, .int .i64 ro.investment, .int .i64 ro.goodwill, .int .i64 ro.associates, .int .i64 ro.inventory, .int .i64 ro.reserve, .int .i64 ro.minority, .int .i64 ro.retained, .int .i64 ro.acquired, .int .i64 ro.owners, .int .i64 ro.disposal, .int .i64 ro.associateProfit, .int .i64 ro.dividends, .int .i64 ro.minorityProfit, .int .i64 ro.difference, .int .i64 ro.margin, .slice eA el.length ec]) (A : Option Addr) (n c : Nat) :
    (Tryz.prog).built 36 [(0, .agg gcs), (5, .slice A n c)] = some (bkS gcs (.slice A n c)) := by
  rw [HG]
  kernel_rfl
theorem gsz21 {gcs : Array Value} {cur : ByteArray} {y m p : Int} {cl : List Acc} {cA : Option Addr} {cc : Nat} {ro : RolesR} {el : List EntR} {eA : Option Addr} {ec : Nat} (HG : gcs = #[.string cur, .int .i64 y, .int .i64 m, .int .i64 p, .slice cA cl.length cc, .int .i64 ro.investment, .int .i64 ro.goodwill, .int .i64 ro.associates, .int .i64 ro.inventory, .int .i64 ro.reserve, .int .i64 ro.minority, .int .i64 ro.retained, .int .i64 ro.acquired, .int .i64 ro.owners, .int .i64 ro.disposal, .int .i64 ro.associateProfit, .int .i64 ro.dividends, .int .i64 ro.minorityProfit, .int .i64 ro.difference, .int .i64 ro.margin, .slice eA el.length ec]) : gcs.size = 21 := by rw [HG]; rfl
theorem bk_size : (Tryz.prog.info? 36).map (·.size) = some 27 := by kernel_rfl
def conZ (ms : List Int) (i : Nat) : ConR := ⟨i, ms.getD i 0, ⟨[], none, 0⟩⟩
/-- contributions of the entities 0, 1, .. with methods -/
def conM (ms : List Int) : List ConR := (List.range ms.length).map (conZ ms)
theorem conM_len (ms : List Int) : (conM ms).length = ms.length := by simp [conM]
theorem conM_take (ms : List Int) (k : Nat) (hk : k < ms.length) : (conM ms).take (k + 1) = (conM ms).take k ++ [⟨k, ms[k], ⟨[], none, 0⟩⟩] := by
  rw [List.take_succ_eq_append_getElem (by rw [conM_len]; exact hk)]
  have : (conM ms)[k]'(by rw [conM_len]; exact hk) = ⟨k, ms[k], ⟨[], none, 0⟩⟩ := by
    simp [conM, conZ, List.getD_eq_getElem?_getD, List.getElem?_eq_getElem hk]
  rw [this]
theorem conM_its (ms : List Int) : ∀ x ∈ conM ms, x.items = ⟨[], none, 0⟩ := by
  intro x hx
  unfold conM at hx
  obtain ⟨i, _, rfl⟩ := List.mem_map.1 hx
  rfl
theorem icon_info : (Tryz.prog.info? 93).map (fun i => (i.zero, i.size, i.bytes)) = some (some (.agg zeroCon), 13, 200) := by kernel_rfl
theorem ircon_info : (Tryz.prog.info? 99).map (fun i => (i.zero, i.size, i.bytes)) = some (some (.agg zeroCon), 13, 200) := by kernel_rfl
def IBoth (ms : List Int) (w : World) (e : Ending) (w' : World) : Prop :=
  ∃ v u : Value, e = .returned (.tuple #[v, u]) ∧ w'.ownsRow w.heap.size 93 13 v ms.length (cellsOf ConR.cells (conM ms)) ∧ w'.ownsRow w.heap.size 99 13 u ms.length (cellsOf ConR.cells (conM ms)) ∧ Below w.heap.size w w'
theorem icon_in {w : World} {base : Nat} {T : TypeId} {v : Value} {ms : List Int} (hv : w.ownsRow base T 13 v ms.length (cellsOf ConR.cells (conM ms))) (hl : ms.length ≤ 1000) : ∃ A c, v = .slice A (conM ms).length c ∧ CIn w (conM ms) A := by
  obtain ⟨A, c, e, hr⟩ := Rd.of_own (n := (conM ms).length) (by rw [conM_len]; exact hv)
  refine ⟨A, c, e, hr, fun x hx => ?_, fun x hx => ?_, by rw [conM_len]; exact hl⟩
  · rw [conM_its ms x hx]; exact Rd.none_
  · rw [conM_its ms x hx]; exact Nat.zero_le _
def icellM (z : Int) : List Value := [.int .i64 z]
theorem int_atM {w : World} {B : Nat} {A : Option Addr} {l : List Int} (h : Rd w B 1 A l.length (cellsOf icellM l)) {k : Nat} (hk : k < l.length) : ∃ b o, A = some ⟨b, o, none⟩ ∧ b < B ∧ w.cell? ⟨b, o + k, none⟩ = some (.int .i64 l[k]) := by
  obtain ⟨b, o, e, hb, hc⟩ := rd_at (f := icellM) (sz := 1) (fun _ => rfl) h hk
  have := hc 0 _ rfl
  rw [Nat.mul_one, Nat.add_zero] at this
  exact ⟨b, o, e, hb, this⟩
set_option maxRecDepth 100000 in
set_option maxHeartbeats 8000000 in
theorem iboth_any (ms : List Int) (A : Option Addr) (c : Nat) (w : World) (hr : Rd w w.heap.size 1 A ms.length (cellsOf icellM ms)) (hn : ms.length ≤ 1000) :
    Calls Tryz.prog 12 #[.slice A ms.length c] w (IBoth ms w) := by
  have hb := Below.refl w.heap.size w
  have HO := Lib.hid hr
  obtain ⟨i0, hi, hz0, hz1, hz2⟩ := info_parts icon_info
  obtain ⟨j0, hj, hy0, hy1, hy2⟩ := info_parts ircon_info
  clear hr
  have HLN := Lib.hid (conM_len ms)
  have HTK := Lib.hid (conM_take ms)
  unfold IBoth
  generalize conM ms = l at *
  go_enter Tryz.func12, Tryz.ntmps12
  go_wp2_with fail
  go_loopw [4, 5, 10] (fun v u t wr => ∃ k : Nat, k ≤ ms.length ∧ t = .int .i64 k ∧ wr.ownsRow w.heap.size 93 13 v (l.take k).length (cellsOf ConR.cells (l.take k)) ∧ wr.ownsRow w.heap.size 99 13 u (l.take k).length (cellsOf ConR.cells (l.take k)) ∧ Below w.heap.size w wr) (fun _ _ t _ => ms.length - (intOf t).toNat)
  case atStart => exact ⟨0, by omega, rfl, World.ownsRow_nil _ _ _ _, World.ownsRow_nil _ _ _ _, hb⟩
  case round =>
    clear hb
    obtain ⟨k, hk, rfl, ho, ho5, hb⟩ := hrel
    have hz := hb.size
    by_cases hlt : k < ms.length
    · obtain ⟨b, o, hA, hbo, f0⟩ := int_atM (Rd.now HO.out hb) hlt
      subst hA
      have HT : Hid (l.take (k + 1) = l.take k ++ [⟨k, ms[k], ⟨[], none, 0⟩⟩]) := Lib.hid (HTK.out k hlt)
      have HLK : Hid ((l.take (k + 1)).length = k + 1) := Lib.hid (by rw [List.length_take, HLN.out]; omega)
      have HMIN : Hid (min k l.length = k) := Lib.hid (by have := HLN.out; omega)
      have hln : (l.take k).length ≤ 1000 := by have := HLN.out; rw [List.length_take]; omega
      generalize ms[k] = x at *
      have HOV := Lib.hid ho
      have HOU := Lib.hid ho5
      clear ho ho5
      have hb3 : Below w.heap.size w (wr.alloc (.cells (conCs k x (.slice none 0 0)) 93)) := hb.alloc hz _
      go_wp2_with (at_builtin; refine wpList_append_rec ConR.cells 13 ConR.len ConR.one rfl (.tmp 15) (.tmp 19) 42 rfl w.heap.size 93 i0 (.agg zeroCon) 200 Tryz.underlying42 hi hz0 hz1 hz2 rfl (by decide) _ (l.take k) rfl (HOV.out.alloc (.cells (conCs k x (.slice none 0 0)) 93)) wr.heap.size 1 ⟨k, x, ⟨[], none, 0⟩⟩ (conCs k x (.slice none 0 0)) rfl (Blk.new wr _ _) rfl (by simp only [maxLen]; omega) (by omega) (by simp; omega) ?_)
      intro v4 w4 ho4 hg4
      have hb4 := bel_own hb3 (by simp; omega) (HOV.out.alloc _) hg4
      have ho5 := own_apart (HOU.out.alloc _) (HOV.out.alloc _) (by decide) hg4
      have HO4 := Lib.hid ho4
      have HO5 := Lib.hid ho5
      have hz4 := hb4.size
      clear hg4 hb3 ho4 ho5
      go_wp2_with (at_builtin; refine wpList_append_rec ConR.cells 13 ConR.len ConR.one rfl (.tmp 21) (.tmp 25) 43 rfl w.heap.size 99 j0 (.agg zeroCon) 200 Tryz.underlying43 hj hy0 hy1 hy2 rfl (by decide) _ (l.take k) rfl (HO5.out.alloc _) w4.heap.size 1 ⟨k, x, ⟨[], none, 0⟩⟩ (conCs k x (.slice none 0 0)) rfl (Blk.new w4 _ _) rfl (by simp only [maxLen]; omega) (by omega) (by simp; omega) ?_)
      intro v6 w6 ho6 hg6
      have hb6 := bel_own (hb4.alloc hz4 _) (by simp; omega) (HO5.out.alloc _) hg6
      have ho7 := own_apart (HO4.out.alloc _) (HO5.out.alloc _) (by decide) hg6
      have HO6 := Lib.hid ho6
      have HO7 := Lib.hid ho7
      clear hg6 ho6 ho7
      go_wp2_with fail
      go_roundw
      case rel => exact ⟨k + 1, by omega, by go_num, by rw [HLK.out, HT.out]; have h := HO7.out; rw [HMIN.out] at h; exact h, by rw [HLK.out, HT.out]; have h := HO6.out; rw [HMIN.out] at h; exact h, hb6⟩
      case measure => simp [intOf]; omega
    · have HE : Hid (l.take k = l) := Lib.hid (List.take_of_length_le (by have := HLN.out; omega))
      rw [HE.out, HLN.out] at ho ho5
      go_wp2_with fail
      go_ret2
      exact ⟨_, _, rfl, ho, ho5, hb⟩
set_option maxRecDepth 100000 in
set_option maxHeartbeats 8000000 in
theorem ifew_any (gcs bcs : Array Value) (cur : ByteArray) (y m p : Int) (cl : List Acc) (cA : Option Addr) (cc : Nat) (ro : RolesR) (el : List EntR) (eA : Option Addr) (ec : Nat) (w : World) (sA mA : Option Addr) (sn sc mn mc : Nat)
    (HG : Hid (gcs = #[.string cur, .int .i64 y, .int .i64 m, .int .i64 p, .slice cA cl.length cc, .int .i64 ro.investment, .int .i64 ro.goodwill, .int .i64 ro.associates, .int .i64 ro.inventory, .int .i64 ro.reserve, .int .i64 ro.minority, .int .i64 ro.retained, .int .i64 ro.acquired, .int .i64 ro.owners, .int .i64 ro.disposal, .int .i64 ro.associateProfit, .int .i64 ro.dividends, .int .i64 ro.minorityProfit, .int .i64 ro.difference, .int .i64 ro.margin, .slice eA el.length ec])) (hBK : BkSt bcs gcs (.slice sA sn sc)) (h : GIn w cl cA el eA) (hc : cur.size ≤ maxLen) (hcl : cl.length ≤ maxLen) (hel : el.length ≤ maxLen) (hs : sn ≤ maxLen) (hm : mn ≤ maxLen) :
    Calls Tryz.prog 11 #[.agg bcs, .slice mA mn mc] w (MayPost' (FewOk cur cl el ∧ sn ≤ 210 ∧ mn ≤ 14) w) := by
  have hg21 : (Tryz.prog.info? 29).map (·.size) = some 21 := grp_size
  have HBK := Lib.hid hBK
  have K0 := Lib.hid (fun W h => HG.out.symm ▸ few_any cur y m p cl cA cc ro el eA ec W h hc hcl hel)
  have H := Lib.hid h
  clear h hBK
  have hb : Below w.heap.size w (w.alloc (.cells bcs 36)) := (Below.refl _ _).alloc (Nat.le_refl _) _
  have HB := Lib.hid (Blk.new w 36 bcs)
  unfold maxLen at hs hm hc hcl hel
  have k25 : (w.alloc (.cells bcs 36)).cell? ⟨w.heap.size, 25, none⟩ = some (.slice sA sn sc) := (HB.out.cell 25).trans HBK.out.st
  go_enter Tryz.func11, Tryz.ntmps11
  go_upto_region 1 with fail
  generalize w.alloc (.cells bcs 36) = W at *
  by_cases h1 : sn ≤ 210
  · by_cases h2 : mn ≤ 14
    · go_wp2_with (first
        | (refine wpList_load_arr rfl 29 (.tmp 5) rfl w.heap.size 0 rfl gcs (bk_range HB.out HBK.out.toBkIs) Tryz.underlying29 21 hg21 HBK.out.gsz ?_)
        | (go_at_call 25; refine (K0.out _ (H.out.step hb)).mono ?_; rintro en w5 ⟨bb, rfl, hb9, hok⟩; have hb5 := bel hb hb9; have k25 : w5.cell? ⟨w.heap.size, 25, none⟩ = some (.slice sA sn sc) := ((HB.out.step hb9).cell 25).trans HBK.out.st; clear hb9; have HOK := Lib.hid hok; clear hok; cases bb))
      all_goals go_ret
      · exact ⟨false, rfl, hb5, fun h => by cases h⟩
      · exact ⟨_, rfl, hb5, fun _ => ⟨by first | exact HOK.out rfl | exact HOK.out trivial, by omega, by omega⟩⟩
    · have h2' : 14 < mn := by omega
      go_wp2_with (first
        | (refine wpList_load_arr rfl 29 (.tmp 5) rfl w.heap.size 0 rfl gcs (bk_range HB.out HBK.out.toBkIs) Tryz.underlying29 21 hg21 HBK.out.gsz ?_)
        | (go_at_call 25; refine (K0.out _ (H.out.step hb)).mono ?_; rintro en w5 ⟨bb, rfl, hb9, -⟩; have hb5 := bel hb hb9; have k25 : w5.cell? ⟨w.heap.size, 25, none⟩ = some (.slice sA sn sc) := ((HB.out.step hb9).cell 25).trans HBK.out.st; clear hb9; cases bb))
      all_goals go_ret
      all_goals exact ⟨_, rfl, hb5, fun h => by first | (cases h; done) | (exfalso; simp at h; omega)⟩
  · have h1' : 210 < sn := by omega
    go_wp2_with (first
      | (refine wpList_load_arr rfl 29 (.tmp 5) rfl w.heap.size 0 rfl gcs (bk_range HB.out HBK.out.toBkIs) Tryz.underlying29 21 hg21 HBK.out.gsz ?_)
      | (go_at_call 25; refine (K0.out _ (H.out.step hb)).mono ?_; rintro en w5 ⟨bb, rfl, hb9, -⟩; have hb5 := bel hb hb9; have k25 : w5.cell? ⟨w.heap.size, 25, none⟩ = some (.slice sA sn sc) := ((HB.out.step hb9).cell 25).trans HBK.out.st; clear hb9; cases bb))
    all_goals go_ret
    all_goals exact ⟨_, rfl, hb5, fun h => by first | (cases h; done) | (exfalso; simp at h; omega)⟩
end Go.Proofs.YthfbpbbepogllaaGreat
