/- Texts of this claim, put together. -/
import Derived.Test.YthfbpbbepogllaaJBB
import Derived.Test.YthfbpbbepogllaaJAL
import Derived.Test.YthfbpbbepogllaaJAJ
/- The walks of the law's own 'few' and 'both'. -/
namespace Go.Proofs.Ythfbpbbepogllaa
set_option linter.unusedVariables false
set_option linter.unusedSimpArgs false
open Go.RowKit

/-- books that hold a group and notes -/
def bkS (gcs : Array Value) (v : Value) : Array Value := (gcs.toList ++ ([.slice none 0 0, .slice none 0 0, .slice none 0 0, .slice none 0 0, v, .string ⟨#[]⟩] : List Value)).toArray
structure BkSt (bcs gcs : Array Value) (v : Value) : Prop extends BkIs bcs gcs where
  st : bcs[25]? = some v
theorem bkS_is {gcs : Array Value} {v : Value} (h : gcs.size = 21) : BkSt (bkS gcs v) gcs v := by
  refine ⟨⟨?_, h, fun j hj => ?_⟩, ?_⟩
  · simp [bkS, h]
  · have : j < gcs.toList.length := by rw [Array.length_toList, h]; exact hj
    unfold bkS
    rw [List.getElem?_toArray, List.getElem?_append_left this, Array.getElem?_toList]
  · unfold bkS
    rw [List.getElem?_toArray, List.getElem?_append_right (by rw [Array.length_toList, h]; omega), Array.length_toList, h]
    rfl
theorem bkS_one {gcs : Array Value} {v : Value} (h : gcs.all (·.oneCell') = true) (hv : v.oneCell' = true) : (bkS gcs v).all (·.oneCell') = true := by
  rw [← Array.all_toList, List.all_eq_true] at h ⊢
  intro u hu
  unfold bkS at hu
  simp only [List.mem_append] at hu
  rcases hu with hu | hu
  · exact h u hu
  · simp only [List.mem_cons, List.not_mem_nil, or_false] at hu
    rcases hu with rfl | rfl | rfl | rfl | rfl | rfl
    all_goals first | rfl | exact hv
theorem bkS_built {gcs : Array Value} {cur : ByteArray} {y m p : Int} {cl : List Acc} {cA : Option Addr} {cc : Nat} {ro : RolesR} {el : List EntR} {eA : Option Addr} {ec : Nat} (HG : gcs = #[.string cur, .int .i64 y, .int .i64 m, .int .i64 p, .slice cA cl.length cc, .int .i64 ro.investment, .int .i64 ro.goodwill, .int .i64 ro.associates, .int .i64 ro.inventory, .int .i64 ro.reserve, .int .i64 ro.minority, .int .i64 ro.retained, .int .i64 ro.acquired, .int .i64 ro.owners, .int .i64 ro.disposal, .int .i64 ro.associateProfit, .int .i64 ro.dividends, .int .i64 ro.minorityProfit, .int .i64 ro.difference, .int .i64 ro.margin, .slice eA el.length ec]) (A : Option Addr) (n c : Nat) :
    (Try.prog).built 40 [(0, .agg gcs), (5, .slice A n c)] = some (bkS gcs (.slice A n c)) := by
  rw [HG]
  kernel_rfl
theorem gsz21 {gcs : Array Value} {cur : ByteArray} {y m p : Int} {cl : List Acc} {cA : Option Addr} {cc : Nat} {ro : RolesR} {el : List EntR} {eA : Option Addr} {ec : Nat} (HG : gcs = #[.string cur, .int .i64 y, .int .i64 m, .int .i64 p, .slice cA cl.length cc, .int .i64 ro.investment, .int .i64 ro.goodwill, .int .i64 ro.associates, .int .i64 ro.inventory, .int .i64 ro.reserve, .int .i64 ro.minority, .int .i64 ro.retained, .int .i64 ro.acquired, .int .i64 ro.owners, .int .i64 ro.disposal, .int .i64 ro.associateProfit, .int .i64 ro.dividends, .int .i64 ro.minorityProfit, .int .i64 ro.difference, .int .i64 ro.margin, .slice eA el.length ec]) : gcs.size = 21 := by rw [HG]; rfl
theorem bk_size : (Try.prog.info? 40).map (·.size) = some 27 := by kernel_rfl
def conZ (ms : List Int) (i : Nat) : ConR := ⟨i, ms.getD i 0, ⟨[], none, 0⟩⟩
/-- contributions of the entities 0, 1, .. with methods -/
def conM (ms : List Int) : List ConR := (List.range ms.length).map (conZ ms)
theorem conM_len (ms : List Int) : (conM ms).length = ms.length := by simp [conM]
theorem conM_take (ms : List Int) (k : Nat) (hk : k < ms.length) : (conM ms).take (k + 1) = (conM ms).take k ++ [⟨k, ms[k], ⟨[], none, 0⟩⟩] := by
  rw [List.take_succ_eq_append_getElem (by rw [conM_len]; exact hk)]
  have : (conM ms)[k]'(by rw [conM_len]; exact hk) = ⟨k, ms[k], ⟨[], none, 0⟩⟩ := by
    simp [conM, conZ, List.getD_eq_getElem?_getD, List.getElem?_eq_getElem hk]
  rw [this]
theorem conM_its (ms : List Int) : ∀ x ∈ conM ms, x.items = ⟨[], none, 0⟩ := by
  intro x hx
  unfold conM at hx
  obtain ⟨i, _, rfl⟩ := List.mem_map.1 hx
  rfl
theorem icon_info : (Try.prog.info? 69).map (fun i => (i.zero, i.size, i.bytes)) = some (some (.agg zeroCon), 13, 200) := by kernel_rfl
theorem icon_in {w : World} {base : Nat} {T : TypeId} {v : Value} {ms : List Int} (hv : w.ownsRow base T 13 v ms.length (cellsOf ConR.cells (conM ms))) (hl : ms.length ≤ 1000) : ∃ A c, v = .slice A (conM ms).length c ∧ CIn w (conM ms) A := by
  obtain ⟨A, c, e, hr⟩ := Rd.of_own (n := (conM ms).length) (by rw [conM_len]; exact hv)
  refine ⟨A, c, e, hr, fun x hx => ?_, fun x hx => ?_, by rw [conM_len]; exact hl⟩
  · rw [conM_its ms x hx]; exact Rd.none_
  · rw [conM_its ms x hx]; exact Nat.zero_le _
def icellM (z : Int) : List Value := [.int .i64 z]
theorem int_atM {w : World} {B : Nat} {A : Option Addr} {l : List Int} (h : Rd w B 1 A l.length (cellsOf icellM l)) {k : Nat} (hk : k < l.length) : ∃ b o, A = some ⟨b, o, none⟩ ∧ b < B ∧ w.cell? ⟨b, o + k, none⟩ = some (.int .i64 l[k]) := by
  obtain ⟨b, o, e, hb, hc⟩ := rd_at (f := icellM) (sz := 1) (fun _ => rfl) h hk
  have := hc 0 _ rfl
  rw [Nat.mul_one, Nat.add_zero] at this
  exact ⟨b, o, e, hb, this⟩
set_option maxRecDepth 100000 in
set_option maxHeartbeats 8000000 in
theorem ifew_any (gcs bcs : Array Value) (cur : ByteArray) (y m p : Int) (cl : List Acc) (cA : Option Addr) (cc : Nat) (ro : RolesR) (el : List EntR) (eA : Option Addr) (ec : Nat) (w : World) (sA mA : Option Addr) (sn sc mn mc : Nat)
    (HG : Hid (gcs = #[.string cur, .int .i64 y, .int .i64 m, .int .i64 p, .slice cA cl.length cc, .int .i64 ro.investment, .int .i64 ro.goodwill, .int .i64 ro.associates, .int .i64 ro.inventory, .int .i64 ro.reserve, .int .i64 ro.minority, .int .i64 ro.retained, .int .i64 ro.acquired, .int .i64 ro.owners, .int .i64 ro.disposal, .int .i64 ro.associateProfit, .int .i64 ro.dividends, .int .i64 ro.minorityProfit, .int .i64 ro.difference, .int .i64 ro.margin, .slice eA el.length ec])) (hBK : BkSt bcs gcs (.slice sA sn sc)) (h : GIn w cl cA el eA) (hc : cur.size ≤ maxLen) (hcl : cl.length ≤ maxLen) (hel : el.length ≤ maxLen) (hs : sn ≤ maxLen) (hm : mn ≤ maxLen) :
    Calls Try.prog 6 #[.agg bcs, .slice mA mn mc] w (MayPost' (FewOk cur cl el ∧ sn ≤ 210 ∧ mn ≤ 14) w) := by
  have hg21 : (Try.prog.info? 29).map (·.size) = some 21 := grp_size
  have HBK := Lib.hid hBK
  have K0 := Lib.hid (fun W h => HG.out.symm ▸ few_any cur y m p cl cA cc ro el eA ec W h hc hcl hel)
  have H := Lib.hid h
  clear h hBK
  have hb : Below w.heap.size w (w.alloc (.cells bcs 40)) := (Below.refl _ _).alloc (Nat.le_refl _) _
  have HB := Lib.hid (Blk.new w 40 bcs)
  unfold maxLen at hs hm hc hcl hel
  have k25 : (w.alloc (.cells bcs 40)).cell? ⟨w.heap.size, 25, none⟩ = some (.slice sA sn sc) := (HB.out.cell 25).trans HBK.out.st
  go_enter Try.func6, Try.ntmps6
  go_upto_region 1 with fail
  generalize w.alloc (.cells bcs 40) = W at *
  by_cases h1 : sn ≤ 210
  · by_cases h2 : mn ≤ 14
    · go_wp2_with (first
        | (refine wpList_load_arr rfl 29 (.tmp 5) rfl w.heap.size 0 rfl gcs (bk_range HB.out HBK.out.toBkIs) Try.underlying29 21 hg21 HBK.out.gsz ?_)
        | (go_at_call 9; refine (K0.out _ (H.out.step hb)).mono ?_; rintro en w5 ⟨bb, rfl, hb9, hok⟩; have hb5 := bel hb hb9; have k25 : w5.cell? ⟨w.heap.size, 25, none⟩ = some (.slice sA sn sc) := ((HB.out.step hb9).cell 25).trans HBK.out.st; clear hb9; have HOK := Lib.hid hok; clear hok; cases bb))
      all_goals go_ret
      · exact ⟨false, rfl, hb5, fun h => by cases h⟩
      · exact ⟨_, rfl, hb5, fun _ => ⟨by first | exact HOK.out rfl | exact HOK.out trivial, by omega, by omega⟩⟩
    · have h2' : 14 < mn := by omega
      go_wp2_with (first
        | (refine wpList_load_arr rfl 29 (.tmp 5) rfl w.heap.size 0 rfl gcs (bk_range HB.out HBK.out.toBkIs) Try.underlying29 21 hg21 HBK.out.gsz ?_)
        | (go_at_call 9; refine (K0.out _ (H.out.step hb)).mono ?_; rintro en w5 ⟨bb, rfl, hb9, -⟩; have hb5 := bel hb hb9; have k25 : w5.cell? ⟨w.heap.size, 25, none⟩ = some (.slice sA sn sc) := ((HB.out.step hb9).cell 25).trans HBK.out.st; clear hb9; cases bb))
      all_goals go_ret
      all_goals exact ⟨_, rfl, hb5, fun h => by first | (cases h; done) | (exfalso; simp at h; omega)⟩
  · have h1' : 210 < sn := by omega
    go_wp2_with (first
      | (refine wpList_load_arr rfl 29 (.tmp 5) rfl w.heap.size 0 rfl gcs (bk_range HB.out HBK.out.toBkIs) Try.underlying29 21 hg21 HBK.out.gsz ?_)
      | (go_at_call 9; refine (K0.out _ (H.out.step hb)).mono ?_; rintro en w5 ⟨bb, rfl, hb9, -⟩; have hb5 := bel hb hb9; have k25 : w5.cell? ⟨w.heap.size, 25, none⟩ = some (.slice sA sn sc) := ((HB.out.step hb9).cell 25).trans HBK.out.st; clear hb9; cases bb))
    all_goals go_ret
    all_goals exact ⟨_, rfl, hb5, fun h => by first | (cases h; done) | (exfalso; simp at h; omega)⟩
end Go.Proofs.Ythfbpbbepogllaa
