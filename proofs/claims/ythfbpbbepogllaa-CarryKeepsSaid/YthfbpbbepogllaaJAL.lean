/- Texts of this claim, put together. -/
import Derived.Test.YthfbpbbepogllaaJAK
import Derived.Test.YthfbpbbepogllaaJAJ
import Derived.Test.YthfbpbbepogllaaJAI
import Derived.Test.YthfbpbbepogllaaChecked
import Derived.Great.CaseRows
/- The walks of the law's own 'awake', of Few. -/
namespace Go.Proofs.Ythfbpbbepogllaa
set_option linter.unusedVariables false
set_option linter.unusedSimpArgs false
open Go.RowKit

def sCHF : ByteArray := ⟨#[67, 72, 70]⟩
def sEUR : ByteArray := ⟨#[69, 85, 82]⟩
def sUSD : ByteArray := ⟨#[85, 83, 68]⟩
def sEnt (s : ByteArray) : EntR := ⟨⟨#[]⟩, s, ⟨[], none, 0⟩, ⟨[], none, 0⟩, false⟩
def ro0 : RolesR := ⟨0, 0, 0, 0, 0, 0, 0, 0, 0, 0, 0, 0, 0, 0, 0⟩
theorem sEnt_ok (s : ByteArray) (h : s.size ≤ maxLen) (w : World) : (sEnt s).Ok w :=
  ⟨(by decide : (⟨#[]⟩ : ByteArray).size ≤ maxLen), h, ⟨⟨Rd.none_, by simp [sEnt], by simp [sEnt, maxLen]⟩, fun y hy => by simp [sEnt] at hy⟩, ⟨⟨Rd.none_, by simp [sEnt], by simp [sEnt, maxLen]⟩, fun y hy => by simp [sEnt] at hy⟩, trivial⟩
theorem sCur : curL sEUR.data.toList (curs [sEnt sUSD, sEnt sEUR, sEnt sCHF]) = [[67, 72, 70], [69, 85, 82], [85, 83, 68]] := by decide +kernel
/-- what Few asks for -/
structure FewOk (cur : ByteArray) (cl : List Acc) (el : List EntR) : Prop where
  ch : cl.length ≤ 300
  en : el.length ≤ 20
  cur : cur.size ≤ maxLen
  ents : ∀ j (h : j < el.length), el[j].chart.l.length ≤ 300000 ∧ el[j].links.l.length ≤ 300000
section
variable (cur : ByteArray) (y m p : Int) (cl : List Acc) (cA : Option Addr) (cc : Nat) (ro : RolesR) (el : List EntR) (eA : Option Addr) (ec : Nat) (w : World)
def MayPost' (p : Prop) (w : World) (e : Ending) (w' : World) : Prop := ∃ b : Bool, e = .returned (.bool b) ∧ Below w.heap.size w w' ∧ (b = true → p)
set_option maxRecDepth 100000 in
set_option maxHeartbeats 4000000 in
theorem few_any (h : GIn w cl cA el eA) (hc : cur.size ≤ maxLen) (hcl : cl.length ≤ maxLen) (hel : el.length ≤ maxLen) :
    Calls Try.prog 9 #[.agg #[.string cur, .int .i64 y, .int .i64 m, .int .i64 p, .slice cA cl.length cc, .int .i64 ro.investment, .int .i64 ro.goodwill, .int .i64 ro.associates, .int .i64 ro.inventory, .int .i64 ro.reserve, .int .i64 ro.minority, .int .i64 ro.retained, .int .i64 ro.acquired, .int .i64 ro.owners, .int .i64 ro.disposal, .int .i64 ro.associateProfit, .int .i64 ro.dividends, .int .i64 ro.minorityProfit, .int .i64 ro.difference, .int .i64 ro.margin, .slice eA el.length ec]] w (MayPost' (FewOk cur cl el) w) := by
  have H := Lib.hid h
  clear h
  have hb : Below w.heap.size w (w.alloc (.cells #[.string cur, .int .i64 y, .int .i64 m, .int .i64 p, .slice cA cl.length cc, .int .i64 ro.investment, .int .i64 ro.goodwill, .int .i64 ro.associates, .int .i64 ro.inventory, .int .i64 ro.reserve, .int .i64 ro.minority, .int .i64 ro.retained, .int .i64 ro.acquired, .int .i64 ro.owners, .int .i64 ro.disposal, .int .i64 ro.associateProfit, .int .i64 ro.dividends, .int .i64 ro.minorityProfit, .int .i64 ro.difference, .int .i64 ro.margin, .slice eA el.length ec] 29)) := (Below.refl _ _).alloc (Nat.le_refl _) _
  have HB := Lib.hid (Blk.new w 29 #[.string cur, .int .i64 y, .int .i64 m, .int .i64 p, .slice cA cl.length cc, .int .i64 ro.investment, .int .i64 ro.goodwill, .int .i64 ro.associates, .int .i64 ro.inventory, .int .i64 ro.reserve, .int .i64 ro.minority, .int .i64 ro.retained, .int .i64 ro.acquired, .int .i64 ro.owners, .int .i64 ro.disposal, .int .i64 ro.associateProfit, .int .i64 ro.dividends, .int .i64 ro.minorityProfit, .int .i64 ro.difference, .int .i64 ro.margin, .slice eA el.length ec])
  unfold maxLen at hc hcl hel
  go_enter Try.func9, Try.ntmps9
  go_wp2_with fail
  generalize hgen : w.alloc (.cells #[.string cur, .int .i64 y, .int .i64 m, .int .i64 p, .slice cA cl.length cc, .int .i64 ro.investment, .int .i64 ro.goodwill, .int .i64 ro.associates, .int .i64 ro.inventory, .int .i64 ro.reserve, .int .i64 ro.minority, .int .i64 ro.retained, .int .i64 ro.acquired, .int .i64 ro.owners, .int .i64 ro.disposal, .int .i64 ro.associateProfit, .int .i64 ro.dividends, .int .i64 ro.minorityProfit, .int .i64 ro.difference, .int .i64 ro.margin, .slice eA el.length ec] 29) = W at *
  clear hgen
  go_loopw [3] (fun t wr => ∃ k : Nat, k ≤ el.length ∧ t = .int .i64 k ∧ (∀ j (h : j < k) (h1 : j < el.length), (el[j]'h1).chart.l.length ≤ 40 ∧ (el[j]'h1).links.l.length ≤ 60) ∧ Blk wr w.heap.size 29 #[.string cur, .int .i64 y, .int .i64 m, .int .i64 p, .slice cA cl.length cc, .int .i64 ro.investment, .int .i64 ro.goodwill, .int .i64 ro.associates, .int .i64 ro.inventory, .int .i64 ro.reserve, .int .i64 ro.minority, .int .i64 ro.retained, .int .i64 ro.acquired, .int .i64 ro.owners, .int .i64 ro.disposal, .int .i64 ro.associateProfit, .int .i64 ro.dividends, .int .i64 ro.minorityProfit, .int .i64 ro.difference, .int .i64 ro.margin, .slice eA el.length ec] ∧ Below w.heap.size w wr) (fun t _ => el.length - (intOf t).toNat)
  case atStart => exact ⟨0, by omega, rfl, fun j h => by omega, HB.out, hb⟩
  case round =>
    clear hb HB
    obtain ⟨k, hk, rfl, hno, hB, hb⟩ := hrel
    have HB := Lib.hid hB
    have HN := Lib.hid hno
    have hz := hb.size
    have e0 : wr.cell? ⟨w.heap.size, 0, none⟩ = some (.string cur) := hB.cell 0
    have e2 : wr.cell? ⟨w.heap.size, 4, none⟩ = some (.slice cA cl.length cc) := hB.cell 4
    have e4 : wr.cell? ⟨w.heap.size, 20, none⟩ = some (.slice eA el.length ec) := hB.cell 20
    clear hB hno
    by_cases hlt : k < el.length
    · obtain ⟨b, o, hA, hbo, f0, f1, f2, f3, f4⟩ := EntR.at_ (Rd.now H.out.en hb) hlt
      subst hA
      have HST : Hid (el[k].chart.l.length ≤ 40 → el[k].links.l.length ≤ 60 → ∀ j (h : j < k + 1) (h1 : j < el.length), (el[j]'h1).chart.l.length ≤ 40 ∧ (el[j]'h1).links.l.length ≤ 60) := Lib.hid fun h1 h2 j hj hjl => by
        by_cases e : j = k
        · subst e; exact ⟨h1, h2⟩
        · exact HN.out j (by omega) hjl
      have HKO := Lib.hid (H.out.ok _ (List.getElem_mem hlt))
      generalize el[k] = x at *
      obtain ⟨xn, xc, ⟨l1, A1, c1⟩, ⟨l2, A2, c2⟩, xj⟩ := x
      dsimp only [Sl.val] at *
      have hk1 := HKO.out.2.2.1.1
      have hk2 := HKO.out.2.2.2.1.1
      have hn1 := Nat.le_trans hk1.2.1 hk1.2.2
      have hn2 := Nat.le_trans hk2.2.1 hk2.2.2
      dsimp only at hn1 hn2
      unfold maxLen at hn1 hn2
      clear hk1 hk2
      have hb1 : Below w.heap.size w (wr.alloc (.cells #[.string xn, .string xc, .slice A1 l1.length c1, .slice A2 l2.length c2, .bool xj] 88)) := hb.alloc hz _
      by_cases h1 : l1.length ≤ 40
      · by_cases h2 : l2.length ≤ 60
        · by_cases h3 : wrap64 ((xn.size : Int) + (xc.size : Int)) ≤ 60
          · have HR := Lib.hid (HST.out h1 h2)
            go_wp2_with fail
            go_roundw
            case rel => exact ⟨k + 1, by omega, by go_num, HR.out, HB.out.step ((Below.refl _ _).alloc (Nat.le_refl _) _), hb1⟩
            case measure => simp [intOf]; omega
          · go_wp2_with fail
            go_ret
            exact ⟨_, rfl, (by first | exact hb1 | exact hb), fun h => by first | (cases h; done) | (exfalso; simp at h; omega)⟩
        · go_wp2_with fail
          go_ret
          exact ⟨_, rfl, (by first | exact hb1 | exact hb), fun h => by first | (cases h; done) | (exfalso; simp at h; omega)⟩
      · go_wp2_with fail
        go_ret
        exact ⟨_, rfl, (by first | exact hb1 | exact hb), fun h => by first | (cases h; done) | (exfalso; simp at h; omega)⟩
    · have HE : Hid (∀ j (h : j < el.length), el[j].chart.l.length ≤ 40 ∧ el[j].links.l.length ≤ 60) := Lib.hid fun j h => HN.out j (by omega) h
      by_cases h1 : cl.length ≤ 60
      · by_cases h2 : el.length ≤ 14
        · by_cases h3 : cur.size ≤ 20
          · go_wp2_with fail
            go_ret
            exact ⟨_, rfl, hb, fun _ => ⟨by omega, by omega, by unfold maxLen; omega, fun j h => by have := HE.out j h; omega⟩⟩
          · go_wp2_with fail
            go_ret
            exact ⟨_, rfl, (by first | exact hb1 | exact hb), fun h => by first | (cases h; done) | (exfalso; simp at h; omega)⟩
        · go_wp2_with fail
          go_ret
          exact ⟨_, rfl, (by first | exact hb1 | exact hb), fun h => by first | (cases h; done) | (exfalso; simp at h; omega)⟩
      · go_wp2_with fail
        go_ret
        exact ⟨_, rfl, (by first | exact hb1 | exact hb), fun h => by first | (cases h; done) | (exfalso; simp at h; omega)⟩
end
end Go.Proofs.Ythfbpbbepogllaa
/- The walk of GroupFind. -/
namespace Go.Proofs.Ythfbpbbepogllaa
set_option linter.unusedVariables false
set_option linter.unusedSimpArgs false
open Go.RowKit

theorem grp_size : (Try.prog.info? 29).map (·.size) = some 21 := by kernel_rfl
theorem gin_of {w : World} {x : GrpR} (h : x.Ok w) : GIn w x.chart.l x.chart.A x.entities.l x.entities.A :=
  ⟨by rw [← acc_gen]; exact h.2.2.1.1.1, h.2.2.2.2.1.1, h.2.2.2.2.2, fun a ha => (h.2.2.1.2 a ha).1⟩
section
variable (cur : ByteArray) (y m p : Int) (cl : List Acc) (cA : Option Addr) (cc : Nat) (ro : RolesR) (el : List EntR) (eA : Option Addr) (ec : Nat) (w : World)
end
end Go.Proofs.Ythfbpbbepogllaa
/- The walks of roles and of its reference. -/
namespace Go.Proofs.Ythfbpbbepogllaa
set_option linter.unusedVariables false
set_option linter.unusedSimpArgs false
open Go.RowKit

def RolesPost (ro : RolesR) (w : World) (e : Ending) (w' : World) : Prop :=
  ∃ A c, e = .returned (.slice A (Gr.roles ro).length c) ∧ Rd w' w'.heap.size 5 A (Gr.roles ro).length (cellsOf RoleR.cells (Gr.roles ro)) ∧ Below w.heap.size w w'
set_option maxRecDepth 100000 in
set_option maxHeartbeats 4000000 in
theorem roles_any (ro : RolesR) (w : World) : Calls Try.prog 87 #[.agg #[.int .i64 ro.investment, .int .i64 ro.goodwill, .int .i64 ro.associates, .int .i64 ro.inventory, .int .i64 ro.reserve, .int .i64 ro.minority, .int .i64 ro.retained, .int .i64 ro.acquired, .int .i64 ro.owners, .int .i64 ro.disposal, .int .i64 ro.associateProfit, .int .i64 ro.dividends, .int .i64 ro.minorityProfit, .int .i64 ro.difference, .int .i64 ro.margin]] w (RolesPost ro w) := by
  have hb := Below.refl w.heap.size w
  go_enter Try.func87, Try.ntmps87
  go_wp2_with (first | (refine wpList_built rfl 5 rfl 164 _ rfl #[.string ⟨#[105, 110, 118, 101, 115, 116, 109, 101, 110, 116]⟩, .int .i64 ro.investment, .int .i64 1, .int .i64 3, .bool true] (by kernel_rfl) ?_) | (refine wpList_built rfl 8 rfl 164 _ rfl #[.string ⟨#[103, 111, 111, 100, 119, 105, 108, 108]⟩, .int .i64 ro.goodwill, .int .i64 1, .int .i64 3, .bool false] (by kernel_rfl) ?_) | (refine wpList_built rfl 11 rfl 164 _ rfl #[.string ⟨#[97, 115, 115, 111, 99, 105, 97, 116, 101, 115]⟩, .int .i64 ro.associates, .int .i64 1, .int .i64 3, .bool false] (by kernel_rfl) ?_) | (refine wpList_built rfl 14 rfl 164 _ rfl #[.string ⟨#[105, 110, 118, 101, 110, 116, 111, 114, 121]⟩, .int .i64 ro.inventory, .int .i64 1, .int .i64 1, .bool true] (by kernel_rfl) ?_) | (refine wpList_built rfl 17 rfl 164 _ rfl #[.string ⟨#[114, 101, 115, 101, 114, 118, 101]⟩, .int .i64 ro.reserve, .int .i64 3, .int .i64 3, .bool false] (by kernel_rfl) ?_) | (refine wpList_built rfl 20 rfl 164 _ rfl #[.string ⟨#[109, 105, 110, 111, 114, 105, 116, 121]⟩, .int .i64 ro.minority, .int .i64 3, .int .i64 3, .bool false] (by kernel_rfl) ?_) | (refine wpList_built rfl 23 rfl 164 _ rfl #[.string ⟨#[114, 101, 116, 97, 105, 110, 101, 100]⟩, .int .i64 ro.retained, .int .i64 3, .int .i64 3, .bool true] (by kernel_rfl) ?_) | (refine wpList_built rfl 26 rfl 164 _ rfl #[.string ⟨#[97, 99, 113, 117, 105, 114, 101, 100]⟩, .int .i64 ro.acquired, .int .i64 3, .int .i64 3, .bool false] (by kernel_rfl) ?_) | (refine wpList_built rfl 29 rfl 164 _ rfl #[.string ⟨#[111, 119, 110, 101, 114, 115]⟩, .int .i64 ro.owners, .int .i64 3, .int .i64 3, .bool false] (by kernel_rfl) ?_) | (refine wpList_built rfl 32 rfl 164 _ rfl #[.string ⟨#[100, 105, 115, 112, 111, 115, 97, 108]⟩, .int .i64 ro.disposal, .int .i64 4, .int .i64 2, .bool false] (by kernel_rfl) ?_) | (refine wpList_built rfl 35 rfl 164 _ rfl #[.string ⟨#[97, 115, 115, 111, 99, 105, 97, 116, 101, 80, 114, 111, 102, 105, 116]⟩, .int .i64 ro.associateProfit, .int .i64 4, .int .i64 2, .bool false] (by kernel_rfl) ?_) | (refine wpList_built rfl 38 rfl 164 _ rfl #[.string ⟨#[100, 105, 118, 105, 100, 101, 110, 100, 115]⟩, .int .i64 ro.dividends, .int .i64 4, .int .i64 2, .bool true] (by kernel_rfl) ?_) | (refine wpList_built rfl 41 rfl 164 _ rfl #[.string ⟨#[109, 105, 110, 111, 114, 105, 116, 121, 80, 114, 111, 102, 105, 116]⟩, .int .i64 ro.minorityProfit, .int .i64 5, .int .i64 2, .bool false] (by kernel_rfl) ?_) | (refine wpList_built rfl 44 rfl 164 _ rfl #[.string ⟨#[100, 105, 102, 102, 101, 114, 101, 110, 99, 101]⟩, .int .i64 ro.difference, .int .i64 5, .int .i64 2, .bool false] (by kernel_rfl) ?_) | (refine wpList_built rfl 47 rfl 164 _ rfl #[.string ⟨#[109, 97, 114, 103, 105, 110]⟩, .int .i64 ro.margin, .int .i64 5, .int .i64 2, .bool false] (by kernel_rfl) ?_) | (refine wpList_isSlice 161 _ _ rfl ?_; refine Great.wpList_buildRows rfl 161 164 _ 5 [.agg #[.string ⟨#[105, 110, 118, 101, 115, 116, 109, 101, 110, 116]⟩, .int .i64 ro.investment, .int .i64 1, .int .i64 3, .bool true], .agg #[.string ⟨#[103, 111, 111, 100, 119, 105, 108, 108]⟩, .int .i64 ro.goodwill, .int .i64 1, .int .i64 3, .bool false], .agg #[.string ⟨#[97, 115, 115, 111, 99, 105, 97, 116, 101, 115]⟩, .int .i64 ro.associates, .int .i64 1, .int .i64 3, .bool false], .agg #[.string ⟨#[105, 110, 118, 101, 110, 116, 111, 114, 121]⟩, .int .i64 ro.inventory, .int .i64 1, .int .i64 1, .bool true], .agg #[.string ⟨#[114, 101, 115, 101, 114, 118, 101]⟩, .int .i64 ro.reserve, .int .i64 3, .int .i64 3, .bool false], .agg #[.string ⟨#[109, 105, 110, 111, 114, 105, 116, 121]⟩, .int .i64 ro.minority, .int .i64 3, .int .i64 3, .bool false], .agg #[.string ⟨#[114, 101, 116, 97, 105, 110, 101, 100]⟩, .int .i64 ro.retained, .int .i64 3, .int .i64 3, .bool true], .agg #[.string ⟨#[97, 99, 113, 117, 105, 114, 101, 100]⟩, .int .i64 ro.acquired, .int .i64 3, .int .i64 3, .bool false], .agg #[.string ⟨#[111, 119, 110, 101, 114, 115]⟩, .int .i64 ro.owners, .int .i64 3, .int .i64 3, .bool false], .agg #[.string ⟨#[100, 105, 115, 112, 111, 115, 97, 108]⟩, .int .i64 ro.disposal, .int .i64 4, .int .i64 2, .bool false], .agg #[.string ⟨#[97, 115, 115, 111, 99, 105, 97, 116, 101, 80, 114, 111, 102, 105, 116]⟩, .int .i64 ro.associateProfit, .int .i64 4, .int .i64 2, .bool false], .agg #[.string ⟨#[100, 105, 118, 105, 100, 101, 110, 100, 115]⟩, .int .i64 ro.dividends, .int .i64 4, .int .i64 2, .bool true], .agg #[.string ⟨#[109, 105, 110, 111, 114, 105, 116, 121, 80, 114, 111, 102, 105, 116]⟩, .int .i64 ro.minorityProfit, .int .i64 5, .int .i64 2, .bool false], .agg #[.string ⟨#[100, 105, 102, 102, 101, 114, 101, 110, 99, 101]⟩, .int .i64 ro.difference, .int .i64 5, .int .i64 2, .bool false], .agg #[.string ⟨#[109, 97, 114, 103, 105, 110]⟩, .int .i64 ro.margin, .int .i64 5, .int .i64 2, .bool false]] rfl (fun i => 5 + 3 * i) (w.heap.size + 1) (by first | rfl | simp) _ rfl Try.underlying161 (by kernel_rfl) (by kernel_rfl) (by decide) (Nat.zero_lt_succ _) (by show 15 * 5 ≤ 2 ^ 24; decide) (by rfl) (by intro v hv; simp only [List.mem_cons, List.not_mem_nil, or_false] at hv; rcases hv with rfl | rfl | rfl | rfl | rfl | rfl | rfl | rfl | rfl | rfl | rfl | rfl | rfl | rfl | rfl; all_goals rfl) (fun i hi => match i, hi with | 0, _ => rfl | 1, _ => rfl | 2, _ => rfl | 3, _ => rfl | 4, _ => rfl | 5, _ => rfl | 6, _ => rfl | 7, _ => rfl | 8, _ => rfl | 9, _ => rfl | 10, _ => rfl | 11, _ => rfl | 12, _ => rfl | 13, _ => rfl | 14, _ => rfl) ?_; generalize hrc : (List.flatMap (fun v : Value => v.cells.toList) ([.agg #[.string ⟨#[105, 110, 118, 101, 115, 116, 109, 101, 110, 116]⟩, .int .i64 ro.investment, .int .i64 1, .int .i64 3, .bool true], .agg #[.string ⟨#[103, 111, 111, 100, 119, 105, 108, 108]⟩, .int .i64 ro.goodwill, .int .i64 1, .int .i64 3, .bool false], .agg #[.string ⟨#[97, 115, 115, 111, 99, 105, 97, 116, 101, 115]⟩, .int .i64 ro.associates, .int .i64 1, .int .i64 3, .bool false], .agg #[.string ⟨#[105, 110, 118, 101, 110, 116, 111, 114, 121]⟩, .int .i64 ro.inventory, .int .i64 1, .int .i64 1, .bool true], .agg #[.string ⟨#[114, 101, 115, 101, 114, 118, 101]⟩, .int .i64 ro.reserve, .int .i64 3, .int .i64 3, .bool false], .agg #[.string ⟨#[109, 105, 110, 111, 114, 105, 116, 121]⟩, .int .i64 ro.minority, .int .i64 3, .int .i64 3, .bool false], .agg #[.string ⟨#[114, 101, 116, 97, 105, 110, 101, 100]⟩, .int .i64 ro.retained, .int .i64 3, .int .i64 3, .bool true], .agg #[.string ⟨#[97, 99, 113, 117, 105, 114, 101, 100]⟩, .int .i64 ro.acquired, .int .i64 3, .int .i64 3, .bool false], .agg #[.string ⟨#[111, 119, 110, 101, 114, 115]⟩, .int .i64 ro.owners, .int .i64 3, .int .i64 3, .bool false], .agg #[.string ⟨#[100, 105, 115, 112, 111, 115, 97, 108]⟩, .int .i64 ro.disposal, .int .i64 4, .int .i64 2, .bool false], .agg #[.string ⟨#[97, 115, 115, 111, 99, 105, 97, 116, 101, 80, 114, 111, 102, 105, 116]⟩, .int .i64 ro.associateProfit, .int .i64 4, .int .i64 2, .bool false], .agg #[.string ⟨#[100, 105, 118, 105, 100, 101, 110, 100, 115]⟩, .int .i64 ro.dividends, .int .i64 4, .int .i64 2, .bool true], .agg #[.string ⟨#[109, 105, 110, 111, 114, 105, 116, 121, 80, 114, 111, 102, 105, 116]⟩, .int .i64 ro.minorityProfit, .int .i64 5, .int .i64 2, .bool false], .agg #[.string ⟨#[100, 105, 102, 102, 101, 114, 101, 110, 99, 101]⟩, .int .i64 ro.difference, .int .i64 5, .int .i64 2, .bool false], .agg #[.string ⟨#[109, 97, 114, 103, 105, 110]⟩, .int .i64 ro.margin, .int .i64 5, .int .i64 2, .bool false]] : List Value)).toArray = rc; have HRC : Hid (rc = (cellsOf RoleR.cells (Gr.roles ro)).toArray) := Lib.hid (hrc.symm.trans (by kernel_rfl)); clear hrc))
  go_ret
  have hB := Blk.new (w.alloc (.cells #[.int .i64 ro.investment, .int .i64 ro.goodwill, .int .i64 ro.associates, .int .i64 ro.inventory, .int .i64 ro.reserve, .int .i64 ro.minority, .int .i64 ro.retained, .int .i64 ro.acquired, .int .i64 ro.owners, .int .i64 ro.disposal, .int .i64 ro.associateProfit, .int .i64 ro.dividends, .int .i64 ro.minorityProfit, .int .i64 ro.difference, .int .i64 ro.margin] 26)) 164 rc
  have e : (w.alloc (.cells #[.int .i64 ro.investment, .int .i64 ro.goodwill, .int .i64 ro.associates, .int .i64 ro.inventory, .int .i64 ro.reserve, .int .i64 ro.minority, .int .i64 ro.retained, .int .i64 ro.acquired, .int .i64 ro.owners, .int .i64 ro.disposal, .int .i64 ro.associateProfit, .int .i64 ro.dividends, .int .i64 ro.minorityProfit, .int .i64 ro.difference, .int .i64 ro.margin] 26)).heap.size = w.heap.size + 1 := by simp
  rw [e] at hB
  exact ⟨some ⟨w.heap.size + 1, 0, none⟩, 15, rfl, Rd.of_blk hB (by rw [HRC.out]) (cellsOf_len RoleR.len _), (by repeat (first | exact hb | refine Below.alloc ?_ (by have hbs := hb.size; first | omega | (simp; done) | (simp; omega)) _ | refine Below.drew ?_ | refine below_drewN_ ?_ _ | refine Below.setCell ?_ (by simp) _))⟩
end Go.Proofs.Ythfbpbbepogllaa
