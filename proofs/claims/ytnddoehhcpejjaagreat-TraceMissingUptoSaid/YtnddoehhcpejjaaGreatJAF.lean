/- Texts of this claim, put together. -/
import Derived.Test.YtnddoehhcpejjaaGreatJAD
import Derived.Test.YtnddoehhcpejjaaGreatJAE
import Derived.Test.YtnddoehhcpejjaaGreatChecked
import Derived.Great.CaseRows
import Derived.Test.YtnddoehhcpejjaaGreatJAC
import Derived.Test.YtnddoehhcpejjaaGreatJAA
/- The walks of roles and of its reference. -/
namespace Go.Proofs.YtnddoehhcpejjaaGreat
set_option linter.unusedVariables false
set_option linter.unusedSimpArgs false
open Go.RowKit

def RolesPost (ro : RolesR) (w : World) (e : Ending) (w' : World) : Prop :=
  ∃ A c, e = .returned (.slice A (Gr.roles ro).length c) ∧ Rd w' w'.heap.size 5 A (Gr.roles ro).length (cellsOf RoleR.cells (Gr.roles ro)) ∧ Below w.heap.size w w'
set_option maxRecDepth 100000 in
set_option maxHeartbeats 4000000 in
theorem roles_any (ro : RolesR) (w : World) : Calls Tryz.prog 87 #[.agg #[.int .i64 ro.investment, .int .i64 ro.goodwill, .int .i64 ro.associates, .int .i64 ro.inventory, .int .i64 ro.reserve, .int .i64 ro.minority, .int .i64 ro.retained, .int .i64 ro.acquired, .int .i64 ro.owners, .int .i64 ro.disposal, .int .i64 ro.associateProfit, .int .i64 ro.dividends, .int .i64 ro.minorityProfit, .int .i64 ro.difference, .int .i64 ro.margin]] w (RolesPost ro w) := by
  have hb := Below.refl w.heap.size w
  go_enter Tryz.func87, Tryz.ntmps87
  go_wp2_with (first | (refine wpList_built rfl 5 rfl 144 _ rfl #[.string ⟨#[105, 110, 118, 101, 115, 116, 109, 101, 110, 116]⟩, .int .i64 ro.investment, .int .i64 1, .int .i64 3, .bool true] (by kernel_rfl) ?_) | (refine wpList_built rfl 8 rfl 144 _ rfl #[.string ⟨#[103, 111, 111, 100, 119, 105, 108, 108]⟩, .int .i64 ro.goodwill, .int .i64 1, .int .i64 3, .bool false] (by kernel_rfl) ?_) | (refine wpList_built rfl 11 rfl 144 _ rfl #[.string ⟨#[97, 115, 115, 111, 99, 105, 97, 116, 101, 115]⟩, .int .i64 ro.associates, .int .i64 1, .int .i64 3, .bool false] (by kernel_rfl) ?_) | (refine wpList_built rfl 14 rfl 144 _ rfl #[.string ⟨#[105, 110, 118, 101, 110, 116, 111, 114, 121]⟩, .int .i64 ro.inventory, .int .i64 1, .int .i64 1, .bool true] (by kernel_rfl) ?_) | (refine wpList_built rfl 17 rfl 144 _ rfl #[.string ⟨#[114, 101, 115, 101, 114, 118, 101]⟩, .int .i64 ro.reserve, .int .i64 3, .int .i64 3, .bool false] (by kernel_rfl) ?_) | (refine wpList_built rfl 20 rfl 144 _ rfl #[.string ⟨#[109, 105, 110, 111, 114, 105, 116, 121]⟩, .int .i64 ro.minority, .int .i64 3, .int .i64 3, .bool false] (by kernel_rfl) ?_) | (refine wpList_built rfl 23 rfl 144 _ rfl #[.string ⟨#[114, 101, 116, 97, 105, 110, 101, 100]⟩, .int .i64 ro.retained, .int .i64 3, .int .i64 3, .bool true] (by kernel_rfl) ?_) | (refine wpList_built rfl 26 rfl 144 _ rfl #[.string ⟨#[97, 99, 113, 117, 105, 114, 101, 100]⟩, .int .i64 ro.acquired, .int .i64 3, .int .i64 3, .bool false] (by kernel_rfl) ?_) | (refine wpList_built rfl 29 rfl 144 _ rfl #[.string ⟨#[111, 119, 110, 101, 114, 115]⟩, .int .i64 ro.owners, .int .i64 3, .int .i64 3, .bool false] (by kernel_rfl) ?_) | (refine wpList_built rfl 32 rfl 144 _ rfl #[.string ⟨#[100, 105, 115, 112, 111, 115, 97, 108]⟩, .int .i64 ro.disposal, .int .i64 4, .int .i64 2, .bool false] (by kernel_rfl) ?_) | (refine wpList_built rfl 35 rfl 144 _ rfl #[.string ⟨#[97, 115, 115, 111, 99, 105, 97, 116, 101, 80, 114, 111, 102, 105, 116]⟩, .int .i64 ro.associateProfit, .int .i64 4, .int .i64 2, .bool false] (by kernel_rfl) ?_) | (refine wpList_built rfl 38 rfl 144 _ rfl #[.string ⟨#[100, 105, 118, 105, 100, 101, 110, 100, 115]⟩, .int .i64 ro.dividends, .int .i64 4, .int .i64 2, .bool true] (by kernel_rfl) ?_) | (refine wpList_built rfl 41 rfl 144 _ rfl #[.string ⟨#[109, 105, 110, 111, 114, 105, 116, 121, 80, 114, 111, 102, 105, 116]⟩, .int .i64 ro.minorityProfit, .int .i64 5, .int .i64 2, .bool false] (by kernel_rfl) ?_) | (refine wpList_built rfl 44 rfl 144 _ rfl #[.string ⟨#[100, 105, 102, 102, 101, 114, 101, 110, 99, 101]⟩, .int .i64 ro.difference, .int .i64 5, .int .i64 2, .bool false] (by kernel_rfl) ?_) | (refine wpList_built rfl 47 rfl 144 _ rfl #[.string ⟨#[109, 97, 114, 103, 105, 110]⟩, .int .i64 ro.margin, .int .i64 5, .int .i64 2, .bool false] (by kernel_rfl) ?_) | (refine wpList_isSlice 141 _ _ rfl ?_; refine Great.wpList_buildRows rfl 141 144 _ 5 [.agg #[.string ⟨#[105, 110, 118, 101, 115, 116, 109, 101, 110, 116]⟩, .int .i64 ro.investment, .int .i64 1, .int .i64 3, .bool true], .agg #[.string ⟨#[103, 111, 111, 100, 119, 105, 108, 108]⟩, .int .i64 ro.goodwill, .int .i64 1, .int .i64 3, .bool false], .agg #[.string ⟨#[97, 115, 115, 111, 99, 105, 97, 116, 101, 115]⟩, .int .i64 ro.associates, .int .i64 1, .int .i64 3, .bool false], .agg #[.string ⟨#[105, 110, 118, 101, 110, 116, 111, 114, 121]⟩, .int .i64 ro.inventory, .int .i64 1, .int .i64 1, .bool true], .agg #[.string ⟨#[114, 101, 115, 101, 114, 118, 101]⟩, .int .i64 ro.reserve, .int .i64 3, .int .i64 3, .bool false], .agg #[.string ⟨#[109, 105, 110, 111, 114, 105, 116, 121]⟩, .int .i64 ro.minority, .int .i64 3, .int .i64 3, .bool false], .agg #[.string ⟨#[114, 101, 116, 97, 105, 110, 101, 100]⟩, .int .i64 ro.retained, .int .i64 3, .int .i64 3, .bool true], .agg #[.string ⟨#[97, 99, 113, 117, 105, 114, 101, 100]⟩, .int .i64 ro.acquired, .int .i64 3, .int .i64 3, .bool false], .agg #[.string ⟨#[111, 119, 110, 101, 114, 115]⟩, .int .i64 ro.owners, .int .i64 3, .int .i64 3, .bool false], .agg #[.string ⟨#[100, 105, 115, 112, 111, 115, 97, 108]⟩, .int .i64 ro.disposal, .int .i64 4, .int .i64 2, .bool false], .agg #[.string ⟨#[97, 115, 115, 111, 99, 105, 97, 116, 101, 80, 114, 111, 102, 105, 116]⟩, .int .i64 ro.associateProfit, .int .i64 4, .int .i64 2, .bool false], .agg #[.string ⟨#[100, 105, 118, 105, 100, 101, 110, 100, 115]⟩, .int .i64 ro.dividends, .int .i64 4, .int .i64 2, .bool true], .agg #[.string ⟨#[109, 105, 110, 111, 114, 105, 116, 121, 80, 114, 111, 102, 105, 116]⟩, .int .i64 ro.minorityProfit, .int .i64 5, .int .i64 2, .bool false], .agg #[.string ⟨#[100, 105, 102, 102, 101, 114, 101, 110, 99, 101]⟩, .int .i64 ro.difference, .int .i64 5, .int .i64 2, .bool false], .agg #[.string ⟨#[109, 97, 114, 103, 105, 110]⟩, .int .i64 ro.margin, .int .i64 5, .int .i64 2, .bool false]] rfl (fun i => 5 + 3 * i) (w.heap.size + 1) (by first | rfl | simp) _ rfl Tryz.underlying141 (by kernel_rfl) (by kernel_rfl) (by decide) (Nat.zero_lt_succ _) (by show 15 * 5 ≤ 2 ^ 24; decide) (by rfl) (by intro v hv; simp only [List.mem_cons, List.not_mem_nil, or_false] at hv; rcases hv with rfl | rfl | rfl | rfl | rfl | rfl | rfl | rfl | rfl | rfl | rfl | rfl | rfl | rfl | rfl; all_goals rfl) (fun i hi => match i, hi with | 0, _ => rfl | 1, _ => rfl | 2, _ => rfl | 3, _ => rfl | 4, _ => rfl | 5, _ => rfl | 6, _ => rfl | 7, _ => rfl | 8, _ => rfl | 9, _ => rfl | 10, _ => rfl | 11, _ => rfl | 12, _ => rfl | 13, _ => rfl | 14, _ => rfl) ?_; generalize hrc : (List.flatMap (fun v : Value => v.cells.toList) ([.agg #[.string ⟨#[105, 110, 118, 101, 115, 116, 109, 101, 110, 116]⟩, .int .i64 ro.investment, .int .i64 1, .int .i64 3, .bool true], .agg #[.string ⟨#[103, 111, 111, 100, 119, 105, 108, 108]⟩, .int .i64 ro.goodwill, .int .i64 1, .int .i64 3, .bool false], .agg #[.string ⟨#[97, 115, 115, 111, 99, 105, 97, 116, 101, 115]⟩, .int .i64 ro.associates, .int .i64 1, .int .i64 3, .bool false], .agg #[.string ⟨#[105, 110, 118, 101, 110, 116, 111, 114, 121]⟩, .int .i64 ro.inventory, .int .i64 1, .int .i64 1, .bool true], .agg #[.string ⟨#[114, 101, 115, 101, 114, 118, 101]⟩, .int .i64 ro.reserve, .int .i64 3, .int .i64 3, .bool false], .agg #[.string ⟨#[109, 105, 110, 111, 114, 105, 116, 121]⟩, .int .i64 ro.minority, .int .i64 3, .int .i64 3, .bool false], .agg #[.string ⟨#[114, 101, 116, 97, 105, 110, 101, 100]⟩, .int .i64 ro.retained, .int .i64 3, .int .i64 3, .bool true], .agg #[.string ⟨#[97, 99, 113, 117, 105, 114, 101, 100]⟩, .int .i64 ro.acquired, .int .i64 3, .int .i64 3, .bool false], .agg #[.string ⟨#[111, 119, 110, 101, 114, 115]⟩, .int .i64 ro.owners, .int .i64 3, .int .i64 3, .bool false], .agg #[.string ⟨#[100, 105, 115, 112, 111, 115, 97, 108]⟩, .int .i64 ro.disposal, .int .i64 4, .int .i64 2, .bool false], .agg #[.string ⟨#[97, 115, 115, 111, 99, 105, 97, 116, 101, 80, 114, 111, 102, 105, 116]⟩, .int .i64 ro.associateProfit, .int .i64 4, .int .i64 2, .bool false], .agg #[.string ⟨#[100, 105, 118, 105, 100, 101, 110, 100, 115]⟩, .int .i64 ro.dividends, .int .i64 4, .int .i64 2, .bool true], .agg #[.string ⟨#[109, 105, 110, 111, 114, 105, 116, 121, 80, 114, 111, 102, 105, 116]⟩, .int .i64 ro.minorityProfit, .int .i64 5, .int .i64 2, .bool false], .agg #[.string ⟨#[100, 105, 102, 102, 101, 114, 101, 110, 99, 101]⟩, .int .i64 ro.difference, .int .i64 5, .int .i64 2, .bool false], .agg #[.string ⟨#[109, 97, 114, 103, 105, 110]⟩, .int .i64 ro.margin, .int .i64 5, .int .i64 2, .bool false]] : List Value)).toArray = rc; have HRC : Hid (rc = (cellsOf RoleR.cells (Gr.roles ro)).toArray) := Lib.hid (hrc.symm.trans (by kernel_rfl)); clear hrc))
  go_ret
  have hB := Blk.new (w.alloc (.cells #[.int .i64 ro.investment, .int .i64 ro.goodwill, .int .i64 ro.associates, .int .i64 ro.inventory, .int .i64 ro.reserve, .int .i64 ro.minority, .int .i64 ro.retained, .int .i64 ro.acquired, .int .i64 ro.owners, .int .i64 ro.disposal, .int .i64 ro.associateProfit, .int .i64 ro.dividends, .int .i64 ro.minorityProfit, .int .i64 ro.difference, .int .i64 ro.margin] 26)) 144 rc
  have e : (w.alloc (.cells #[.int .i64 ro.investment, .int .i64 ro.goodwill, .int .i64 ro.associates, .int .i64 ro.inventory, .int .i64 ro.reserve, .int .i64 ro.minority, .int .i64 ro.retained, .int .i64 ro.acquired, .int .i64 ro.owners, .int .i64 ro.disposal, .int .i64 ro.associateProfit, .int .i64 ro.dividends, .int .i64 ro.minorityProfit, .int .i64 ro.difference, .int .i64 ro.margin] 26)).heap.size = w.heap.size + 1 := by simp
  rw [e] at hB
  exact ⟨some ⟨w.heap.size + 1, 0, none⟩, 15, rfl, Rd.of_blk hB (by rw [HRC.out]) (cellsOf_len RoleR.len _), (by repeat (first | exact hb | refine Below.alloc ?_ (by have hbs := hb.size; first | omega | (simp; done) | (simp; omega)) _ | refine Below.drew ?_ | refine below_drewN_ ?_ _ | refine Below.setCell ?_ (by simp) _))⟩
set_option maxRecDepth 100000 in
set_option maxHeartbeats 4000000 in
theorem rroles_any (ro : RolesR) (w : World) : Calls Tryz.prog 101 #[.agg #[.int .i64 ro.investment, .int .i64 ro.goodwill, .int .i64 ro.associates, .int .i64 ro.inventory, .int .i64 ro.reserve, .int .i64 ro.minority, .int .i64 ro.retained, .int .i64 ro.acquired, .int .i64 ro.owners, .int .i64 ro.disposal, .int .i64 ro.associateProfit, .int .i64 ro.dividends, .int .i64 ro.minorityProfit, .int .i64 ro.difference, .int .i64 ro.margin]] w (RolesPost ro w) := by
  have hb := Below.refl w.heap.size w
  go_enter Tryz.func101, Tryz.ntmps101
  go_wp2_with (first | (refine wpList_built rfl 5 rfl 157 _ rfl #[.string ⟨#[105, 110, 118, 101, 115, 116, 109, 101, 110, 116]⟩, .int .i64 ro.investment, .int .i64 1, .int .i64 3, .bool true] (by kernel_rfl) ?_) | (refine wpList_built rfl 8 rfl 157 _ rfl #[.string ⟨#[103, 111, 111, 100, 119, 105, 108, 108]⟩, .int .i64 ro.goodwill, .int .i64 1, .int .i64 3, .bool false] (by kernel_rfl) ?_) | (refine wpList_built rfl 11 rfl 157 _ rfl #[.string ⟨#[97, 115, 115, 111, 99, 105, 97, 116, 101, 115]⟩, .int .i64 ro.associates, .int .i64 1, .int .i64 3, .bool false] (by kernel_rfl) ?_) | (refine wpList_built rfl 14 rfl 157 _ rfl #[.string ⟨#[105, 110, 118, 101, 110, 116, 111, 114, 121]⟩, .int .i64 ro.inventory, .int .i64 1, .int .i64 1, .bool true] (by kernel_rfl) ?_) | (refine wpList_built rfl 17 rfl 157 _ rfl #[.string ⟨#[114, 101, 115, 101, 114, 118, 101]⟩, .int .i64 ro.reserve, .int .i64 3, .int .i64 3, .bool false] (by kernel_rfl) ?_) | (refine wpList_built rfl 20 rfl 157 _ rfl #[.string ⟨#[109, 105, 110, 111, 114, 105, 116, 121]⟩, .int .i64 ro.minority, .int .i64 3, .int .i64 3, .bool false] (by kernel_rfl) ?_) | (refine wpList_built rfl 23 rfl 157 _ rfl #[.string ⟨#[114, 101, 116, 97, 105, 110, 101, 100]⟩, .int .i64 ro.retained, .int .i64 3, .int .i64 3, .bool true] (by kernel_rfl) ?_) | (refine wpList_built rfl 26 rfl 157 _ rfl #[.string ⟨#[97, 99, 113, 117, 105, 114, 101, 100]⟩, .int .i64 ro.acquired, .int .i64 3, .int .i64 3, .bool false] (by kernel_rfl) ?_) | (refine wpList_built rfl 29 rfl 157 _ rfl #[.string ⟨#[111, 119, 110, 101, 114, 115]⟩, .int .i64 ro.owners, .int .i64 3, .int .i64 3, .bool false] (by kernel_rfl) ?_) | (refine wpList_built rfl 32 rfl 157 _ rfl #[.string ⟨#[100, 105, 115, 112, 111, 115, 97, 108]⟩, .int .i64 ro.disposal, .int .i64 4, .int .i64 2, .bool false] (by kernel_rfl) ?_) | (refine wpList_built rfl 35 rfl 157 _ rfl #[.string ⟨#[97, 115, 115, 111, 99, 105, 97, 116, 101, 80, 114, 111, 102, 105, 116]⟩, .int .i64 ro.associateProfit, .int .i64 4, .int .i64 2, .bool false] (by kernel_rfl) ?_) | (refine wpList_built rfl 38 rfl 157 _ rfl #[.string ⟨#[100, 105, 118, 105, 100, 101, 110, 100, 115]⟩, .int .i64 ro.dividends, .int .i64 4, .int .i64 2, .bool true] (by kernel_rfl) ?_) | (refine wpList_built rfl 41 rfl 157 _ rfl #[.string ⟨#[109, 105, 110, 111, 114, 105, 116, 121, 80, 114, 111, 102, 105, 116]⟩, .int .i64 ro.minorityProfit, .int .i64 5, .int .i64 2, .bool false] (by kernel_rfl) ?_) | (refine wpList_built rfl 44 rfl 157 _ rfl #[.string ⟨#[100, 105, 102, 102, 101, 114, 101, 110, 99, 101]⟩, .int .i64 ro.difference, .int .i64 5, .int .i64 2, .bool false] (by kernel_rfl) ?_) | (refine wpList_built rfl 47 rfl 157 _ rfl #[.string ⟨#[109, 97, 114, 103, 105, 110]⟩, .int .i64 ro.margin, .int .i64 5, .int .i64 2, .bool false] (by kernel_rfl) ?_) | (refine wpList_isSlice 153 _ _ rfl ?_; refine Great.wpList_buildRows rfl 153 157 _ 5 [.agg #[.string ⟨#[105, 110, 118, 101, 115, 116, 109, 101, 110, 116]⟩, .int .i64 ro.investment, .int .i64 1, .int .i64 3, .bool true], .agg #[.string ⟨#[103, 111, 111, 100, 119, 105, 108, 108]⟩, .int .i64 ro.goodwill, .int .i64 1, .int .i64 3, .bool false], .agg #[.string ⟨#[97, 115, 115, 111, 99, 105, 97, 116, 101, 115]⟩, .int .i64 ro.associates, .int .i64 1, .int .i64 3, .bool false], .agg #[.string ⟨#[105, 110, 118, 101, 110, 116, 111, 114, 121]⟩, .int .i64 ro.inventory, .int .i64 1, .int .i64 1, .bool true], .agg #[.string ⟨#[114, 101, 115, 101, 114, 118, 101]⟩, .int .i64 ro.reserve, .int .i64 3, .int .i64 3, .bool false], .agg #[.string ⟨#[109, 105, 110, 111, 114, 105, 116, 121]⟩, .int .i64 ro.minority, .int .i64 3, .int .i64 3, .bool false], .agg #[.string ⟨#[114, 101, 116, 97, 105, 110, 101, 100]⟩, .int .i64 ro.retained, .int .i64 3, .int .i64 3, .bool true], .agg #[.string ⟨#[97, 99, 113, 117, 105, 114, 101, 100]⟩, .int .i64 ro.acquired, .int .i64 3, .int .i64 3, .bool false], .agg #[.string ⟨#[111, 119, 110, 101, 114, 115]⟩, .int .i64 ro.owners, .int .i64 3, .int .i64 3, .bool false], .agg #[.string ⟨#[100, 105, 115, 112, 111, 115, 97, 108]⟩, .int .i64 ro.disposal, .int .i64 4, .int .i64 2, .bool false], .agg #[.string ⟨#[97, 115, 115, 111, 99, 105, 97, 116, 101, 80, 114, 111, 102, 105, 116]⟩, .int .i64 ro.associateProfit, .int .i64 4, .int .i64 2, .bool false], .agg #[.string ⟨#[100, 105, 118, 105, 100, 101, 110, 100, 115]⟩, .int .i64 ro.dividends, .int .i64 4, .int .i64 2, .bool true], .agg #[.string ⟨#[109, 105, 110, 111, 114, 105, 116, 121, 80, 114, 111, 102, 105, 116]⟩, .int .i64 ro.minorityProfit, .int .i64 5, .int .i64 2, .bool false], .agg #[.string ⟨#[100, 105, 102, 102, 101, 114, 101, 110, 99, 101]⟩, .int .i64 ro.difference, .int .i64 5, .int .i64 2, .bool false], .agg #[.string ⟨#[109, 97, 114, 103, 105, 110]⟩, .int .i64 ro.margin, .int .i64 5, .int .i64 2, .bool false]] rfl (fun i => 5 + 3 * i) (w.heap.size + 1) (by first | rfl | simp) _ rfl Tryz.underlying153 (by kernel_rfl) (by kernel_rfl) (by decide) (Nat.zero_lt_succ _) (by show 15 * 5 ≤ 2 ^ 24; decide) (by rfl) (by intro v hv; simp only [List.mem_cons, List.not_mem_nil, or_false] at hv; rcases hv with rfl | rfl | rfl | rfl | rfl | rfl | rfl | rfl | rfl | rfl | rfl | rfl | rfl | rfl | rfl; all_goals rfl) (fun i hi => match i, hi with | 0, _ => rfl | 1, _ => rfl | 2, _ => rfl | 3, _ => rfl | 4, _ => rfl | 5, _ => rfl | 6, _ => rfl | 7, _ => rfl | 8, _ => rfl | 9, _ => rfl | 10, _ => rfl | 11, _ => rfl | 12, _ => rfl | 13, _ => rfl | 14, _ => rfl) ?_; generalize hrc : (List.flatMap (fun v : Value => v.cells.toList) ([.agg #[.string ⟨#[105, 110, 118, 101, 115, 116, 109, 101, 110, 116]⟩, .int .i64 ro.investment, .int .i64 1, .int .i64 3, .bool true], .agg #[.string ⟨#[103, 111, 111, 100, 119, 105, 108, 108]⟩, .int .i64 ro.goodwill, .int .i64 1, .int .i64 3, .bool false], .agg #[.string ⟨#[97, 115, 115, 111, 99, 105, 97, 116, 101, 115]⟩, .int .i64 ro.associates, .int .i64 1, .int .i64 3, .bool false], .agg #[.string ⟨#[105, 110, 118, 101, 110, 116, 111, 114, 121]⟩, .int .i64 ro.inventory, .int .i64 1, .int .i64 1, .bool true], .agg #[.string ⟨#[114, 101, 115, 101, 114, 118, 101]⟩, .int .i64 ro.reserve, .int .i64 3, .int .i64 3, .bool false], .agg #[.string ⟨#[109, 105, 110, 111, 114, 105, 116, 121]⟩, .int .i64 ro.minority, .int .i64 3, .int .i64 3, .bool false], .agg #[.string ⟨#[114, 101, 116, 97, 105, 110, 101, 100]⟩, .int .i64 ro.retained, .int .i64 3, .int .i64 3, .bool true], .agg #[.string ⟨#[97, 99, 113, 117, 105, 114, 101, 100]⟩, .int .i64 ro.acquired, .int .i64 3, .int .i64 3, .bool false], .agg #[.string ⟨#[111, 119, 110, 101, 114, 115]⟩, .int .i64 ro.owners, .int .i64 3, .int .i64 3, .bool false], .agg #[.string ⟨#[100, 105, 115, 112, 111, 115, 97, 108]⟩, .int .i64 ro.disposal, .int .i64 4, .int .i64 2, .bool false], .agg #[.string ⟨#[97, 115, 115, 111, 99, 105, 97, 116, 101, 80, 114, 111, 102, 105, 116]⟩, .int .i64 ro.associateProfit, .int .i64 4, .int .i64 2, .bool false], .agg #[.string ⟨#[100, 105, 118, 105, 100, 101, 110, 100, 115]⟩, .int .i64 ro.dividends, .int .i64 4, .int .i64 2, .bool true], .agg #[.string ⟨#[109, 105, 110, 111, 114, 105, 116, 121, 80, 114, 111, 102, 105, 116]⟩, .int .i64 ro.minorityProfit, .int .i64 5, .int .i64 2, .bool false], .agg #[.string ⟨#[100, 105, 102, 102, 101, 114, 101, 110, 99, 101]⟩, .int .i64 ro.difference, .int .i64 5, .int .i64 2, .bool false], .agg #[.string ⟨#[109, 97, 114, 103, 105, 110]⟩, .int .i64 ro.margin, .int .i64 5, .int .i64 2, .bool false]] : List Value)).toArray = rc; have HRC : Hid (rc = (cellsOf RoleR.cells (Gr.roles ro)).toArray) := Lib.hid (hrc.symm.trans (by kernel_rfl)); clear hrc))
  go_ret
  have hB := Blk.new (w.alloc (.cells #[.int .i64 ro.investment, .int .i64 ro.goodwill, .int .i64 ro.associates, .int .i64 ro.inventory, .int .i64 ro.reserve, .int .i64 ro.minority, .int .i64 ro.retained, .int .i64 ro.acquired, .int .i64 ro.owners, .int .i64 ro.disposal, .int .i64 ro.associateProfit, .int .i64 ro.dividends, .int .i64 ro.minorityProfit, .int .i64 ro.difference, .int .i64 ro.margin] 26)) 157 rc
  have e : (w.alloc (.cells #[.int .i64 ro.investment, .int .i64 ro.goodwill, .int .i64 ro.associates, .int .i64 ro.inventory, .int .i64 ro.reserve, .int .i64 ro.minority, .int .i64 ro.retained, .int .i64 ro.acquired, .int .i64 ro.owners, .int .i64 ro.disposal, .int .i64 ro.associateProfit, .int .i64 ro.dividends, .int .i64 ro.minorityProfit, .int .i64 ro.difference, .int .i64 ro.margin] 26)).heap.size = w.heap.size + 1 := by simp
  rw [e] at hB
  exact ⟨some ⟨w.heap.size + 1, 0, none⟩, 15, rfl, Rd.of_blk hB (by rw [HRC.out]) (cellsOf_len RoleR.len _), (by repeat (first | exact hb | refine Below.alloc ?_ (by have hbs := hb.size; first | omega | (simp; done) | (simp; omega)) _ | refine Below.drew ?_ | refine below_drewN_ ?_ _ | refine Below.setCell ?_ (by simp) _))⟩
end Go.Proofs.YtnddoehhcpejjaaGreat
/- The walks of Find and of climb. -/
namespace Go.Proofs.YtnddoehhcpejjaaGreat
set_option linter.unusedVariables false
set_option linter.unusedSimpArgs false
open Go.RowKit

def FindPost (l : List Acc) (c : Int) (w : World) (e : Ending) (w' : World) : Prop :=
  e = .returned (.tuple #[Ch.val (Ch.fnV l c), .bool (Ch.fnB l c)]) ∧ Below w.heap.size w w'

set_option maxHeartbeats 1000000 in
theorem find_any (l : List Acc) (c : Int) (A : Option Addr) (cap : Nat) (w : World) (hr : Rd w w.heap.size 4 A l.length (Ch.cells l)) (hn : l.length ≤ 300000) :
    Calls Tryz.prog 88 #[.slice A l.length cap, .int .i64 c] w (FindPost l c w) := by
  have hb := Below.refl w.heap.size w
  have HR := Lib.hid hr
  clear hr
  go_enter Tryz.func88, Tryz.ntmps88
  go_wp2_with fail
  go_loopw [10] (fun t wr => ∃ k : Nat, k ≤ l.length ∧ (∀ j (h : j < k) (h2 : j < l.length), (l[j]'h2).code ≠ c) ∧ t = .int .i64 k ∧ Below w.heap.size w wr ∧ Blk wr w.heap.size 121 #[.int .i64 0, .int .i64 0, .int .i64 0, .int .i64 0]) (fun t _ => l.length - (intOf t).toNat)
  case atStart => exact ⟨0, by omega, fun j h => by omega, rfl, (by repeat (first | exact hb | refine Below.alloc ?_ (by have hbs := hb.size; first | omega | (simp; done) | (simp; omega)) _ | refine Below.drew ?_ | refine below_drewN_ ?_ _ | refine Below.setCell ?_ (by simp) _)), Blk.new w _ _⟩
  case round =>
    clear hb
    obtain ⟨k, hk, hno, rfl, hb, hB⟩ := hrel
    have HN := Lib.hid hno
    have hz := hb.size
    have hlt0 := hB.lt
    clear hno
    by_cases hlt : k < l.length
    · obtain ⟨b, o, hA, hbo, f0, f1, f2, f3⟩ := Ch.at_ (HR.out.below hb (Nat.le_refl _)) hlt
      subst hA
      by_cases hc : l[k].code = c
      · have hc' : (l[k].code == c) = true := by simpa using hc
        have HF := Lib.hid (Ch.find_at l c k hlt hc (fun j h => HN.out j h (by omega)))
        have q0 : wr.cell? ⟨w.heap.size, 0, none⟩ = some (.int .i64 0) := hB.cell 0
        have q1 : wr.cell? ⟨w.heap.size, 1, none⟩ = some (.int .i64 0) := hB.cell 1
        have q2 : wr.cell? ⟨w.heap.size, 2, none⟩ = some (.int .i64 0) := hB.cell 2
        have q3 : wr.cell? ⟨w.heap.size, 3, none⟩ = some (.int .i64 0) := hB.cell 3
        have z0 := hB.frozen 0
        have z1 := hB.frozen 1
        have z2 := hB.frozen 2
        have z3 := hB.frozen 3
        clear hc
        go_wp2_with fail
        have hB2 := ((((hB.set_ 0 (.int .i64 l[k].code)).set_ 1 (.int .i64 l[k].kind)).set_ 2 (.int .i64 l[k].basis)).set_ 3 (.int .i64 l[k].parent)).alloc (.cells #[.int .i64 l[k].code, .int .i64 l[k].kind, .int .i64 l[k].basis, .int .i64 l[k].parent] 121)
        have p0 := hB2.cell 0
        have p1 := hB2.cell 1
        have p2 := hB2.cell 2
        have p3 := hB2.cell 3
        simp only [Array.setIfInBounds] at p0 p1 p2 p3
        refine bodyPost_ret (v := .tuple #[Ch.val l[k], .bool true]) (by simp [results, Tryz.results88, go_sem, Ch.val, p0, p1, p2, p3]) rfl ?_
        refine ⟨by rw [show Ch.fnV l c = l[k] from by unfold Ch.fnV; rw [HF.out]; rfl, show Ch.fnB l c = true from by unfold Ch.fnB; rw [HF.out]; rfl], (by repeat (first | exact hb | refine Below.alloc ?_ (by have hbs := hb.size; first | omega | (simp; done) | (simp; omega)) _ | refine Below.drew ?_ | refine below_drewN_ ?_ _ | refine Below.setCell ?_ (by simp) _))⟩
      · have hc' : (l[k].code == c) = false := by simpa using hc
        have HC := Lib.hid hc
        clear hc
        go_wp2_with fail
        go_roundw
        case rel =>
          refine ⟨k + 1, by omega, fun j h h2 => ?_, by go_num, (by repeat (first | exact hb | refine Below.alloc ?_ (by have hbs := hb.size; first | omega | (simp; done) | (simp; omega)) _ | refine Below.drew ?_ | refine below_drewN_ ?_ _ | refine Below.setCell ?_ (by simp) _)), hB.alloc _⟩
          by_cases hj : j = k
          · subst hj; exact HC.out
          · exact HN.out j (by omega) h2
        case measure => simp [intOf]; omega
    · have HF := Lib.hid (Ch.find_none l c (fun j h => HN.out j (by omega) h))
      have q0 : wr.cell? ⟨w.heap.size, 0, none⟩ = some (.int .i64 0) := hB.cell 0
      have q1 : wr.cell? ⟨w.heap.size, 1, none⟩ = some (.int .i64 0) := hB.cell 1
      have q2 : wr.cell? ⟨w.heap.size, 2, none⟩ = some (.int .i64 0) := hB.cell 2
      have q3 : wr.cell? ⟨w.heap.size, 3, none⟩ = some (.int .i64 0) := hB.cell 3
      have z0 := hB.frozen 0
      have z1 := hB.frozen 1
      have z2 := hB.frozen 2
      have z3 := hB.frozen 3
      go_wp2_with fail
      refine bodyPost_ret (v := .tuple #[Ch.val Ch.zero, .bool false]) (by simp [results, Tryz.results88, go_sem, Ch.val, Ch.zero, cell_ne, q0, q1, q2, q3]) rfl ?_
      refine ⟨by rw [show Ch.fnV l c = Ch.zero from by unfold Ch.fnV; rw [HF.out]; rfl, show Ch.fnB l c = false from by unfold Ch.fnB; rw [HF.out]; rfl], (by repeat (first | exact hb | refine Below.alloc ?_ (by have hbs := hb.size; first | omega | (simp; done) | (simp; omega)) _ | refine Below.drew ?_ | refine below_drewN_ ?_ _ | refine Below.setCell ?_ (by simp) _))⟩
end Go.Proofs.YtnddoehhcpejjaaGreat
/- The walk of climb. -/
namespace Go.Proofs.YtnddoehhcpejjaaGreat
set_option linter.unusedVariables false
set_option linter.unusedSimpArgs false
open Go.RowKit

theorem find_no (l : List Acc) (c : Int) (A : Option Addr) (cap : Nat) (w : World) (hr : Rd w w.heap.size 4 A l.length (Ch.cells l)) (hn : l.length ≤ 300000) (hf : Ch.find l c = none) :
    Calls Tryz.prog 88 #[.slice A l.length cap, .int .i64 c] w (fun e w' => e = .returned (.tuple #[.agg #[.int .i64 0, .int .i64 0, .int .i64 0, .int .i64 0], .bool false]) ∧ Below w.heap.size w w') :=
  (find_any l c A cap w hr hn).mono (fun e w' h => ⟨by rw [h.1]; unfold Ch.fnV Ch.fnB; rw [hf]; rfl, h.2⟩)
theorem find_is (l : List Acc) (c : Int) (a : Acc) (A : Option Addr) (cap : Nat) (w : World) (hr : Rd w w.heap.size 4 A l.length (Ch.cells l)) (hn : l.length ≤ 300000) (hf : Ch.find l c = some a) :
    Calls Tryz.prog 88 #[.slice A l.length cap, .int .i64 c] w (fun e w' => e = .returned (.tuple #[.agg #[.int .i64 a.code, .int .i64 a.kind, .int .i64 a.basis, .int .i64 a.parent], .bool true]) ∧ Below w.heap.size w w') :=
  (find_any l c A cap w hr hn).mono (fun e w' h => ⟨by rw [h.1]; unfold Ch.fnV Ch.fnB; rw [hf]; rfl, h.2⟩)


def OwnInts (base : Nat) (l : List Int) (w : World) (e : Ending) (w' : World) : Prop :=
  ∃ v, e = .returned v ∧ w'.ownsRow base 3 1 v l.length (intCells l) ∧ Below w.heap.size w w'

set_option maxHeartbeats 2000000 in
theorem climb_any (l : List Acc) (c : Int) (A : Option Addr) (cap : Nat) (w : World) (hr : Rd w w.heap.size 4 A l.length (Ch.cells l)) (hn : l.length ≤ 300000) (hwf : ∀ a ∈ l, (Lit.int .i64 a.code).wf = true) :
    Calls Tryz.prog 136 #[.slice A l.length cap, .int .i64 c] w (OwnInts w.heap.size (Ch.pcl l c) w) := by
  have hb := Below.refl w.heap.size w
  have HR := Lib.hid hr
  have HW := Lib.hid hwf
  have hmm := @run_makeMap Tryz.prog
  obtain ⟨i0, hi, hz0, hz1, hz2⟩ := info_parts int_info
  clear hr hwf
  go_enter Tryz.func136, Tryz.ntmps136
  go_wp2_with fail
  go_step3
  go_wp2_with fail
  go_step3
  go_wp2_with fail
  go_loopw [1, 5] (fun t v wr => ∃ (s : List Int) (d : Int), Ch.way l s ∧ Ch.up l (l.length + 1 - s.length) s d = Ch.pcl l c ∧ t = .int .i64 d ∧ wr.ownsRow w.heap.size 3 1 v s.length (intCells s) ∧ SetW Tryz.prog 3 4 wr w.heap.size s.length s ∧ Below w.heap.size w wr) (fun _ v _ => l.length + 1 - sliceLen v)
  case atStart => exact ⟨[], c, Ch.way_nil l, rfl, rfl, World.ownsRow_nil _ _ _ _, SetW.made w, (by repeat (first | exact hb | refine Below.alloc ?_ (by have hbs := hb.size; first | omega | (simp; done) | (simp; omega)) _ | refine Below.drew ?_ | refine below_drewN_ ?_ _ | refine Below.setCell ?_ (by simp) _))⟩
  case round =>
    clear hb
    obtain ⟨s, d, hs, hu, rfl, ho, hS, hb⟩ := hrel
    have hl := Ch.way_len hs
    obtain ⟨A1, c1, rfl, -⟩ := Rd.of_own ho
    have hne := hS.ne ho
    have hlt := hS.lt
    have HO := Lib.hid ho.lt
    have HU := Lib.hid hu
    have hz := hb.size
    have HR2 := Lib.hid ((HR.out.below hb (Nat.le_refl _)).more hz)
    clear hu
    cases hf : Ch.find l d with
    | none =>
      have HE : Hid (s = Ch.pcl l c) := Lib.hid (by rw [← HU.out, show l.length + 1 - s.length = l.length - s.length + 1 from by omega, Ch.up_none _ _ _ _ hf])
      go_wp2_with (go_at_call 88; refine (find_no l d A cap _ HR2.out hn hf).mono ?_; rintro e w2 ⟨rfl, hb2⟩; replace hb := bel hb hb2)
      rw [Exit.noGoto_ret]
      go_ret
      exact ⟨_, rfl, by rw [← HE.out]; exact (own_step ho hb2).alloc _, (by repeat (first | exact hb | refine Below.alloc ?_ (by have hbs := hb.size; first | omega | (simp; done) | (simp; omega)) _ | refine Below.drew ?_ | refine below_drewN_ ?_ _ | refine Below.setCell ?_ (by simp) _))⟩
    | some a =>
      have hwd : (Lit.int .i64 d).wf = true := by
        obtain ⟨m1, m2⟩ := Ch.find_some l d a hf
        rw [← m2]; exact HW.out a m1
      by_cases hds : d ∈ s
      · have HE : Hid (s = Ch.pcl l c) := Lib.hid (by rw [← HU.out, show l.length + 1 - s.length = l.length - s.length + 1 from by omega, Ch.up_seen _ _ _ _ hds])
        have hL : ∀ (W : World), SetW Tryz.prog 3 4 W w.heap.size s.length s → (Instr.lookup 140 (.map (some w.heap.size)) (.int .i64 d) false).run Tryz.prog W = .ok (.bool true) W := fun W h => by
          have := h.look (t := 140) Tryz.underlying3 Tryz.underlying4 Tryz.underlying140 (zero_bool _) hwd
          rwa [show decide (d ∈ s) = true from by simpa using hds] at this
        go_wp2_with (go_at_call 88; refine (find_is l d a A cap _ HR2.out hn hf).mono ?_; rintro e w2 ⟨rfl, hb2⟩; replace hb := bel hb hb2; have hLL := hL _ ((hS.step hb2).alloc (.cells #[.int .i64 a.code, .int .i64 a.kind, .int .i64 a.basis, .int .i64 a.parent] 121)))
        rw [Exit.noGoto_ret]
        go_ret
        exact ⟨_, rfl, by rw [← HE.out]; exact (own_step ho hb2).alloc _, (by repeat (first | exact hb | refine Below.alloc ?_ (by have hbs := hb.size; first | omega | (simp; done) | (simp; omega)) _ | refine Below.drew ?_ | refine below_drewN_ ?_ _ | refine Below.setCell ?_ (by simp) _))⟩
      · have HE : Hid (Ch.up l (l.length + 1 - (s ++ [d]).length) (s ++ [d]) a.parent = Ch.pcl l c) := Lib.hid (by
          rw [← HU.out, show l.length + 1 - s.length = l.length - s.length + 1 from by omega, Ch.up_on _ _ _ _ _ hf hds]
          simp)
        have hs2 := Ch.way_on hs hf hds
        have hl2 := Ch.way_len hs2
        simp only [List.length_append, List.length_singleton] at hl2
        have hL : ∀ (W : World), SetW Tryz.prog 3 4 W w.heap.size s.length s → (Instr.lookup 140 (.map (some w.heap.size)) (.int .i64 d) false).run Tryz.prog W = .ok (.bool false) W := fun W h => by
          have := h.look (t := 140) Tryz.underlying3 Tryz.underlying4 Tryz.underlying140 (zero_bool _) hwd
          rwa [show decide (d ∈ s) = false from by simpa using hds] at this
        go_wp2_with (first
          | (go_at_call 88; refine (find_is l d a A cap _ HR2.out hn hf).mono ?_; rintro e w2 ⟨rfl, hb2⟩; replace hb := bel hb hb2; have hLL := hL _ ((hS.step hb2).alloc (.cells #[.int .i64 a.code, .int .i64 a.kind, .int .i64 a.basis, .int .i64 a.parent] 121)))
          | (at_mapUpdate; refine wpList_set_put rfl _ _ _ 140 rfl Tryz.underlying3 Tryz.underlying4 Tryz.underlying140 ((hS.step hb2).alloc _) (by unfold maxLen; omega) d hwd rfl rfl rfl ?_; intro w3 hS3 hg3; have ho3 := ((own_step ho hb2).alloc (.cells #[.int .i64 a.code, .int .i64 a.kind, .int .i64 a.basis, .int .i64 a.parent] 121)).kept hg3 (.inr hne.symm))
          | (at_builtin; refine wpList_append_own _ rfl (.tmp 25) (.tmp 27) 113 rfl w.heap.size 3 i0 (.int .i64 0) 1 8 Tryz.underlying113 hi hz0 hz1 hz2 rfl (by decide) _ s.length (intCells s) rfl (ho3.alloc _) ⟨w3.heap.size, 0, none⟩ 1 1 [.int .i64 d] rfl rfl ?c1 (one_i64 d) ?c3 ?c4 ?c5 ?_))
        case c1 => exact cells_new _ _ _ _ rfl
        case c3 => simp only [maxLen]; omega
        case c4 => omega
        case c5 =>
          have z2 := hb2.size
          have z3 := hg3.size
          simp at z3 ⊢
          omega
        intro v4 w4 ho4 hg4 _
        have z2 := hb2.size
        have z3 := hg3.size
        simp at z3
        have hb3 : Below w.heap.size w w3 := Below.grown ((hb.alloc hb.size _)) hg3 (by simp; omega) (fun k hk => by injection hk with hk; omega)
        have hb4 := bel_own (hb3.alloc hb3.size _) (by simp; omega) (ho3.alloc _) hg4
        have hB4 := (((Blk.new w2 121 #[.int .i64 a.code, .int .i64 a.kind, .int .i64 a.basis, .int .i64 a.parent]).grown hg3 (by simp; omega)).alloc (.cells #[.int .i64 d] 3)).grown hg4 (fun e => by have := (HO.out _ e.symm).2; omega)
        have q3 : w4.cell? ⟨w2.heap.size, 3, none⟩ = some (.int .i64 a.parent) := hB4.cell 3
        have hS4 := (hS3.alloc (.cells #[.int .i64 d] 3)).kept hg4 hne
        have hl4 := own_slice ho4
        clear hg4 hg3 hLL hB4 ho3 hS3
        go_wp2_with fail
        go_roundw
        case rel =>
          refine ⟨s ++ [d], a.parent, hs2, HE.out, rfl, ?_, ?_, hb4⟩
          · rw [intCells_app, List.length_append]; exact ho4
          · rw [List.length_append]; exact hS4
        case measure =>
          show l.length + 1 - sliceLen v4 < l.length + 1 - s.length
          omega
end Go.Proofs.YtnddoehhcpejjaaGreat
