/- The walks of the laws ChartValid, ChartFinds, ChartUnder. -/
import Derived.Test.YtjcapeieahffnaaChartWalksJ
import Derived.Test.YtjcapeieahffnaaLibG
import Derived.Laws.StructEq
namespace Go.Proofs.Ytjcapeieahffnaa
set_option linter.unusedVariables false
set_option linter.unusedSimpArgs false
open Go.RowKit

theorem cells_gen (l : List Acc) : Ch.cells l = cellsOf Ch.cells1 l := by
  induction l with
  | nil => rfl
  | cons a l ih => simp [Ch.cells, cellsOf, ih]
instance accInh : Inhabited Acc := ⟨Ch.zero⟩
theorem acc_mk (r : List Int) (h : r.length = 4) : ∃ a : Acc, Ch.cells1 a = r.map (Value.int .i64) := by
  match r, h with
  | [a, b, c, d], _ => exact ⟨⟨a, b, c, d⟩, rfl⟩
def sample : List Acc := [⟨1000, 1, 0, 0⟩, ⟨1100, 1, 0, 1000⟩, ⟨4000, 4, 0, 0⟩]
theorem sample_path : Ch.pathV sample 1100 = [1100, 1000] := by decide +kernel
theorem sample_valid : Ch.validV sample false = true := by decide +kernel
theorem sample_wf : ∀ a ∈ sample, (Lit.int .i64 a.code).wf = true := by decide +kernel
theorem same_yes (xs ys : List Int) (A B : Option Addr) (c1 c2 : Nat) (w : World) (hr : Rd w w.heap.size 1 A xs.length (intCells xs)) (hq : Rd w w.heap.size 1 B ys.length (intCells ys)) (hn : xs.length ≤ 1000000) (h : xs = ys) :
    Calls Try.prog 15 #[.slice A xs.length c1, .slice B ys.length c2] w (BoolPost true w) := by
  have := samecodes_any xs ys A B c1 c2 w hr hq hn (by rw [← h]; exact hn)
  rwa [show decide (xs = ys) = true from by simpa using h] at this
theorem valid_is (l : List Acc) (g b : Bool) (A : Option Addr) (cap : Nat) (w : World) (hr : Rd w w.heap.size 4 A l.length (Ch.cells l)) (hn : l.length ≤ 100000) (hwf : ∀ a ∈ l, (Lit.int .i64 a.code).wf = true) (h : Ch.validV l g = b) :
    Calls Try.prog 11 #[.slice A l.length cap, .bool g] w (BoolPost b w) := by
  rw [← h]; exact valid_any l g A cap w hr hn hwf
theorem rvalid_is (l : List Acc) (g b : Bool) (A : Option Addr) (cap : Nat) (w : World) (hr : Rd w w.heap.size 4 A l.length (Ch.cells l)) (hn : l.length ≤ 100000) (h : Ch.validV l g = b) :
    Calls Try.prog 12 #[.slice A l.length cap, .bool g] w (BoolPost b w) := by
  rw [← h, Ch.valid_eq]; exact rvalid_any l g A cap w hr hn
set_option maxHeartbeats 2000000 in
theorem chart_awake (w : World) : Calls Try.prog 10 #[] w (BoolPost true w) := by
  go_enter Try.func10, Try.ntmps10
  go_wp2_with fail
  have HR : Hid (Rd (w.alloc (.cells #[.int .i64 1000, .int .i64 1, .int .i64 0, .int .i64 0, .int .i64 1100, .int .i64 1, .int .i64 0, .int .i64 1000, .int .i64 4000, .int .i64 4, .int .i64 0, .int .i64 0] 26)) (w.alloc (.cells #[.int .i64 1000, .int .i64 1, .int .i64 0, .int .i64 0, .int .i64 1100, .int .i64 1, .int .i64 0, .int .i64 1000, .int .i64 4000, .int .i64 4, .int .i64 0, .int .i64 0] 26)).heap.size 4 (some ⟨w.heap.size, 0, none⟩) 3 (Ch.cells sample)) := Lib.hid (Rd.of_blk (Blk.new w 26 #[.int .i64 1000, .int .i64 1, .int .i64 0, .int .i64 0, .int .i64 1100, .int .i64 1, .int .i64 0, .int .i64 1000, .int .i64 4000, .int .i64 4, .int .i64 0, .int .i64 0]) rfl rfl)
  have hb1 : Below w.heap.size w (w.alloc (.cells #[.int .i64 1000, .int .i64 1, .int .i64 0, .int .i64 0, .int .i64 1100, .int .i64 1, .int .i64 0, .int .i64 1000, .int .i64 4000, .int .i64 4, .int .i64 0, .int .i64 0] 26)) := (Below.refl _ _).alloc (Nat.le_refl _) _
  generalize w.alloc (.cells #[.int .i64 1000, .int .i64 1, .int .i64 0, .int .i64 0, .int .i64 1100, .int .i64 1, .int .i64 0, .int .i64 1000, .int .i64 4000, .int .i64 4, .int .i64 0, .int .i64 0] 26) = W at HR hb1 ⊢
  refine (path_any sample 1100 _ 3 W HR.out (by decide) sample_wf).mono ?_
  rintro e w2 ⟨v2, rfl, ho2, hb2⟩
  rw [sample_path] at ho2
  obtain ⟨A2, c2, rfl, hr2⟩ := Rd.of_own ho2
  have HR2 := Lib.hid hr2
  have HR3 := Lib.hid (Rd.now HR.out hb2)
  have hb0 := bel hb1 hb2
  clear hr2 ho2 hb2 HR
  go_wp2_with (first
    | (go_at_call 15; refine (same_yes [1100, 1000] [1100, 1000] A2 _ c2 2 _ ((HR2.out.alloc (Nat.le_refl _) _).more (by simp)) (Rd.of_blk (Blk.new w2 3 #[.int .i64 1100, .int .i64 1000]) rfl rfl) (by decide) rfl).mono ?_; rintro e w3 ⟨rfl, hb3⟩; have hb4 : Below w2.heap.size w2 w3 := bel' (w := w2) hb3 ((Below.refl _ _).alloc (Nat.le_refl _) _))
    | (go_at_call 11; refine (valid_is sample false true _ 3 _ (Rd.now HR3.out hb4) (by decide) sample_wf sample_valid).mono ?_; rintro e w5 ⟨rfl, hb5⟩))
  go_ret
  exact ⟨rfl, bel hb0 (bel hb4 hb5)⟩
def fewV (n m : Nat) : Bool := decide (n ≤ 60) && decide (m ≤ 60)
theorem few_any (A B : Option Addr) (n m c1 c2 : Nat) (w : World) : Calls Try.prog 18 #[.slice A n c1, .slice B m c2] w (fun e w' => e = .returned (.bool (fewV n m)) ∧ w = w') := by
  have HE : Hid (fewV n m = (decide (n ≤ 60) && decide (m ≤ 60))) := Lib.hid rfl
  by_cases h1 : n ≤ 60
  · by_cases h2 : m ≤ 60
    all_goals
      go_enter Try.func18, Try.ntmps18
      go_wp2_with fail
      go_ret
      exact ⟨ret_bool (by rw [HE.out]; simp [h1, h2] <;> omega), rfl⟩
  · go_enter Try.func18, Try.ntmps18
    go_wp2_with fail
    go_ret
    exact ⟨ret_bool (by rw [HE.out]; simp [h1] <;> omega), rfl⟩

section
variable (l : List Acc) (A : Option Addr) (cap : Nat) (w : World) (hm : l.length ≤ maxLen) (hr : Rd w w.heap.size 4 A l.length (Ch.cells l)) (hwf : ∀ a ∈ l, (Lit.int .i64 a.code).wf = true)
include hm hr hwf
set_option maxHeartbeats 1000000 in
theorem law_ChartValid (g : Bool) : Calls Try.prog 3 #[.slice A l.length cap, .bool g] w fun e w' => e = .returned (.bool true) ∧ Below w.heap.size w w' := by
  unfold maxLen at hm
  have hb := Below.refl w.heap.size w
  have HR := Lib.hid hr
  have HW := Lib.hid hwf
  clear hr hwf
  by_cases hl : l.length ≤ 210
  · have hn : l.length ≤ 100000 := by omega
    cases hv : Ch.validV l g
    all_goals
      have HV := Lib.hid hv
      clear hv
      go_enter Try.func3, Try.ntmps3
      go_wp2_with (first
        | (go_at_call 10; refine (chart_awake _).mono ?_; rintro e w2 ⟨rfl, hb2⟩; replace hb := bel hb hb2; clear hb2)
        | (go_at_call 11; refine (valid_is l g _ A cap _ (Rd.now HR.out hb) hn HW.out HV.out).mono ?_; rintro e w2 ⟨rfl, hb2⟩; replace hb := bel hb hb2; clear hb2)
        | (go_at_call 12; refine (rvalid_is l g _ A cap _ (Rd.now HR.out hb) hn HV.out).mono ?_; rintro e w2 ⟨rfl, hb2⟩; replace hb := bel hb hb2; clear hb2))
      go_ret
      exact ⟨rfl, hb⟩
  · go_enter Try.func3, Try.ntmps3
    go_wp2_with (go_at_call 10; refine (chart_awake _).mono ?_; rintro e w2 ⟨rfl, hb2⟩; replace hb := bel hb hb2; clear hb2)
    go_ret
    exact ⟨rfl, hb⟩
set_option maxHeartbeats 2000000 in
theorem law_ChartFinds (c : Int) : Calls Try.prog 4 #[.slice A l.length cap, .int .i64 c] w fun e w' => e = .returned (.bool true) ∧ Below w.heap.size w w' := by
  unfold maxLen at hm
  have hb := Below.refl w.heap.size w
  have HR := Lib.hid hr
  have HW := Lib.hid hwf
  have HM := Lib.hid hm
  clear hr
  by_cases hl : l.length ≤ 210
  · have hn : l.length ≤ 100000 := by omega
    have hkl := Ch.kids_len l c
    go_enter Try.func4, Try.ntmps4
    go_wp2_with (first
      | (go_at_call 10; refine (chart_awake _).mono ?_; rintro e w2 ⟨rfl, hb2⟩; replace hb := bel hb hb2; clear hb2)
      | (go_at_call 13; refine (find_gen l c A cap _ (Rd.now HR.out hb) hn).mono ?_; rintro e w2 ⟨rfl, hb2⟩; replace hb := bel hb hb2; clear hb2))
    have hb1 : Below w.heap.size w (w2.alloc (.cells #[.int .i64 (Ch.fnV l c).code, .int .i64 (Ch.fnV l c).kind, .int .i64 (Ch.fnV l c).basis, .int .i64 (Ch.fnV l c).parent] 26)) := (by repeat (first | exact hb | refine Below.alloc ?_ (by have hbs := hb.size; first | omega | (simp; done) | (simp; omega)) _ | refine Below.drew ?_ | refine below_drewN_ ?_ _ | refine Below.setCell ?_ (by simp) _))
    refine (rfind_gen l c A cap _ (Rd.now HR.out hb1) hn).mono ?_
    rintro e w3 ⟨rfl, hb3⟩
    have hB3 := (Blk.new w2 26 #[.int .i64 (Ch.fnV l c).code, .int .i64 (Ch.fnV l c).kind, .int .i64 (Ch.fnV l c).basis, .int .i64 (Ch.fnV l c).parent]).step hb3
    have p0 : w3.cell? ⟨w2.heap.size, 0, none⟩ = some (.int .i64 (Ch.fnV l c).code) := hB3.cell 0
    have p1 : w3.cell? ⟨w2.heap.size, 1, none⟩ = some (.int .i64 (Ch.fnV l c).kind) := hB3.cell 1
    have p2 : w3.cell? ⟨w2.heap.size, 2, none⟩ = some (.int .i64 (Ch.fnV l c).basis) := hB3.cell 2
    have p3 : w3.cell? ⟨w2.heap.size, 3, none⟩ = some (.int .i64 (Ch.fnV l c).parent) := hB3.cell 3
    have hz3 := hB3.lt
    replace hb := bel hb1 hb3
    clear hB3 hb3 hb1
    go_wp2_with fail
    have hb1 : Below w.heap.size w (w3.alloc (.cells #[.int .i64 (Ch.fnV l c).code, .int .i64 (Ch.fnV l c).kind, .int .i64 (Ch.fnV l c).basis, .int .i64 (Ch.fnV l c).parent] 26)) := (by repeat (first | exact hb | refine Below.alloc ?_ (by have hbs := hb.size; first | omega | (simp; done) | (simp; omega)) _ | refine Below.drew ?_ | refine below_drewN_ ?_ _ | refine Below.setCell ?_ (by simp) _))
    refine (kids_any l c A cap _ (Rd.now HR.out hb1) hn).mono ?_
    rintro e w4 ⟨v4, rfl, ho4, hb4⟩
    replace hb := bel hb1 hb4
    obtain ⟨A4, c4, rfl, hr4⟩ := Rd.of_own ho4
    have HR4 := Lib.hid hr4
    clear hb4 ho4 hr4 hb1 p0 p1 p2 p3
    go_wp2_with fail
    refine (rkids_any l c A cap _ (Rd.now HR.out hb) hn).mono ?_
    rintro e w5 ⟨v5, rfl, ho5, hb5⟩
    replace hb := bel hb hb5
    obtain ⟨A5, c5, rfl, hr5⟩ := Rd.of_own ho5
    have HR5 := Lib.hid hr5
    have HR6 := Lib.hid (Rd.now HR4.out hb5)
    clear hb5 ho5 hr5
    go_wp2_with (go_at_call 15; refine (same_yes (Ch.kids l c) (Ch.kids l c) A4 A5 c4 c5 _ HR6.out HR5.out (by omega) rfl).mono ?_; rintro e w2 ⟨rfl, hb2⟩; replace hb := bel hb hb2; clear hb2)
    go_ret
    exact ⟨rfl, hb⟩
  · go_enter Try.func4, Try.ntmps4
    go_wp2_with (go_at_call 10; refine (chart_awake _).mono ?_; rintro e w2 ⟨rfl, hb2⟩; replace hb := bel hb hb2; clear hb2)
    go_ret
    exact ⟨rfl, hb⟩
set_option maxHeartbeats 2000000 in
theorem law_ChartUnder (c : Int) : Calls Try.prog 5 #[.slice A l.length cap, .int .i64 c] w fun e w' => e = .returned (.bool true) ∧ Below w.heap.size w w' := by
  unfold maxLen at hm
  have hb := Below.refl w.heap.size w
  have HR := Lib.hid hr
  have HW := Lib.hid hwf
  clear hr hwf
  by_cases hl : l.length ≤ 60
  · have hn : l.length ≤ 100000 := by omega
    have hF : fewV l.length 0 = true := by unfold fewV; simp [hl]
    have hkl := Ch.underV_len l c
    have hpl := Ch.pathV_len l c
    go_enter Try.func5, Try.ntmps5
    go_wp2_with (first
      | (go_at_call 10; refine (chart_awake _).mono ?_; rintro e w2 ⟨rfl, hb2⟩; replace hb := bel hb hb2; clear hb2)
      | (go_at_call 18; refine (few_any _ _ _ _ _ _ _).mono ?_; rintro e w2 ⟨rfl, rfl⟩))
    refine (under_any l c A cap _ (Rd.now HR.out hb) hn HW.out).mono ?_
    rintro e w4 ⟨v4, rfl, ho4, hb4⟩
    replace hb := bel hb hb4
    obtain ⟨A4, c4, rfl, hr4⟩ := Rd.of_own ho4
    have HR4 := Lib.hid hr4
    clear hb4 ho4 hr4
    go_wp2_with fail
    refine (runder_any l c A cap _ (Rd.now HR.out hb) hn).mono ?_
    rintro e w5 ⟨v5, rfl, ho5, hb5⟩
    replace hb := bel hb hb5
    obtain ⟨A5, c5, rfl, hr5⟩ := Rd.of_own ho5
    have HR5 := Lib.hid hr5
    have HR6 := Lib.hid (Rd.now HR4.out hb5)
    clear hb5 ho5 hr5
    go_wp2_with (go_at_call 15; refine (same_yes (Ch.underV l c) (Ch.underV l c) A4 A5 c4 c5 _ HR6.out HR5.out (by omega) rfl).mono ?_; rintro e w2 ⟨rfl, hb2⟩; replace hb := bel hb hb2; clear hb2)
    clear HR4 HR5 HR6
    refine (path_any l c A cap _ (Rd.now HR.out hb) hn HW.out).mono ?_
    rintro e w4 ⟨v4, rfl, ho4, hb4⟩
    replace hb := bel hb hb4
    obtain ⟨A4, c4, rfl, hr4⟩ := Rd.of_own ho4
    have HR4 := Lib.hid hr4
    clear hb4 ho4 hr4
    go_wp2_with fail
    refine (rpath_any l c A cap _ (Rd.now HR.out hb) hn).mono ?_
    rintro e w5 ⟨v5, rfl, ho5, hb5⟩
    replace hb := bel hb hb5
    obtain ⟨A5, c5, rfl, hr5⟩ := Rd.of_own ho5
    have HR5 := Lib.hid hr5
    have HR6 := Lib.hid (Rd.now HR4.out hb5)
    clear hb5 ho5 hr5
    go_wp2_with (go_at_call 15; refine (same_yes (Ch.pathV l c) (Ch.pathV l c) A4 A5 c4 c5 _ HR6.out HR5.out (by omega) rfl).mono ?_; rintro e w2 ⟨rfl, hb2⟩; replace hb := bel hb hb2; clear hb2)
    clear HR4 HR5 HR6
    go_ret
    exact ⟨rfl, hb⟩
  · have hF : fewV l.length 0 = false := by unfold fewV; simp; omega
    go_enter Try.func5, Try.ntmps5
    go_wp2_with (first
      | (go_at_call 10; refine (chart_awake _).mono ?_; rintro e w2 ⟨rfl, hb2⟩; replace hb := bel hb hb2; clear hb2)
      | (go_at_call 18; refine (few_any _ _ _ _ _ _ _).mono ?_; rintro e w2 ⟨rfl, rfl⟩))
    go_ret
    exact ⟨rfl, hb⟩
end
end Go.Proofs.Ytjcapeieahffnaa
