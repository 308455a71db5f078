/- Texts of this claim, put together. -/
import Derived.Test.YthfbpbbepogllaaGreatJAV
/- The walks of inventory's small functions, and of their references. -/
namespace Go.Proofs.YthfbpbbepogllaaGreat
set_option linter.unusedVariables false
set_option linter.unusedSimpArgs false
open Go.RowKit

set_option maxRecDepth 100000 in
set_option maxHeartbeats 4000000 in
theorem ifull_any (l : List ConR) (e : Int) (A : Option Addr) (c : Nat) (w : World) (hC : CIn w l A) :
    Calls Tryz.prog 37 #[.slice A l.length c, .int .i64 e] w (BoolPost (Dv.full l e) w) := by
  have hb := Below.refl w.heap.size w
  have K := Lib.hid (cfind_any l e A c w hC.rd (by have := hC.len; omega))
  clear hC
  unfold Dv.full
  unfold ConPost at K
  generalize conF l e = x at *
  obtain ⟨xe, xm, xi⟩ := x
  dsimp only at *
  generalize conB l e = xb at *
  cases xb
  · go_enter Tryz.func37, Tryz.ntmps37
    go_wp2_with (first
      | (go_at_call 72; refine K.out.mono ?_; rintro en w2 ⟨rfl, hb9⟩; replace hb := bel hb hb9; clear hb9)
      | (refine wpList_alloc_put rfl 93 (.tmp 5) (.tmp 11) rfl rfl (ConR.arr ⟨xe, xm, xi⟩) _ rfl rfl 13 cfind_any_size rfl rfl (ConR.arr_one _) ?_; have hb3 := hb.alloc hb.size (.cells (ConR.arr ⟨xe, xm, xi⟩) 93); generalize w2.alloc (.cells (ConR.arr ⟨xe, xm, xi⟩) 93) = w3 at *))
    go_ret
    exact ⟨rfl, hb3⟩
  · go_enter Tryz.func37, Tryz.ntmps37
    go_wp2_with (first
      | (go_at_call 72; refine K.out.mono ?_; rintro en w2 ⟨rfl, hb9⟩; replace hb := bel hb hb9; clear hb9)
      | (refine wpList_alloc_put rfl 93 (.tmp 5) (.tmp 11) rfl rfl (ConR.arr ⟨xe, xm, xi⟩) _ rfl rfl 13 cfind_any_size rfl rfl (ConR.arr_one _) ?_; have k1 : (w2.alloc (.cells (ConR.arr ⟨xe, xm, xi⟩) 93)).cell? ⟨w2.heap.size, 1, none⟩ = some (.int .i64 xm) := (Blk.new w2 93 _).cell 1; have hb3 := hb.alloc hb.size (.cells (ConR.arr ⟨xe, xm, xi⟩) 93); generalize w2.alloc (.cells (ConR.arr ⟨xe, xm, xi⟩) 93) = w3 at *))
    go_ret
    exact ⟨rfl, hb3⟩
set_option maxRecDepth 100000 in
set_option maxHeartbeats 4000000 in
theorem rifull_any (l : List ConR) (e : Int) (A : Option Addr) (c : Nat) (w : World) (hC : CIn w l A) :
    Calls Tryz.prog 43 #[.slice A l.length c, .int .i64 e] w (BoolPost (Dv.full l e) w) := by
  have hb := Below.refl w.heap.size w
  have K := Lib.hid (rcfind_any l e A c w hC.rd (by have := hC.len; omega))
  clear hC
  unfold Dv.full
  unfold ConPost at K
  generalize conF l e = x at *
  obtain ⟨xe, xm, xi⟩ := x
  dsimp only at *
  generalize conB l e = xb at *
  cases xb
  · go_enter Tryz.func43, Tryz.ntmps43
    go_wp2_with (first
      | (go_at_call 76; refine K.out.mono ?_; rintro en w2 ⟨rfl, hb9⟩; replace hb := bel hb hb9; clear hb9)
      | (refine wpList_alloc_put rfl 99 (.tmp 5) (.tmp 11) rfl rfl (ConR.arr ⟨xe, xm, xi⟩) _ rfl rfl 13 rcfind_any_size rfl rfl (ConR.arr_one _) ?_; have hb3 := hb.alloc hb.size (.cells (ConR.arr ⟨xe, xm, xi⟩) 99); generalize w2.alloc (.cells (ConR.arr ⟨xe, xm, xi⟩) 99) = w3 at *))
    go_ret
    exact ⟨rfl, hb3⟩
  · go_enter Tryz.func43, Tryz.ntmps43
    go_wp2_with (first
      | (go_at_call 76; refine K.out.mono ?_; rintro en w2 ⟨rfl, hb9⟩; replace hb := bel hb hb9; clear hb9)
      | (refine wpList_alloc_put rfl 99 (.tmp 5) (.tmp 11) rfl rfl (ConR.arr ⟨xe, xm, xi⟩) _ rfl rfl 13 rcfind_any_size rfl rfl (ConR.arr_one _) ?_; have k1 : (w2.alloc (.cells (ConR.arr ⟨xe, xm, xi⟩) 99)).cell? ⟨w2.heap.size, 1, none⟩ = some (.int .i64 xm) := (Blk.new w2 99 _).cell 1; have hb3 := hb.alloc hb.size (.cells (ConR.arr ⟨xe, xm, xi⟩) 99); generalize w2.alloc (.cells (ConR.arr ⟨xe, xm, xi⟩) 99) = w3 at *))
    go_ret
    exact ⟨rfl, hb3⟩
section
variable (gcs : Array Value) (cur : ByteArray) (y m p : Int) (cl : List Acc) (cA : Option Addr) (cc : Nat) (ro : RolesR) (el : List EntR) (eA : Option Addr) (ec : Nat) (w : World)
set_option maxRecDepth 100000 in
set_option maxHeartbeats 1000000 in
theorem ient_any (i : Int) (HG : Hid (gcs = #[.string cur, .int .i64 y, .int .i64 m, .int .i64 p, .slice cA cl.length cc, .int .i64 ro.investment, .int .i64 ro.goodwill, .int .i64 ro.associates, .int .i64 ro.inventory, .int .i64 ro.reserve, .int .i64 ro.minority, .int .i64 ro.retained, .int .i64 ro.acquired, .int .i64 ro.owners, .int .i64 ro.disposal, .int .i64 ro.associateProfit, .int .i64 ro.dividends, .int .i64 ro.minorityProfit, .int .i64 ro.difference, .int .i64 ro.margin, .slice eA el.length ec])) : Calls Tryz.prog 36 #[.agg gcs, .int .i64 i] w (BoolPost (Iv.ent el.length i) w) := by
  unfold BoolPost
  have hb : Below w.heap.size w (w.alloc (.cells gcs 29)) := (Below.refl _ _).alloc (Nat.le_refl _) _
  have HB := Lib.hid (Blk.new w 29 gcs)
  have k20 : (w.alloc (.cells gcs 29)).cell? ⟨w.heap.size, 20, none⟩ = some (.slice eA el.length ec) := (HB.out.cell 20).trans (by rw [HG.out]; rfl)
  clear HB
  by_cases h0 : 0 ≤ i
  · have hd : decide (0 ≤ i) = true := by simpa using h0
    by_cases h1 : i < el.length
    · have HE : Hid (Iv.ent el.length i = true) := Lib.hid (iv_ent.2 ⟨h0, h1⟩)
      have hd1 : decide (i < (el.length : Int)) = true := by simpa using h1
      go_enter Tryz.func36, Tryz.ntmps36
      go_wp2_with fail
      go_ret
      exact ⟨ret_bool HE.out.symm, hb⟩
    · have HE : Hid (Iv.ent el.length i = false) := Lib.hid (by simp [Iv.ent]; omega)
      have hd1 : decide (i < (el.length : Int)) = false := by simpa using h1
      go_enter Tryz.func36, Tryz.ntmps36
      go_wp2_with fail
      go_ret
      exact ⟨ret_bool HE.out.symm, hb⟩
  · have HE : Hid (Iv.ent el.length i = false) := Lib.hid (by simp [Iv.ent]; omega)
    have hd : decide (0 ≤ i) = false := by simpa using h0
    go_enter Tryz.func36, Tryz.ntmps36
    go_wp2_with fail
    go_ret
    exact ⟨ret_bool HE.out.symm, hb⟩
set_option maxRecDepth 100000 in
set_option maxHeartbeats 1000000 in
theorem rient_any (i : Int) (HG : Hid (gcs = #[.string cur, .int .i64 y, .int .i64 m, .int .i64 p, .slice cA cl.length cc, .int .i64 ro.investment, .int .i64 ro.goodwill, .int .i64 ro.associates, .int .i64 ro.inventory, .int .i64 ro.reserve, .int .i64 ro.minority, .int .i64 ro.retained, .int .i64 ro.acquired, .int .i64 ro.owners, .int .i64 ro.disposal, .int .i64 ro.associateProfit, .int .i64 ro.dividends, .int .i64 ro.minorityProfit, .int .i64 ro.difference, .int .i64 ro.margin, .slice eA el.length ec])) : Calls Tryz.prog 42 #[.agg gcs, .int .i64 i] w (BoolPost (Iv.ent el.length i) w) := by
  unfold BoolPost
  have hb : Below w.heap.size w (w.alloc (.cells gcs 29)) := (Below.refl _ _).alloc (Nat.le_refl _) _
  have HB := Lib.hid (Blk.new w 29 gcs)
  have k20 : (w.alloc (.cells gcs 29)).cell? ⟨w.heap.size, 20, none⟩ = some (.slice eA el.length ec) := (HB.out.cell 20).trans (by rw [HG.out]; rfl)
  clear HB
  by_cases h0 : 0 ≤ i
  · have hd : decide (0 ≤ i) = true := by simpa using h0
    by_cases h1 : i < el.length
    · have HE : Hid (Iv.ent el.length i = true) := Lib.hid (iv_ent.2 ⟨h0, h1⟩)
      have hd1 : decide (i < (el.length : Int)) = true := by simpa using h1
      go_enter Tryz.func42, Tryz.ntmps42
      go_wp2_with fail
      go_ret
      exact ⟨ret_bool HE.out.symm, hb⟩
    · have HE : Hid (Iv.ent el.length i = false) := Lib.hid (by simp [Iv.ent]; omega)
      have hd1 : decide (i < (el.length : Int)) = false := by simpa using h1
      go_enter Tryz.func42, Tryz.ntmps42
      go_wp2_with fail
      go_ret
      exact ⟨ret_bool HE.out.symm, hb⟩
  · have HE : Hid (Iv.ent el.length i = false) := Lib.hid (by simp [Iv.ent]; omega)
    have hd : decide (0 ≤ i) = false := by simpa using h0
    go_enter Tryz.func42, Tryz.ntmps42
    go_wp2_with fail
    go_ret
    exact ⟨ret_bool HE.out.symm, hb⟩
def boxS (x : StkR) : Array Value := #[.int .i64 x.period, .int .i64 x.seller, .int .i64 x.buyer, .int .i64 x.amount, .int .i64 x.margin]
set_option maxRecDepth 100000 in
set_option maxHeartbeats 8000000 in
theorem iproper_any (e s b am mg : Int) (HG : Hid (gcs = #[.string cur, .int .i64 y, .int .i64 m, .int .i64 p, .slice cA cl.length cc, .int .i64 ro.investment, .int .i64 ro.goodwill, .int .i64 ro.associates, .int .i64 ro.inventory, .int .i64 ro.reserve, .int .i64 ro.minority, .int .i64 ro.retained, .int .i64 ro.acquired, .int .i64 ro.owners, .int .i64 ro.disposal, .int .i64 ro.associateProfit, .int .i64 ro.dividends, .int .i64 ro.minorityProfit, .int .i64 ro.difference, .int .i64 ro.margin, .slice eA el.length ec])) :
    Calls Tryz.prog 52 #[.agg gcs, .agg #[.int .i64 e, .int .i64 s, .int .i64 b, .int .i64 am, .int .i64 mg]] w (BoolPost (Iv.ok p el.length ⟨e, s, b, am, mg⟩) w) := by
  unfold BoolPost
  have hgi : (Tryz.prog.info? 29).map (·.size) = some gcs.size := by rw [HG.out]; exact grp_size
  have hb : Below w.heap.size w ((w.alloc (.cells gcs 29)).alloc (.cells #[.int .i64 e, .int .i64 s, .int .i64 b, .int .i64 am, .int .i64 mg] 59)) := ((Below.refl _ _).alloc (Nat.le_refl _) _).alloc (by simp) _
  have HB := Lib.hid ((Blk.new w 29 gcs).alloc (.cells #[.int .i64 e, .int .i64 s, .int .i64 b, .int .i64 am, .int .i64 mg] 59))
  have HX := Lib.hid (blk_new2 w (.cells gcs 29) 59 #[.int .i64 e, .int .i64 s, .int .i64 b, .int .i64 am, .int .i64 mg])
  have k3 : ((w.alloc (.cells gcs 29)).alloc (.cells #[.int .i64 e, .int .i64 s, .int .i64 b, .int .i64 am, .int .i64 mg] 59)).cell? ⟨w.heap.size, 3, none⟩ = some (.int .i64 p) := (HB.out.cell 3).trans (by rw [HG.out]; rfl)
  have hiff := iv_ok (p := p) (n := el.length) (x := ⟨e, s, b, am, mg⟩)
  have KS := Lib.hid (fun W => ient_any gcs cur y m p cl cA cc ro el eA ec W s HG)
  have KB := Lib.hid (fun W => ient_any gcs cur y m p cl cA cc ro el eA ec W b HG)
  unfold BoolPost at KS KB
  dsimp only at hiff
  generalize Iv.ok p el.length ⟨e, s, b, am, mg⟩ = R at *
  generalize Iv.ent el.length s = S at *
  generalize Iv.ent el.length b = T at *
  by_cases c1 : 0 ≤ e
  rotate_left
  · have HE : Hid (R = false) := Lib.hid (by cases R; rfl; exact absurd (hiff.1 rfl).1 c1)
    have d1 : decide (0 ≤ e) = false := by simpa using c1
    clear hiff
    go_enter Tryz.func52, Tryz.ntmps52
    go_wp2_with (first
      | (refine wpList_load_blk 29 (.tmp 2) rfl w.heap.size rfl rfl HB2.out Tryz.underlying29 hgi ?_)
      | (refine wpList_load_blk 29 (.tmp 2) rfl w.heap.size rfl rfl HB.out Tryz.underlying29 hgi ?_)
      | (go_at_call 36; first
          | (have HBx := HB2; clear HBx; refine (KB.out _).mono ?_; rintro en w3 ⟨rfl, hb9⟩; replace hb := bel hb hb9; have HX3 := Lib.hid (HX2.out.step hb9); clear hb9; have j1 : w3.cell? ⟨w.heap.size + 1, 1, none⟩ = some (.int .i64 s) := HX3.out.cell 1; have j2 : w3.cell? ⟨w.heap.size + 1, 2, none⟩ = some (.int .i64 b) := HX3.out.cell 2; have j3 : w3.cell? ⟨w.heap.size + 1, 3, none⟩ = some (.int .i64 am) := HX3.out.cell 3; have j4 : w3.cell? ⟨w.heap.size + 1, 4, none⟩ = some (.int .i64 mg) := HX3.out.cell 4)
          | (refine (KS.out _).mono ?_; rintro en w2 ⟨rfl, hb9⟩; replace hb := bel hb hb9; have HB2 := Lib.hid (HB.out.step hb9); have HX2 := Lib.hid (HX.out.step hb9); clear hb9; have j1 : w2.cell? ⟨w.heap.size + 1, 1, none⟩ = some (.int .i64 s) := HX2.out.cell 1; have j2 : w2.cell? ⟨w.heap.size + 1, 2, none⟩ = some (.int .i64 b) := HX2.out.cell 2; have j3 : w2.cell? ⟨w.heap.size + 1, 3, none⟩ = some (.int .i64 am) := HX2.out.cell 3; have j4 : w2.cell? ⟨w.heap.size + 1, 4, none⟩ = some (.int .i64 mg) := HX2.out.cell 4)))
    go_ret
    exact ⟨ret_bool HE.out.symm, hb⟩
  have d1 : decide (0 ≤ e) = true := by simpa using c1
  by_cases c2 : e < p
  rotate_left
  · have HE : Hid (R = false) := Lib.hid (by cases R; rfl; exact absurd (hiff.1 rfl).2.1 c2)
    have d2 : decide (e < p) = false := by simpa using c2
    clear hiff
    go_enter Tryz.func52, Tryz.ntmps52
    go_wp2_with (first
      | (refine wpList_load_blk 29 (.tmp 2) rfl w.heap.size rfl rfl HB2.out Tryz.underlying29 hgi ?_)
      | (refine wpList_load_blk 29 (.tmp 2) rfl w.heap.size rfl rfl HB.out Tryz.underlying29 hgi ?_)
      | (go_at_call 36; first
          | (have HBx := HB2; clear HBx; refine (KB.out _).mono ?_; rintro en w3 ⟨rfl, hb9⟩; replace hb := bel hb hb9; have HX3 := Lib.hid (HX2.out.step hb9); clear hb9; have j1 : w3.cell? ⟨w.heap.size + 1, 1, none⟩ = some (.int .i64 s) := HX3.out.cell 1; have j2 : w3.cell? ⟨w.heap.size + 1, 2, none⟩ = some (.int .i64 b) := HX3.out.cell 2; have j3 : w3.cell? ⟨w.heap.size + 1, 3, none⟩ = some (.int .i64 am) := HX3.out.cell 3; have j4 : w3.cell? ⟨w.heap.size + 1, 4, none⟩ = some (.int .i64 mg) := HX3.out.cell 4)
          | (refine (KS.out _).mono ?_; rintro en w2 ⟨rfl, hb9⟩; replace hb := bel hb hb9; have HB2 := Lib.hid (HB.out.step hb9); have HX2 := Lib.hid (HX.out.step hb9); clear hb9; have j1 : w2.cell? ⟨w.heap.size + 1, 1, none⟩ = some (.int .i64 s) := HX2.out.cell 1; have j2 : w2.cell? ⟨w.heap.size + 1, 2, none⟩ = some (.int .i64 b) := HX2.out.cell 2; have j3 : w2.cell? ⟨w.heap.size + 1, 3, none⟩ = some (.int .i64 am) := HX2.out.cell 3; have j4 : w2.cell? ⟨w.heap.size + 1, 4, none⟩ = some (.int .i64 mg) := HX2.out.cell 4)))
    go_ret
    exact ⟨ret_bool HE.out.symm, hb⟩
  have d2 : decide (e < p) = true := by simpa using c2
  cases S
  · have HE : Hid (R = false) := Lib.hid (by cases R; rfl; exact absurd (hiff.1 rfl).2.2.1 (by simp))
    clear hiff
    go_enter Tryz.func52, Tryz.ntmps52
    go_wp2_with (first
      | (refine wpList_load_blk 29 (.tmp 2) rfl w.heap.size rfl rfl HB2.out Tryz.underlying29 hgi ?_)
      | (refine wpList_load_blk 29 (.tmp 2) rfl w.heap.size rfl rfl HB.out Tryz.underlying29 hgi ?_)
      | (go_at_call 36; first
          | (have HBx := HB2; clear HBx; refine (KB.out _).mono ?_; rintro en w3 ⟨rfl, hb9⟩; replace hb := bel hb hb9; have HX3 := Lib.hid (HX2.out.step hb9); clear hb9; have j1 : w3.cell? ⟨w.heap.size + 1, 1, none⟩ = some (.int .i64 s) := HX3.out.cell 1; have j2 : w3.cell? ⟨w.heap.size + 1, 2, none⟩ = some (.int .i64 b) := HX3.out.cell 2; have j3 : w3.cell? ⟨w.heap.size + 1, 3, none⟩ = some (.int .i64 am) := HX3.out.cell 3; have j4 : w3.cell? ⟨w.heap.size + 1, 4, none⟩ = some (.int .i64 mg) := HX3.out.cell 4)
          | (refine (KS.out _).mono ?_; rintro en w2 ⟨rfl, hb9⟩; replace hb := bel hb hb9; have HB2 := Lib.hid (HB.out.step hb9); have HX2 := Lib.hid (HX.out.step hb9); clear hb9; have j1 : w2.cell? ⟨w.heap.size + 1, 1, none⟩ = some (.int .i64 s) := HX2.out.cell 1; have j2 : w2.cell? ⟨w.heap.size + 1, 2, none⟩ = some (.int .i64 b) := HX2.out.cell 2; have j3 : w2.cell? ⟨w.heap.size + 1, 3, none⟩ = some (.int .i64 am) := HX2.out.cell 3; have j4 : w2.cell? ⟨w.heap.size + 1, 4, none⟩ = some (.int .i64 mg) := HX2.out.cell 4)))
    go_ret
    exact ⟨ret_bool HE.out.symm, hb⟩
  cases T
  · have HE : Hid (R = false) := Lib.hid (by cases R; rfl; exact absurd (hiff.1 rfl).2.2.2.1 (by simp))
    clear hiff
    go_enter Tryz.func52, Tryz.ntmps52
    go_wp2_with (first
      | (refine wpList_load_blk 29 (.tmp 2) rfl w.heap.size rfl rfl HB2.out Tryz.underlying29 hgi ?_)
      | (refine wpList_load_blk 29 (.tmp 2) rfl w.heap.size rfl rfl HB.out Tryz.underlying29 hgi ?_)
      | (go_at_call 36; first
          | (have HBx := HB2; clear HBx; refine (KB.out _).mono ?_; rintro en w3 ⟨rfl, hb9⟩; replace hb := bel hb hb9; have HX3 := Lib.hid (HX2.out.step hb9); clear hb9; have j1 : w3.cell? ⟨w.heap.size + 1, 1, none⟩ = some (.int .i64 s) := HX3.out.cell 1; have j2 : w3.cell? ⟨w.heap.size + 1, 2, none⟩ = some (.int .i64 b) := HX3.out.cell 2; have j3 : w3.cell? ⟨w.heap.size + 1, 3, none⟩ = some (.int .i64 am) := HX3.out.cell 3; have j4 : w3.cell? ⟨w.heap.size + 1, 4, none⟩ = some (.int .i64 mg) := HX3.out.cell 4)
          | (refine (KS.out _).mono ?_; rintro en w2 ⟨rfl, hb9⟩; replace hb := bel hb hb9; have HB2 := Lib.hid (HB.out.step hb9); have HX2 := Lib.hid (HX.out.step hb9); clear hb9; have j1 : w2.cell? ⟨w.heap.size + 1, 1, none⟩ = some (.int .i64 s) := HX2.out.cell 1; have j2 : w2.cell? ⟨w.heap.size + 1, 2, none⟩ = some (.int .i64 b) := HX2.out.cell 2; have j3 : w2.cell? ⟨w.heap.size + 1, 3, none⟩ = some (.int .i64 am) := HX2.out.cell 3; have j4 : w2.cell? ⟨w.heap.size + 1, 4, none⟩ = some (.int .i64 mg) := HX2.out.cell 4)))
    go_ret
    exact ⟨ret_bool HE.out.symm, hb⟩
  cases c5 : (s != b)
  · have HE : Hid (R = false) := Lib.hid (by cases R; rfl; exact absurd (hiff.1 rfl).2.2.2.2.1 (by simpa using c5))
    clear hiff
    go_enter Tryz.func52, Tryz.ntmps52
    go_wp2_with (first
      | (refine wpList_load_blk 29 (.tmp 2) rfl w.heap.size rfl rfl HB2.out Tryz.underlying29 hgi ?_)
      | (refine wpList_load_blk 29 (.tmp 2) rfl w.heap.size rfl rfl HB.out Tryz.underlying29 hgi ?_)
      | (go_at_call 36; first
          | (have HBx := HB2; clear HBx; refine (KB.out _).mono ?_; rintro en w3 ⟨rfl, hb9⟩; replace hb := bel hb hb9; have HX3 := Lib.hid (HX2.out.step hb9); clear hb9; have j1 : w3.cell? ⟨w.heap.size + 1, 1, none⟩ = some (.int .i64 s) := HX3.out.cell 1; have j2 : w3.cell? ⟨w.heap.size + 1, 2, none⟩ = some (.int .i64 b) := HX3.out.cell 2; have j3 : w3.cell? ⟨w.heap.size + 1, 3, none⟩ = some (.int .i64 am) := HX3.out.cell 3; have j4 : w3.cell? ⟨w.heap.size + 1, 4, none⟩ = some (.int .i64 mg) := HX3.out.cell 4)
          | (refine (KS.out _).mono ?_; rintro en w2 ⟨rfl, hb9⟩; replace hb := bel hb hb9; have HB2 := Lib.hid (HB.out.step hb9); have HX2 := Lib.hid (HX.out.step hb9); clear hb9; have j1 : w2.cell? ⟨w.heap.size + 1, 1, none⟩ = some (.int .i64 s) := HX2.out.cell 1; have j2 : w2.cell? ⟨w.heap.size + 1, 2, none⟩ = some (.int .i64 b) := HX2.out.cell 2; have j3 : w2.cell? ⟨w.heap.size + 1, 3, none⟩ = some (.int .i64 am) := HX2.out.cell 3; have j4 : w2.cell? ⟨w.heap.size + 1, 4, none⟩ = some (.int .i64 mg) := HX2.out.cell 4)))
    go_ret
    exact ⟨ret_bool HE.out.symm, hb⟩
  by_cases c6 : 0 ≤ am
  rotate_left
  · have HE : Hid (R = false) := Lib.hid (by cases R; rfl; exact absurd (hiff.1 rfl).2.2.2.2.2.1 c6)
    have d6 : decide (0 ≤ am) = false := by simpa using c6
    clear hiff
    go_enter Tryz.func52, Tryz.ntmps52
    go_wp2_with (first
      | (refine wpList_load_blk 29 (.tmp 2) rfl w.heap.size rfl rfl HB2.out Tryz.underlying29 hgi ?_)
      | (refine wpList_load_blk 29 (.tmp 2) rfl w.heap.size rfl rfl HB.out Tryz.underlying29 hgi ?_)
      | (go_at_call 36; first
          | (have HBx := HB2; clear HBx; refine (KB.out _).mono ?_; rintro en w3 ⟨rfl, hb9⟩; replace hb := bel hb hb9; have HX3 := Lib.hid (HX2.out.step hb9); clear hb9; have j1 : w3.cell? ⟨w.heap.size + 1, 1, none⟩ = some (.int .i64 s) := HX3.out.cell 1; have j2 : w3.cell? ⟨w.heap.size + 1, 2, none⟩ = some (.int .i64 b) := HX3.out.cell 2; have j3 : w3.cell? ⟨w.heap.size + 1, 3, none⟩ = some (.int .i64 am) := HX3.out.cell 3; have j4 : w3.cell? ⟨w.heap.size + 1, 4, none⟩ = some (.int .i64 mg) := HX3.out.cell 4)
          | (refine (KS.out _).mono ?_; rintro en w2 ⟨rfl, hb9⟩; replace hb := bel hb hb9; have HB2 := Lib.hid (HB.out.step hb9); have HX2 := Lib.hid (HX.out.step hb9); clear hb9; have j1 : w2.cell? ⟨w.heap.size + 1, 1, none⟩ = some (.int .i64 s) := HX2.out.cell 1; have j2 : w2.cell? ⟨w.heap.size + 1, 2, none⟩ = some (.int .i64 b) := HX2.out.cell 2; have j3 : w2.cell? ⟨w.heap.size + 1, 3, none⟩ = some (.int .i64 am) := HX2.out.cell 3; have j4 : w2.cell? ⟨w.heap.size + 1, 4, none⟩ = some (.int .i64 mg) := HX2.out.cell 4)))
    go_ret
    exact ⟨ret_bool HE.out.symm, hb⟩
  have d6 : decide (0 ≤ am) = true := by simpa using c6
  by_cases c7 : am ≤ 1000000000000
  rotate_left
  · have HE : Hid (R = false) := Lib.hid (by cases R; rfl; exact absurd (hiff.1 rfl).2.2.2.2.2.2.1 c7)
    have d7 : decide (am ≤ 1000000000000) = false := by simpa using c7
    clear hiff
    go_enter Tryz.func52, Tryz.ntmps52
    go_wp2_with (first
      | (refine wpList_load_blk 29 (.tmp 2) rfl w.heap.size rfl rfl HB2.out Tryz.underlying29 hgi ?_)
      | (refine wpList_load_blk 29 (.tmp 2) rfl w.heap.size rfl rfl HB.out Tryz.underlying29 hgi ?_)
      | (go_at_call 36; first
          | (have HBx := HB2; clear HBx; refine (KB.out _).mono ?_; rintro en w3 ⟨rfl, hb9⟩; replace hb := bel hb hb9; have HX3 := Lib.hid (HX2.out.step hb9); clear hb9; have j1 : w3.cell? ⟨w.heap.size + 1, 1, none⟩ = some (.int .i64 s) := HX3.out.cell 1; have j2 : w3.cell? ⟨w.heap.size + 1, 2, none⟩ = some (.int .i64 b) := HX3.out.cell 2; have j3 : w3.cell? ⟨w.heap.size + 1, 3, none⟩ = some (.int .i64 am) := HX3.out.cell 3; have j4 : w3.cell? ⟨w.heap.size + 1, 4, none⟩ = some (.int .i64 mg) := HX3.out.cell 4)
          | (refine (KS.out _).mono ?_; rintro en w2 ⟨rfl, hb9⟩; replace hb := bel hb hb9; have HB2 := Lib.hid (HB.out.step hb9); have HX2 := Lib.hid (HX.out.step hb9); clear hb9; have j1 : w2.cell? ⟨w.heap.size + 1, 1, none⟩ = some (.int .i64 s) := HX2.out.cell 1; have j2 : w2.cell? ⟨w.heap.size + 1, 2, none⟩ = some (.int .i64 b) := HX2.out.cell 2; have j3 : w2.cell? ⟨w.heap.size + 1, 3, none⟩ = some (.int .i64 am) := HX2.out.cell 3; have j4 : w2.cell? ⟨w.heap.size + 1, 4, none⟩ = some (.int .i64 mg) := HX2.out.cell 4)))
    go_ret
    exact ⟨ret_bool HE.out.symm, hb⟩
  have d7 : decide (am ≤ 1000000000000) = true := by simpa using c7
  by_cases c8 : 0 ≤ mg
  rotate_left
  · have HE : Hid (R = false) := Lib.hid (by cases R; rfl; exact absurd (hiff.1 rfl).2.2.2.2.2.2.2.1 c8)
    have d8 : decide (0 ≤ mg) = false := by simpa using c8
    clear hiff
    go_enter Tryz.func52, Tryz.ntmps52
    go_wp2_with (first
      | (refine wpList_load_blk 29 (.tmp 2) rfl w.heap.size rfl rfl HB2.out Tryz.underlying29 hgi ?_)
      | (refine wpList_load_blk 29 (.tmp 2) rfl w.heap.size rfl rfl HB.out Tryz.underlying29 hgi ?_)
      | (go_at_call 36; first
          | (have HBx := HB2; clear HBx; refine (KB.out _).mono ?_; rintro en w3 ⟨rfl, hb9⟩; replace hb := bel hb hb9; have HX3 := Lib.hid (HX2.out.step hb9); clear hb9; have j1 : w3.cell? ⟨w.heap.size + 1, 1, none⟩ = some (.int .i64 s) := HX3.out.cell 1; have j2 : w3.cell? ⟨w.heap.size + 1, 2, none⟩ = some (.int .i64 b) := HX3.out.cell 2; have j3 : w3.cell? ⟨w.heap.size + 1, 3, none⟩ = some (.int .i64 am) := HX3.out.cell 3; have j4 : w3.cell? ⟨w.heap.size + 1, 4, none⟩ = some (.int .i64 mg) := HX3.out.cell 4)
          | (refine (KS.out _).mono ?_; rintro en w2 ⟨rfl, hb9⟩; replace hb := bel hb hb9; have HB2 := Lib.hid (HB.out.step hb9); have HX2 := Lib.hid (HX.out.step hb9); clear hb9; have j1 : w2.cell? ⟨w.heap.size + 1, 1, none⟩ = some (.int .i64 s) := HX2.out.cell 1; have j2 : w2.cell? ⟨w.heap.size + 1, 2, none⟩ = some (.int .i64 b) := HX2.out.cell 2; have j3 : w2.cell? ⟨w.heap.size + 1, 3, none⟩ = some (.int .i64 am) := HX2.out.cell 3; have j4 : w2.cell? ⟨w.heap.size + 1, 4, none⟩ = some (.int .i64 mg) := HX2.out.cell 4)))
    go_ret
    exact ⟨ret_bool HE.out.symm, hb⟩
  have d8 : decide (0 ≤ mg) = true := by simpa using c8
  by_cases c9 : mg ≤ 10000
  rotate_left
  · have HE : Hid (R = false) := Lib.hid (by cases R; rfl; exact absurd (hiff.1 rfl).2.2.2.2.2.2.2.2 c9)
    have d9 : decide (mg ≤ 10000) = false := by simpa using c9
    clear hiff
    go_enter Tryz.func52, Tryz.ntmps52
    go_wp2_with (first
      | (refine wpList_load_blk 29 (.tmp 2) rfl w.heap.size rfl rfl HB2.out Tryz.underlying29 hgi ?_)
      | (refine wpList_load_blk 29 (.tmp 2) rfl w.heap.size rfl rfl HB.out Tryz.underlying29 hgi ?_)
      | (go_at_call 36; first
          | (have HBx := HB2; clear HBx; refine (KB.out _).mono ?_; rintro en w3 ⟨rfl, hb9⟩; replace hb := bel hb hb9; have HX3 := Lib.hid (HX2.out.step hb9); clear hb9; have j1 : w3.cell? ⟨w.heap.size + 1, 1, none⟩ = some (.int .i64 s) := HX3.out.cell 1; have j2 : w3.cell? ⟨w.heap.size + 1, 2, none⟩ = some (.int .i64 b) := HX3.out.cell 2; have j3 : w3.cell? ⟨w.heap.size + 1, 3, none⟩ = some (.int .i64 am) := HX3.out.cell 3; have j4 : w3.cell? ⟨w.heap.size + 1, 4, none⟩ = some (.int .i64 mg) := HX3.out.cell 4)
          | (refine (KS.out _).mono ?_; rintro en w2 ⟨rfl, hb9⟩; replace hb := bel hb hb9; have HB2 := Lib.hid (HB.out.step hb9); have HX2 := Lib.hid (HX.out.step hb9); clear hb9; have j1 : w2.cell? ⟨w.heap.size + 1, 1, none⟩ = some (.int .i64 s) := HX2.out.cell 1; have j2 : w2.cell? ⟨w.heap.size + 1, 2, none⟩ = some (.int .i64 b) := HX2.out.cell 2; have j3 : w2.cell? ⟨w.heap.size + 1, 3, none⟩ = some (.int .i64 am) := HX2.out.cell 3; have j4 : w2.cell? ⟨w.heap.size + 1, 4, none⟩ = some (.int .i64 mg) := HX2.out.cell 4)))
    go_ret
    exact ⟨ret_bool HE.out.symm, hb⟩
  have d9 : decide (mg ≤ 10000) = true := by simpa using c9
  have HE : Hid (R = true) := Lib.hid (hiff.2 ⟨c1, c2, rfl, rfl, by simpa using c5, c6, c7, c8, c9⟩)
  clear hiff
  go_enter Tryz.func52, Tryz.ntmps52
  go_wp2_with (first
    | (refine wpList_load_blk 29 (.tmp 2) rfl w.heap.size rfl rfl HB2.out Tryz.underlying29 hgi ?_)
    | (refine wpList_load_blk 29 (.tmp 2) rfl w.heap.size rfl rfl HB.out Tryz.underlying29 hgi ?_)
    | (go_at_call 36; first
        | (have HBx := HB2; clear HBx; refine (KB.out _).mono ?_; rintro en w3 ⟨rfl, hb9⟩; replace hb := bel hb hb9; have HX3 := Lib.hid (HX2.out.step hb9); clear hb9; have j1 : w3.cell? ⟨w.heap.size + 1, 1, none⟩ = some (.int .i64 s) := HX3.out.cell 1; have j2 : w3.cell? ⟨w.heap.size + 1, 2, none⟩ = some (.int .i64 b) := HX3.out.cell 2; have j3 : w3.cell? ⟨w.heap.size + 1, 3, none⟩ = some (.int .i64 am) := HX3.out.cell 3; have j4 : w3.cell? ⟨w.heap.size + 1, 4, none⟩ = some (.int .i64 mg) := HX3.out.cell 4)
        | (refine (KS.out _).mono ?_; rintro en w2 ⟨rfl, hb9⟩; replace hb := bel hb hb9; have HB2 := Lib.hid (HB.out.step hb9); have HX2 := Lib.hid (HX.out.step hb9); clear hb9; have j1 : w2.cell? ⟨w.heap.size + 1, 1, none⟩ = some (.int .i64 s) := HX2.out.cell 1; have j2 : w2.cell? ⟨w.heap.size + 1, 2, none⟩ = some (.int .i64 b) := HX2.out.cell 2; have j3 : w2.cell? ⟨w.heap.size + 1, 3, none⟩ = some (.int .i64 am) := HX2.out.cell 3; have j4 : w2.cell? ⟨w.heap.size + 1, 4, none⟩ = some (.int .i64 mg) := HX2.out.cell 4)))
  go_ret
  exact ⟨ret_bool HE.out.symm, hb⟩
end
end Go.Proofs.YthfbpbbepogllaaGreat
