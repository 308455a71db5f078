/- Texts of this claim, put together. -/
import Derived.Test.YtnddoehhcpejjaaGreatJAT
/- The walk of an entry's check. -/
namespace Go.Proofs.YtnddoehhcpejjaaGreat
set_option linter.unusedVariables false
set_option linter.unusedSimpArgs false
open Go.RowKit

/-- An element of an array value, elements of one cell. -/
theorem run_index_one {P : Program} {t e : TypeId} {n : Nat} {q : IntKind} (ht : P.underlying t = some (.array n e)) (ha : ∀ w, (isAgg e).run P w = .ok false w) (hs : ∀ w, (Go.sizeOf e).run P w = .ok 1 w)
    (cs : Array Value) (i : Int) (v : Value) (h0 : 0 ≤ i) (hn : i < n) (hv : cs[i.toNat]? = some v) (w : World) : (Instr.index t (.agg cs) (.int q i)).run P w = .ok v w := by
  simp [Instr.index, part, ha, hs, run_underlying ht, h0, hn, hv, asIntOf]
def checkers : Array Value := #[.func (.func 64) #[] #[], .func (.func 65) #[] #[], .func (.func 66) #[] #[], .func (.func 67) #[] #[]]
theorem check_idx (k : Nat) (v : Value) (hk : k < 4) (hv : checkers[k]? = some v) (w : World) : (Instr.index 127 (.agg #[.func (.func 64) #[] #[], .func (.func 65) #[] #[], .func (.func 66) #[] #[], .func (.func 67) #[] #[]]) (.int .i64 k)).run Tryz.prog w = .ok v w :=
  run_index_one Tryz.underlying127 Tryz.isAgg105 Tryz.sizeOf105 _ _ _ (by omega) (by omega) (by rw [Int.toNat_natCast]; exact hv) w
section
variable (gcs : Array Value) (cur : ByteArray) (y m p : Int) (cl : List Acc) (cA : Option Addr) (cc : Nat) (ro : RolesR) (el : List EntR) (eA : Option Addr) (ec : Nat) (w : World) (id en da kd fo : Int) (tx : ByteArray) (ll : List LineR) (lA : Option Addr) (lc : Nat)
theorem entry_size : (Tryz.prog.info? 67).map (·.size) = some 7 := by kernel_rfl
/-- what the first checks found -/
def ckSoFar (k : Nat) (x1 x2 x3 x4 : Int) : Prop := (1 ≤ k → x1 = 0) ∧ (2 ≤ k → x2 = 0) ∧ (3 ≤ k → x3 = 0) ∧ (4 ≤ k → x4 = 0)
set_option maxRecDepth 100000 in
set_option maxHeartbeats 8000000 in
theorem echeck_any (HG : Hid (gcs = #[.string cur, .int .i64 y, .int .i64 m, .int .i64 p, .slice cA cl.length cc, .int .i64 ro.investment, .int .i64 ro.goodwill, .int .i64 ro.associates, .int .i64 ro.inventory, .int .i64 ro.reserve, .int .i64 ro.minority, .int .i64 ro.retained, .int .i64 ro.acquired, .int .i64 ro.owners, .int .i64 ro.disposal, .int .i64 ro.associateProfit, .int .i64 ro.dividends, .int .i64 ro.minorityProfit, .int .i64 ro.difference, .int .i64 ro.margin, .slice eA el.length ec])) (h : GIn w cl cA el eA) (hF : FewOk cur cl el) (htx : tx.size ≤ maxLen) (hr : Rd w w.heap.size 3 lA ll.length (cellsOf LineR.cells ll)) (hn : ll.length ≤ 1000) :
    Calls Tryz.prog 40 #[.agg gcs, .agg #[.int .i64 id, .int .i64 en, .int .i64 da, .int .i64 kd, .int .i64 fo, .string tx, .slice lA ll.length lc]] w (IntPost (Jn.ckE (Gr.gv cur cl ro el (Cal.ok y m p)) el.length (Jn.kB el) (Jn.dB y m p) ⟨id, en, da, kd, fo, tx, ⟨ll, lA, lc⟩⟩) w) := by
  have H := Lib.hid h
  have HR := Lib.hid hr
  have hgi : (Tryz.prog.info? 29).map (·.size) = some gcs.size := by rw [HG.out]; exact grp_size
  have K1 := Lib.hid (fun W h hr => formed_any gcs cur y m p cl cA cc ro el eA ec W id en da kd fo tx ll lA lc HG h hF htx hr hn)
  have K2 := Lib.hid (fun W i h hr hi => charted_any gcs cur y m p cl cA cc ro el eA ec W id da kd fo tx ll lA lc i HG h hF hr hn hi)
  have K3 := Lib.hid (fun W => dated_any gcs cur y m p cl cA cc ro el eA ec W id en da kd fo tx ll lA lc HG)
  have K4 := Lib.hid (fun W hr hm => balanced_any gcs W id en da kd fo tx ll lA lc hr hn hm)
  have HS := Lib.hid (Jn.ck_steps (Gr.gv cur cl ro el (Cal.ok y m p)) el.length (Jn.kB el) (Jn.dB y m p) ⟨id, en, da, kd, fo, tx, ⟨ll, lA, lc⟩⟩)
  have HOK := Lib.hid (fun h => Jn.fm_ok (V := Gr.gv cur cl ro el (Cal.ok y m p)) (n := el.length) (x := ⟨id, en, da, kd, fo, tx, ⟨ll, lA, lc⟩⟩) h)
  clear h hr
  generalize Gr.gv cur cl ro el (Cal.ok y m p) = V at *
  generalize Jn.ckE V el.length (Jn.kB el) (Jn.dB y m p) ⟨id, en, da, kd, fo, tx, ⟨ll, lA, lc⟩⟩ = X at *
  generalize Jn.fmE V el.length ⟨id, en, da, kd, fo, tx, ⟨ll, lA, lc⟩⟩ = x1 at *
  have HC2 : Hid (x1 = 0 → ∀ W, GIn W cl cA el eA → Rd W W.heap.size 3 lA ll.length (cellsOf LineR.cells ll) → Calls Tryz.prog 65 #[.agg gcs, .agg #[.int .i64 id, .int .i64 en, .int .i64 da, .int .i64 kd, .int .i64 fo, .string tx, .slice lA ll.length lc]] W (IntPost (Jn.chE (Jn.kB el) ⟨id, en, da, kd, fo, tx, ⟨ll, lA, lc⟩⟩) W)) := Lib.hid (fun h0 W h hr => by
    obtain ⟨hh, -⟩ := HOK.out h0
    have e0 := hh.e0
    have e1 := hh.e1
    dsimp only at e0 e1
    obtain ⟨i, rfl⟩ : ∃ i : Nat, en = i := ⟨en.toNat, by omega⟩
    exact K2.out W i h hr (by omega))
  generalize Jn.chE (Jn.kB el) ⟨id, en, da, kd, fo, tx, ⟨ll, lA, lc⟩⟩ = x2 at *
  generalize Jn.daE (Jn.dB y m p) ⟨id, en, da, kd, fo, tx, ⟨ll, lA, lc⟩⟩ = x3 at *
  have HC4 : Hid (x1 = 0 → ∀ W, Rd W W.heap.size 3 lA ll.length (cellsOf LineR.cells ll) → Calls Tryz.prog 67 #[.agg gcs, .agg #[.int .i64 id, .int .i64 en, .int .i64 da, .int .i64 kd, .int .i64 fo, .string tx, .slice lA ll.length lc]] W (IntPost (Jn.baE ⟨id, en, da, kd, fo, tx, ⟨ll, lA, lc⟩⟩) W)) := Lib.hid (fun h0 W hr => by
    obtain ⟨-, hh⟩ := HOK.out h0
    refine K4.out W hr (fun l hl => ?_)
    have := hh l hl
    unfold Jn.lineB at this
    simp only [Bool.and_eq_true] at this
    exact amV_is this.1.2)
  generalize Jn.baE ⟨id, en, da, kd, fo, tx, ⟨ll, lA, lc⟩⟩ = x4 at *
  clear K2 K4 HOK
  have hb : Below w.heap.size w ((w.alloc (.cells gcs 29)).alloc (.cells #[.int .i64 id, .int .i64 en, .int .i64 da, .int .i64 kd, .int .i64 fo, .string tx, .slice lA ll.length lc] 67)) := ((Below.refl _ _).alloc (Nat.le_refl _) _).alloc (by simp) _
  have HB := Lib.hid ((Blk.new w 29 gcs).alloc (.cells #[.int .i64 id, .int .i64 en, .int .i64 da, .int .i64 kd, .int .i64 fo, .string tx, .slice lA ll.length lc] 67))
  have HP := Lib.hid (blk_new2 w (.cells gcs 29) 67 #[.int .i64 id, .int .i64 en, .int .i64 da, .int .i64 kd, .int .i64 fo, .string tx, .slice lA ll.length lc])
  go_enter Tryz.func40, Tryz.ntmps40
  go_upto_region 1 with fail
  generalize (w.alloc (.cells gcs 29)).alloc (.cells #[.int .i64 id, .int .i64 en, .int .i64 da, .int .i64 kd, .int .i64 fo, .string tx, .slice lA ll.length lc] 67) = W at *
  go_wp2_with fail
  go_loopw [9] (fun t wr => ∃ k : Nat, k ≤ 4 ∧ ckSoFar k x1 x2 x3 x4 ∧ t = .int .i64 k ∧ Blk wr w.heap.size 29 gcs ∧ Blk wr (w.heap.size + 1) 67 #[.int .i64 id, .int .i64 en, .int .i64 da, .int .i64 kd, .int .i64 fo, .string tx, .slice lA ll.length lc] ∧ Below w.heap.size w wr) (fun t _ => 4 - (intOf t).toNat)
  case atStart => exact ⟨0, by omega, ⟨fun h => by omega, fun h => by omega, fun h => by omega, fun h => by omega⟩, rfl, HB.out, HP.out, hb⟩
  case round =>
    clear hb HB HP
    obtain ⟨k, hk, hno, rfl, hB, hP, hb⟩ := hrel
    have HN := Lib.hid hno
    have HBr := Lib.hid hB
    have HPr := Lib.hid hP
    have hz := hb.size
    clear hno hB hP
    have hcase : k = 0 ∨ k = 1 ∨ k = 2 ∨ k = 3 ∨ k = 4 := by omega
    rcases hcase with h0 | h0 | h0 | h0 | h0
    · have HK := Lib.hid h0
      clear h0
      have HOK : Hid (x1 = 0 → ckSoFar (k + 1) x1 x2 x3 x4) := Lib.hid (fun h => by rw [HK.out]; exact ⟨fun _ => h, fun h => by omega, fun h => by omega, fun h => by omega⟩)
      have HNO : Hid (x1 ≠ 0 → X = x1) := Lib.hid (fun h => by rw [HS.out, if_neg h])
      have HCALL := Lib.hid (K1.out wr (H.out.step hb) (Rd.now HR.out hb))
      have hix := check_idx k (.func (.func 64) #[] #[]) (by have := HK.out; omega) (by rw [HK.out]; rfl)
      cases hx : (x1 != 0)
      · have HE := Lib.hid (HOK.out (by simpa using hx))
        have hk4 : (k : Int) < 4 := by have := HK.out; omega
        go_wp2_with (first
          | (refine wpList_load_blk 29 (.tmp 2) rfl (w.heap.size) rfl (by kernel_rfl) (HBr).out Tryz.underlying29 hgi ?_)
          | (refine wpList_load_blk 67 (.tmp 3) rfl (w.heap.size + 1) rfl (by kernel_rfl) HPr.out Tryz.underlying67 entry_size ?_)
          | (go_at_call 64; refine HCALL.out.mono ?_; rintro e w5 ⟨rfl, hb9⟩; have hb5 := bel hb hb9; have HB5 := Lib.hid (HBr.out.step hb9); have HP5 := Lib.hid (HPr.out.step hb9); clear hb9))
        go_roundw
        case rel => exact ⟨k + 1, by omega, HE.out, by go_num, HB5.out, HP5.out, hb5⟩
        case measure => simp [intOf]; omega
      · have HE := Lib.hid (HNO.out (by simpa using hx))
        have hk4 : (k : Int) < 4 := by have := HK.out; omega
        go_wp2_with (first
          | (refine wpList_load_blk 29 (.tmp 2) rfl (w.heap.size) rfl (by kernel_rfl) (HBr).out Tryz.underlying29 hgi ?_)
          | (refine wpList_load_blk 67 (.tmp 3) rfl (w.heap.size + 1) rfl (by kernel_rfl) HPr.out Tryz.underlying67 entry_size ?_)
          | (go_at_call 64; refine HCALL.out.mono ?_; rintro e w5 ⟨rfl, hb9⟩; have hb5 := bel hb hb9; clear hb9))
        go_ret
        exact ⟨by rw [HE.out]; rfl, hb5⟩
    · have HK := Lib.hid h0
      clear h0
      have e1 := HN.out.1 (by have := HK.out; omega)
      have HOK : Hid (x2 = 0 → ckSoFar (k + 1) x1 x2 x3 x4) := Lib.hid (fun h => by rw [HK.out]; exact ⟨fun _ => e1, fun _ => h, fun h => by omega, fun h => by omega⟩)
      have HNO : Hid (x2 ≠ 0 → X = x2) := Lib.hid (fun h => by rw [HS.out, if_pos e1, if_neg h])
      have HCALL := Lib.hid (HC2.out e1 wr (H.out.step hb) (Rd.now HR.out hb))
      clear e1
      have hix := check_idx k (.func (.func 65) #[] #[]) (by have := HK.out; omega) (by rw [HK.out]; rfl)
      cases hx : (x2 != 0)
      · have HE := Lib.hid (HOK.out (by simpa using hx))
        have hk4 : (k : Int) < 4 := by have := HK.out; omega
        go_wp2_with (first
          | (refine wpList_load_blk 29 (.tmp 2) rfl (w.heap.size) rfl (by kernel_rfl) (HBr).out Tryz.underlying29 hgi ?_)
          | (refine wpList_load_blk 67 (.tmp 3) rfl (w.heap.size + 1) rfl (by kernel_rfl) HPr.out Tryz.underlying67 entry_size ?_)
          | (go_at_call 65; refine HCALL.out.mono ?_; rintro e w5 ⟨rfl, hb9⟩; have hb5 := bel hb hb9; have HB5 := Lib.hid (HBr.out.step hb9); have HP5 := Lib.hid (HPr.out.step hb9); clear hb9))
        go_roundw
        case rel => exact ⟨k + 1, by omega, HE.out, by go_num, HB5.out, HP5.out, hb5⟩
        case measure => simp [intOf]; omega
      · have HE := Lib.hid (HNO.out (by simpa using hx))
        have hk4 : (k : Int) < 4 := by have := HK.out; omega
        go_wp2_with (first
          | (refine wpList_load_blk 29 (.tmp 2) rfl (w.heap.size) rfl (by kernel_rfl) (HBr).out Tryz.underlying29 hgi ?_)
          | (refine wpList_load_blk 67 (.tmp 3) rfl (w.heap.size + 1) rfl (by kernel_rfl) HPr.out Tryz.underlying67 entry_size ?_)
          | (go_at_call 65; refine HCALL.out.mono ?_; rintro e w5 ⟨rfl, hb9⟩; have hb5 := bel hb hb9; clear hb9))
        go_ret
        exact ⟨by rw [HE.out]; rfl, hb5⟩
    · have HK := Lib.hid h0
      clear h0
      have e1 := HN.out.1 (by have := HK.out; omega)
      have e2 := HN.out.2.1 (by have := HK.out; omega)
      have HOK : Hid (x3 = 0 → ckSoFar (k + 1) x1 x2 x3 x4) := Lib.hid (fun h => by rw [HK.out]; exact ⟨fun _ => e1, fun _ => e2, fun _ => h, fun h => by omega⟩)
      have HNO : Hid (x3 ≠ 0 → X = x3) := Lib.hid (fun h => by rw [HS.out, if_pos e1, if_pos e2, if_neg h])
      have HCALL := Lib.hid (K3.out wr)
      clear e1 e2
      have hix := check_idx k (.func (.func 66) #[] #[]) (by have := HK.out; omega) (by rw [HK.out]; rfl)
      cases hx : (x3 != 0)
      · have HE := Lib.hid (HOK.out (by simpa using hx))
        have hk4 : (k : Int) < 4 := by have := HK.out; omega
        go_wp2_with (first
          | (refine wpList_load_blk 29 (.tmp 2) rfl (w.heap.size) rfl (by kernel_rfl) (HBr).out Tryz.underlying29 hgi ?_)
          | (refine wpList_load_blk 67 (.tmp 3) rfl (w.heap.size + 1) rfl (by kernel_rfl) HPr.out Tryz.underlying67 entry_size ?_)
          | (go_at_call 66; refine HCALL.out.mono ?_; rintro e w5 ⟨rfl, hb9⟩; have hb5 := bel hb hb9; have HB5 := Lib.hid (HBr.out.step hb9); have HP5 := Lib.hid (HPr.out.step hb9); clear hb9))
        go_roundw
        case rel => exact ⟨k + 1, by omega, HE.out, by go_num, HB5.out, HP5.out, hb5⟩
        case measure => simp [intOf]; omega
      · have HE := Lib.hid (HNO.out (by simpa using hx))
        have hk4 : (k : Int) < 4 := by have := HK.out; omega
        go_wp2_with (first
          | (refine wpList_load_blk 29 (.tmp 2) rfl (w.heap.size) rfl (by kernel_rfl) (HBr).out Tryz.underlying29 hgi ?_)
          | (refine wpList_load_blk 67 (.tmp 3) rfl (w.heap.size + 1) rfl (by kernel_rfl) HPr.out Tryz.underlying67 entry_size ?_)
          | (go_at_call 66; refine HCALL.out.mono ?_; rintro e w5 ⟨rfl, hb9⟩; have hb5 := bel hb hb9; clear hb9))
        go_ret
        exact ⟨by rw [HE.out]; rfl, hb5⟩
    · have HK := Lib.hid h0
      clear h0
      have e1 := HN.out.1 (by have := HK.out; omega)
      have e2 := HN.out.2.1 (by have := HK.out; omega)
      have e3 := HN.out.2.2.1 (by have := HK.out; omega)
      have HOK : Hid (x4 = 0 → ckSoFar (k + 1) x1 x2 x3 x4) := Lib.hid (fun h => by rw [HK.out]; exact ⟨fun _ => e1, fun _ => e2, fun _ => e3, fun _ => h⟩)
      have HNO : Hid (x4 ≠ 0 → X = x4) := Lib.hid (fun h => by rw [HS.out, if_pos e1, if_pos e2, if_pos e3])
      have HCALL := Lib.hid (HC4.out e1 wr (Rd.now HR.out hb))
      clear e1 e2 e3
      have hix := check_idx k (.func (.func 67) #[] #[]) (by have := HK.out; omega) (by rw [HK.out]; rfl)
      cases hx : (x4 != 0)
      · have HE := Lib.hid (HOK.out (by simpa using hx))
        have hk4 : (k : Int) < 4 := by have := HK.out; omega
        go_wp2_with (first
          | (refine wpList_load_blk 29 (.tmp 2) rfl (w.heap.size) rfl (by kernel_rfl) (HBr).out Tryz.underlying29 hgi ?_)
          | (refine wpList_load_blk 67 (.tmp 3) rfl (w.heap.size + 1) rfl (by kernel_rfl) HPr.out Tryz.underlying67 entry_size ?_)
          | (go_at_call 67; refine HCALL.out.mono ?_; rintro e w5 ⟨rfl, hb9⟩; have hb5 := bel hb hb9; have HB5 := Lib.hid (HBr.out.step hb9); have HP5 := Lib.hid (HPr.out.step hb9); clear hb9))
        go_roundw
        case rel => exact ⟨k + 1, by omega, HE.out, by go_num, HB5.out, HP5.out, hb5⟩
        case measure => simp [intOf]; omega
      · have HE := Lib.hid (HNO.out (by simpa using hx))
        have hk4 : (k : Int) < 4 := by have := HK.out; omega
        go_wp2_with (first
          | (refine wpList_load_blk 29 (.tmp 2) rfl (w.heap.size) rfl (by kernel_rfl) (HBr).out Tryz.underlying29 hgi ?_)
          | (refine wpList_load_blk 67 (.tmp 3) rfl (w.heap.size + 1) rfl (by kernel_rfl) HPr.out Tryz.underlying67 entry_size ?_)
          | (go_at_call 67; refine HCALL.out.mono ?_; rintro e w5 ⟨rfl, hb9⟩; have hb5 := bel hb hb9; clear hb9))
        go_ret
        exact ⟨by rw [HE.out]; rfl, hb5⟩
    · have HK := Lib.hid h0
      have e4 : ¬ (k : Int) < 4 := by omega
      clear h0
      have HE : Hid (X = 0) := Lib.hid (by
        obtain ⟨e1, e2, e3, e4⟩ := HN.out
        have hk := HK.out
        rw [HS.out, if_pos (e1 (by omega)), if_pos (e2 (by omega)), if_pos (e3 (by omega)), e4 (by omega)])
      go_wp2_with fail
      go_ret
      exact ⟨by rw [HE.out]; rfl, hb⟩
end
end Go.Proofs.YtnddoehhcpejjaaGreat
