/- Texts of this claim, put together. -/
import Derived.Test.YtnkmjdaeafeaaaaGreatJAI
import Derived.Test.YtnkmjdaeafeaaaaGreatJAK
import Derived.Test.YtnkmjdaeafeaaaaGreatGrpWalksOZ
import Derived.Test.YtnkmjdaeafeaaaaGreatGrpWalksRZ
/- The walks of the dividends' sums, of 'full' and of 'check', and of their references. -/
namespace Go.Proofs.YtnkmjdaeafeaaaaGreat
set_option linter.unusedVariables false
set_option linter.unusedSimpArgs false
open Go.RowKit

def IntPost (v : Int) (w : World) (e : Ending) (w' : World) : Prop := e = .returned (.int .i64 v) ∧ Below w.heap.size w w'
theorem is_eq {d : Int} {q : Int → Bool} {x : ItemR} {b : Bool} (h : (x.account == d && q x.partner) = b) : Dv.is d q x = b := h
section
variable (gcs : Array Value) (cur : ByteArray) (y m p : Int) (cl : List Acc) (cA : Option Addr) (cc : Nat) (ro : RolesR) (el : List EntR) (eA : Option Addr) (ec : Nat) (w : World)
theorem rec1_any (x : Int) (g : Nat) (c : Int) (w : World) (hg : g < w.heap.size) (hs : w.cell? ⟨g, 0, none⟩ = some (.int .i64 c)) :
    Calls Tryz.prog 76 #[.int .i64 x, .pointer (some ⟨g, 0, none⟩)] w (BoolPost (x == c) w) := by
  have hb := Below.refl w.heap.size w
  go_enter Tryz.func76, Tryz.ntmps76
  go_wp2_with fail
  go_ret
  exact ⟨rfl, hb⟩
theorem for1_any (x : Int) (w : World) : Calls Tryz.prog 36 #[.int .i64 x] w (BoolPost true w) := by
  have hb := Below.refl w.heap.size w
  go_enter Tryz.func36, Tryz.ntmps36
  go_wp2_with fail
  go_ret
  exact ⟨rfl, hb⟩
set_option maxRecDepth 100000 in
set_option maxHeartbeats 8000000 in
theorem sumRec_any (q : Int → Bool) (l : List ConR) (e : Int) (A : Option Addr) (c : Nat) (g : Nat) (HG : Hid (gcs = #[.string cur, .int .i64 y, .int .i64 m, .int .i64 p, .slice cA cl.length cc, .int .i64 ro.investment, .int .i64 ro.goodwill, .int .i64 ro.associates, .int .i64 ro.inventory, .int .i64 ro.reserve, .int .i64 ro.minority, .int .i64 ro.retained, .int .i64 ro.acquired, .int .i64 ro.owners, .int .i64 ro.disposal, .int .i64 ro.associateProfit, .int .i64 ro.dividends, .int .i64 ro.minorityProfit, .int .i64 ro.difference, .int .i64 ro.margin, .slice eA el.length ec])) (hC : CIn w l A)
    (hq : ∀ (x : Int) (W : World), Below w.heap.size w W → Calls Tryz.prog 76 #[.int .i64 x, .pointer (some ⟨g, 0, none⟩)] W (BoolPost (q x) W)) :
    Calls Tryz.prog 35 #[.agg gcs, .slice A l.length c, .int .i64 e, .func (.func 76) #[] #[.pointer (some ⟨g, 0, none⟩)]] w (IntPost (Dv.sum ro.dividends q l e) w) := by
  have hgi : (Tryz.prog.info? 29).map (·.size) = some gcs.size := by rw [HG.out]; exact grp_size
  have hb : Below w.heap.size w (w.alloc (.cells gcs 29)) := (Below.refl _ _).alloc (Nat.le_refl _) _
  have HB := Lib.hid (Blk.new w 29 gcs)
  have HC := Lib.hid hC
  have HQ := Lib.hid hq
  obtain ⟨hit, hln⟩ := hC.at_ e
  have HIT := Lib.hid hit
  have hlen := hC.len
  have K := Lib.hid (fun W (h : CIn W l A) => cfind_any l e A c W h.rd (by have := h.len; omega))
  clear hC hq hit
  unfold IntPost Dv.sum
  unfold ConPost at K
  generalize conF l e = x at *
  generalize conB l e = xb at *
  obtain ⟨xe, xm, ⟨il, iA, ic⟩⟩ := x
  dsimp only at *
  go_enter Tryz.func35, Tryz.ntmps35
  go_wp2_with (first
    | (go_at_call 62; refine (K.out _ (HC.out.step hb)).mono ?_; rintro en w2 ⟨rfl, hb9⟩; replace hb := bel hb hb9; have HB2 := Lib.hid (HB.out.step hb9); clear hb9)
    | (refine wpList_alloc_put rfl 88 (.tmp 9) (.tmp 18) rfl rfl (ConR.arr ⟨xe, xm, ⟨il, iA, ic⟩⟩) _ rfl rfl 13 cfind_any_size rfl rfl (ConR.arr_one _) ?_; have k11 : (w2.alloc (.cells (ConR.arr ⟨xe, xm, ⟨il, iA, ic⟩⟩) 88)).cell? ⟨w2.heap.size, 11, none⟩ = some (.slice iA il.length ic) := (Blk.new w2 88 _).cell 11; have hb3 := hb.alloc hb.size (.cells (ConR.arr ⟨xe, xm, ⟨il, iA, ic⟩⟩) 88); have HB3 := Lib.hid (HB2.out.alloc (.cells (ConR.arr ⟨xe, xm, ⟨il, iA, ic⟩⟩) 88)); generalize w2.alloc (.cells (ConR.arr ⟨xe, xm, ⟨il, iA, ic⟩⟩) 88) = w3 at *))
  clear k11
  go_loopw [11, 23] (fun n t wr => ∃ k : Nat, k ≤ il.length ∧ n = .int .i64 (itSum (Dv.is ro.dividends q) (il.take k)) ∧ t = .int .i64 k ∧ Blk wr w.heap.size 29 gcs ∧ Below w.heap.size w wr) (fun _ t _ => il.length - (intOf t).toNat)
  case atStart => exact ⟨0, by omega, rfl, rfl, HB3.out, hb3⟩
  case round =>
    clear hb hb3
    obtain ⟨k, hk, rfl, rfl, hB, hb⟩ := hrel
    have hz := hb.size
    have hlB := hB.lt
    have HBr := Lib.hid hB
    clear hB
    by_cases hlt : k < il.length
    · obtain ⟨b, o, hA, hbo, f0, f1, f2, f3, f4, f5, f6⟩ := ItemR.at_ (Rd.now HIT.out hb) hlt
      subst hA
      have HTT := Lib.hid (itSum_take (Dv.is ro.dividends q) il k hlt)
      generalize il[k] = it at *
      obtain ⟨⟨r1, r2⟩, ie, ia, ip, id, im⟩ := it
      dsimp only at *
      have HBn := HBr.out.alloc (.cells #[.int .i64 r1, .int .i64 r2, .int .i64 ie, .int .i64 ia, .int .i64 ip, .int .i64 id, .int .i64 im] 75)
      have HIn := Blk.new wr 75 #[.int .i64 r1, .int .i64 r2, .int .i64 ie, .int .i64 ia, .int .i64 ip, .int .i64 id, .int .i64 im]
      have hbn := hb.alloc hz (.cells #[.int .i64 r1, .int .i64 r2, .int .i64 ie, .int .i64 ia, .int .i64 ip, .int .i64 id, .int .i64 im] 75)
      have k16 : (wr.alloc (.cells #[.int .i64 r1, .int .i64 r2, .int .i64 ie, .int .i64 ia, .int .i64 ip, .int .i64 id, .int .i64 im] 75)).cell? ⟨w.heap.size, 16, none⟩ = some (.int .i64 ro.dividends) := (HBn.cell 16).trans (by rw [HG.out]; rfl)
      have HBN := Lib.hid HBn
      have HIN := Lib.hid HIn
      clear HBn HIn
      generalize itSum (Dv.is ro.dividends q) (il.take k) = s at *
      generalize ro.dividends = dv at *
      cases hc : (ia == dv)
      · have HE : Hid (itSum (Dv.is dv q) (il.take (k + 1)) = s) := Lib.hid (by rw [HTT.out, is_eq (b := false) (by show (ia == dv && q ip) = false; rw [hc]; rfl)]; rfl)
        go_wp2_with fail
        clear k16
        go_roundw
        case rel => exact ⟨k + 1, by omega, by rw [HE.out], by go_num, HBN.out, hbn⟩
        case measure => simp [intOf]; omega
      · have KQ := Lib.hid (fun W h => HQ.out ip W h)
        cases hqq : q ip
        · have HE : Hid (itSum (Dv.is dv q) (il.take (k + 1)) = s) := Lib.hid (by rw [HTT.out, is_eq (b := false) (by show (ia == dv && q ip) = false; rw [hqq, Bool.and_false])]; rfl)
          rw [hqq] at KQ
          clear hqq
          go_wp2_with (go_at_call 76; refine (KQ.out _ hbn).mono ?_; rintro en w5 ⟨rfl, hb9⟩; have hb5 := bel hbn hb9; have HB5 := Lib.hid (HBN.out.step hb9); clear hb9)
          clear k16
          go_roundw
          case rel => exact ⟨k + 1, by omega, by rw [HE.out], by go_num, HB5.out, hb5⟩
          case measure => simp [intOf]; omega
        · have HE : Hid (itSum (Dv.is dv q) (il.take (k + 1)) = wrap64 (s + im)) := Lib.hid (by rw [HTT.out, is_eq (b := true) (by show (ia == dv && q ip) = true; rw [hc, hqq]; rfl)]; rfl)
          rw [hqq] at KQ
          clear hqq
          go_wp2_with (go_at_call 76; refine (KQ.out _ hbn).mono ?_; rintro en w5 ⟨rfl, hb9⟩; have hb5 := bel hbn hb9; have HB5 := Lib.hid (HBN.out.step hb9); have j5 : w5.cell? ⟨wr.heap.size, 5, none⟩ = some (.int .i64 id) := (HIN.out.step hb9).cell 5; have j6 : w5.cell? ⟨wr.heap.size, 6, none⟩ = some (.int .i64 im) := (HIN.out.step hb9).cell 6; clear hb9)
          clear k16 j5 j6
          go_roundw
          case rel => exact ⟨k + 1, by omega, by rw [HE.out], by go_num, HB5.out, hb5⟩
          case measure => simp [intOf]; omega
    · have HE : Hid (itSum (Dv.is ro.dividends q) (il.take k) = itSum (Dv.is ro.dividends q) il) := Lib.hid (by rw [List.take_of_length_le (by omega)])
      rw [HE.out]
      go_wp2_with fail
      go_ret
      exact ⟨rfl, hb⟩
set_option maxRecDepth 100000 in
set_option maxHeartbeats 8000000 in
theorem sumFor_any (q : Int → Bool) (l : List ConR) (e : Int) (A : Option Addr) (c : Nat)  (HG : Hid (gcs = #[.string cur, .int .i64 y, .int .i64 m, .int .i64 p, .slice cA cl.length cc, .int .i64 ro.investment, .int .i64 ro.goodwill, .int .i64 ro.associates, .int .i64 ro.inventory, .int .i64 ro.reserve, .int .i64 ro.minority, .int .i64 ro.retained, .int .i64 ro.acquired, .int .i64 ro.owners, .int .i64 ro.disposal, .int .i64 ro.associateProfit, .int .i64 ro.dividends, .int .i64 ro.minorityProfit, .int .i64 ro.difference, .int .i64 ro.margin, .slice eA el.length ec])) (hC : CIn w l A)
    (hq : ∀ (x : Int) (W : World), Below w.heap.size w W → Calls Tryz.prog 36 #[.int .i64 x] W (BoolPost (q x) W)) :
    Calls Tryz.prog 35 #[.agg gcs, .slice A l.length c, .int .i64 e, .func (.func 36) #[] #[]] w (IntPost (Dv.sum ro.dividends q l e) w) := by
  have hgi : (Tryz.prog.info? 29).map (·.size) = some gcs.size := by rw [HG.out]; exact grp_size
  have hb : Below w.heap.size w (w.alloc (.cells gcs 29)) := (Below.refl _ _).alloc (Nat.le_refl _) _
  have HB := Lib.hid (Blk.new w 29 gcs)
  have HC := Lib.hid hC
  have HQ := Lib.hid hq
  obtain ⟨hit, hln⟩ := hC.at_ e
  have HIT := Lib.hid hit
  have hlen := hC.len
  have K := Lib.hid (fun W (h : CIn W l A) => cfind_any l e A c W h.rd (by have := h.len; omega))
  clear hC hq hit
  unfold IntPost Dv.sum
  unfold ConPost at K
  generalize conF l e = x at *
  generalize conB l e = xb at *
  obtain ⟨xe, xm, ⟨il, iA, ic⟩⟩ := x
  dsimp only at *
  go_enter Tryz.func35, Tryz.ntmps35
  go_wp2_with (first
    | (go_at_call 62; refine (K.out _ (HC.out.step hb)).mono ?_; rintro en w2 ⟨rfl, hb9⟩; replace hb := bel hb hb9; have HB2 := Lib.hid (HB.out.step hb9); clear hb9)
    | (refine wpList_alloc_put rfl 88 (.tmp 9) (.tmp 18) rfl rfl (ConR.arr ⟨xe, xm, ⟨il, iA, ic⟩⟩) _ rfl rfl 13 cfind_any_size rfl rfl (ConR.arr_one _) ?_; have k11 : (w2.alloc (.cells (ConR.arr ⟨xe, xm, ⟨il, iA, ic⟩⟩) 88)).cell? ⟨w2.heap.size, 11, none⟩ = some (.slice iA il.length ic) := (Blk.new w2 88 _).cell 11; have hb3 := hb.alloc hb.size (.cells (ConR.arr ⟨xe, xm, ⟨il, iA, ic⟩⟩) 88); have HB3 := Lib.hid (HB2.out.alloc (.cells (ConR.arr ⟨xe, xm, ⟨il, iA, ic⟩⟩) 88)); generalize w2.alloc (.cells (ConR.arr ⟨xe, xm, ⟨il, iA, ic⟩⟩) 88) = w3 at *))
  clear k11
  go_loopw [11, 23] (fun n t wr => ∃ k : Nat, k ≤ il.length ∧ n = .int .i64 (itSum (Dv.is ro.dividends q) (il.take k)) ∧ t = .int .i64 k ∧ Blk wr w.heap.size 29 gcs ∧ Below w.heap.size w wr) (fun _ t _ => il.length - (intOf t).toNat)
  case atStart => exact ⟨0, by omega, rfl, rfl, HB3.out, hb3⟩
  case round =>
    clear hb hb3
    obtain ⟨k, hk, rfl, rfl, hB, hb⟩ := hrel
    have hz := hb.size
    have hlB := hB.lt
    have HBr := Lib.hid hB
    clear hB
    by_cases hlt : k < il.length
    · obtain ⟨b, o, hA, hbo, f0, f1, f2, f3, f4, f5, f6⟩ := ItemR.at_ (Rd.now HIT.out hb) hlt
      subst hA
      have HTT := Lib.hid (itSum_take (Dv.is ro.dividends q) il k hlt)
      generalize il[k] = it at *
      obtain ⟨⟨r1, r2⟩, ie, ia, ip, id, im⟩ := it
      dsimp only at *
      have HBn := HBr.out.alloc (.cells #[.int .i64 r1, .int .i64 r2, .int .i64 ie, .int .i64 ia, .int .i64 ip, .int .i64 id, .int .i64 im] 75)
      have HIn := Blk.new wr 75 #[.int .i64 r1, .int .i64 r2, .int .i64 ie, .int .i64 ia, .int .i64 ip, .int .i64 id, .int .i64 im]
      have hbn := hb.alloc hz (.cells #[.int .i64 r1, .int .i64 r2, .int .i64 ie, .int .i64 ia, .int .i64 ip, .int .i64 id, .int .i64 im] 75)
      have k16 : (wr.alloc (.cells #[.int .i64 r1, .int .i64 r2, .int .i64 ie, .int .i64 ia, .int .i64 ip, .int .i64 id, .int .i64 im] 75)).cell? ⟨w.heap.size, 16, none⟩ = some (.int .i64 ro.dividends) := (HBn.cell 16).trans (by rw [HG.out]; rfl)
      have HBN := Lib.hid HBn
      have HIN := Lib.hid HIn
      clear HBn HIn
      generalize itSum (Dv.is ro.dividends q) (il.take k) = s at *
      generalize ro.dividends = dv at *
      cases hc : (ia == dv)
      · have HE : Hid (itSum (Dv.is dv q) (il.take (k + 1)) = s) := Lib.hid (by rw [HTT.out, is_eq (b := false) (by show (ia == dv && q ip) = false; rw [hc]; rfl)]; rfl)
        go_wp2_with fail
        clear k16
        go_roundw
        case rel => exact ⟨k + 1, by omega, by rw [HE.out], by go_num, HBN.out, hbn⟩
        case measure => simp [intOf]; omega
      · have KQ := Lib.hid (fun W h => HQ.out ip W h)
        cases hqq : q ip
        · have HE : Hid (itSum (Dv.is dv q) (il.take (k + 1)) = s) := Lib.hid (by rw [HTT.out, is_eq (b := false) (by show (ia == dv && q ip) = false; rw [hqq, Bool.and_false])]; rfl)
          rw [hqq] at KQ
          clear hqq
          go_wp2_with (go_at_call 36; refine (KQ.out _ hbn).mono ?_; rintro en w5 ⟨rfl, hb9⟩; have hb5 := bel hbn hb9; have HB5 := Lib.hid (HBN.out.step hb9); clear hb9)
          clear k16
          go_roundw
          case rel => exact ⟨k + 1, by omega, by rw [HE.out], by go_num, HB5.out, hb5⟩
          case measure => simp [intOf]; omega
        · have HE : Hid (itSum (Dv.is dv q) (il.take (k + 1)) = wrap64 (s + im)) := Lib.hid (by rw [HTT.out, is_eq (b := true) (by show (ia == dv && q ip) = true; rw [hc, hqq]; rfl)]; rfl)
          rw [hqq] at KQ
          clear hqq
          go_wp2_with (go_at_call 36; refine (KQ.out _ hbn).mono ?_; rintro en w5 ⟨rfl, hb9⟩; have hb5 := bel hbn hb9; have HB5 := Lib.hid (HBN.out.step hb9); have j5 : w5.cell? ⟨wr.heap.size, 5, none⟩ = some (.int .i64 id) := (HIN.out.step hb9).cell 5; have j6 : w5.cell? ⟨wr.heap.size, 6, none⟩ = some (.int .i64 im) := (HIN.out.step hb9).cell 6; clear hb9)
          clear k16 j5 j6
          go_roundw
          case rel => exact ⟨k + 1, by omega, by rw [HE.out], by go_num, HB5.out, hb5⟩
          case measure => simp [intOf]; omega
    · have HE : Hid (itSum (Dv.is ro.dividends q) (il.take k) = itSum (Dv.is ro.dividends q) il) := Lib.hid (by rw [List.take_of_length_le (by omega)])
      rw [HE.out]
      go_wp2_with fail
      go_ret
      exact ⟨rfl, hb⟩
end
end Go.Proofs.YtnkmjdaeafeaaaaGreat
