/- Texts of this claim, put together. -/
import Derived.Test.YtnkmjdaeafeaaaaGreatSamPostZ
import Derived.Test.YtnkmjdaeafeaaaaGreatJAL
/- The walks of the law's own 'small', 'few' and 'both'. -/
namespace Go.Proofs.YtnkmjdaeafeaaaaGreat
set_option linter.unusedVariables false
set_option linter.unusedSimpArgs false
open Go.RowKit

def itSmall (x : ItemR) : Bool := decide (x.amount ≤ 1125899906842624) && decide (-1125899906842624 ≤ x.amount)
theorem itsmall_any (I : List ItemR) (A : Option Addr) (c : Nat) (w : World) (hr : Rd w w.heap.size 7 A I.length (cellsOf ItemR.cells I)) (hn : I.length ≤ maxLen) :
    Calls Tryz.prog 29 #[.slice A I.length c] w (fun e w' => e = .returned (.bool (I.all itSmall)) ∧ w = w') := by
  have HR := Lib.hid hr
  unfold maxLen at hn
  clear hr
  go_enter Tryz.func29, Tryz.ntmps29
  go_wp2_with fail
  go_loopw [6] (fun t wr => ∃ k : Nat, k ≤ I.length ∧ (∀ j (h : j < k) (h1 : j < I.length), itSmall (I[j]'h1) = true) ∧ t = .int .i64 k ∧ w = wr) (fun t _ => I.length - (intOf t).toNat)
  case atStart => exact ⟨0, by omega, fun j h => by omega, rfl, rfl⟩
  case round =>
    obtain ⟨k, hk, hno, rfl, rfl⟩ := hrel
    have HN := Lib.hid hno
    clear hno
    by_cases hlt : k < I.length
    · obtain ⟨x, o, hA, hbo, f0, f1, f2, f3, f4, f5, f6⟩ := ItemR.at_ HR.out hlt
      subst hA
      have HS : Hid (itSmall I[k] = (decide (I[k].amount ≤ 1125899906842624) && decide (-1125899906842624 ≤ I[k].amount))) := Lib.hid rfl
      have HF : Hid (itSmall I[k] = false → I.all itSmall = false) := Lib.hid fun h => by
        rw [List.all_eq_false]
        exact ⟨_, List.getElem_mem hlt, by rw [h]; decide⟩
      clear f0 f1 f2 f3 f4 f5
      by_cases h1 : I[k].amount ≤ 1125899906842624
      · by_cases h2 : -1125899906842624 ≤ I[k].amount
        · have HE : Hid (itSmall I[k] = true) := Lib.hid (by rw [HS.out]; simp [h1, h2])
          go_wp2_with fail
          go_roundw
          case rel =>
            refine ⟨k + 1, by omega, fun j h h1 => ?_, by go_num, trivial⟩
            by_cases e : j = k
            · subst e; exact HE.out
            · exact HN.out j (by omega) h1
          case measure => simp [intOf]; omega
        · have HE : Hid (itSmall I[k] = false) := Lib.hid (by rw [HS.out]; simp [h1]; omega)
          go_wp2_with fail
          go_ret
          exact ⟨by rw [HF.out HE.out]; rfl, rfl⟩
      · have HE : Hid (itSmall I[k] = false) := Lib.hid (by rw [HS.out]; simp [h1])
        go_wp2_with fail
        go_ret
        exact ⟨by rw [HF.out HE.out]; rfl, rfl⟩
    · have HA : Hid (I.all itSmall = true) := Lib.hid (by
        rw [List.all_eq_true]
        intro x hx
        obtain ⟨j, hj, rfl⟩ := List.mem_iff_getElem.1 hx
        exact HN.out j (by omega) hj)
      go_wp2_with fail
      go_ret
      exact ⟨by rw [HA.out]; rfl, rfl⟩
/-- what the law's argument is -/
structure OIn (w : World) (l : List ConR) (A : Option Addr) : Prop where
  rd : Rd w w.heap.size 3 A l.length (cellsOf ConR.own l)
  it : ∀ x ∈ l, Rd w w.heap.size 7 x.items.A x.items.l.length (cellsOf ItemR.cells x.items.l) ∧ x.items.l.length ≤ maxLen
  len : l.length ≤ maxLen
theorem OIn.step {w w2 : World} {l : List ConR} {A : Option Addr} (h : OIn w l A) (hb : Below w.heap.size w w2) : OIn w2 l A :=
  ⟨Rd.now h.rd hb, fun x hx => ⟨Rd.now (h.it x hx).1 hb, (h.it x hx).2⟩, h.len⟩
def conOk (x : ConR) : Bool := decide (x.items.l.length ≤ 40) && x.items.l.all itSmall
structure DFew (cur : ByteArray) (cl : List Acc) (el : List EntR) (l : List ConR) : Prop where
  grp : FewOk cur cl el
  len : l.length ≤ 14
  it : ∀ x ∈ l, conOk x = true
section
variable (cur : ByteArray) (y m p : Int) (cl : List Acc) (cA : Option Addr) (cc : Nat) (ro : RolesR) (el : List EntR) (eA : Option Addr) (ec : Nat) (w : World)
set_option maxRecDepth 100000 in
set_option maxHeartbeats 8000000 in
theorem dfew_any (gcs : Array Value) (l : List ConR) (A : Option Addr) (c : Nat) (HG : Hid (gcs = #[.string cur, .int .i64 y, .int .i64 m, .int .i64 p, .slice cA cl.length cc, .int .i64 ro.investment, .int .i64 ro.goodwill, .int .i64 ro.associates, .int .i64 ro.inventory, .int .i64 ro.reserve, .int .i64 ro.minority, .int .i64 ro.retained, .int .i64 ro.acquired, .int .i64 ro.owners, .int .i64 ro.disposal, .int .i64 ro.associateProfit, .int .i64 ro.dividends, .int .i64 ro.minorityProfit, .int .i64 ro.difference, .int .i64 ro.margin, .slice eA el.length ec])) (h : GIn w cl cA el eA) (hO : OIn w l A) (hc : cur.size ≤ maxLen) (hcl : cl.length ≤ maxLen) (hel : el.length ≤ maxLen) :
    Calls Tryz.prog 9 #[.agg gcs, .slice A l.length c] w (MayPost' (DFew cur cl el l) w) := by
  have hgi : (Tryz.prog.info? 29).map (·.size) = some gcs.size := by rw [HG.out]; exact grp_size
  have H := Lib.hid h
  have HO := Lib.hid hO
  have hll := hO.len
  have K0 := Lib.hid (fun W h => HG.out.symm ▸ few_any cur y m p cl cA cc ro el eA ec W h hc hcl hel)
  clear h hO
  have hb : Below w.heap.size w (w.alloc (.cells gcs 29)) := (Below.refl _ _).alloc (Nat.le_refl _) _
  have HB := Lib.hid (Blk.new w 29 gcs)
  unfold maxLen at hll hc hcl hel
  go_enter Tryz.func9, Tryz.ntmps9
  go_wp2_with fail
  generalize w.alloc (.cells gcs 29) = W at *
  go_loopw [9] (fun t wr => ∃ k : Nat, k ≤ l.length ∧ t = .int .i64 k ∧ (∀ j (h : j < k) (h1 : j < l.length), conOk (l[j]'h1) = true) ∧ Blk wr w.heap.size 29 gcs ∧ Below w.heap.size w wr) (fun t _ => l.length - (intOf t).toNat)
  case atStart => exact ⟨0, by omega, rfl, fun j h => by omega, HB.out, hb⟩
  case round =>
    clear hb HB
    obtain ⟨k, hk, rfl, hno, hB, hb⟩ := hrel
    have HB := Lib.hid hB
    have HN := Lib.hid hno
    have hz := hb.size
    clear hB hno
    by_cases hlt : k < l.length
    · obtain ⟨b, o, hA, hbo, f0, f1, f2⟩ := ConR.own_at (Rd.now HO.out.rd hb) hlt
      subst hA
      have HI := Lib.hid (HO.out.it _ (List.getElem_mem hlt))
      have HNK : Hid (conOk l[k] = true → ∀ j (h : j < k + 1) (h1 : j < l.length), conOk (l[j]'h1) = true) := Lib.hid fun hh j h h1 => by
        by_cases e : j = k
        · subst e; exact hh
        · exact HN.out j (by omega) h1
      generalize l[k] = x at *
      obtain ⟨xe, xm, ⟨il, iA, ic⟩⟩ := x
      dsimp only [Sl.val] at *
      have hil := HI.out.2
      unfold maxLen at hil
      have hb1 : Below w.heap.size w (wr.alloc (.cells #[.int .i64 xe, .int .i64 xm, .slice iA il.length ic] 78)) := hb.alloc hz _
      have HB1 := Lib.hid (HB.out.alloc (.cells #[.int .i64 xe, .int .i64 xm, .slice iA il.length ic] 78))
      by_cases h1 : il.length ≤ 40
      · have KS := Lib.hid (itsmall_any il iA ic (wr.alloc (.cells #[.int .i64 xe, .int .i64 xm, .slice iA il.length ic] 78)) (Rd.now HI.out.1 hb1) (by unfold maxLen; omega))
        cases hs : il.all itSmall
        · rw [hs] at KS
          clear hs
          go_wp2_with (go_at_call 29; refine KS.out.mono ?_; rintro en w5 ⟨rfl, rfl⟩)
          go_ret
          exact ⟨false, rfl, hb1, fun h => by cases h⟩
        · have HOK : Hid (conOk ⟨xe, xm, ⟨il, iA, ic⟩⟩ = true) := Lib.hid (by unfold conOk; simp only [hs]; simp [h1])
          rw [hs] at KS
          clear hs
          go_wp2_with (go_at_call 29; refine KS.out.mono ?_; rintro en w5 ⟨rfl, rfl⟩)
          go_roundw
          case rel => exact ⟨k + 1, by omega, by go_num, HNK.out HOK.out, HB1.out, hb1⟩
          case measure => simp [intOf]; omega
      · have h1' : 40 < il.length := by omega
        go_wp2_with fail
        go_ret
        exact ⟨false, rfl, hb1, fun h => by cases h⟩
    · have HA : Hid (∀ x ∈ l, conOk x = true) := Lib.hid (by
        intro x hx
        obtain ⟨j, hj, rfl⟩ := List.mem_iff_getElem.1 hx
        exact HN.out j (by omega) hj)
      go_upto_region 7 with fail
      by_cases h14 : l.length ≤ 14
      · go_wp2_with (first
          | (refine wpList_load_blk 29 (.tmp 2) rfl (w.heap.size) rfl (by kernel_rfl) (HB).out Tryz.underlying29 hgi ?_)
          | (go_at_call 30; refine (K0.out _ (H.out.step hb)).mono ?_; rintro en w5 ⟨bb, rfl, hb9, hok⟩; have hb5 := bel hb hb9; clear hb9; have HOK := Lib.hid hok; clear hok; cases bb))
        all_goals go_ret
        · exact ⟨false, rfl, hb5, fun h => by cases h⟩
        · exact ⟨_, rfl, hb5, fun _ => ⟨by first | exact HOK.out rfl | exact HOK.out trivial, by omega, HA.out⟩⟩
      · have h14' : 14 < l.length := by omega
        go_wp2_with (first
          | (refine wpList_load_blk 29 (.tmp 2) rfl (w.heap.size) rfl (by kernel_rfl) (HB).out Tryz.underlying29 hgi ?_)
          | (go_at_call 30; refine (K0.out _ (H.out.step hb)).mono ?_; rintro en w5 ⟨bb, rfl, hb9, -⟩; have hb5 := bel hb hb9; clear hb9; cases bb))
        all_goals go_ret
        all_goals exact ⟨_, rfl, hb5, fun h => by first | (cases h; done) | (exfalso; simp at h; omega)⟩
end
end Go.Proofs.YtnkmjdaeafeaaaaGreat
/- The walk of the law's own 'both'. -/
namespace Go.Proofs.YtnkmjdaeafeaaaaGreat
set_option linter.unusedVariables false
set_option linter.unusedSimpArgs false
open Go.RowKit

theorem con_info : (Tryz.prog.info? 88).map (fun i => (i.zero, i.size, i.bytes)) = some (some (.agg zeroCon), 13, 200) := by kernel_rfl
theorem rcon_info : (Tryz.prog.info? 94).map (fun i => (i.zero, i.size, i.bytes)) = some (some (.agg zeroCon), 13, 200) := by kernel_rfl
def BothPost (l : List ConR) (w : World) (e : Ending) (w' : World) : Prop :=
  ∃ v u : Value, e = .returned (.tuple #[v, u]) ∧ w'.ownsRow w.heap.size 88 13 v l.length (cellsOf ConR.cells l) ∧ w'.ownsRow w.heap.size 94 13 u l.length (cellsOf ConR.cells l) ∧ Below w.heap.size w w'
set_option maxRecDepth 100000 in
set_option maxHeartbeats 8000000 in
theorem both_any (l : List ConR) (A : Option Addr) (c : Nat) (w : World) (hO : OIn w l A) (hn : l.length ≤ 1000) :
    Calls Tryz.prog 10 #[.slice A l.length c] w (BothPost l w) := by
  have hb := Below.refl w.heap.size w
  have HO := Lib.hid hO
  obtain ⟨i0, hi, hz0, hz1, hz2⟩ := info_parts con_info
  obtain ⟨j0, hj, hy0, hy1, hy2⟩ := info_parts rcon_info
  clear hO
  go_enter Tryz.func10, Tryz.ntmps10
  go_wp2_with fail
  go_loopw [4, 5, 10] (fun v u t wr => ∃ k : Nat, k ≤ l.length ∧ t = .int .i64 k ∧ wr.ownsRow w.heap.size 88 13 v (l.take k).length (cellsOf ConR.cells (l.take k)) ∧ wr.ownsRow w.heap.size 94 13 u (l.take k).length (cellsOf ConR.cells (l.take k)) ∧ Below w.heap.size w wr) (fun _ _ t _ => l.length - (intOf t).toNat)
  case atStart => exact ⟨0, by omega, rfl, World.ownsRow_nil _ _ _ _, World.ownsRow_nil _ _ _ _, hb⟩
  case round =>
    clear hb
    obtain ⟨k, hk, rfl, ho, ho5, hb⟩ := hrel
    have hz := hb.size
    by_cases hlt : k < l.length
    · obtain ⟨b, o, hA, hbo, f0, f1, f2⟩ := ConR.own_at (Rd.now HO.out.rd hb) hlt
      subst hA
      have HT : Hid (l.take (k + 1) = l.take k ++ [l[k]]) := Lib.hid (List.take_succ_eq_append_getElem hlt)
      have HLK : Hid ((l.take (k + 1)).length = k + 1) := Lib.hid (by rw [List.length_take]; omega)
      have hln : (l.take k).length ≤ 1000 := by rw [List.length_take]; omega
      generalize l[k] = x at *
      obtain ⟨xe, xm, ⟨il, iA, ic⟩⟩ := x
      dsimp only [Sl.val] at *
      have HOV := Lib.hid ho
      have HOU := Lib.hid ho5
      clear ho ho5
      go_wp2_with (at_builtin; refine wpList_append_rec ConR.cells 13 ConR.len ConR.one rfl (.tmp 14) (.tmp 22) 33 rfl w.heap.size 88 i0 (.agg zeroCon) 200 Tryz.underlying33 hi hz0 hz1 hz2 rfl (by decide) _ (l.take k) rfl ((HOV.out.alloc (.cells #[.int .i64 xe, .int .i64 xm, .slice iA il.length ic] 78)).alloc _) (wr.heap.size + 1) 1 ⟨xe, xm, ⟨il, iA, ic⟩⟩ (conCs xe xm (.slice iA il.length ic)) rfl (blk_new2 _ _ _ _) rfl (by simp only [maxLen]; omega) (by omega) (by simp; omega) ?_)
      intro v4 w4 ho4 hg4
      have hb3 : Below w.heap.size w ((wr.alloc (.cells #[.int .i64 xe, .int .i64 xm, .slice iA il.length ic] 78)).alloc (.cells (conCs xe xm (.slice iA il.length ic)) 88)) := (hb.alloc hz _).alloc (by simp; omega) _
      have hb4 := bel_own hb3 (by simp; omega) ((HOV.out.alloc _).alloc _) hg4
      have ho5 := own_apart ((HOU.out.alloc _).alloc _) ((HOV.out.alloc _).alloc _) (by decide) hg4
      have hXB : Blk ((wr.alloc (.cells #[.int .i64 xe, .int .i64 xm, .slice iA il.length ic] 78)).alloc (.cells (conCs xe xm (.slice iA il.length ic)) 88)) wr.heap.size 78 #[.int .i64 xe, .int .i64 xm, .slice iA il.length ic] := (Blk.new _ _ _).alloc _
      have hB4 := hXB.grown hg4 (own_ne_blk ((HOV.out.alloc _).alloc _) hXB (by decide))
      have k0 : w4.cell? ⟨wr.heap.size, 0, none⟩ = some (.int .i64 xe) := hB4.cell 0
      have k1 : w4.cell? ⟨wr.heap.size, 1, none⟩ = some (.int .i64 xm) := hB4.cell 1
      have k2 : w4.cell? ⟨wr.heap.size, 2, none⟩ = some (.slice iA il.length ic) := hB4.cell 2
      have HO4 := Lib.hid ho4
      have HO5 := Lib.hid ho5
      have hz4 := hb4.size
      clear hg4 hb3 ho4 ho5 hB4
      go_wp2_with (at_builtin; refine wpList_append_rec ConR.cells 13 ConR.len ConR.one rfl (.tmp 24) (.tmp 32) 34 rfl w.heap.size 94 j0 (.agg zeroCon) 200 Tryz.underlying34 hj hy0 hy1 hy2 rfl (by decide) _ (l.take k) rfl (HO5.out.alloc _) w4.heap.size 1 ⟨xe, xm, ⟨il, iA, ic⟩⟩ (conCs xe xm (.slice iA il.length ic)) rfl (Blk.new w4 _ _) rfl (by simp only [maxLen]; omega) (by omega) (by simp; omega) ?_)
      intro v6 w6 ho6 hg6
      have hb6 := bel_own (hb4.alloc hz4 _) (by simp; omega) (HO5.out.alloc _) hg6
      have ho7 := own_apart (HO4.out.alloc _) (HO5.out.alloc _) (by decide) hg6
      have HO6 := Lib.hid ho6
      have HO7 := Lib.hid ho7
      clear hg6 k0 k1 k2 ho6 ho7
      go_wp2_with fail
      go_roundw
      case rel => exact ⟨k + 1, by omega, by go_num, by rw [HLK.out, HT.out]; exact HO7.out, by rw [HLK.out, HT.out]; exact HO6.out, hb6⟩
      case measure => simp [intOf]; omega
    · have HE : Hid (l.take k = l) := Lib.hid (List.take_of_length_le (by omega))
      rw [HE.out] at ho ho5
      go_wp2_with fail
      go_ret2
      exact ⟨_, _, rfl, ho, ho5, hb⟩
end Go.Proofs.YtnkmjdaeafeaaaaGreat
