/- Texts of this claim, put together. -/
import Derived.Test.YthfbpbbepogllaaJBC
import Derived.Test.YthfbpbbepogllaaJBD
import Derived.Test.YthfbpbbepogllaaInvLawsZ
import Derived.Test.YthfbpbbepogllaaApiZ
/- The walk of InventorySums. -/
namespace Go.Proofs.Ythfbpbbepogllaa
set_option linter.unusedVariables false
set_option linter.unusedSimpArgs false
open Go.RowKit

def zeroSkS : Value := .agg #[.int .i64 0, .int .i64 0, .int .i64 0, .int .i64 0, .int .i64 0]
section
variable (cur : ByteArray) (y m p : Int) (cl : List Acc) (cA : Option Addr) (cc : Nat) (ro : RolesR) (el : List EntR) (eA : Option Addr) (ec : Nat) (w : World)
set_option maxRecDepth 100000 in
set_option maxHeartbeats 16000000 in
theorem law_InventorySums (l : List StkR) (A : Option Addr) (c : Nat) (i k q : Int) (h : GIn w cl cA el eA) (hc : cur.size ≤ maxLen) (hcl : cl.length ≤ maxLen) (hel : el.length ≤ maxLen) (hr : Rd w w.heap.size 5 A l.length (cellsOf StkR.cells l)) (hl : l.length ≤ maxLen) (hwi : Wf i) (hwk : Wf k) :
    Calls Try.prog 3 #[.agg #[.string cur, .int .i64 y, .int .i64 m, .int .i64 p, .slice cA cl.length cc, .int .i64 ro.investment, .int .i64 ro.goodwill, .int .i64 ro.associates, .int .i64 ro.inventory, .int .i64 ro.reserve, .int .i64 ro.minority, .int .i64 ro.retained, .int .i64 ro.acquired, .int .i64 ro.owners, .int .i64 ro.disposal, .int .i64 ro.associateProfit, .int .i64 ro.dividends, .int .i64 ro.minorityProfit, .int .i64 ro.difference, .int .i64 ro.margin, .slice eA el.length ec], .slice A l.length c, .agg #[.int .i64 i, .int .i64 k, .int .i64 q]] w fun e w' => e = .returned (.bool true) ∧ Below w.heap.size w w' := by
  have H := Lib.hid h
  have HR := Lib.hid hr
  clear h hr
  obtain ⟨gcs, hgc⟩ : ∃ x : Array Value, x = #[.string cur, .int .i64 y, .int .i64 m, .int .i64 p, .slice cA cl.length cc, .int .i64 ro.investment, .int .i64 ro.goodwill, .int .i64 ro.associates, .int .i64 ro.inventory, .int .i64 ro.reserve, .int .i64 ro.minority, .int .i64 ro.retained, .int .i64 ro.acquired, .int .i64 ro.owners, .int .i64 ro.disposal, .int .i64 ro.associateProfit, .int .i64 ro.dividends, .int .i64 ro.minorityProfit, .int .i64 ro.difference, .int .i64 ro.margin, .slice eA el.length ec] := ⟨_, rfl⟩
  have hgi : (Try.prog.info? 29).map (·.size) = some gcs.size := by rw [hgc]; exact grp_size
  have HG := Lib.hid hgc
  rw [← hgc]
  clear hgc
  have HBT := Lib.hid (bkS_built HG.out A l.length c)
  have HBS := Lib.hid (bkS_is (v := .slice A l.length c) (gsz21 HG.out))
  have K0 := Lib.hid (fun W h => ifew_any gcs (bkS gcs (.slice A l.length c)) cur y m p cl cA cc ro el eA ec W A none l.length c 0 0 HG HBS.out h hc hcl hel hl (by unfold maxLen; omega))
  clear hcl hel hc
  have hb : Below w.heap.size w ((w.alloc (.cells gcs 29)).alloc (.cells #[.int .i64 i, .int .i64 k, .int .i64 q] 32)) := ((Below.refl _ _).alloc (Nat.le_refl _) _).alloc (by simp) _
  have HB := Lib.hid ((Blk.new w 29 gcs).alloc (.cells #[.int .i64 i, .int .i64 k, .int .i64 q] 32))
  have HT := Lib.hid (blk_new2 w (.cells gcs 29) 32 #[.int .i64 i, .int .i64 k, .int .i64 q])
  go_enter Try.func3, Try.ntmps3
  go_wp2_with fail
  generalize (w.alloc (.cells gcs 29)).alloc (.cells #[.int .i64 i, .int .i64 k, .int .i64 q] 32) = W at *
  refine (inv_awake _).mono ?_
  rintro e w2 ⟨rfl, hb9⟩
  replace hb := bel hb hb9
  replace HB := Lib.hid (HB.out.step hb9)
  replace HT := Lib.hid (HT.out.step hb9)
  clear hb9
  go_wp2_with (first
    | (refine wpList_load_blk 29 (.tmp 3) rfl (w.heap.size) rfl (by kernel_rfl) (HB).out Try.underlying29 hgi ?_)
    | (refine wpList_builtG rfl 21 rfl 40 _ rfl (bkS gcs (.slice A l.length c)) [(0, .agg gcs), (5, .slice A l.length c)] (by kernel_rfl) HBT.out ?_))
  refine (K0.out _ (H.out.step hb)).mono ?_
  rintro e w3 ⟨b, rfl, hb9, hok⟩
  replace hb := bel hb hb9
  replace HB := Lib.hid (HB.out.step hb9)
  replace HT := Lib.hid (HT.out.step hb9)
  clear hb9 K0
  cases b
  · clear hok
    go_wp2_with (go_at_call 5; refine (inv_awake _).mono ?_; rintro e w4 ⟨rfl, hb9⟩; replace hb := bel hb hb9; clear hb9)
    go_ret
    exact ⟨rfl, hb⟩
  · have OK := Lib.hid (hok rfl)
    clear hok
    have hln := OK.out.2.1
    have HS : Hid (∀ W, Below w.heap.size w W → SIn W l A) := Lib.hid (fun W hW => ⟨Rd.now HR.out hW, by omega⟩)
    have KU := Lib.hid (fun W l' A' c' h hS => iunreal_any gcs cur y m p cl cA cc ro el eA ec W l' A' c' i k q HG h OK.out.1 hS hwi hwk)
    have HSUM := Lib.hid (fun od ev => Iv.sums (V := Gr.gv cur cl ro el (Cal.ok y m p)) (q := q) (p := p) (n := el.length) (l := l) (od := od) (ev := ev) (a := i) (b := k))
    have HZ : Hid (Iv.unE (Gr.gv cur cl ro el (Cal.ok y m p)) q p el.length l i k ≠ 0 → Iv.unN (Gr.gv cur cl ro el (Cal.ok y m p)) q p el.length l i k = 0) := Lib.hid (fun h => by unfold Iv.unN; rw [if_neg h])
    obtain ⟨fN, hfN⟩ : ∃ f : List StkR → Int, f = fun l' => Iv.unN (Gr.gv cur cl ro el (Cal.ok y m p)) q p el.length l' i k := ⟨_, rfl⟩
    obtain ⟨fE, hfE⟩ : ∃ f : List StkR → Int, f = fun l' => Iv.unE (Gr.gv cur cl ro el (Cal.ok y m p)) q p el.length l' i k := ⟨_, rfl⟩
    have hN : ∀ l', Iv.unN (Gr.gv cur cl ro el (Cal.ok y m p)) q p el.length l' i k = fN l' := fun l' => by rw [hfN]
    have hE : ∀ l', Iv.unE (Gr.gv cur cl ro el (Cal.ok y m p)) q p el.length l' i k = fE l' := fun l' => by rw [hfE]
    unfold NumPost at KU
    simp only [hN, hE] at KU HSUM HZ
    clear hN hE hfN hfE hwi hwk
    obtain ⟨i0, hi0, hz0, hz1, hz2⟩ := info_parts StockR.info
    go_wp2_with fail
    go_loopw [7, 8, 28] (fun vo ve t wr => ∃ (j : Nat) (od ev : List StkR), j ≤ l.length ∧ t = .int .i64 j ∧ wr.ownsRow w.heap.size 42 5 vo od.length (cellsOf StkR.cells od) ∧ wr.ownsRow w.heap.size 42 5 ve ev.length (cellsOf StkR.cells ev) ∧ Apart vo ve ∧ (od ++ ev).Perm (l.take j) ∧ Blk wr w.heap.size 29 gcs ∧ Blk wr (w.heap.size + 1) 32 #[.int .i64 i, .int .i64 k, .int .i64 q] ∧ Below w.heap.size w wr) (fun _ _ t _ => l.length - (intOf t).toNat)
    case atStart => exact ⟨0, [], [], by omega, rfl, World.ownsRow_nil _ _ _ _, World.ownsRow_nil _ _ _ _, apart_nil _, List.Perm.refl _, HB.out, HT.out, hb⟩
    case round =>
      clear hb HB HT
      obtain ⟨j, od, ev, hj, rfl, ho1, ho2, hap, hpm, hB, hT, hb⟩ := hrel
      have HO1 := Lib.hid ho1
      have HO2 := Lib.hid ho2
      have HAP := Lib.hid hap
      have HPM := Lib.hid hpm
      have HB := Lib.hid hB
      have HT := Lib.hid hT
      have hlen := hpm.length_eq
      rw [List.length_append, List.length_take] at hlen
      have hod : od.length ≤ 1000 := by omega
      have hev : ev.length ≤ 1000 := by omega
      have hz := hb.size
      clear ho1 ho2 hap hpm hB hT hlen
      by_cases hlt : j < l.length
      · obtain ⟨b0, o, hA, hbo, f0, f1, f2, f3, f4⟩ := StkR.at_ (Rd.now HR.out hb) hlt
        subst hA
        obtain ⟨x, hx⟩ : ∃ x, l[j] = x := ⟨_, rfl⟩
        have HX := Lib.hid hx
        rw [hx] at f0 f1 f2 f3 f4
        clear hx
        obtain ⟨se, ss, sb, sam, smg⟩ := x
        dsimp only at *
        have hbn := hb.alloc hz (.cells #[.int .i64 se, .int .i64 ss, .int .i64 sb, .int .i64 sam, .int .i64 smg] 42)
        by_cases h2 : j % 2 = 0
        · have hr0 : ((j : Int)).tmod 2 = 0 := by rw [Int.tmod_eq_emod_of_nonneg (by omega)]; omega
          have hr1 : ((j : Int) % 2 == 0) = true := by simp; omega
          have HPL := Lib.hid (Iv.perm_right HPM.out hlt HX.out)
          clear h2
          go_wp2_with (at_builtin; refine wpList_append_where StkR.cells 5 StkR.len StkR.one (.tmp 34) (.tmp 39) 30 rfl w.heap.size 42 i0 zeroSkS 40 Try.underlying30 hi0 hz0 hz1 hz2 rfl (by decide) _ ev rfl (HO2.out.alloc _) wr.heap.size 1 ⟨se, ss, sb, sam, smg⟩ #[.int .i64 se, .int .i64 ss, .int .i64 sb, .int .i64 sam, .int .i64 smg] rfl (Blk.new wr _ _) rfl (by simp only [maxLen]; omega) (by omega) (by simp; omega) rfl ?_)
          intro v1 w1 ho hg hk
          have hk2 := fun kk h => (hk kk h).imp id (fun h1 => show wr.heap.size ≤ kk by (try simp at h1); omega)
          have hbb := bel_own hbn (by simp; omega) (HO2.out.alloc _) hg
          have HN := Lib.hid ho
          have HKo := Lib.hid ((HO1.out.alloc _).kept hg HAP.out.flip.ne)
          have HAn := Lib.hid (HAP.out.flip.step HO1.out hk2).flip
          have HBn := Lib.hid ((HB.out.alloc _).grown hg (own_ne_blk HO2.out HB.out (by decide)))
          have HTn := Lib.hid ((HT.out.alloc _).grown hg (own_ne_blk HO2.out HT.out (by decide)))
          clear ho hg hk hr0 hr1 f0 f1 f2 f3 f4
          go_wp2_with fail
          go_roundw
          case rel => exact ⟨j + 1, od, ev ++ [⟨se, ss, sb, sam, smg⟩], by omega, by go_num, HKo.out, by rw [List.length_append]; exact HN.out, HAn.out, HPL.out, HBn.out, HTn.out, hbb⟩
          case measure => simp [intOf]; omega
        · have hr0 : ((j : Int)).tmod 2 = 1 := by rw [Int.tmod_eq_emod_of_nonneg (by omega)]; omega
          have hr1 : ((j : Int) % 2 == 0) = false := by simp; omega
          have HPL := Lib.hid (Iv.perm_left HPM.out hlt HX.out)
          clear h2
          go_wp2_with (at_builtin; refine wpList_append_where StkR.cells 5 StkR.len StkR.one (.tmp 41) (.tmp 46) 30 rfl w.heap.size 42 i0 zeroSkS 40 Try.underlying30 hi0 hz0 hz1 hz2 rfl (by decide) _ od rfl (HO1.out.alloc _) wr.heap.size 1 ⟨se, ss, sb, sam, smg⟩ #[.int .i64 se, .int .i64 ss, .int .i64 sb, .int .i64 sam, .int .i64 smg] rfl (Blk.new wr _ _) rfl (by simp only [maxLen]; omega) (by omega) (by simp; omega) rfl ?_)
          intro v1 w1 ho hg hk
          have hk2 := fun kk h => (hk kk h).imp id (fun h1 => show wr.heap.size ≤ kk by (try simp at h1); omega)
          have hbb := bel_own hbn (by simp; omega) (HO1.out.alloc _) hg
          have HN := Lib.hid ho
          have HKo := Lib.hid ((HO2.out.alloc _).kept hg HAP.out.ne)
          have HAn := Lib.hid (HAP.out.step HO2.out hk2)
          have HBn := Lib.hid ((HB.out.alloc _).grown hg (own_ne_blk HO1.out HB.out (by decide)))
          have HTn := Lib.hid ((HT.out.alloc _).grown hg (own_ne_blk HO1.out HT.out (by decide)))
          clear ho hg hk hr0 hr1 f0 f1 f2 f3 f4
          go_wp2_with fail
          go_roundw
          case rel => exact ⟨j + 1, od ++ [⟨se, ss, sb, sam, smg⟩], ev, by omega, by go_num, by rw [List.length_append]; exact HN.out, HKo.out, HAn.out, HPL.out, HBn.out, HTn.out, hbb⟩
          case measure => simp [intOf]; omega
      · have hpl : (od ++ ev).Perm l := by have h := HPM.out; rw [List.take_of_length_le (by omega)] at h; exact h
        have HSM := Lib.hid (HSUM.out od ev hpl)
        clear hpl HPM HSUM
        obtain ⟨A1, c1, hv1, hr1⟩ := Rd.of_own HO1.out
        obtain ⟨A2, c2, hv2, hr2⟩ := Rd.of_own HO2.out
        subst hv1 hv2
        have HS1 : Hid (∀ W, Below wr.heap.size wr W → SIn W od A1) := Lib.hid (fun W hW => ⟨Rd.now hr1 hW, by omega⟩)
        have HS2 : Hid (∀ W, Below wr.heap.size wr W → SIn W ev A2) := Lib.hid (fun W hW => ⟨Rd.now hr2 hW, by omega⟩)
        clear hr1 hr2
        have t0 : wr.cell? ⟨w.heap.size + 1, 0, none⟩ = some (.int .i64 i) := HT.out.cell 0
        have t1 : wr.cell? ⟨w.heap.size + 1, 1, none⟩ = some (.int .i64 k) := HT.out.cell 1
        have t2 : wr.cell? ⟨w.heap.size + 1, 2, none⟩ = some (.int .i64 q) := HT.out.cell 2
        go_upto_region 12 with (first
          | (refine wpList_load_blk 29 (.tmp 3) rfl (w.heap.size) rfl (by kernel_rfl) (HB).out Try.underlying29 hgi ?_)
          | (go_at_call 7; refine (KU.out _ _ _ _ (H.out.step hb) (HS.out _ hb)).mono ?_; rintro e w4 ⟨rfl, hb9⟩; have hb4 := bel hb hb9; have hs4 := hb9; have HB4 := Lib.hid (HB.out.step hb9); have HT4 := Lib.hid (HT.out.step hb9); clear hb9))
        clear t0 t1 t2
        have t0 : w4.cell? ⟨w.heap.size + 1, 0, none⟩ = some (.int .i64 i) := HT4.out.cell 0
        have t1 : w4.cell? ⟨w.heap.size + 1, 1, none⟩ = some (.int .i64 k) := HT4.out.cell 1
        have t2 : w4.cell? ⟨w.heap.size + 1, 2, none⟩ = some (.int .i64 q) := HT4.out.cell 2
        go_upto_region 13 with (first
          | (refine wpList_load_blk 29 (.tmp 3) rfl (w.heap.size) rfl (by kernel_rfl) (HB4).out Try.underlying29 hgi ?_)
          | (go_at_call 7; refine (KU.out _ _ _ _ (H.out.step hb4) (HS1.out _ hs4)).mono ?_; rintro e w5 ⟨rfl, hb9⟩; have hb5 := bel hb4 hb9; have hs5 := bel hs4 hb9; have HB5 := Lib.hid (HB4.out.step hb9); have HT5 := Lib.hid (HT4.out.step hb9); clear hb9))
        clear t0 t1 t2
        have t0 : w5.cell? ⟨w.heap.size + 1, 0, none⟩ = some (.int .i64 i) := HT5.out.cell 0
        have t1 : w5.cell? ⟨w.heap.size + 1, 1, none⟩ = some (.int .i64 k) := HT5.out.cell 1
        have t2 : w5.cell? ⟨w.heap.size + 1, 2, none⟩ = some (.int .i64 q) := HT5.out.cell 2
        go_upto_region 14 with (first
          | (refine wpList_load_blk 29 (.tmp 3) rfl (w.heap.size) rfl (by kernel_rfl) (HB5).out Try.underlying29 hgi ?_)
          | (go_at_call 7; refine (KU.out _ _ _ _ (H.out.step hb5) (HS2.out _ hs5)).mono ?_; rintro e w6 ⟨rfl, hb9⟩; have hb6 := bel hb5 hb9; clear hb9))
        clear t0 t1 t2
        cases hE : (fE l != 0)
        · have hE0 : fE l = 0 := by simpa using hE
          obtain ⟨k1, k2, k3, k4, k5, k6⟩ := HSM.out hE0
          have n1 : (fE od == 0) = true := by rw [k1]; rfl
          have n2 : (fE ev == 0) = true := by rw [k2]; rfl
          have hwr : IntKind.i64.wrap (fN od + fN ev) = fN od + fN ev := IntWalk.i64_in _ (by omega)
          have n3 : (fN l == fN od + fN ev) = true := by rw [k3]; simp
          clear k1 k2 k3 k4 k5 k6 hE0
          go_wp2_with fail
          go_ret
          exact ⟨rfl, hb6⟩
        · have hE0 : fE l ≠ 0 := by simpa using hE
          have hz0 : (fN l == 0) = true := by rw [HZ.out hE0]; rfl
          clear hE0
          go_wp2_with fail
          go_ret
          exact ⟨rfl, hb6⟩
end
end Go.Proofs.Ythfbpbbepogllaa
/- How the laws' arguments are opened: notes, books, methods. -/
namespace Go.Proofs.Ythfbpbbepogllaa
set_option linter.unusedVariables false
set_option linter.unusedSimpArgs false
open Go.RowKit Go.WideShapes Go.ChangeShapes

variable {H : Type} {enc : TypeId × Value → H} {w : World} {base : Nat} {spare : Nat → Bool} {held : Bool}
theorem opens_StkR : Opens enc Try.prog w base spare held 42 StkR.cells (StkR.Ok w) :=
  opens_StockR.map (fun p => (⟨p.period, p.seller, p.buyer, p.amount, p.margin⟩ : StkR)) (fun _ => rfl) (fun _ h => h)
def stkOf (x : StockR) : StkR := ⟨x.period, x.seller, x.buyer, x.amount, x.margin⟩
theorem stk_cells : ∀ l0 : List StockR, cellsOf StockR.cells l0 = cellsOf StkR.cells (l0.map stkOf)
  | [] => rfl
  | x :: r => by
    show StockR.cells x ++ cellsOf StockR.cells r = StkR.cells (stkOf x) ++ cellsOf StkR.cells (r.map stkOf)
    rw [stk_cells r]
    rfl
theorem stk_of (l0 : List StockR) : ∃ l : List StkR, l0.length = l.length ∧ cellsOf StockR.cells l0 = cellsOf StkR.cells l :=
  ⟨l0.map stkOf, by simp, stk_cells l0⟩
theorem opens_icellM : Opens enc Try.prog w base spare held 3 icellM (fun z => (Lit.int .i64 z).wf = true) := opens_int Try.underlying3
theorem bk_st {cur : ByteArray} {y m p : Int} {cl : List Acc} {cA : Option Addr} {cc : Nat} {ro : RolesR} {el : List EntR} {eA : Option Addr} {ec : Nat} {b1 : Sl EntryR} {b2 : Sl RateR} {b3 : Sl HoldR} {b4 : Sl MatchR} {l0 : List StockR} {sA : Option Addr} {sc : Nat} {b6 : ByteArray} {n : Nat} (hn : l0.length = n) :
    BkSt (BooksR.cells ⟨⟨cur, ⟨y, m, p⟩, ⟨cl, cA, cc⟩, ro, ⟨el, eA, ec⟩⟩, b1, b2, b3, b4, ⟨l0, sA, sc⟩, b6⟩).toArray #[.string cur, .int .i64 y, .int .i64 m, .int .i64 p, .slice cA cl.length cc, .int .i64 ro.investment, .int .i64 ro.goodwill, .int .i64 ro.associates, .int .i64 ro.inventory, .int .i64 ro.reserve, .int .i64 ro.minority, .int .i64 ro.retained, .int .i64 ro.acquired, .int .i64 ro.owners, .int .i64 ro.disposal, .int .i64 ro.associateProfit, .int .i64 ro.dividends, .int .i64 ro.minorityProfit, .int .i64 ro.difference, .int .i64 ro.margin, .slice eA el.length ec] (.slice sA n sc) := by
  subst hn
  refine ⟨⟨rfl, rfl, fun j hj => ?_⟩, rfl⟩
  have e : (BooksR.cells ⟨⟨cur, ⟨y, m, p⟩, ⟨cl, cA, cc⟩, ro, ⟨el, eA, ec⟩⟩, b1, b2, b3, b4, ⟨l0, sA, sc⟩, b6⟩) = (#[.string cur, .int .i64 y, .int .i64 m, .int .i64 p, .slice cA cl.length cc, .int .i64 ro.investment, .int .i64 ro.goodwill, .int .i64 ro.associates, .int .i64 ro.inventory, .int .i64 ro.reserve, .int .i64 ro.minority, .int .i64 ro.retained, .int .i64 ro.acquired, .int .i64 ro.owners, .int .i64 ro.disposal, .int .i64 ro.associateProfit, .int .i64 ro.dividends, .int .i64 ro.minorityProfit, .int .i64 ro.difference, .int .i64 ro.margin, .slice eA el.length ec] : Array Value).toList ++ [b1.val, b2.val, b3.val, b4.val, .slice sA l0.length sc, .string b6] := rfl
  rw [e, List.getElem?_toArray, List.getElem?_append_left hj, Array.getElem?_toList]
end Go.Proofs.Ythfbpbbepogllaa
