/- Texts of this claim, put together. -/
import Derived.Test.YthfbpbbepogllaaGreatJBA
import Derived.Test.YthfbpbbepogllaaGreatInvLawsZ
import Derived.Test.YthfbpbbepogllaaGreatApiZ
import Derived.Test.YthfbpbbepogllaaGreatJAA
import Derived.ProofKit
import Derived.OpenShut
import Derived.ChangeSame
/- The walk of InventoryValid. -/
namespace Go.Proofs.YthfbpbbepogllaaGreat
set_option linter.unusedVariables false
set_option linter.unusedSimpArgs false
open Go.RowKit

section
variable (cur : ByteArray) (y m p : Int) (cl : List Acc) (cA : Option Addr) (cc : Nat) (ro : RolesR) (el : List EntR) (eA : Option Addr) (ec : Nat) (w : World)
set_option maxRecDepth 100000 in
set_option maxHeartbeats 16000000 in
theorem law_InventoryValid (l : List StkR) (A : Option Addr) (c : Nat) (i k q : Int) (h : GIn w cl cA el eA) (hc : cur.size ≤ maxLen) (hcl : cl.length ≤ maxLen) (hel : el.length ≤ maxLen) (hr : Rd w w.heap.size 5 A l.length (cellsOf StkR.cells l)) (hl : l.length ≤ maxLen) (hwi : Wf i) (hwk : Wf k) :
    Calls Tryz.prog 6 #[.agg #[.string cur, .int .i64 y, .int .i64 m, .int .i64 p, .slice cA cl.length cc, .int .i64 ro.investment, .int .i64 ro.goodwill, .int .i64 ro.associates, .int .i64 ro.inventory, .int .i64 ro.reserve, .int .i64 ro.minority, .int .i64 ro.retained, .int .i64 ro.acquired, .int .i64 ro.owners, .int .i64 ro.disposal, .int .i64 ro.associateProfit, .int .i64 ro.dividends, .int .i64 ro.minorityProfit, .int .i64 ro.difference, .int .i64 ro.margin, .slice eA el.length ec], .slice A l.length c, .agg #[.int .i64 i, .int .i64 k, .int .i64 q]] w fun e w' => e = .returned (.bool true) ∧ Below w.heap.size w w' := by
  have H := Lib.hid h
  have HR := Lib.hid hr
  clear h hr
  obtain ⟨gcs, hgc⟩ : ∃ x : Array Value, x = #[.string cur, .int .i64 y, .int .i64 m, .int .i64 p, .slice cA cl.length cc, .int .i64 ro.investment, .int .i64 ro.goodwill, .int .i64 ro.associates, .int .i64 ro.inventory, .int .i64 ro.reserve, .int .i64 ro.minority, .int .i64 ro.retained, .int .i64 ro.acquired, .int .i64 ro.owners, .int .i64 ro.disposal, .int .i64 ro.associateProfit, .int .i64 ro.dividends, .int .i64 ro.minorityProfit, .int .i64 ro.difference, .int .i64 ro.margin, .slice eA el.length ec] := ⟨_, rfl⟩
  have hgi : (Tryz.prog.info? 29).map (·.size) = some gcs.size := by rw [hgc]; exact grp_size
  have HG := Lib.hid hgc
  rw [← hgc]
  clear hgc
  have HBT := Lib.hid (bkS_built HG.out A l.length c)
  have HBS := Lib.hid (bkS_is (v := .slice A l.length c) (gsz21 HG.out))
  have K0 := Lib.hid (fun W h => ifew_any gcs (bkS gcs (.slice A l.length c)) cur y m p cl cA cc ro el eA ec W A none l.length c 0 0 HG HBS.out h hc hcl hel hl (by unfold maxLen; omega))
  clear hcl hel hc
  have hb : Below w.heap.size w ((w.alloc (.cells gcs 29)).alloc (.cells #[.int .i64 i, .int .i64 k, .int .i64 q] 39)) := ((Below.refl _ _).alloc (Nat.le_refl _) _).alloc (by simp) _
  have HB := Lib.hid ((Blk.new w 29 gcs).alloc (.cells #[.int .i64 i, .int .i64 k, .int .i64 q] 39))
  have HT := Lib.hid (blk_new2 w (.cells gcs 29) 39 #[.int .i64 i, .int .i64 k, .int .i64 q])
  go_enter Tryz.func6, Tryz.ntmps6
  go_wp2_with fail
  generalize (w.alloc (.cells gcs 29)).alloc (.cells #[.int .i64 i, .int .i64 k, .int .i64 q] 39) = W at *
  refine (inv_awake _).mono ?_
  rintro e w2 ⟨rfl, hb9⟩
  replace hb := bel hb hb9
  replace HB := Lib.hid (HB.out.step hb9)
  replace HT := Lib.hid (HT.out.step hb9)
  clear hb9
  go_wp2_with (first
    | (refine wpList_load_blk 29 (.tmp 3) rfl (w.heap.size) rfl (by kernel_rfl) (HB).out Tryz.underlying29 hgi ?_)
    | (refine wpList_builtG rfl 16 rfl 36 _ rfl (bkS gcs (.slice A l.length c)) [(0, .agg gcs), (5, .slice A l.length c)] (by kernel_rfl) HBT.out ?_))
  refine (K0.out _ (H.out.step hb)).mono ?_
  rintro e w3 ⟨b, rfl, hb9, hok⟩
  replace hb := bel hb hb9
  replace HB := Lib.hid (HB.out.step hb9)
  replace HT := Lib.hid (HT.out.step hb9)
  clear hb9 K0
  cases b
  · clear hok
    go_wp2_with (go_at_call 10; refine (inv_awake _).mono ?_; rintro e w4 ⟨rfl, hb9⟩; replace hb := bel hb hb9; clear hb9)
    go_ret
    exact ⟨rfl, hb⟩
  · have OK := Lib.hid (hok rfl)
    clear hok
    have hln := OK.out.2.1
    have HS : Hid (∀ W, Below w.heap.size w W → SIn W l A) := Lib.hid (fun W hW => ⟨Rd.now HR.out hW, by omega⟩)
    have KU := Lib.hid (fun W h hS => iunreal_any gcs cur y m p cl cA cc ro el eA ec W l A c i k q HG h OK.out.1 hS hwi hwk)
    have KR := Lib.hid (fun W h hS => riunreal_any gcs cur y m p cl cA cc ro el eA ec W l A c i k q HG h OK.out.1 hS)
    have KV := Lib.hid (fun W h hS => ivalid_any gcs cur y m p cl cA cc ro el eA ec W l A c HG h OK.out.1 hS)
    have KX := Lib.hid (fun W h hS => rivalid_any gcs cur y m p cl cA cc ro el eA ec W l A c HG h OK.out.1 hS)
    unfold NumPost at KU KR
    unfold BoolPost at KV KX
    generalize Iv.unN (Gr.gv cur cl ro el (Cal.ok y m p)) q p el.length l i k = N at *
    generalize Iv.unE (Gr.gv cur cl ro el (Cal.ok y m p)) q p el.length l i k = E at *
    generalize Iv.val (Gr.gv cur cl ro el (Cal.ok y m p)) p el.length l = V at *
    clear hln hwi hwk
    have t0 : w3.cell? ⟨w.heap.size + 1, 0, none⟩ = some (.int .i64 i) := HT.out.cell 0
    have t1 : w3.cell? ⟨w.heap.size + 1, 1, none⟩ = some (.int .i64 k) := HT.out.cell 1
    have t2 : w3.cell? ⟨w.heap.size + 1, 2, none⟩ = some (.int .i64 q) := HT.out.cell 2
    have n1 : (N == N) = true := by simp
    have n2 : (E == E) = true := by simp
    have n3 : (V == V) = true := by simp
    go_upto_region 5 with (first
      | (refine wpList_load_blk 29 (.tmp 3) rfl (w.heap.size) rfl (by kernel_rfl) (HB).out Tryz.underlying29 hgi ?_)
      | (go_at_call 19; refine (KU.out _ (H.out.step hb) (HS.out _ hb)).mono ?_; rintro e w4 ⟨rfl, hb9⟩; have hb4 := bel hb hb9; clear t0 t1 t2; have HB4 := Lib.hid (HB.out.step hb9); have HT4 := Lib.hid (HT.out.step hb9); clear hb9; have t0 : w4.cell? ⟨w.heap.size + 1, 0, none⟩ = some (.int .i64 i) := HT4.out.cell 0; have t1 : w4.cell? ⟨w.heap.size + 1, 1, none⟩ = some (.int .i64 k) := HT4.out.cell 1; have t2 : w4.cell? ⟨w.heap.size + 1, 2, none⟩ = some (.int .i64 q) := HT4.out.cell 2)
      | (refine wpList_load_blk 29 (.tmp 3) rfl (w.heap.size) rfl (by kernel_rfl) (HB4).out Tryz.underlying29 hgi ?_)
      | (go_at_call 20; refine (KR.out _ (H.out.step hb4) (HS.out _ hb4)).mono ?_; rintro e w5 ⟨rfl, hb9⟩; have hb5 := bel hb4 hb9; have HB5 := Lib.hid (HB4.out.step hb9); clear hb9))
    clear t0 t1 t2
    go_wp2_with fail
    refine rel_begin (n := 18) (w5) (by kernel_rfl) rfl ?_; have hC := Near.drew (w5)
    (first | (refine rel_want (i := 0) rfl rfl (by kernel_rfl) (by kernel_rfl) (by kernel_rfl) rfl (fun _ _ _ _ h => h) hC ?_; intro K hK; go_big_quiet_op; go_big_quiet_on) | (refine rel_skip (i := 0) rfl (by kernel_rfl) (by kernel_rfl) (by kernel_rfl) rfl (fun _ _ _ _ h => h) hC ?_; simp only [Act.put, List.setIfInBounds_toArray, List.set_cons_zero, List.set_cons_succ])); (first | (refine rel_want (i := 1) rfl rfl (by kernel_rfl) (by kernel_rfl) (by kernel_rfl) rfl (fun _ _ _ _ h => h) hC ?_; intro K hK; go_big_quiet_op; go_big_quiet_on) | (refine rel_skip (i := 1) rfl (by kernel_rfl) (by kernel_rfl) (by kernel_rfl) rfl (fun _ _ _ _ h => h) hC ?_; simp only [Act.put, List.setIfInBounds_toArray, List.set_cons_zero, List.set_cons_succ])); (first | (refine rel_want (i := 2) rfl rfl (by kernel_rfl) (by kernel_rfl) (by kernel_rfl) rfl (fun _ _ _ _ h => h) hC ?_; intro K hK; go_big_quiet_op; go_big_quiet_on) | (refine rel_skip (i := 2) rfl (by kernel_rfl) (by kernel_rfl) (by kernel_rfl) rfl (fun _ _ _ _ h => h) hC ?_; simp only [Act.put, List.setIfInBounds_toArray, List.set_cons_zero, List.set_cons_succ])); (first | (refine rel_want (i := 3) rfl rfl (by kernel_rfl) (by kernel_rfl) (by kernel_rfl) rfl (fun _ _ _ _ h => h) hC ?_; intro K hK; go_big_quiet_op; go_big_quiet_on) | (refine rel_skip (i := 3) rfl (by kernel_rfl) (by kernel_rfl) (by kernel_rfl) rfl (fun _ _ _ _ h => h) hC ?_; simp only [Act.put, List.setIfInBounds_toArray, List.set_cons_zero, List.set_cons_succ])); (first | (refine rel_want (i := 4) rfl rfl (by kernel_rfl) (by kernel_rfl) (by kernel_rfl) rfl (fun _ _ _ _ h => h) hC ?_; intro K hK; go_big_quiet_op; go_big_quiet_on) | (refine rel_skip (i := 4) rfl (by kernel_rfl) (by kernel_rfl) (by kernel_rfl) rfl (fun _ _ _ _ h => h) hC ?_; simp only [Act.put, List.setIfInBounds_toArray, List.set_cons_zero, List.set_cons_succ])); (first | (refine rel_want (i := 5) rfl rfl (by kernel_rfl) (by kernel_rfl) (by kernel_rfl) rfl (fun _ _ _ _ h => h) hC ?_; intro K hK; go_big_quiet_op; go_big_quiet_on) | (refine rel_skip (i := 5) rfl (by kernel_rfl) (by kernel_rfl) (by kernel_rfl) rfl (fun _ _ _ _ h => h) hC ?_; simp only [Act.put, List.setIfInBounds_toArray, List.set_cons_zero, List.set_cons_succ])); (first | (refine rel_want (i := 6) rfl rfl (by kernel_rfl) (by kernel_rfl) (by kernel_rfl) rfl (fun _ _ _ _ h => h) hC ?_; intro K hK; go_big_quiet_op; go_big_quiet_on) | (refine rel_skip (i := 6) rfl (by kernel_rfl) (by kernel_rfl) (by kernel_rfl) rfl (fun _ _ _ _ h => h) hC ?_; simp only [Act.put, List.setIfInBounds_toArray, List.set_cons_zero, List.set_cons_succ])); (first | (refine rel_want (i := 7) rfl rfl (by kernel_rfl) (by kernel_rfl) (by kernel_rfl) rfl (fun _ _ _ _ h => h) hC ?_; intro K hK; go_big_quiet_op; go_big_quiet_on) | (refine rel_skip (i := 7) rfl (by kernel_rfl) (by kernel_rfl) (by kernel_rfl) rfl (fun _ _ _ _ h => h) hC ?_; simp only [Act.put, List.setIfInBounds_toArray, List.set_cons_zero, List.set_cons_succ])); (first | (refine rel_want (i := 8) rfl rfl (by kernel_rfl) (by kernel_rfl) (by kernel_rfl) rfl (fun _ _ _ _ h => h) hC ?_; intro K hK; go_big_quiet_op; go_big_quiet_on) | (refine rel_skip (i := 8) rfl (by kernel_rfl) (by kernel_rfl) (by kernel_rfl) rfl (fun _ _ _ _ h => h) hC ?_; simp only [Act.put, List.setIfInBounds_toArray, List.set_cons_zero, List.set_cons_succ]))
    refine rel_load_blk (i := 9) rfl 29 (.tmp 3) rfl (w.heap.size) rfl (by kernel_rfl) (by kernel_rfl) (by kernel_rfl) rfl (fun _ _ _ _ h => h) hC (HB5).out Tryz.underlying29 hgi ?_; (try simp only [Act.put, List.setIfInBounds_toArray, List.set_cons_zero, List.set_cons_succ])
    (first | (refine rel_want (i := 10) rfl rfl (by kernel_rfl) (by kernel_rfl) (by kernel_rfl) rfl (fun _ _ _ _ h => h) hC ?_; intro K hK; go_big_quiet_op; go_big_quiet_on) | (refine rel_skip (i := 10) rfl (by kernel_rfl) (by kernel_rfl) (by kernel_rfl) rfl (fun _ _ _ _ h => h) hC ?_; simp only [Act.put, List.setIfInBounds_toArray, List.set_cons_zero, List.set_cons_succ]))
    refine rel_load_blk (i := 12) rfl 29 (.tmp 3) rfl (w.heap.size) rfl (by kernel_rfl) (by kernel_rfl) (by kernel_rfl) rfl (fun _ _ _ _ h => h) hC (HB5).out Tryz.underlying29 hgi ?_; (try simp only [Act.put, List.setIfInBounds_toArray, List.set_cons_zero, List.set_cons_succ])
    (first | (refine rel_want (i := 13) rfl rfl (by kernel_rfl) (by kernel_rfl) (by kernel_rfl) rfl (fun _ _ _ _ h => h) hC ?_; intro K hK; go_big_quiet_op; go_big_quiet_on) | (refine rel_skip (i := 13) rfl (by kernel_rfl) (by kernel_rfl) (by kernel_rfl) rfl (fun _ _ _ _ h => h) hC ?_; simp only [Act.put, List.setIfInBounds_toArray, List.set_cons_zero, List.set_cons_succ]))
    refine rel_call (i := 11) (by kernel_rfl) rfl rfl ?_; intro K hK; go_simp; go_at_call 21; refine (KV.out _ (H.out.step (bel hb5 hC.below)) (HS.out _ (bel hb5 hC.below))).mono ?_; rintro e w2 ⟨rfl, hb2⟩; (try go_wp2_with fail); replace hC := hC.on hb2; refine hK _ _ hC (fun _ => ?_); clear hK K; (try simp only [Act.put, List.setIfInBounds_toArray, List.set_cons_zero, List.set_cons_succ])
    refine rel_call (i := 14) (by kernel_rfl) rfl rfl ?_; intro K hK; go_simp; go_at_call 16; refine (KX.out _ (H.out.step (bel hb5 hC.below)) (HS.out _ (bel hb5 hC.below))).mono ?_; rintro e w2 ⟨rfl, hb2⟩; (try go_wp2_with fail); replace hC := hC.on hb2; refine hK _ _ hC (fun _ => ?_); clear hK K; (try simp only [Act.put, List.setIfInBounds_toArray, List.set_cons_zero, List.set_cons_succ])
    (first | (refine rel_want (i := 15) rfl rfl (by kernel_rfl) (by kernel_rfl) (by kernel_rfl) rfl (fun _ _ _ _ h => h) hC ?_; intro K hK; go_big_quiet_op; go_big_quiet_on) | (refine rel_skip (i := 15) rfl (by kernel_rfl) (by kernel_rfl) (by kernel_rfl) rfl (fun _ _ _ _ h => h) hC ?_; simp only [Act.put, List.setIfInBounds_toArray, List.set_cons_zero, List.set_cons_succ])); (first | (refine rel_want (i := 16) rfl rfl (by kernel_rfl) (by kernel_rfl) (by kernel_rfl) rfl (fun _ _ _ _ h => h) hC ?_; intro K hK; go_big_quiet_op; go_big_quiet_on) | (refine rel_skip (i := 16) rfl (by kernel_rfl) (by kernel_rfl) (by kernel_rfl) rfl (fun _ _ _ _ h => h) hC ?_; simp only [Act.put, List.setIfInBounds_toArray, List.set_cons_zero, List.set_cons_succ])); (first | (refine rel_want (i := 17) rfl rfl (by kernel_rfl) (by kernel_rfl) (by kernel_rfl) rfl (fun _ _ _ _ h => h) hC ?_; intro K hK; go_big_quiet_op; go_big_quiet_on) | (refine rel_skip (i := 17) rfl (by kernel_rfl) (by kernel_rfl) (by kernel_rfl) rfl (fun _ _ _ _ h => h) hC ?_; simp only [Act.put, List.setIfInBounds_toArray, List.set_cons_zero, List.set_cons_succ]))
    have hCb := hC.below
    refine wpAnyH_done (by kernel_rfl) ?_ _
    go_wp2_with fail
    go_ret
    exact ⟨rfl, bel hb5 hCb⟩
end
end Go.Proofs.YthfbpbbepogllaaGreat
/- How the laws' arguments are opened: notes, books, methods. -/
namespace Go.Proofs.YthfbpbbepogllaaGreat
set_option linter.unusedVariables false
set_option linter.unusedSimpArgs false
open Go.RowKit Go.WideShapes Go.ChangeShapes

variable {H : Type} {enc : TypeId × Value → H} {w : World} {base : Nat} {spare : Nat → Bool} {held : Bool}
theorem opens_StkR : Opens enc Tryz.prog w base spare held 59 StkR.cells (StkR.Ok w) :=
  opens_StockR.map (fun p => (⟨p.period, p.seller, p.buyer, p.amount, p.margin⟩ : StkR)) (fun _ => rfl) (fun _ h => h)
def stkOf (x : StockR) : StkR := ⟨x.period, x.seller, x.buyer, x.amount, x.margin⟩
theorem stk_cells : ∀ l0 : List StockR, cellsOf StockR.cells l0 = cellsOf StkR.cells (l0.map stkOf)
  | [] => rfl
  | x :: r => by
    show StockR.cells x ++ cellsOf StockR.cells r = StkR.cells (stkOf x) ++ cellsOf StkR.cells (r.map stkOf)
    rw [stk_cells r]
    rfl
theorem stk_of (l0 : List StockR) : ∃ l : List StkR, l0.length = l.length ∧ cellsOf StockR.cells l0 = cellsOf StkR.cells l :=
  ⟨l0.map stkOf, by simp, stk_cells l0⟩
theorem opens_icellM : Opens enc Tryz.prog w base spare held 3 icellM (fun z => (Lit.int .i64 z).wf = true) := opens_int Tryz.underlying3
theorem bk_st {cur : ByteArray} {y m p : Int} {cl : List Acc} {cA : Option Addr} {cc : Nat} {ro : RolesR} {el : List EntR} {eA : Option Addr} {ec : Nat} {b1 : Sl EntryR} {b2 : Sl RateR} {b3 : Sl HoldR} {b4 : Sl MatchR} {l0 : List StockR} {sA : Option Addr} {sc : Nat} {b6 : ByteArray} {n : Nat} (hn : l0.length = n) :
    BkSt (BooksR.cells ⟨⟨cur, ⟨y, m, p⟩, ⟨cl, cA, cc⟩, ro, ⟨el, eA, ec⟩⟩, b1, b2, b3, b4, ⟨l0, sA, sc⟩, b6⟩).toArray #[.string cur, .int .i64 y, .int .i64 m, .int .i64 p, .slice cA cl.length cc, .int .i64 ro.investment, .int .i64 ro.goodwill, .int .i64 ro.associates, .int .i64 ro.inventory, .int .i64 ro.reserve, .int .i64 ro.minority, .int .i64 ro.retained, .int .i64 ro.acquired, .int .i64 ro.owners, .int .i64 ro.disposal, .int .i64 ro.associateProfit, .int .i64 ro.dividends, .int .i64 ro.minorityProfit, .int .i64 ro.difference, .int .i64 ro.margin, .slice eA el.length ec] (.slice sA n sc) := by
  subst hn
  refine ⟨⟨rfl, rfl, fun j hj => ?_⟩, rfl⟩
  have e : (BooksR.cells ⟨⟨cur, ⟨y, m, p⟩, ⟨cl, cA, cc⟩, ro, ⟨el, eA, ec⟩⟩, b1, b2, b3, b4, ⟨l0, sA, sc⟩, b6⟩) = (#[.string cur, .int .i64 y, .int .i64 m, .int .i64 p, .slice cA cl.length cc, .int .i64 ro.investment, .int .i64 ro.goodwill, .int .i64 ro.associates, .int .i64 ro.inventory, .int .i64 ro.reserve, .int .i64 ro.minority, .int .i64 ro.retained, .int .i64 ro.acquired, .int .i64 ro.owners, .int .i64 ro.disposal, .int .i64 ro.associateProfit, .int .i64 ro.dividends, .int .i64 ro.minorityProfit, .int .i64 ro.difference, .int .i64 ro.margin, .slice eA el.length ec] : Array Value).toList ++ [b1.val, b2.val, b3.val, b4.val, .slice sA l0.length sc, .string b6] := rfl
  rw [e, List.getElem?_toArray, List.getElem?_append_left hj, Array.getElem?_toList]
end Go.Proofs.YthfbpbbepogllaaGreat
/- The row's last step where the walk ends in a world of which 'Below' is known. Over any program. -/
namespace Go.Proofs.YthfbpbbepogllaaGreat
set_option linter.unusedVariables false
set_option linter.unusedSimpArgs false
open Go.RowKit Go.WideShapes Go.ChangeShapes

section
variable {H : Type} {enc : TypeId × Value → H} {P : Program}
theorem post_of_below {f : Func} {s : ChangeSpec} {apart fresh handsOn again : Bool} {W W' : World} {args : Array Value} {v : Value} {ds gs : List (DataW H)} {before pa pv : List MemPlace}
    (hW : DataW.Whole enc P f.params.toList s.vars apart W args.toList ds gs before)
    (hres : ∀ (b : Nat) (sp : Nat → Bool) (hd : Bool), DataW.TrodAll enc P W' b sp hd f.resultTypes.toList (v.resultList f.resultTypes.size) (s.fn H (ds ++ gs)).results [])
    (hargs : ∀ sp : Nat → Bool, (∀ p ∈ before, sp p.block = true) → DataW.TrodAll enc P W' 0 sp true f.params.toList args.toList (s.fn H (ds ++ gs)).args pa)
    (hvars : ∀ sp : Nat → Bool, (∀ p ∈ before, sp p.block = true) → DataW.TrodVars enc P W' sp s.vars (s.fn H (ds ++ gs)).vars pv)
    (hps : before = pa ++ pv) (hb : Below W.heap.size W W')
    (hok : ∀ (j : Nat) (t : TypeId) (r : Value), f.resultTypes[j]? = some t → (v.resultList f.resultTypes.size)[j]? = some r → Value.okWide P W' .any 0 t r) :
    s.post enc P f apart fresh handsOn again W args v W' := by
  have hlt : ∀ p ∈ before, p.block < W.heap.size := fun p hp => hW.lt p hp
  have hold : ∀ p ∈ before, (fun b => decide (b < W.heap.size)) p.block = true := fun p hp => by simpa using hlt p hp
  refine ⟨ds, gs, before, [], pa, pv, hW, hres _ _ _, hargs _ hold, hvars _ hold, World.keptBut_mono (fun p hp => ⟨hp, ?_⟩) (hb.frame (· ∈ before)), fun _ => ?_⟩
  · rw [hps, List.mem_append] at hp
    exact Or.inr hp
  · obtain ⟨_, _, _, _, _, hz, hn⟩ := hW
    refine ⟨hok, _, _, ([] ++ pa) ++ pv, ⟨[] ++ pa, pv, trodAll_append (hargs _ (fun _ _ => rfl)) (hres _ _ _), hvars _ (fun _ _ => rfl), rfl, ?_, ?_⟩, ?_⟩
    · intro b off hp
      have hin : MemPlace.cell b off ∈ before := by rw [hps]; simpa using hp
      rw [hb.frozen (hlt _ hin)]
      exact hz b off hin
    · intro ha
      have := hn ha
      rw [hps] at this
      simpa using this
    · intro p hp _
      rw [hps]
      simpa using hp

/-- Arguments read as they did where nothing below the old heap has turned. -/
theorem trodAll_stays {W W' : World} {sp : Nat → Bool} (hl : laidOutB P = true) :
    ∀ (ts : List TypeId) (vs : List Value) (ds : List (DataW H)) (ps : List MemPlace), (ts.all fun t => P.readableRec t && decide (t < P.types.size)) = true →
      DataW.TrodAll enc P W 0 (fun _ => true) true ts vs ds ps → (∀ x ∈ ps, W.sameAt W' x) → (∀ x ∈ ps, sp x.block = true) → DataW.TrodAll enc P W' 0 sp true ts vs ds ps := by
  intro ts
  induction ts with
  | nil =>
    intro vs ds ps _ h _ _
    cases vs <;> cases ds <;> simp_all [DataW.TrodAll]
  | cons t ts ih =>
    intro vs ds ps hr h hs hp
    cases vs with
    | nil => simp [DataW.TrodAll] at h
    | cons v vs =>
      cases ds with
      | nil => simp [DataW.TrodAll] at h
      | cons d ds =>
        obtain ⟨p, q, h1, h2, rfl⟩ := h
        simp only [List.all_cons, Bool.and_eq_true, decide_eq_true_eq] at hr
        refine ⟨p, q, WideElems.Trod_stays hl hr.1.1 hr.1.2 h1 (fun x hx => hs x (by simp [hx])) (fun x hx => hp x (by simp [hx])), ?_, rfl⟩
        exact ih vs ds q (by rw [List.all_eq_true]; intro t ht; have := List.all_eq_true.1 hr.2 t ht; simpa using this) h2 (fun x hx => hs x (by simp [hx])) (fun x hx => hp x (by simp [hx]))

/-- A law that answers true, whatever it is called with, and changes nothing that was there: the row's step. -/
theorem law_lifted {a : Assume} {C : Checked} {os : Os} {f : FuncId} {fn : Func} {s : ChangeSpec} {apart fresh handsOn again : Bool} {ts : List TypeId} {tb : TypeId}
    (own : ownKnob C.prog.godebug = none) (started : os.Started) (noInit : C.prog.inits.idxOf? f = none) (hfn : C.prog.funcs[f]? = some fn)
    (witness : ∃ (w : World) (tape : Tape) (i : Input), w.os = os ∧ (w.forCall tape i).Shaped C.prog ∧ i.vars = [] ∧ Input.okWide C.prog (w.forCall tape i) .any w.heap.size f i ∧
      s.pre6 enc C.prog fn [] apart (w.forCall tape i).memory i.args ∧ a.holds C.prog (lone (Frame.enter C.prog f i.args .normal) [] (w.forCall tape i)))
    (hl : laidOutB C.prog = true) (hp : fn.params.toList = ts) (hts : (ts.all fun t => C.prog.readableRec t && decide (t < C.prog.types.size)) = true)
    (hr : fn.resultTypes = #[tb]) (hb : C.prog.underlying tb = some .bool) (hvars : s.vars = [])
    (hspec : ∀ ds : List (DataW H), ds.length = ts.length → s.fn H ds = { results := [.lit (.bool true)], args := ds })
    (walk : ∀ (W : World) (base : Nat) (args : Array Value) (ds : List (DataW H)) (p : List MemPlace),
      (∀ (j : Nat) t v, ts[j]? = some t → args[j]? = some v → Value.okWide C.prog W .any base t v) →
      DataW.TrodAll enc C.prog W 0 (fun _ => true) true ts args.toList ds p →
      Calls C.prog f args W fun e W' => e = .returned (.bool true) ∧ Below W.heap.size W W') :
    ReturnsInHanded a C os f .any (s.pre6 enc C.prog fn [] apart) (s.post enc C.prog fn apart fresh handsOn again) := by
  refine returnsInHanded_of_change own started noInit hfn witness ?_
  intro W base args ds gs before hval hW _ _
  have hW' := hW
  obtain ⟨p, q, hA, hV, rfl, hfz, hnd⟩ := hW
  rw [hp] at hA
  rw [hvars] at hV
  obtain ⟨rfl, rfl⟩ : gs = [] ∧ q = [] := by
    cases gs with
    | nil => exact ⟨rfl, by simpa [DataW.TrodVars] using hV⟩
    | cons g gs => simp [DataW.TrodVars] at hV
  have hlen : ∀ (ts : List TypeId) (vs : List Value) (ds : List (DataW H)) (ps : List MemPlace), DataW.TrodAll enc C.prog W 0 (fun _ => true) true ts vs ds ps → ds.length = ts.length := by
    intro ts
    induction ts with
    | nil => intro vs ds ps h; cases vs <;> cases ds <;> simp_all [DataW.TrodAll]
    | cons t ts ih =>
      intro vs ds ps h
      cases vs with
      | nil => simp [DataW.TrodAll] at h
      | cons v vs =>
        cases ds with
        | nil => simp [DataW.TrodAll] at h
        | cons d ds => obtain ⟨_, _, _, h2, _⟩ := h; simp [ih _ _ _ h2]
  have hs := hspec ds (hlen _ _ _ _ hA)
  refine (walk W base args ds p (fun j t v ht hv => hval j t v (by rw [← ht, ← hp]; simp) hv) hA).mono fun e W' ⟨he, hbel⟩ => ?_
  refine ⟨_, he, ?_⟩
  have hlt : ∀ x ∈ p, x.block < W.heap.size := fun x hx => hW'.lt x (by simpa using hx)
  refine post_of_below (pa := p) (pv := []) hW' ?_ ?_ ?_ rfl hbel ?_
  · intro b sp hd
    rw [hr]
    simp only [List.append_nil]
    rw [hs]
    exact trodAll_cons_mk (shut_bool hb _) trodAll_mk0
  · intro sp hsp
    simp only [List.append_nil]
    rw [hs, hp]
    exact trodAll_stays hl ts _ _ _ hts hA (fun x hx => hbel.same (hlt x hx)) (fun x hx => hsp x (by simpa using hx))
  · intro sp _
    rw [hvars]
    simp only [List.append_nil]
    rw [hs]
    exact rfl
  · exact ok_one hr rfl (okWide_bool_mk hb _)
end
end Go.Proofs.YthfbpbbepogllaaGreat
