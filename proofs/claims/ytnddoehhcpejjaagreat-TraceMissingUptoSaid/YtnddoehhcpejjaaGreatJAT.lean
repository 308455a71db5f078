/- Texts of this claim, put together. -/
import Derived.Test.YtnddoehhcpejjaaGreatJrnWalksDZ
import Derived.Test.YtnddoehhcpejjaaGreatJAP
/- The walks of an entry's accounts, date and sum, and of its check. -/
namespace Go.Proofs.YtnddoehhcpejjaaGreat
set_option linter.unusedVariables false
set_option linter.unusedSimpArgs false
open Go.RowKit

namespace Jn
/-- an account is in the chart of an entity -/
def kB (el : List EntR) (e a : Int) : Bool := Ch.fnB (el.getD e.toNat default).chart.l a
/-- a date lies in the calendar -/
def dB (Y M P d : Int) : Bool := decide (Cal.peE Y M P d = 0)
theorem kB_at {el : List EntR} {i : Nat} (h : i < el.length) (a : Int) : kB el (i : Int) a = Ch.fnB el[i].chart.l a := by
  unfold kB
  rw [Int.toNat_natCast, List.getD_eq_getElem?_getD, List.getElem?_eq_getElem h]
  rfl
end Jn
section
variable (gcs : Array Value) (cur : ByteArray) (y m p : Int) (cl : List Acc) (cA : Option Addr) (cc : Nat) (ro : RolesR) (el : List EntR) (eA : Option Addr) (ec : Nat) (w : World) (id en da kd fo : Int) (tx : ByteArray) (ll : List LineR) (lA : Option Addr) (lc : Nat)
set_option maxRecDepth 100000 in
set_option maxHeartbeats 8000000 in
theorem charted_any (i : Nat) (HG : Hid (gcs = #[.string cur, .int .i64 y, .int .i64 m, .int .i64 p, .slice cA cl.length cc, .int .i64 ro.investment, .int .i64 ro.goodwill, .int .i64 ro.associates, .int .i64 ro.inventory, .int .i64 ro.reserve, .int .i64 ro.minority, .int .i64 ro.retained, .int .i64 ro.acquired, .int .i64 ro.owners, .int .i64 ro.disposal, .int .i64 ro.associateProfit, .int .i64 ro.dividends, .int .i64 ro.minorityProfit, .int .i64 ro.difference, .int .i64 ro.margin, .slice eA el.length ec])) (h : GIn w cl cA el eA) (hF : FewOk cur cl el) (hr : Rd w w.heap.size 3 lA ll.length (cellsOf LineR.cells ll)) (hn : ll.length ≤ 1000) (hi : i < el.length) :
    Calls Tryz.prog 65 #[.agg gcs, .agg #[.int .i64 id, .int .i64 (i : Int), .int .i64 da, .int .i64 kd, .int .i64 fo, .string tx, .slice lA ll.length lc]] w (IntPost (Jn.chE (Jn.kB el) ⟨id, i, da, kd, fo, tx, ⟨ll, lA, lc⟩⟩) w) := by
  have hch := (hF.ents i hi).1
  have hel := hF.en
  have HR := Lib.hid hr
  obtain ⟨b1, o1, hA1, hbo1, -, -, g2, -, -⟩ := EntR.at_ h.en hi
  have hok := h.ok _ (List.getElem_mem hi)
  have HKB := Lib.hid (fun a => Jn.kB_at hi a)
  generalize el[i] = x at *
  obtain ⟨xn, xu, ⟨l1, A1, c1⟩, ⟨l2, A2, c2⟩, xj⟩ := x
  dsimp only [Sl.val] at *
  have hl1 : Rd w w.heap.size 4 A1 l1.length (Ch.cells l1) := by have := hok.2.2.1.1.1; rwa [acc_gen] at this
  have HL1 := Lib.hid hl1
  have HG2 := Lib.hid g2
  subst hA1
  clear h hF hr hok hl1 g2
  have hb : Below w.heap.size w ((w.alloc (.cells gcs 29)).alloc (.cells #[.int .i64 id, .int .i64 (i : Int), .int .i64 da, .int .i64 kd, .int .i64 fo, .string tx, .slice lA ll.length lc] 67)) := ((Below.refl _ _).alloc (Nat.le_refl _) _).alloc (by simp) _
  have HB := Lib.hid ((Blk.new w 29 gcs).alloc (.cells #[.int .i64 id, .int .i64 (i : Int), .int .i64 da, .int .i64 kd, .int .i64 fo, .string tx, .slice lA ll.length lc] 67))
  have HP := Lib.hid (blk_new2 w (.cells gcs 29) 67 #[.int .i64 id, .int .i64 (i : Int), .int .i64 da, .int .i64 kd, .int .i64 fo, .string tx, .slice lA ll.length lc])
  generalize hX : Jn.chE (Jn.kB el) ⟨id, i, da, kd, fo, tx, ⟨ll, lA, lc⟩⟩ = X at *
  have HX := Lib.hid hX
  clear hX
  go_enter Tryz.func65, Tryz.ntmps65
  go_upto_region 1 with fail
  generalize (w.alloc (.cells gcs 29)).alloc (.cells #[.int .i64 id, .int .i64 (i : Int), .int .i64 da, .int .i64 kd, .int .i64 fo, .string tx, .slice lA ll.length lc] 67) = W at *
  have k6 : W.cell? ⟨w.heap.size + 1, 6, none⟩ = some (.slice lA ll.length lc) := HP.out.cell 6
  go_wp2_with fail
  clear k6
  go_loopw [12] (fun t wr => ∃ k : Nat, k ≤ ll.length ∧ (∀ j (h : j < k) (h2 : j < ll.length), Jn.kB el i (ll[j]'h2).account = true) ∧ t = .int .i64 k ∧ Blk wr w.heap.size 29 gcs ∧ Blk wr (w.heap.size + 1) 67 #[.int .i64 id, .int .i64 (i : Int), .int .i64 da, .int .i64 kd, .int .i64 fo, .string tx, .slice lA ll.length lc] ∧ Below w.heap.size w wr) (fun t _ => ll.length - (intOf t).toNat)
  case atStart => exact ⟨0, by omega, fun j h => by omega, rfl, HB.out, HP.out, hb⟩
  case round =>
    clear hb HB HP
    obtain ⟨k, hk, hno, rfl, hB, hP, hb⟩ := hrel
    have HN := Lib.hid hno
    have HBr := Lib.hid hB
    have HPr := Lib.hid hP
    have hz := hb.size
    clear hno hB hP
    by_cases hlt : k < ll.length
    · obtain ⟨b, o, hA, hbo, f0, f1, f2⟩ := LineR.at_ (Rd.now HR.out hb) hlt
      subst hA
      have HKK := Lib.hid (HKB.out ll[k].account)
      have HST : Hid (Jn.kB el i ll[k].account = true → ∀ j (h : j < k + 1) (h2 : j < ll.length), Jn.kB el i (ll[j]'h2).account = true) := Lib.hid (fun hq j h h1 => by
        by_cases e : j = k
        · subst e; exact hq
        · exact HN.out j (by omega) h1)
      have HNO := Lib.hid (fun (h : Jn.kB el i ll[k].account = false) => Jn.ch_no (K := Jn.kB el) (x := ⟨id, i, da, kd, fo, tx, ⟨ll, some ⟨b, o, none⟩, lc⟩⟩) (k := k) hlt h)
      generalize ll[k] = u at *
      obtain ⟨la, lm, lp⟩ := u
      dsimp only at *
      have hst := (Below.refl wr.heap.size wr).alloc (Nat.le_refl _) (.cells #[.int .i64 la, .int .i64 lm, .int .i64 lp] 69)
      have HL := Lib.hid (Blk.new wr 69 #[.int .i64 la, .int .i64 lm, .int .i64 lp])
      replace HBr := Lib.hid (HBr.out.step hst)
      replace HPr := Lib.hid (HPr.out.step hst)
      replace hb := bel hb hst
      go_upto_region 4 with fail
      generalize wr.alloc (.cells #[.int .i64 la, .int .i64 lm, .int .i64 lp] 69) = wo at *
      have q0 : ∀ d : Later wo, d.now.cell? ⟨w.heap.size, 20, none⟩ = some (.slice (some ⟨b1, o1, none⟩) el.length ec) := fun d => d.cell HBr.out.lt ((HBr.out.cell 20).trans (by rw [HG.out]; rfl))
      have q1 : ∀ d : Later wo, d.now.cell? ⟨w.heap.size + 1, 1, none⟩ = some (.int .i64 (i : Int)) := fun d => d.cell HPr.out.lt (HPr.out.cell 1)
      have q2 : ∀ d : Later wo, d.now.cell? ⟨b1, o1 + i * 5 + 2, none⟩ = some (.slice A1 l1.length c1) := fun d => ((bel hb d.below).cell (p := ⟨b1, o1 + i * 5 + 2, none⟩) hbo1).trans HG2.out
      have q3 : ∀ d : Later wo, d.now.cell? ⟨wr.heap.size, 0, none⟩ = some (.int .i64 la) := fun d => d.cell HL.out.lt (HL.out.cell 0)
      have K2 := Lib.hid (fun W h => find_any l1 la A1 c1 W h hch)
      unfold FindPost Ch.val at K2
      rw [← HKK.out] at K2
      generalize Ch.fnV l1 la = a at *
      generalize Jn.kB el i la = fb at *
      clear f0 f1 f2
      go_cut [7, 8] (fun s6 s7 wx => ∃ g : Nat, s6 = .pointer (some ⟨g, 0, none⟩) ∧ s7 = .bool fb ∧ Blk wx g 121 #[.int .i64 a.code, .int .i64 a.kind, .int .i64 a.basis, .int .i64 a.parent] ∧ Below wo.heap.size wo wx)
      case first =>
        refine rel_begin (n := 16) (wo) (by kernel_rfl) rfl ?_; have hC := Near.drew (wo)
        (first | (refine rel_want (i := 0) rfl rfl (by kernel_rfl) (by kernel_rfl) (by kernel_rfl) rfl (fun _ _ _ _ h => h) hC ?_; intro K hK; go_big_quiet_op; go_big_quiet_on) | (refine rel_skip (i := 0) rfl (by kernel_rfl) (by kernel_rfl) (by kernel_rfl) rfl (fun _ _ _ _ h => h) hC ?_; simp only [Act.put, List.setIfInBounds_toArray, List.set_cons_zero, List.set_cons_succ])); (first | (refine rel_want (i := 1) rfl rfl (by kernel_rfl) (by kernel_rfl) (by kernel_rfl) rfl (fun _ _ _ _ h => h) hC ?_; intro K hK; go_big_quiet_op; go_big_quiet_on) | (refine rel_skip (i := 1) rfl (by kernel_rfl) (by kernel_rfl) (by kernel_rfl) rfl (fun _ _ _ _ h => h) hC ?_; simp only [Act.put, List.setIfInBounds_toArray, List.set_cons_zero, List.set_cons_succ])); (first | (refine rel_want (i := 2) rfl rfl (by kernel_rfl) (by kernel_rfl) (by kernel_rfl) rfl (fun _ _ _ _ h => h) hC ?_; intro K hK; go_big_quiet_op; go_big_quiet_on) | (refine rel_skip (i := 2) rfl (by kernel_rfl) (by kernel_rfl) (by kernel_rfl) rfl (fun _ _ _ _ h => h) hC ?_; simp only [Act.put, List.setIfInBounds_toArray, List.set_cons_zero, List.set_cons_succ])); (first | (refine rel_want (i := 3) rfl rfl (by kernel_rfl) (by kernel_rfl) (by kernel_rfl) rfl (fun _ _ _ _ h => h) hC ?_; intro K hK; go_big_quiet_op; go_big_quiet_on) | (refine rel_skip (i := 3) rfl (by kernel_rfl) (by kernel_rfl) (by kernel_rfl) rfl (fun _ _ _ _ h => h) hC ?_; simp only [Act.put, List.setIfInBounds_toArray, List.set_cons_zero, List.set_cons_succ])); (first | (refine rel_want (i := 4) rfl rfl (by kernel_rfl) (by kernel_rfl) (by kernel_rfl) rfl (fun _ _ _ _ h => h) hC ?_; intro K hK; go_big_quiet_op; go_big_quiet_on) | (refine rel_skip (i := 4) rfl (by kernel_rfl) (by kernel_rfl) (by kernel_rfl) rfl (fun _ _ _ _ h => h) hC ?_; simp only [Act.put, List.setIfInBounds_toArray, List.set_cons_zero, List.set_cons_succ])); (first | (refine rel_want (i := 5) rfl rfl (by kernel_rfl) (by kernel_rfl) (by kernel_rfl) rfl (fun _ _ _ _ h => h) hC ?_; intro K hK; go_big_quiet_op; go_big_quiet_on) | (refine rel_skip (i := 5) rfl (by kernel_rfl) (by kernel_rfl) (by kernel_rfl) rfl (fun _ _ _ _ h => h) hC ?_; simp only [Act.put, List.setIfInBounds_toArray, List.set_cons_zero, List.set_cons_succ])); (first | (refine rel_want (i := 6) rfl rfl (by kernel_rfl) (by kernel_rfl) (by kernel_rfl) rfl (fun _ _ _ _ h => h) hC ?_; intro K hK; go_big_quiet_op; go_big_quiet_on) | (refine rel_skip (i := 6) rfl (by kernel_rfl) (by kernel_rfl) (by kernel_rfl) rfl (fun _ _ _ _ h => h) hC ?_; simp only [Act.put, List.setIfInBounds_toArray, List.set_cons_zero, List.set_cons_succ])); (first | (refine rel_want (i := 7) rfl rfl (by kernel_rfl) (by kernel_rfl) (by kernel_rfl) rfl (fun _ _ _ _ h => h) hC ?_; intro K hK; go_big_quiet_op; go_big_quiet_on) | (refine rel_skip (i := 7) rfl (by kernel_rfl) (by kernel_rfl) (by kernel_rfl) rfl (fun _ _ _ _ h => h) hC ?_; simp only [Act.put, List.setIfInBounds_toArray, List.set_cons_zero, List.set_cons_succ])); (first | (refine rel_want (i := 8) rfl rfl (by kernel_rfl) (by kernel_rfl) (by kernel_rfl) rfl (fun _ _ _ _ h => h) hC ?_; intro K hK; go_big_quiet_op; go_big_quiet_on) | (refine rel_skip (i := 8) rfl (by kernel_rfl) (by kernel_rfl) (by kernel_rfl) rfl (fun _ _ _ _ h => h) hC ?_; simp only [Act.put, List.setIfInBounds_toArray, List.set_cons_zero, List.set_cons_succ]))
        refine rel_calls (is := [9, 13]) (by kernel_rfl) (by simp) ?_
        intro j hj
        simp only [List.mem_cons, List.not_mem_nil, or_false] at hj
        rcases hj with rfl | rfl
        · refine ⟨_, rfl, rfl, ?_⟩
          intro K hK
          go_simp
          go_at_call 88
          refine (K2.out _ (Rd.now HL1.out (bel hb hC.below))).mono ?_
          rintro e w5 ⟨rfl, hb5⟩
          (try go_wp2_with fail)
          replace hC := hC.on hb5
          refine hK _ _ hC (fun _ => ?_)
          clear hK K
          (try simp only [Act.put, List.setIfInBounds_toArray, List.set_cons_zero, List.set_cons_succ])
          (first | (refine rel_want (i := 10) rfl rfl (by kernel_rfl) (by kernel_rfl) (by kernel_rfl) rfl (fun _ _ _ _ h => h) hC ?_; intro K hK; go_big_quiet_op; go_big_quiet_on) | (refine rel_skip (i := 10) rfl (by kernel_rfl) (by kernel_rfl) (by kernel_rfl) rfl (fun _ _ _ _ h => h) hC ?_; simp only [Act.put, List.setIfInBounds_toArray, List.set_cons_zero, List.set_cons_succ])); (first | (refine rel_want (i := 11) rfl rfl (by kernel_rfl) (by kernel_rfl) (by kernel_rfl) rfl (fun _ _ _ _ h => h) hC ?_; intro K hK; go_big_quiet_op; go_big_quiet_on) | (refine rel_skip (i := 11) rfl (by kernel_rfl) (by kernel_rfl) (by kernel_rfl) rfl (fun _ _ _ _ h => h) hC ?_; simp only [Act.put, List.setIfInBounds_toArray, List.set_cons_zero, List.set_cons_succ])); (first | (refine rel_want (i := 12) rfl rfl (by kernel_rfl) (by kernel_rfl) (by kernel_rfl) rfl (fun _ _ _ _ h => h) hC ?_; intro K hK; go_big_quiet_op; go_big_quiet_on) | (refine rel_skip (i := 12) rfl (by kernel_rfl) (by kernel_rfl) (by kernel_rfl) rfl (fun _ _ _ _ h => h) hC ?_; simp only [Act.put, List.setIfInBounds_toArray, List.set_cons_zero, List.set_cons_succ]))
          have hC5 := hC.below
          refine rel_call (i := 13) (by kernel_rfl) rfl rfl ?_; intro K hK; go_simp; have hC2 := hC.below; refine hK _ _ (Near.of (by repeat (first | exact hC2 | refine Below.alloc ?_ (by have hbs := hC2.size; first | omega | (simp; done) | (simp at hbs ⊢; omega)) _ | refine Below.drew ?_ | refine below_drewN_ ?_ _))) ?_; clear hK K hC hC2; intro hC; (try simp only [Act.put, List.setIfInBounds_toArray, List.set_cons_zero, List.set_cons_succ])
          refine rel_call (i := 14) (by kernel_rfl) rfl rfl ?_
          intro K hK
          go_simp
          refine hK _ _ (Near.of (hC5.alloc hC5.size _)) ?_
          clear hK K hC
          intro hC
          (try simp only [Act.put, List.setIfInBounds_toArray, List.set_cons_zero, List.set_cons_succ])
          (first | (refine rel_want (i := 15) rfl rfl (by kernel_rfl) (by kernel_rfl) (by kernel_rfl) rfl (fun _ _ _ _ h => h) hC ?_; intro K hK; go_big_quiet_op; go_big_quiet_on) | (refine rel_skip (i := 15) rfl (by kernel_rfl) (by kernel_rfl) (by kernel_rfl) rfl (fun _ _ _ _ h => h) hC ?_; simp only [Act.put, List.setIfInBounds_toArray, List.set_cons_zero, List.set_cons_succ]))
          refine wpAnyH_done (by kernel_rfl) ?_ _
          go_wp2_with fail
          go_meet
          exact ⟨w5.heap.size, rfl, rfl, Blk.new w5 _ _, hC5.alloc hC5.size _⟩
        · refine ⟨_, rfl, rfl, ?_⟩
          intro K hK
          go_simp
          have hC4 : Below (wo).heap.size (wo) ((wo).alloc (.cells #[.int .i64 0, .int .i64 0, .int .i64 0, .int .i64 0] 121)).drew := ((Below.refl _ _).alloc (Nat.le_refl _) _).drew
          have hX := (Blk.new (wo) 121 #[.int .i64 0, .int .i64 0, .int .i64 0, .int .i64 0]).drew
          refine hK _ _ (Near.of hC4) (fun hC => ?_)
          clear hK K
          generalize ((wo).alloc (.cells #[.int .i64 0, .int .i64 0, .int .i64 0, .int .i64 0] 121)).drew = w4 at *
          (try simp only [Act.put, List.setIfInBounds_toArray, List.set_cons_zero, List.set_cons_succ])
          refine rel_call (i := 9) (by kernel_rfl) rfl rfl ?_
          intro K hK
          go_simp
          go_at_call 88
          refine (K2.out _ (Rd.now HL1.out (bel hb hC.below))).mono ?_
          rintro e w5 ⟨rfl, hb5⟩
          (try go_wp2_with fail)
          replace hC := hC.on hb5
          replace hX := hX.step hb5
          refine hK _ _ hC (fun _ => ?_)
          clear hK K
          (try simp only [Act.put, List.setIfInBounds_toArray, List.set_cons_zero, List.set_cons_succ])
          (first | (refine rel_want (i := 10) rfl rfl (by kernel_rfl) (by kernel_rfl) (by kernel_rfl) rfl (fun _ _ _ _ h => h) hC ?_; intro K hK; go_big_quiet_op; go_big_quiet_on) | (refine rel_skip (i := 10) rfl (by kernel_rfl) (by kernel_rfl) (by kernel_rfl) rfl (fun _ _ _ _ h => h) hC ?_; simp only [Act.put, List.setIfInBounds_toArray, List.set_cons_zero, List.set_cons_succ])); (first | (refine rel_want (i := 11) rfl rfl (by kernel_rfl) (by kernel_rfl) (by kernel_rfl) rfl (fun _ _ _ _ h => h) hC ?_; intro K hK; go_big_quiet_op; go_big_quiet_on) | (refine rel_skip (i := 11) rfl (by kernel_rfl) (by kernel_rfl) (by kernel_rfl) rfl (fun _ _ _ _ h => h) hC ?_; simp only [Act.put, List.setIfInBounds_toArray, List.set_cons_zero, List.set_cons_succ])); (first | (refine rel_want (i := 12) rfl rfl (by kernel_rfl) (by kernel_rfl) (by kernel_rfl) rfl (fun _ _ _ _ h => h) hC ?_; intro K hK; go_big_quiet_op; go_big_quiet_on) | (refine rel_skip (i := 12) rfl (by kernel_rfl) (by kernel_rfl) (by kernel_rfl) rfl (fun _ _ _ _ h => h) hC ?_; simp only [Act.put, List.setIfInBounds_toArray, List.set_cons_zero, List.set_cons_succ]))
          refine rel_call (i := 14) (by kernel_rfl) rfl rfl ?_
          intro K hK
          have g0 : w5.cell? ⟨(wo).heap.size, 0, none⟩ = some (.int .i64 0) := hX.cell 0
          have g1 : w5.cell? ⟨(wo).heap.size, 1, none⟩ = some (.int .i64 0) := hX.cell 1
          have g2 : w5.cell? ⟨(wo).heap.size, 2, none⟩ = some (.int .i64 0) := hX.cell 2
          have g3 : w5.cell? ⟨(wo).heap.size, 3, none⟩ = some (.int .i64 0) := hX.cell 3
          have h0 : w5.frozen? ⟨(wo).heap.size, 0, none⟩ = false := hX.frozen 0
          have h1 : w5.frozen? ⟨(wo).heap.size, 1, none⟩ = false := hX.frozen 1
          have h2 : w5.frozen? ⟨(wo).heap.size, 2, none⟩ = false := hX.frozen 2
          have h3 : w5.frozen? ⟨(wo).heap.size, 3, none⟩ = false := hX.frozen 3
          go_simp
          have hZ : Below (wo).heap.size (wo) ((((w5.setCell ⟨(wo).heap.size, 0, none⟩ (.int .i64 a.code)).setCell ⟨(wo).heap.size, 1, none⟩ (.int .i64 a.kind)).setCell ⟨(wo).heap.size, 2, none⟩ (.int .i64 a.basis)).setCell ⟨(wo).heap.size, 3, none⟩ (.int .i64 a.parent)) :=
            (((hC.below.setCell (by simp) _).setCell (by simp) _).setCell (by simp) _).setCell (by simp) _
          have hY := (((hX.set_ 0 (.int .i64 a.code)).set_ 1 (.int .i64 a.kind)).set_ 2 (.int .i64 a.basis)).set_ 3 (.int .i64 a.parent)
          refine hK _ _ (Near.of hZ) ?_
          clear hC
          intro hC
          clear hK K g0 g1 g2 g3 h0 h1 h2 h3
          generalize ((((w5.setCell ⟨(wo).heap.size, 0, none⟩ (.int .i64 a.code)).setCell ⟨(wo).heap.size, 1, none⟩ (.int .i64 a.kind)).setCell ⟨(wo).heap.size, 2, none⟩ (.int .i64 a.basis)).setCell ⟨(wo).heap.size, 3, none⟩ (.int .i64 a.parent)) = w6 at *
          (try simp only [Act.put, List.setIfInBounds_toArray, List.set_cons_zero, List.set_cons_succ])
          (first | (refine rel_want (i := 15) rfl rfl (by kernel_rfl) (by kernel_rfl) (by kernel_rfl) rfl (fun _ _ _ _ h => h) hC ?_; intro K hK; go_big_quiet_op; go_big_quiet_on) | (refine rel_skip (i := 15) rfl (by kernel_rfl) (by kernel_rfl) (by kernel_rfl) rfl (fun _ _ _ _ h => h) hC ?_; simp only [Act.put, List.setIfInBounds_toArray, List.set_cons_zero, List.set_cons_succ]))
          refine wpAnyH_done (by kernel_rfl) ?_ _
          go_wp2_with fail
          go_meet
          exact ⟨(wo).heap.size, rfl, rfl, hY, hZ⟩
      case rest =>
        obtain ⟨g, rfl, rfl, hAc, hb9⟩ := hcut
        have hbx := bel hb hb9
        have HBx := Lib.hid (HBr.out.step hb9)
        have HPx := Lib.hid (HPr.out.step hb9)
        clear q0 q1 q2 q3 hAc
        cases fb
        · have HE : Hid (X = 17) := Lib.hid (by rw [← HX.out]; exact HNO.out rfl)
          go_wp2_with fail
          go_ret
          exact ⟨by rw [HE.out]; rfl, hbx⟩
        · have HE := Lib.hid (HST.out rfl)
          go_wp2_with fail
          go_roundw
          case rel => exact ⟨k + 1, by omega, HE.out, by go_num, HBx.out, HPx.out, hbx⟩
          case measure => simp [intOf]; omega
    · have HE : Hid (X = 0) := Lib.hid (by rw [← HX.out]; exact Jn.ch_yes (fun j hj => HN.out j (by dsimp only at hj; omega) hj))
      go_wp2_with fail
      go_ret
      exact ⟨by rw [HE.out]; rfl, hb⟩
set_option maxRecDepth 100000 in
set_option maxHeartbeats 8000000 in
theorem dated_any (HG : Hid (gcs = #[.string cur, .int .i64 y, .int .i64 m, .int .i64 p, .slice cA cl.length cc, .int .i64 ro.investment, .int .i64 ro.goodwill, .int .i64 ro.associates, .int .i64 ro.inventory, .int .i64 ro.reserve, .int .i64 ro.minority, .int .i64 ro.retained, .int .i64 ro.acquired, .int .i64 ro.owners, .int .i64 ro.disposal, .int .i64 ro.associateProfit, .int .i64 ro.dividends, .int .i64 ro.minorityProfit, .int .i64 ro.difference, .int .i64 ro.margin, .slice eA el.length ec])) :
    Calls Tryz.prog 66 #[.agg gcs, .agg #[.int .i64 id, .int .i64 en, .int .i64 da, .int .i64 kd, .int .i64 fo, .string tx, .slice lA ll.length lc]] w (IntPost (Jn.daE (Jn.dB y m p) ⟨id, en, da, kd, fo, tx, ⟨ll, lA, lc⟩⟩) w) := by
  have hb : Below w.heap.size w ((w.alloc (.cells gcs 29)).alloc (.cells #[.int .i64 id, .int .i64 en, .int .i64 da, .int .i64 kd, .int .i64 fo, .string tx, .slice lA ll.length lc] 67)) := ((Below.refl _ _).alloc (Nat.le_refl _) _).alloc (by simp) _
  have HB := Lib.hid ((Blk.new w 29 gcs).alloc (.cells #[.int .i64 id, .int .i64 en, .int .i64 da, .int .i64 kd, .int .i64 fo, .string tx, .slice lA ll.length lc] 67))
  have HP := Lib.hid (blk_new2 w (.cells gcs 29) 67 #[.int .i64 id, .int .i64 en, .int .i64 da, .int .i64 kd, .int .i64 fo, .string tx, .slice lA ll.length lc])
  have HX : Hid (Jn.daE (Jn.dB y m p) ⟨id, en, da, kd, fo, tx, ⟨ll, lA, lc⟩⟩ = if Cal.peE y m p da = 0 then 0 else 2) := Lib.hid (by unfold Jn.daE Jn.dB; simp)
  generalize Jn.daE (Jn.dB y m p) ⟨id, en, da, kd, fo, tx, ⟨ll, lA, lc⟩⟩ = X at *
  have K := Lib.hid (fun W => cal_Period y m p da W)
  generalize Cal.peE y m p da = e1 at *
  generalize Cal.peV y m p da = v1 at *
  go_enter Tryz.func66, Tryz.ntmps66
  go_upto_region 1 with fail
  generalize (w.alloc (.cells gcs 29)).alloc (.cells #[.int .i64 id, .int .i64 en, .int .i64 da, .int .i64 kd, .int .i64 fo, .string tx, .slice lA ll.length lc] 67) = W at *
  have k2 : W.cell? ⟨w.heap.size + 1, 2, none⟩ = some (.int .i64 da) := HP.out.cell 2
  have g1 : W.cell? ⟨w.heap.size, 1, none⟩ = some (.int .i64 y) := (HB.out.cell 1).trans (by rw [HG.out]; rfl)
  have g2 : W.cell? ⟨w.heap.size, 2, none⟩ = some (.int .i64 m) := (HB.out.cell 2).trans (by rw [HG.out]; rfl)
  have g3 : W.cell? ⟨w.heap.size, 3, none⟩ = some (.int .i64 p) := (HB.out.cell 3).trans (by rw [HG.out]; rfl)
  cases hx : (e1 != 0)
  · have h0 : e1 = 0 := by simpa using hx
    have HE : Hid (X = 0) := Lib.hid (by rw [HX.out, if_pos h0])
    clear h0
    go_wp2_with (go_at_call 94; refine (K.out _).mono ?_; rintro e w5 ⟨rfl, hb9⟩; have hb5 := bel hb hb9; clear hb9)
    go_ret
    exact ⟨by rw [HE.out]; rfl, hb5⟩
  · have h0 : e1 ≠ 0 := by simpa using hx
    have HE : Hid (X = 2) := Lib.hid (by rw [HX.out, if_neg h0])
    clear h0
    go_wp2_with (go_at_call 94; refine (K.out _).mono ?_; rintro e w5 ⟨rfl, hb9⟩; have hb5 := bel hb hb9; clear hb9)
    go_ret
    exact ⟨by rw [HE.out]; rfl, hb5⟩
set_option maxRecDepth 100000 in
set_option maxHeartbeats 8000000 in
theorem balanced_any (hr : Rd w w.heap.size 3 lA ll.length (cellsOf LineR.cells ll)) (hn : ll.length ≤ 1000) (hm : ∀ x ∈ ll, -1000000000000 ≤ x.amount ∧ x.amount ≤ 1000000000000) :
    Calls Tryz.prog 67 #[.agg gcs, .agg #[.int .i64 id, .int .i64 en, .int .i64 da, .int .i64 kd, .int .i64 fo, .string tx, .slice lA ll.length lc]] w (IntPost (Jn.baE ⟨id, en, da, kd, fo, tx, ⟨ll, lA, lc⟩⟩) w) := by
  have hb : Below w.heap.size w ((w.alloc (.cells gcs 29)).alloc (.cells #[.int .i64 id, .int .i64 en, .int .i64 da, .int .i64 kd, .int .i64 fo, .string tx, .slice lA ll.length lc] 67)) := ((Below.refl _ _).alloc (Nat.le_refl _) _).alloc (by simp) _
  have HP := Lib.hid (blk_new2 w (.cells gcs 29) 67 #[.int .i64 id, .int .i64 en, .int .i64 da, .int .i64 kd, .int .i64 fo, .string tx, .slice lA ll.length lc])
  have HX : Hid (Jn.baE ⟨id, en, da, kd, fo, tx, ⟨ll, lA, lc⟩⟩ = if Jn.sumL ll = 0 then 0 else 11) := Lib.hid rfl
  generalize Jn.baE ⟨id, en, da, kd, fo, tx, ⟨ll, lA, lc⟩⟩ = X at *
  have HR := Lib.hid hr
  have K := Lib.hid (fun W h => lsum_any ll lA lc W h hn hm)
  clear hr hm
  generalize Jn.sumL ll = s at *
  go_enter Tryz.func67, Tryz.ntmps67
  go_upto_region 1 with fail
  generalize (w.alloc (.cells gcs 29)).alloc (.cells #[.int .i64 id, .int .i64 en, .int .i64 da, .int .i64 kd, .int .i64 fo, .string tx, .slice lA ll.length lc] 67) = W at *
  have k6 : W.cell? ⟨w.heap.size + 1, 6, none⟩ = some (.slice lA ll.length lc) := HP.out.cell 6
  cases hx : (s != 0)
  · have h0 : s = 0 := by simpa using hx
    have HE : Hid (X = 0) := Lib.hid (by rw [HX.out, if_pos h0])
    clear h0
    go_wp2_with (go_at_call 95; refine (K.out _ (Rd.now HR.out hb)).mono ?_; rintro e w5 ⟨rfl, hb9⟩; have hb5 := bel hb hb9; clear hb9)
    go_ret
    exact ⟨by rw [HE.out]; rfl, hb5⟩
  · have h0 : s ≠ 0 := by simpa using hx
    have HE : Hid (X = 11) := Lib.hid (by rw [HX.out, if_neg h0])
    clear h0
    go_wp2_with (go_at_call 95; refine (K.out _ (Rd.now HR.out hb)).mono ?_; rintro e w5 ⟨rfl, hb9⟩; have hb5 := bel hb hb9; clear hb9)
    go_ret
    exact ⟨by rw [HE.out]; rfl, hb5⟩
end
end Go.Proofs.YtnddoehhcpejjaaGreat
/- A group whose lists lie elsewhere: what is asked of it is the same. No walk. -/
namespace Go.Proofs.YtnddoehhcpejjaaGreat
set_option linter.unusedVariables false
set_option linter.unusedSimpArgs false
open Go.RowKit

theorem getD_map_ {α β : Type} (f : α → β) (l : List α) (i : Nat) (d : α) : (l.map f).getD i (f d) = f (l.getD i d) := by
  rw [List.getD_eq_getElem?_getD, List.getD_eq_getElem?_getD, List.getElem?_map]
  cases l[i]? <;> rfl
/-- an entity but for where its lists lie -/
def bare (x : EntR) : ByteArray × ByteArray × List Acc × List LinkR × Bool := (x.name, x.currency, x.chart.l, x.links.l, x.joint)
theorem bare_len {a b : List EntR} (h : a.map bare = b.map bare) : a.length = b.length := by
  have := congrArg List.length h
  simpa using this
theorem bare_getD {a b : List EntR} (h : a.map bare = b.map bare) (i : Nat) : bare (a.getD i default) = bare (b.getD i default) := by
  have h1 : (a.map bare).getD i (bare default) = (b.map bare).getD i (bare default) := by rw [h]
  rwa [getD_map_, getD_map_] at h1
theorem bare_name {a b : List EntR} (h : a.map bare = b.map bare) : a.map EntR.name = b.map EntR.name := by
  have := congrArg (List.map (fun q : ByteArray × ByteArray × List Acc × List LinkR × Bool => q.1)) h
  rw [List.map_map, List.map_map] at this
  exact this
theorem nameBefore_is (E : List EntR) (k : Nat) : Gr.nameBefore E k = ((E.map EntR.name).take k).any (fun n => decide (n = (E.map EntR.name).getD k (default : EntR).name)) := by
  unfold Gr.nameBefore
  rw [getD_map_, ← List.map_take, List.any_map]
  rfl
theorem entV_bare {x y : EntR} (h : bare x = bare y) (ch : List Acc) (R : List RoleR) : Gr.entV ch R x = Gr.entV ch R y := by
  unfold bare at h
  simp only [Prod.mk.injEq] at h
  unfold Gr.entV
  rw [h.1, h.2.1, h.2.2.1, h.2.2.2.1]
theorem entsV_bare {a b : List EntR} (h : a.map bare = b.map bare) (ch : List Acc) (R : List RoleR) : Gr.entsV ch R a = Gr.entsV ch R b := by
  unfold Gr.entsV
  rw [bare_len h]
  congr 1
  funext k
  rw [nameBefore_is, nameBefore_is, bare_name h, entV_bare (bare_getD h k)]
theorem gv_bare {a b : List EntR} (h : a.map bare = b.map bare) (cur : ByteArray) (cl : List Acc) (ro : RolesR) (cal : Bool) : Gr.gv cur cl ro a cal = Gr.gv cur cl ro b cal := by
  have h0 := bare_getD h 0
  unfold bare at h0
  simp only [Prod.mk.injEq] at h0
  unfold Gr.gv
  rw [bare_len h, entsV_bare h, h0.2.2.2.2]
theorem kB_bare {a b : List EntR} (h : a.map bare = b.map bare) : Jn.kB a = Jn.kB b := by
  funext e c
  have h0 := bare_getD h e.toNat
  unfold bare at h0
  simp only [Prod.mk.injEq] at h0
  unfold Jn.kB
  rw [h0.2.2.1]
theorem few_bare {a b : List EntR} (h : a.map bare = b.map bare) {cur : ByteArray} {cl : List Acc} (hF : FewOk cur cl b) : FewOk cur cl a := by
  refine ⟨hF.ch, by rw [bare_len h]; exact hF.en, hF.cur, fun j hj => ?_⟩
  have hj2 : j < b.length := by rw [← bare_len h]; exact hj
  have h0 := bare_getD h j
  rw [getD_lt a j default hj, getD_lt b j default hj2] at h0
  unfold bare at h0
  simp only [Prod.mk.injEq] at h0
  rw [h0.2.2.1, h0.2.2.2.1]
  exact hF.ents j hj2
theorem bare_set {L : List EntR} {i : Nat} (hi : i < L.length) {y : EntR} (h : bare y = bare L[i]) : (L.set i y).map bare = L.map bare := by
  rw [List.map_set, h]
  have : bare L[i] = (L.map bare)[i]'(by rw [List.length_map]; exact hi) := by rw [List.getElem_map]
  rw [this, List.set_getElem_self]
/-- two cells of an entity set anew -/
theorem ents_set : ∀ (L : List EntR) (i : Nat) (h : i < L.length) (s : Sl Acc) (t : Sl LinkR), ((cellsOf EntR.cells L).set (i * 5 + 2) s.val).set (i * 5 + 3) t.val = cellsOf EntR.cells (L.set i ⟨L[i].name, L[i].currency, s, t, L[i].joint⟩) := by
  intro L
  induction L with
  | nil => intro i h; simp at h
  | cons x L ih =>
    intro i h s t
    cases i with
    | zero => rfl
    | succ i =>
      have hi : i < L.length := by simpa using h
      have e2 : (i + 1) * 5 + 2 = 5 + (i * 5 + 2) := by omega
      have e3 : (i + 1) * 5 + 3 = 5 + (i * 5 + 3) := by omega
      simp only [cellsOf, List.set_cons_succ, List.getElem_cons_succ]
      rw [e2, e3, List.set_append_right _ _ (by rw [EntR.len]; omega), List.set_append_right _ _ (by rw [EntR.len]; omega), EntR.len, Nat.add_sub_cancel_left, Nat.add_sub_cancel_left, ih i hi s t]
/-- the cells of a group -/
def gcArr (cur : ByteArray) (y m p : Int) (nc : Nat) (cA : Option Addr) (cc : Nat) (ro : RolesR) (ne : Nat) (eA : Option Addr) (ec : Nat) : Array Value :=
  #[.string cur, .int .i64 y, .int .i64 m, .int .i64 p, .slice cA nc cc, .int .i64 ro.investment, .int .i64 ro.goodwill, .int .i64 ro.associates, .int .i64 ro.inventory, .int .i64 ro.reserve, .int .i64 ro.minority, .int .i64 ro.retained, .int .i64 ro.acquired, .int .i64 ro.owners, .int .i64 ro.disposal, .int .i64 ro.associateProfit, .int .i64 ro.dividends, .int .i64 ro.minorityProfit, .int .i64 ro.difference, .int .i64 ro.margin, .slice eA ne ec]
theorem gc_arr {gcs : Array Value} {cur : ByteArray} {y m p : Int} {cl : List Acc} {cA : Option Addr} {cc : Nat} {ro : RolesR} {el : List EntR} {eA : Option Addr} {ec : Nat} (HG : gcs = #[.string cur, .int .i64 y, .int .i64 m, .int .i64 p, .slice cA cl.length cc, .int .i64 ro.investment, .int .i64 ro.goodwill, .int .i64 ro.associates, .int .i64 ro.inventory, .int .i64 ro.reserve, .int .i64 ro.minority, .int .i64 ro.retained, .int .i64 ro.acquired, .int .i64 ro.owners, .int .i64 ro.disposal, .int .i64 ro.associateProfit, .int .i64 ro.dividends, .int .i64 ro.minorityProfit, .int .i64 ro.difference, .int .i64 ro.margin, .slice eA el.length ec]) : gcs = gcArr cur y m p cl.length cA cc ro el.length eA ec := HG
theorem arr_gc {gcs : Array Value} {cur : ByteArray} {y m p : Int} {cl : List Acc} {cA : Option Addr} {cc : Nat} {ro : RolesR} {el : List EntR} {eA : Option Addr} {ec : Nat} (HG : gcs = gcArr cur y m p cl.length cA cc ro el.length eA ec) : gcs = #[.string cur, .int .i64 y, .int .i64 m, .int .i64 p, .slice cA cl.length cc, .int .i64 ro.investment, .int .i64 ro.goodwill, .int .i64 ro.associates, .int .i64 ro.inventory, .int .i64 ro.reserve, .int .i64 ro.minority, .int .i64 ro.retained, .int .i64 ro.acquired, .int .i64 ro.owners, .int .i64 ro.disposal, .int .i64 ro.associateProfit, .int .i64 ro.dividends, .int .i64 ro.minorityProfit, .int .i64 ro.difference, .int .i64 ro.margin, .slice eA el.length ec] := HG
theorem gc_set {cur : ByteArray} {y m p : Int} {nc : Nat} {cA cA2 : Option Addr} {cc cc2 : Nat} {ro : RolesR} {ne : Nat} {eA eA2 : Option Addr} {ec ec2 : Nat} :
    ((gcArr cur y m p nc cA cc ro ne eA ec).setIfInBounds 4 (.slice cA2 nc cc2)).setIfInBounds 20 (.slice eA2 ne ec2) = gcArr cur y m p nc cA2 cc2 ro ne eA2 ec2 := rfl
theorem gc_one (cur : ByteArray) (y m p : Int) (nc : Nat) (cA : Option Addr) (cc : Nat) (ro : RolesR) (ne : Nat) (eA : Option Addr) (ec : Nat) : (gcArr cur y m p nc cA cc ro ne eA ec).all (·.oneCell') = true := by
  rw [← Array.all_toList, List.all_eq_true]
  intro u hu
  simp only [gcArr, List.mem_cons, List.not_mem_nil, or_false] at hu
  rcases hu with rfl | rfl | rfl | rfl | rfl | rfl | rfl | rfl | rfl | rfl | rfl | rfl | rfl | rfl | rfl | rfl | rfl | rfl | rfl | rfl | rfl
  all_goals rfl

/-- worlds alike but for some blocks -/
def ApartW (N : Nat → Prop) (w w' : World) : Prop := w.heap.size ≤ w'.heap.size ∧ ∀ b, b < w.heap.size → ¬ N b → w'.heap[b]? = w.heap[b]?
section
variable {N : Nat → Prop} {w w' w2 : World}
theorem ApartW.trans (h : ApartW N w w') (h2 : ApartW N w' w2) : ApartW N w w2 := ⟨Nat.le_trans h.1 h2.1, fun b hb hn => (h2.2 b (Nat.lt_of_lt_of_le hb h.1) hn).trans (h.2 b hb hn)⟩
theorem ApartW.of_below (h : Below w.heap.size w w') : ApartW N w w' := ⟨h.size, fun b hb _ => h.block b hb⟩
theorem ApartW.of_grown {X : Nat} (h : w.grownBy w' (some X)) (hX : N X) : ApartW N w w' := ⟨h.size, fun b hb hn => h.block b hb (fun e => by injection e with e; subst e; exact hn hX)⟩
theorem ApartW.setCell {a : Addr} (ha : N a.block) (u : Value) : ApartW N w (w.setCell a u) := ⟨by simp, fun b _ hn => Below.heap_setCell w a u b (fun e => hn (by rw [e]; exact ha))⟩
theorem ApartW.setRow {g : Nat} (ha : N g) (cs : Array Value) : ApartW N w (w.setRow g cs) := ⟨by simp [World.setRow], fun b _ hn => setRow_other w g b cs (fun e => hn (e ▸ ha))⟩
theorem cell_heap {b o : Nat} (h : w'.heap[b]? = w.heap[b]?) : w'.cell? ⟨b, o, none⟩ = w.cell? ⟨b, o, none⟩ := by simp only [World.cell?, h]
/-- a list that lies in none of some blocks -/
structure RdN (N : Nat → Prop) (w : World) (sz : Nat) (A : Option Addr) (n : Nat) (xs : List Value) : Prop where
  len : xs.length = n * sz
  at_ : 0 < n → ∃ b o, A = some ⟨b, o, none⟩ ∧ b < w.heap.size ∧ ¬ N b ∧ ∀ j u, xs[j]? = some u → w.cell? ⟨b, o + j, none⟩ = some u
variable {sz n : Nat} {A : Option Addr} {xs : List Value}
theorem RdN.rd (h : RdN N w sz A n xs) : Rd w w.heap.size sz A n xs := ⟨h.len, fun hn => by
  obtain ⟨b, o, e, hb, _, hc⟩ := h.at_ hn
  exact ⟨b, o, e, hb, hc⟩⟩
theorem RdN.of_rd {B : Nat} (h : Rd w B sz A n xs) (hB : B ≤ w.heap.size) (hN : ∀ b, b < B → ¬ N b) : RdN N w sz A n xs := ⟨h.1, fun hn => by
  obtain ⟨b, o, e, hb, hc⟩ := h.2 hn
  exact ⟨b, o, e, Nat.lt_of_lt_of_le hb hB, hN b hb, hc⟩⟩
theorem RdN.turn (h : RdN N w sz A n xs) (ht : ApartW N w w') : RdN N w' sz A n xs := ⟨h.len, fun hn => by
  obtain ⟨b, o, e, hb, hnb, hc⟩ := h.at_ hn
  exact ⟨b, o, e, Nat.lt_of_lt_of_le hb ht.1, hnb, fun j u hu => (cell_heap (ht.2 b hb hnb)).trans (hc j u hu)⟩⟩
theorem RdN.of_own {base : Nat} {e : TypeId} {c : Nat} (h : w.ownsRow base e sz (.slice A n c) n xs) (hN : ∀ b t cs, base ≤ b → Blk w b t cs → t = e → ¬ N b) : RdN N w sz A n xs := ⟨h.1, fun hn => by
  rcases h.2 with ⟨_, h0⟩ | ⟨g, cap, cur, hv, hb, hg, _⟩
  · omega
  · injection hv with h1 _ h3
    subst h1
    refine ⟨g, 0, rfl, (Array.getElem?_eq_some_iff.1 hg).1, hN g e cur hb hg rfl, fun j u hu => ?_⟩
    have := h.cells (g := g) rfl j u hu
    rwa [add_zero_, ← Nat.zero_add j] at this⟩
end
end Go.Proofs.YtnddoehhcpejjaaGreat
