/- Texts of this claim, put together. -/
import Derived.Test.YthfbpbbepogllaaJBF
import Derived.Test.YthfbpbbepogllaaJBG
/- The walk of CarryKeeps. -/
namespace Go.Proofs.Ythfbpbbepogllaa
set_option linter.unusedVariables false
set_option linter.unusedSimpArgs false
open Go.RowKit

theorem keep_facts {cur : ByteArray} {y m p q : Int} {cl : List Acc} {ro : RolesR} {el : List EntR} {l : List DatR} (hE : Cr.cE (Gr.gv cur cl ro el (Cal.ok y m p)) y m p q cl ro l = 0) :
    (Cr.toE (Gr.gv cur cl ro el (Cal.ok y m p)) y m p q cl (Cr.isRes cl ro (Cr.bg (Gr.gv cur cl ro el (Cal.ok y m p)) y m p q)) l ≠ 0 → Cr.toE (Gr.gv cur cl ro el (Cal.ok y m p)) y m p q cl (Cr.isRes cl ro (Cr.bg (Gr.gv cur cl ro el (Cal.ok y m p)) y m p q)) l = 2) ∧
    (Cr.toE (Gr.gv cur cl ro el (Cal.ok y m p)) y m p q cl (Cr.isRes cl ro (Cr.bg (Gr.gv cur cl ro el (Cal.ok y m p)) y m p q)) l = 0 →
      l.any Cr.notAm = false ∧ sm (Cr.cL (Gr.gv cur cl ro el (Cal.ok y m p)) y m p q cl ro l) Bal.amount = Cr.tot (fun _ => true) l ∧
      sm (Cr.cL (Gr.gv cur cl ro el (Cal.ok y m p)) y m p q cl ro l) (fun x => if resB cl x.account = true then x.amount else 0) = Cr.toV (Gr.gv cur cl ro el (Cal.ok y m p)) y m p q cl (Cr.isRes cl ro (Cr.bg (Gr.gv cur cl ro el (Cal.ok y m p)) y m p q)) l ∧
      (∀ x ∈ Cr.cL (Gr.gv cur cl ro el (Cal.ok y m p)) y m p q cl ro l, -1000000000000 ≤ x.amount ∧ x.amount ≤ 1000000000000)) := by
  obtain ⟨h0, hw, ha⟩ := Cr.keep_law hE
  unfold Cr.toV
  have hT : Cr.toE (Gr.gv cur cl ro el (Cal.ok y m p)) y m p q cl (Cr.isRes cl ro (Cr.bg (Gr.gv cur cl ro el (Cal.ok y m p)) y m p q)) l = if amV (Cr.tot (Cr.isRes cl ro (Cr.bg (Gr.gv cur cl ro el (Cal.ok y m p)) y m p q)) l) then 0 else 2 := by unfold Cr.toE; rw [if_pos h0]
  refine ⟨fun h => ?_, fun h => ⟨Cr.vE_zero h0, ?_, ?_, ha⟩⟩
  · rw [hT] at h ⊢
    split at h
    · exact absurd rfl h
    · rename_i h1; rw [if_neg h1]
  · rw [← hw (fun _ => true)]
    exact sm_congr (fun a _ => by simp)
  · rw [if_pos h]
    exact hw (resB cl)
section
variable (cur : ByteArray) (y m p : Int) (cl : List Acc) (cA : Option Addr) (cc : Nat) (ro : RolesR) (el : List EntR) (eA : Option Addr) (ec : Nat) (w : World)
set_option maxRecDepth 100000 in
set_option maxHeartbeats 16000000 in
theorem law_CarryKeeps (l : List DatR) (A : Option Addr) (lc : Nat) (q : Int) (h : GIn w cl cA el eA) (hc : cur.size ≤ maxLen) (hcl : cl.length ≤ maxLen) (hel : el.length ≤ maxLen) (hr : Rd w w.heap.size 3 A l.length (cellsOf DatR.cells l)) (hl : l.length ≤ maxLen) :
    Calls Try.prog 4 #[.agg #[.string cur, .int .i64 y, .int .i64 m, .int .i64 p, .slice cA cl.length cc, .int .i64 ro.investment, .int .i64 ro.goodwill, .int .i64 ro.associates, .int .i64 ro.inventory, .int .i64 ro.reserve, .int .i64 ro.minority, .int .i64 ro.retained, .int .i64 ro.acquired, .int .i64 ro.owners, .int .i64 ro.disposal, .int .i64 ro.associateProfit, .int .i64 ro.dividends, .int .i64 ro.minorityProfit, .int .i64 ro.difference, .int .i64 ro.margin, .slice eA el.length ec], .slice A l.length lc, .int .i64 q] w fun e w' => e = .returned (.bool true) ∧ Below w.heap.size w w' := by
  have H := Lib.hid h
  have HR := Lib.hid hr
  unfold maxLen at hl
  clear h hr
  obtain ⟨gcs, hgc⟩ : ∃ x : Array Value, x = #[.string cur, .int .i64 y, .int .i64 m, .int .i64 p, .slice cA cl.length cc, .int .i64 ro.investment, .int .i64 ro.goodwill, .int .i64 ro.associates, .int .i64 ro.inventory, .int .i64 ro.reserve, .int .i64 ro.minority, .int .i64 ro.retained, .int .i64 ro.acquired, .int .i64 ro.owners, .int .i64 ro.disposal, .int .i64 ro.associateProfit, .int .i64 ro.dividends, .int .i64 ro.minorityProfit, .int .i64 ro.difference, .int .i64 ro.margin, .slice eA el.length ec] := ⟨_, rfl⟩
  have hgi : (Try.prog.info? 29).map (·.size) = some gcs.size := by rw [hgc]; exact grp_size
  have HG := Lib.hid hgc
  rw [← hgc]
  clear hgc
  have K0 := Lib.hid (fun W h => HG.out.symm ▸ few_any cur y m p cl cA cc ro el eA ec W h hc hcl hel)
  clear hcl hel
  have hb : Below w.heap.size w (w.alloc (.cells gcs 29)) := (Below.refl _ _).alloc (Nat.le_refl _) _
  have HB := Lib.hid (Blk.new w 29 gcs)
  go_enter Try.func4, Try.ntmps4
  go_wp2_with (first
    | (refine wpList_load_blk 29 (.tmp 3) rfl (w.heap.size) rfl (by kernel_rfl) (HB).out Try.underlying29 hgi ?_)
    | (go_at_call 8; refine (car_awake _).mono ?_; rintro e w2 ⟨rfl, hb9⟩; replace hb := bel hb hb9; replace HB := Lib.hid (HB.out.step hb9); clear hb9))
  refine (K0.out _ (H.out.step hb)).mono ?_
  rintro e w3 ⟨b, rfl, hb9, hok⟩
  replace hb := bel hb hb9
  replace HB := Lib.hid (HB.out.step hb9)
  clear hb9 K0
  cases b
  · clear hok
    go_wp2_with (go_at_call 8; refine (car_awake _).mono ?_; rintro e w4 ⟨rfl, hb9⟩; replace hb := bel hb hb9; clear hb9)
    go_ret
    exact ⟨rfl, hb⟩
  · have OK := Lib.hid (hok rfl)
    clear hok
    by_cases h60 : l.length ≤ 60
    · have hch := OK.out.ch
      have KT := Lib.hid (fun W A lc h => to_any l A lc W h (by omega))
      have K1 := Lib.hid (fun W A lc h h2 => carry_any gcs cur y m p cl cA cc ro el eA ec W l A lc q HG h OK.out h2 (by omega))
      have K2 := Lib.hid (fun W A lc h h2 => cres_any gcs cur y m p cl cA cc ro el eA ec W l A lc q HG h OK.out h2 (by omega))
      have KR := Lib.hid (fun W c h => rresult_any gcs cur y m p cl cA cc ro el eA ec W c HG h (by omega))
      have HF := Lib.hid (keep_facts (cur := cur) (y := y) (m := m) (p := p) (q := q) (cl := cl) (ro := ro) (el := el) (l := l))
      have HNIL : Hid (Cr.cE (Gr.gv cur cl ro el (Cal.ok y m p)) y m p q cl ro l ≠ 0 → Cr.cL (Gr.gv cur cl ro el (Cal.ok y m p)) y m p q cl ro l = []) := Lib.hid (fun h => by unfold Cr.cL; rw [if_neg h])
      have hml := Cr.cL_len (V := Gr.gv cur cl ro el (Cal.ok y m p)) (Y := y) (M := m) (P := p) (q := q) (cl := cl) (ro := ro) (l := l)
      unfold RTwo Two at K2
      unfold CaPost at K1
      generalize Gr.gv cur cl ro el (Cal.ok y m p) = V at *
      generalize Cr.toV V y m p q cl (Cr.isRes cl ro (Cr.bg V y m p q)) l = tv at *
      generalize Cr.toE V y m p q cl (Cr.isRes cl ro (Cr.bg V y m p q)) l = te at *
      generalize Cr.cE V y m p q cl ro l = E at *
      generalize Cr.cL V y m p q cl ro l = M at *
      go_wp2_with fail
      refine rel_begin (n := 10) (w3) (by kernel_rfl) rfl ?_; have hC := Near.drew (w3)
      refine rel_load_blk (i := 0) rfl 29 (.tmp 3) rfl (w.heap.size) rfl (by kernel_rfl) (by kernel_rfl) (by kernel_rfl) rfl (fun _ _ _ _ h => h) hC (HB).out Try.underlying29 hgi ?_; (try simp only [Act.put, List.setIfInBounds_toArray, List.set_cons_zero, List.set_cons_succ])
      (first | (refine rel_want (i := 1) rfl rfl (by kernel_rfl) (by kernel_rfl) (by kernel_rfl) rfl (fun _ _ _ _ h => h) hC ?_; intro K hK; go_big_quiet_op; go_big_quiet_on) | (refine rel_skip (i := 1) rfl (by kernel_rfl) (by kernel_rfl) (by kernel_rfl) rfl (fun _ _ _ _ h => h) hC ?_; simp only [Act.put, List.setIfInBounds_toArray, List.set_cons_zero, List.set_cons_succ])); (first | (refine rel_want (i := 3) rfl rfl (by kernel_rfl) (by kernel_rfl) (by kernel_rfl) rfl (fun _ _ _ _ h => h) hC ?_; intro K hK; go_big_quiet_op; go_big_quiet_on) | (refine rel_skip (i := 3) rfl (by kernel_rfl) (by kernel_rfl) (by kernel_rfl) rfl (fun _ _ _ _ h => h) hC ?_; simp only [Act.put, List.setIfInBounds_toArray, List.set_cons_zero, List.set_cons_succ]))
      refine rel_call (i := 2) (by kernel_rfl) rfl rfl ?_; intro K hK; go_simp; go_at_call 11; refine (KT.out _ _ _ (Rd.now HR.out (bel hb hC.below))).mono ?_; rintro e w2 ⟨v, rfl, ho, hb2⟩; obtain ⟨A5, c5, rfl, hr5⟩ := Rd.of_own ho; have HR5 := Lib.hid hr5; clear hr5 ho; (try go_wp2_with fail); replace hC := hC.on hb2; refine hK _ _ hC (fun _ => ?_); clear hK K; (try simp only [Act.put, List.setIfInBounds_toArray, List.set_cons_zero, List.set_cons_succ])
      refine rel_call (i := 4) (by kernel_rfl) rfl rfl ?_; intro K hK; go_simp; go_at_call 10; refine (K1.out _ _ _ (H.out.step (bel hb hC.below)) HR5.out).mono ?_; rintro e w2 ⟨v, rfl, ho, hb2⟩; obtain ⟨A6, c6, rfl, hr6⟩ := Rd.of_own ho; have HR6 := Lib.hid hr6; clear hr6 ho; (try go_wp2_with fail); replace hC := hC.on hb2; refine hK _ _ hC (fun _ => ?_); clear hK K; (try simp only [Act.put, List.setIfInBounds_toArray, List.set_cons_zero, List.set_cons_succ])
      (first | (refine rel_want (i := 5) rfl rfl (by kernel_rfl) (by kernel_rfl) (by kernel_rfl) rfl (fun _ _ _ _ h => h) hC ?_; intro K hK; go_big_quiet_op; go_big_quiet_on) | (refine rel_skip (i := 5) rfl (by kernel_rfl) (by kernel_rfl) (by kernel_rfl) rfl (fun _ _ _ _ h => h) hC ?_; simp only [Act.put, List.setIfInBounds_toArray, List.set_cons_zero, List.set_cons_succ])); (first | (refine rel_want (i := 6) rfl rfl (by kernel_rfl) (by kernel_rfl) (by kernel_rfl) rfl (fun _ _ _ _ h => h) hC ?_; intro K hK; go_big_quiet_op; go_big_quiet_on) | (refine rel_skip (i := 6) rfl (by kernel_rfl) (by kernel_rfl) (by kernel_rfl) rfl (fun _ _ _ _ h => h) hC ?_; simp only [Act.put, List.setIfInBounds_toArray, List.set_cons_zero, List.set_cons_succ])); (first | (refine rel_want (i := 7) rfl rfl (by kernel_rfl) (by kernel_rfl) (by kernel_rfl) rfl (fun _ _ _ _ h => h) hC ?_; intro K hK; go_big_quiet_op; go_big_quiet_on) | (refine rel_skip (i := 7) rfl (by kernel_rfl) (by kernel_rfl) (by kernel_rfl) rfl (fun _ _ _ _ h => h) hC ?_; simp only [Act.put, List.setIfInBounds_toArray, List.set_cons_zero, List.set_cons_succ])); (first | (refine rel_want (i := 8) rfl rfl (by kernel_rfl) (by kernel_rfl) (by kernel_rfl) rfl (fun _ _ _ _ h => h) hC ?_; intro K hK; go_big_quiet_op; go_big_quiet_on) | (refine rel_skip (i := 8) rfl (by kernel_rfl) (by kernel_rfl) (by kernel_rfl) rfl (fun _ _ _ _ h => h) hC ?_; simp only [Act.put, List.setIfInBounds_toArray, List.set_cons_zero, List.set_cons_succ])); (first | (refine rel_want (i := 9) rfl rfl (by kernel_rfl) (by kernel_rfl) (by kernel_rfl) rfl (fun _ _ _ _ h => h) hC ?_; intro K hK; go_big_quiet_op; go_big_quiet_on) | (refine rel_skip (i := 9) rfl (by kernel_rfl) (by kernel_rfl) (by kernel_rfl) rfl (fun _ _ _ _ h => h) hC ?_; simp only [Act.put, List.setIfInBounds_toArray, List.set_cons_zero, List.set_cons_succ]))
      refine wpAnyH_done (by kernel_rfl) ?_ _
      have hb5 := bel hb hC.below
      have HB5 := Lib.hid (HB.out.step hC.below)
      clear HR5 hC K1
      obtain ⟨w6, rfl⟩ : ∃ x : World, x = w2 := ⟨_, rfl⟩
      go_wp2_with fail
      refine rel_begin (n := 10) (w6) (by kernel_rfl) rfl ?_; have hC := Near.drew (w6)
      refine rel_load_blk (i := 0) rfl 29 (.tmp 3) rfl (w.heap.size) rfl (by kernel_rfl) (by kernel_rfl) (by kernel_rfl) rfl (fun _ _ _ _ h => h) hC (HB5).out Try.underlying29 hgi ?_; (try simp only [Act.put, List.setIfInBounds_toArray, List.set_cons_zero, List.set_cons_succ])
      (first | (refine rel_want (i := 1) rfl rfl (by kernel_rfl) (by kernel_rfl) (by kernel_rfl) rfl (fun _ _ _ _ h => h) hC ?_; intro K hK; go_big_quiet_op; go_big_quiet_on) | (refine rel_skip (i := 1) rfl (by kernel_rfl) (by kernel_rfl) (by kernel_rfl) rfl (fun _ _ _ _ h => h) hC ?_; simp only [Act.put, List.setIfInBounds_toArray, List.set_cons_zero, List.set_cons_succ])); (first | (refine rel_want (i := 3) rfl rfl (by kernel_rfl) (by kernel_rfl) (by kernel_rfl) rfl (fun _ _ _ _ h => h) hC ?_; intro K hK; go_big_quiet_op; go_big_quiet_on) | (refine rel_skip (i := 3) rfl (by kernel_rfl) (by kernel_rfl) (by kernel_rfl) rfl (fun _ _ _ _ h => h) hC ?_; simp only [Act.put, List.setIfInBounds_toArray, List.set_cons_zero, List.set_cons_succ]))
      refine rel_call (i := 2) (by kernel_rfl) rfl rfl ?_; intro K hK; go_simp; go_at_call 11; refine (KT.out _ _ _ (Rd.now HR.out (bel hb5 hC.below))).mono ?_; rintro e w2 ⟨v, rfl, ho, hb2⟩; obtain ⟨A7, c7, rfl, hr7⟩ := Rd.of_own ho; have HR7 := Lib.hid hr7; clear hr7 ho; (try go_wp2_with fail); replace hC := hC.on hb2; refine hK _ _ hC (fun _ => ?_); clear hK K; (try simp only [Act.put, List.setIfInBounds_toArray, List.set_cons_zero, List.set_cons_succ])
      refine rel_call (i := 4) (by kernel_rfl) rfl rfl ?_; intro K hK; go_simp; go_at_call 12; refine (K2.out _ _ _ (H.out.step (bel hb5 hC.below)) HR7.out).mono ?_; rintro e w2 ⟨rfl, hb2⟩; (try go_wp2_with fail); replace hC := hC.on hb2; refine hK _ _ hC (fun _ => ?_); clear hK K; (try simp only [Act.put, List.setIfInBounds_toArray, List.set_cons_zero, List.set_cons_succ])
      (first | (refine rel_want (i := 5) rfl rfl (by kernel_rfl) (by kernel_rfl) (by kernel_rfl) rfl (fun _ _ _ _ h => h) hC ?_; intro K hK; go_big_quiet_op; go_big_quiet_on) | (refine rel_skip (i := 5) rfl (by kernel_rfl) (by kernel_rfl) (by kernel_rfl) rfl (fun _ _ _ _ h => h) hC ?_; simp only [Act.put, List.setIfInBounds_toArray, List.set_cons_zero, List.set_cons_succ])); (first | (refine rel_want (i := 6) rfl rfl (by kernel_rfl) (by kernel_rfl) (by kernel_rfl) rfl (fun _ _ _ _ h => h) hC ?_; intro K hK; go_big_quiet_op; go_big_quiet_on) | (refine rel_skip (i := 6) rfl (by kernel_rfl) (by kernel_rfl) (by kernel_rfl) rfl (fun _ _ _ _ h => h) hC ?_; simp only [Act.put, List.setIfInBounds_toArray, List.set_cons_zero, List.set_cons_succ])); (first | (refine rel_want (i := 7) rfl rfl (by kernel_rfl) (by kernel_rfl) (by kernel_rfl) rfl (fun _ _ _ _ h => h) hC ?_; intro K hK; go_big_quiet_op; go_big_quiet_on) | (refine rel_skip (i := 7) rfl (by kernel_rfl) (by kernel_rfl) (by kernel_rfl) rfl (fun _ _ _ _ h => h) hC ?_; simp only [Act.put, List.setIfInBounds_toArray, List.set_cons_zero, List.set_cons_succ])); (first | (refine rel_want (i := 8) rfl rfl (by kernel_rfl) (by kernel_rfl) (by kernel_rfl) rfl (fun _ _ _ _ h => h) hC ?_; intro K hK; go_big_quiet_op; go_big_quiet_on) | (refine rel_skip (i := 8) rfl (by kernel_rfl) (by kernel_rfl) (by kernel_rfl) rfl (fun _ _ _ _ h => h) hC ?_; simp only [Act.put, List.setIfInBounds_toArray, List.set_cons_zero, List.set_cons_succ])); (first | (refine rel_want (i := 9) rfl rfl (by kernel_rfl) (by kernel_rfl) (by kernel_rfl) rfl (fun _ _ _ _ h => h) hC ?_; intro K hK; go_big_quiet_op; go_big_quiet_on) | (refine rel_skip (i := 9) rfl (by kernel_rfl) (by kernel_rfl) (by kernel_rfl) rfl (fun _ _ _ _ h => h) hC ?_; simp only [Act.put, List.setIfInBounds_toArray, List.set_cons_zero, List.set_cons_succ]))
      refine wpAnyH_done (by kernel_rfl) ?_ _
      have hb8 := bel hb5 hC.below
      have HB8 := Lib.hid (HB5.out.step hC.below)
      have HM := Lib.hid (Rd.now HR6.out hC.below)
      clear HR7 HR6 hC K2 HB5 hb5
      obtain ⟨w8, rfl⟩ : ∃ x : World, x = w2 := ⟨_, rfl⟩
      cases hE : (E != 0)
      · have hE0 : E = 0 := by simpa using hE
        obtain ⟨HF1, HF2⟩ := HF.out hE0
        cases hT : (te != 0)
        · have hT0 : te = 0 := by simpa using hT
          obtain ⟨k1, k2, k3, k4⟩ := HF2 hT0
          have HK1 := Lib.hid k1
          have HK2 := Lib.hid k2
          have HK3 := Lib.hid k3
          have HK4 := Lib.hid k4
          clear k1 k2 k3 k4 HF HF1 HF2 HNIL hE0 hT0
          go_wp2_with fail
          go_loopw [11, 60] (fun s t wr => ∃ k : Nat, k ≤ l.length ∧ s = .int .i64 (Cr.tot (fun _ => true) (l.take k)) ∧ t = .int .i64 k ∧ w8 = wr) (fun _ t _ => l.length - (intOf t).toNat)
          case atStart => exact ⟨0, by omega, rfl, rfl, rfl⟩
          case round =>
            obtain ⟨k, hk, rfl, rfl, rfl⟩ := hrel
            have hbd := Cr.tot_bd (fun _ => true) l HK1.out k hk
            by_cases hlt : k < l.length
            · obtain ⟨b0, o, hA, hbo, f0, f1, f2⟩ := DatR.at_ (Rd.now HR.out hb8) hlt
              subst hA
              have HTT := Lib.hid (Cr.tot_take (fun _ => true) l k hlt)
              have ham : -1000000000000 ≤ l[k].amount ∧ l[k].amount ≤ 1000000000000 := by
                have h2 := List.any_eq_false.1 HK1.out l[k] (List.getElem_mem hlt)
                unfold Cr.notAm at h2
                exact amV_is (by simpa using h2)
              obtain ⟨a0, a1⟩ := ham
              obtain ⟨d0, d1⟩ := hbd
              generalize Cr.tot (fun _ => true) (l.take k) = s at *
              generalize l[k] = x at *
              obtain ⟨xa, xd, xm⟩ := x
              dsimp only at *
              have hws : IntKind.i64.wrap (s + xm) = s + xm := IntWalk.i64_in _ (by omega)
              go_wp2_with fail
              go_roundw
              case rel => exact ⟨k + 1, by omega, by rw [HTT.out]; simp, by go_num, trivial⟩
              case measure => simp [intOf]; omega
            · have hke : l.take k = l := List.take_of_length_le (by omega)
              rw [hke]
              clear hbd hke
              rw [← HK2.out]
              generalize hS : sm M Bal.amount = S at *
              have HSM := Lib.hid hS
              clear hS
              go_wp2_with fail
              go_loopw [12, 13, 73] (fun s u t wr => ∃ k : Nat, k ≤ M.length ∧ s = .int .i64 (sm (M.take k) Bal.amount) ∧ u = .int .i64 (sm (M.take k) (fun x => if resB cl x.account = true then x.amount else 0)) ∧ t = .int .i64 k ∧ Below w8.heap.size w8 wr) (fun _ _ t _ => M.length - (intOf t).toNat)
              case atStart => exact ⟨0, by omega, rfl, rfl, rfl, Below.refl _ _⟩
              case round =>
                obtain ⟨k, hk, rfl, rfl, rfl, hbr⟩ := hrel
                have hbw := bel hb8 hbr
                have hbd1 := sm_bd (M.take k) Bal.amount 1000000000000 (fun a ha => HK4.out a (List.mem_of_mem_take ha))
                have hbd2 := sm_bd (M.take k) (fun x => if resB cl x.account = true then x.amount else 0) 1000000000000 (fun a ha => by
                  have := HK4.out a (List.mem_of_mem_take ha)
                  split <;> omega)
                have hmk : (M.take k).length ≤ 300 := by rw [List.length_take]; omega
                by_cases hlt : k < M.length
                · obtain ⟨b0, o, hA, hbo, f0, f1⟩ := Bal.at_ (Rd.now HM.out hbr) hlt
                  subst hA
                  have HT1 := Lib.hid (sm_take M k hlt Bal.amount)
                  have HT2 := Lib.hid (sm_take M k hlt (fun x => if resB cl x.account = true then x.amount else 0))
                  have ham := HK4.out _ (List.getElem_mem hlt)
                  have hmk2 : ((M.take k).length : Int) ≤ 300 := by omega
                  obtain ⟨a0, a1⟩ := ham
                  obtain ⟨d0, d1⟩ := hbd1
                  obtain ⟨d2, d3⟩ := hbd2
                  generalize sm (M.take k) Bal.amount = s at *
                  generalize sm (M.take k) (fun x => if resB cl x.account = true then x.amount else 0) = u at *
                  generalize M[k] = x at *
                  obtain ⟨xa, xm⟩ := x
                  dsimp only at *
                  have hws : IntKind.i64.wrap (s + xm) = s + xm := IntWalk.i64_in _ (by omega)
                  have hwu : IntKind.i64.wrap (u + xm) = u + xm := IntWalk.i64_in _ (by omega)
                  have HBr := Lib.hid (HB8.out.step hbr)
                  have q0 : ∀ d : Later wr, d.now.cell? ⟨b0, o + k * 2, none⟩ = some (.int .i64 xa) := fun d => d.cell hbo f0
                  have F1 := Lib.hid f1
                  have K3 := Lib.hid (fun W h => KR.out W xa h)
                  clear d0 d1 d2 d3 hmk hmk2 f0
                  go_wp2_with fail
                  clear f1
                  refine wp_region_later (by kernel_rfl) (by kernel_rfl) ?_
                  (repeat (go_big_quiet_step ((fail)))); refine quiet_load_blk 29 (.tmp 3) rfl (w.heap.size) rfl (by kernel_rfl) (HBr).out Try.underlying29 hgi ?_; (try simp only [Act.put, List.setIfInBounds_toArray, List.set_cons_zero, List.set_cons_succ])
                  (repeat (go_big_quiet_step ((fail)))); go_big_quiet_step ((go_at_call 13; exact Later.call _ (K3.out _ (H.out.step (bel hbw (Later.below _))))))
                  (repeat (go_big_quiet_step ((fail)))); refine wpQuiet_nil ?_; rintro _ ⟨dq, rfl⟩
                  have hbe := bel hbr dq.below
                  have f1 : dq.now.cell? ⟨b0, o + k * 2 + 1, none⟩ = some (.int .i64 xm) := dq.cell hbo F1.out
                  clear q0
                  cases hrb : resB cl xa
                  · have HT3 : Hid (sm (M.take (k + 1)) (fun x => if resB cl x.account = true then x.amount else 0) = u) := Lib.hid (by rw [HT2.out, hrb]; simp)
                    go_wp2_with fail
                    go_roundw
                    case rel => exact ⟨k + 1, by omega, by rw [HT1.out], by rw [HT3.out], by go_num, hbe⟩
                    case measure => simp [intOf]; omega
                  · have HT3 : Hid (sm (M.take (k + 1)) (fun x => if resB cl x.account = true then x.amount else 0) = u + xm) := Lib.hid (by rw [HT2.out, hrb]; simp)
                    go_wp2_with fail
                    go_roundw
                    case rel => exact ⟨k + 1, by omega, by rw [HT1.out], by rw [HT3.out], by go_num, hbe⟩
                    case measure => simp [intOf]; omega
                · have hke : M.take k = M := List.take_of_length_le (by omega)
                  rw [hke, HK3.out, HSM.out]
                  clear hbd1 hbd2 hke hmk
                  have n1 : (S == S) = true := by simp
                  have n2 : (tv == tv) = true := by simp
                  go_wp2_with fail
                  go_ret
                  exact ⟨rfl, hbw⟩
        · have hte : te = 2 := HF1 (by simpa using hT)
          subst hte
          clear HF HF1 HF2 HNIL hE0
          cases hM : ((M.length : Int) == 0)
          · go_wp2_with fail
            go_ret
            exact ⟨rfl, hb8⟩
          · go_wp2_with fail
            go_ret
            exact ⟨rfl, hb8⟩
      · have hM0 := HNIL.out (by simpa using hE)
        subst hM0
        have hM : (((([] : List Bal)).length : Int) == 0) = true := rfl
        go_wp2_with fail
        go_ret
        exact ⟨rfl, hb8⟩
    · have h61 : 60 < l.length := by omega
      go_wp2_with (go_at_call 8; refine (car_awake _).mono ?_; rintro e w4 ⟨rfl, hb9⟩; replace hb := bel hb hb9; clear hb9)
      go_ret
      exact ⟨rfl, hb⟩
end
end Go.Proofs.Ythfbpbbepogllaa
