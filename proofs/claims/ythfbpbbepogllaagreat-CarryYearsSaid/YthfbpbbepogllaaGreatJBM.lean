/- Texts of this claim, put together. -/
import Derived.Test.YthfbpbbepogllaaGreatJBH
import Derived.Test.YthfbpbbepogllaaGreatJBJ
import Derived.Test.YthfbpbbepogllaaGreatJBK
import Derived.Test.YthfbpbbepogllaaGreatCalWalksBZ
import Derived.Test.YthfbpbbepogllaaGreatJAF
/- Periods of one fiscal year, and the next one. No walk. -/
namespace Go.Proofs.YthfbpbbepogllaaGreat
set_option linter.unusedVariables false
set_option linter.unusedSimpArgs false
open Go.RowKit

namespace Cr
theorem ret_kind {cur : ByteArray} {cl : List Acc} {ro : RolesR} {el : List EntR} {cal : Bool} (h : Gr.gv cur cl ro el cal = true) : resB cl ro.retained = false := by
  have h0 : Gr.rolesOk cl (Gr.roles ro) = true := by
    unfold Gr.gv Gr.accsV at h
    simp only [Bool.and_eq_true] at h
    exact h.2.2.1.2.2
  have := allAt_at h0 (show 6 < (Gr.roles ro).length by rw [Gr.roles_len]; omega)
  unfold Gr.roleOk at this
  simp only [Bool.and_eq_true, decide_eq_true_eq] at this
  have hk := this.2.2.1
  have hk3 : (Ch.fnV cl ro.retained).kind = 3 := hk
  unfold resB
  rw [hk3]
  rfl
/-- periods of one fiscal year have one beginning -/
theorem be_year {Y M P i k : Int} (hi : Cal.ckE Y M P i = 0) (hk : Cal.ckE Y M P k = 0) (h : i - i % 12 = k - k % 12) : Cal.beV Y M P i = Cal.beV Y M P k := by
  unfold Cal.beV
  rw [if_pos hi, if_pos hk, h]
theorem year_same {V : Bool} {Y M P i k : Int} {cl : List Acc} {ro : RolesR} {l : List DatR} (hV : V = true) (hi : Cal.ckE Y M P i = 0) (hk : Cal.ckE Y M P k = 0) (h : i - i % 12 = k - k % 12) :
    cE V Y M P k cl ro l = cE V Y M P i cl ro l ∧ cL V Y M P k cl ro l = cL V Y M P i cl ro l := by
  subst hV
  have hb : bg true Y M P k = bg true Y M P i := by unfold bg; rw [if_pos rfl, if_pos rfl]; exact (be_year hi hk h).symm
  have hv : vE true Y M P k cl l = vE true Y M P i cl l := by unfold vE ckE; rw [if_pos rfl, if_pos rfl, hi, hk]
  unfold cL cE sumF
  rw [hb, hv]
  exact ⟨rfl, rfl⟩
theorem tot_zero {F : DatR → Bool} {l : List DatR} (h : ∀ x ∈ l, F x = false) : tot F l = 0 := by
  unfold tot
  induction l with
  | nil => rfl
  | cons x r ih =>
    rw [List.map_cons, List.sum_cons, ih (fun y hy => h y (List.mem_cons_of_mem _ hy)), h x (List.mem_cons_self ..)]
    rfl
theorem tot_split {F G H : DatR → Bool} {l : List DatR} (h : ∀ x ∈ l, (if F x = true then x.amount else 0) = (if G x = true then x.amount else 0) + (if H x = true then x.amount else 0)) : tot F l = tot G l + tot H l := by
  unfold tot
  induction l with
  | nil => rfl
  | cons x r ih =>
    simp only [List.map_cons, List.sum_cons]
    rw [ih (fun y hy => h y (List.mem_cons_of_mem _ hy)), h x (List.mem_cons_self ..)]
    omega
/-- in the next year the results are none, and what is retained is both -/
theorem next_year {cur : ByteArray} {y m p i nx : Int} {cl : List Acc} {ro : RolesR} {el : List EntR} {l : List DatR} (hV : Gr.gv cur cl ro el (Cal.ok y m p) = true) (hE : cE true y m p i cl ro l = 0) (hnx : Cal.ckE y m p nx = 0) (h12 : nx % 12 = 0) (hd : ∀ x ∈ l, x.date < Cal.fiV y m p nx) :
    toE true y m p nx cl (isRes cl ro (bg true y m p nx)) l = 0 ∧ toV true y m p nx cl (isRes cl ro (bg true y m p nx)) l = 0 ∧
    (toE true y m p i cl (isRet cl ro (bg true y m p i)) l = 0 → toE true y m p i cl (isRes cl ro (bg true y m p i)) l = 0 → toE true y m p nx cl (isRet cl ro (bg true y m p nx)) l = 0 →
      toV true y m p nx cl (isRet cl ro (bg true y m p nx)) l = toV true y m p i cl (isRet cl ro (bg true y m p i)) l + toV true y m p i cl (isRes cl ro (bg true y m p i)) l ∧
      -1000000000000 ≤ toV true y m p i cl (isRet cl ro (bg true y m p i)) l ∧ toV true y m p i cl (isRet cl ro (bg true y m p i)) l ≤ 1000000000000 ∧
      -1000000000000 ≤ toV true y m p i cl (isRes cl ro (bg true y m p i)) l ∧ toV true y m p i cl (isRes cl ro (bg true y m p i)) l ≤ 1000000000000) := by
  have hrk := ret_kind hV
  have hv0 : vE true y m p i cl l = 0 := by
    unfold cE at hE
    split at hE
    · assumption
    · rename_i h0; exact absurd hE h0
  have hckn : ckE true y m p nx = 0 := by unfold ckE; rw [if_pos rfl]; exact hnx
  have hvn : vE true y m p nx cl l = 0 := by
    unfold vE at hv0 ⊢
    rw [hckn, if_pos rfl]
    split at hv0
    · exact hv0
    · rename_i h0; exact absurd hv0 h0
  have hbg : bg true y m p nx = Cal.fiV y m p nx := by
    unfold bg Cal.beV Cal.fiV
    rw [if_pos rfl, if_pos hnx, if_pos hnx, h12]
    simp
  have hsh : ∀ x ∈ l, sh cl ro x.account x.date (bg true y m p nx) = if resB cl x.account = true then ro.retained else x.account := fun x hx => by
    unfold sh
    rw [hbg]
    have := hd x hx
    simp [this]
  have hres : ∀ x ∈ l, isRes cl ro (bg true y m p nx) x = false := fun x hx => by
    unfold isRes
    rw [hsh x hx]
    split
    · exact hrk
    · rename_i h0; simpa using h0
  have hne : ∀ x : DatR, resB cl x.account = true → x.account ≠ ro.retained := fun x hx e => by rw [e, hrk] at hx; cases hx
  have hret : ∀ x ∈ l, isRet cl ro (bg true y m p nx) x = resB cl x.account := fun x hx => by
    unfold isRet
    rw [hsh x hx]
    cases hr : resB cl x.account
    · simp
    · simpa using hne x hr
  have ht0 := tot_zero hres
  have hE0 : toE true y m p nx cl (isRes cl ro (bg true y m p nx)) l = 0 := by unfold toE; rw [if_pos hvn, ht0]; rfl
  refine ⟨hE0, by unfold toV; rw [if_pos hE0, ht0], fun e1 e2 e3 => ?_⟩
  unfold toV
  rw [if_pos e1, if_pos e2, if_pos e3]
  have b1 : amV (tot (isRet cl ro (bg true y m p i)) l) = true := by
    unfold toE at e1
    rw [if_pos hv0] at e1
    split at e1
    · assumption
    · cases e1
  have b2 : amV (tot (isRes cl ro (bg true y m p i)) l) = true := by
    unfold toE at e2
    rw [if_pos hv0] at e2
    split at e2
    · assumption
    · cases e2
  obtain ⟨c1, c2⟩ := amV_is b1
  obtain ⟨c3, c4⟩ := amV_is b2
  refine ⟨tot_split (fun x hx => ?_), c1, c2, c3, c4⟩
  rw [hret x hx]
  unfold isRet isRes sh
  cases hr : resB cl x.account
  · simp [hr]
  · by_cases hdt : x.date < bg true y m p i
    · have h1 : (decide (x.date < bg true y m p i) && true) = true := by simpa using hdt
      rw [if_pos h1, hrk]
      have := hne x hr
      simp [this]
    · have h1 : ¬ (decide (x.date < bg true y m p i) && true) = true := by simpa using hdt
      rw [if_neg h1, hr]
      simp
end Cr
end Go.Proofs.YthfbpbbepogllaaGreat
/- The walk of CarryYears. -/
namespace Go.Proofs.YthfbpbbepogllaaGreat
set_option linter.unusedVariables false
set_option linter.unusedSimpArgs false
open Go.RowKit

section
variable (cur : ByteArray) (y m p : Int) (cl : List Acc) (cA : Option Addr) (cc : Nat) (ro : RolesR) (el : List EntR) (eA : Option Addr) (ec : Nat) (w : World)
set_option maxRecDepth 100000 in
set_option maxHeartbeats 16000000 in
theorem law_CarryYears (l : List DatR) (A : Option Addr) (lc : Nat) (pa pb : Nat) (hpa : pa ≤ 255) (hpb : pb ≤ 255) (h : GIn w cl cA el eA) (hc : cur.size ≤ maxLen) (hcl : cl.length ≤ maxLen) (hel : el.length ≤ maxLen) (hr : Rd w w.heap.size 3 A l.length (cellsOf DatR.cells l)) (hl : l.length ≤ maxLen) :
    Calls Tryz.prog 9 #[.agg #[.string cur, .int .i64 y, .int .i64 m, .int .i64 p, .slice cA cl.length cc, .int .i64 ro.investment, .int .i64 ro.goodwill, .int .i64 ro.associates, .int .i64 ro.inventory, .int .i64 ro.reserve, .int .i64 ro.minority, .int .i64 ro.retained, .int .i64 ro.acquired, .int .i64 ro.owners, .int .i64 ro.disposal, .int .i64 ro.associateProfit, .int .i64 ro.dividends, .int .i64 ro.minorityProfit, .int .i64 ro.difference, .int .i64 ro.margin, .slice eA el.length ec], .slice A l.length lc, .agg #[.int .u8 pa, .int .u8 pb]] w fun e w' => e = .returned (.bool true) ∧ Below w.heap.size w w' := by
  have H := Lib.hid h
  have HR := Lib.hid hr
  unfold maxLen at hl
  clear h hr
  obtain ⟨gcs, hgc⟩ : ∃ x : Array Value, x = #[.string cur, .int .i64 y, .int .i64 m, .int .i64 p, .slice cA cl.length cc, .int .i64 ro.investment, .int .i64 ro.goodwill, .int .i64 ro.associates, .int .i64 ro.inventory, .int .i64 ro.reserve, .int .i64 ro.minority, .int .i64 ro.retained, .int .i64 ro.acquired, .int .i64 ro.owners, .int .i64 ro.disposal, .int .i64 ro.associateProfit, .int .i64 ro.dividends, .int .i64 ro.minorityProfit, .int .i64 ro.difference, .int .i64 ro.margin, .slice eA el.length ec] := ⟨_, rfl⟩
  have hgi : (Tryz.prog.info? 29).map (·.size) = some gcs.size := by rw [hgc]; exact grp_size
  have HG := Lib.hid hgc
  rw [← hgc]
  clear hgc
  have K0 := Lib.hid (fun W h => HG.out.symm ▸ few_any cur y m p cl cA cc ro el eA ec W h hc hcl hel)
  clear hcl hel
  have hb : Below w.heap.size w ((w.alloc (.cells gcs 29)).alloc (.cells #[.int .u8 pa, .int .u8 pb] 80)) := ((Below.refl _ _).alloc (Nat.le_refl _) _).alloc (by simp) _
  have HB := Lib.hid ((Blk.new w 29 gcs).alloc (.cells #[.int .u8 pa, .int .u8 pb] 80))
  have HT : Hid (Blk ((w.alloc (.cells gcs 29)).alloc (.cells #[.int .u8 pa, .int .u8 pb] 80)) (w.heap.size + 1) 80 #[.int .u8 pa, .int .u8 pb]) := Lib.hid (Blk.newAt (by simp))
  go_enter Tryz.func9, Tryz.ntmps9
  go_upto_region 1 with fail
  generalize (w.alloc (.cells gcs 29)).alloc (.cells #[.int .u8 pa, .int .u8 pb] 80) = W at *
  go_wp2_with (first
    | (refine wpList_load_blk 29 (.tmp 3) rfl (w.heap.size) rfl (by kernel_rfl) (HB).out Tryz.underlying29 hgi ?_)
    | (go_at_call 24; refine (car_awake _).mono ?_; rintro e w2 ⟨rfl, hb9⟩; replace hb := bel hb hb9; replace HB := Lib.hid (HB.out.step hb9); replace HT := Lib.hid (HT.out.step hb9); clear hb9))
  refine (K0.out _ (H.out.step hb)).mono ?_
  rintro e w3 ⟨b, rfl, hb9, hok⟩
  replace hb := bel hb hb9
  replace HB := Lib.hid (HB.out.step hb9)
  replace HT := Lib.hid (HT.out.step hb9)
  clear hb9 K0
  cases b
  · clear hok
    go_wp2_with (go_at_call 24; refine (car_awake _).mono ?_; rintro e w4 ⟨rfl, hb9⟩; replace hb := bel hb hb9; clear hb9)
    go_ret
    exact ⟨rfl, hb⟩
  · have OK := Lib.hid (hok rfl)
    clear hok
    by_cases h60 : l.length ≤ 60
    · have hch := OK.out.ch
      have hd60 : decide ((60 : Int) < (l.length : Int)) = false := by simp; omega
      have KV := Lib.hid (fun W h => rgvalid_any gcs cur y m p cl cA cc ro el eA ec W HG h OK.out)
      have KT := Lib.hid (fun W A lc h => to_any l A lc W h (by omega))
      have K1 := Lib.hid (fun q W A lc h h2 => carry_any gcs cur y m p cl cA cc ro el eA ec W l A lc q HG h OK.out h2 (by omega))
      have K2 := Lib.hid (fun q W A lc h h2 => cres_any gcs cur y m p cl cA cc ro el eA ec W l A lc q HG h OK.out h2 (by omega))
      have K3 := Lib.hid (fun q W A lc h h2 => cret_any gcs cur y m p cl cA cc ro el eA ec W l A lc q HG h OK.out h2 (by omega))
      have HC := Lib.hid (gv_cal (cur := cur) (cl := cl) (ro := ro) (el := el) (cal := Cal.ok y m p))
      have HNY := Lib.hid (fun i nx => Cr.next_year (cur := cur) (y := y) (m := m) (p := p) (i := i) (nx := nx) (cl := cl) (ro := ro) (el := el) (l := l))
      have HML := Lib.hid (fun q => Cr.cL_len (V := Gr.gv cur cl ro el (Cal.ok y m p)) (Y := y) (M := m) (P := p) (q := q) (cl := cl) (ro := ro) (l := l))
      unfold RTwo Two at K2 K3
      unfold CaPost at K1
      generalize Gr.gv cur cl ro el (Cal.ok y m p) = V at *
      cases V
      · go_wp2_with (first
          | (refine wpList_load_blk 29 (.tmp 3) rfl (w.heap.size) rfl (by kernel_rfl) (HB).out Tryz.underlying29 hgi ?_)
          | (go_at_call 30; refine (KV.out _ (H.out.step hb)).mono ?_; rintro e w4 ⟨rfl, hb9⟩; replace hb := bel hb hb9; clear hb9)
          | (go_at_call 24; refine (car_awake _).mono ?_; rintro e w5 ⟨rfl, hb9⟩; replace hb := bel hb hb9; clear hb9))
        go_ret
        exact ⟨rfl, hb⟩
      · have hcal := HC.out rfl
        have hokp := (Cal.ok_iff y m p).1 hcal
        have hp1 : 1 ≤ p := hokp.2.2.1
        have hp2 : p ≤ 120 := hokp.2.2.2.1
        have HCK : Hid (∀ q, 0 ≤ q → q < p → Cal.ckE y m p q = 0) := Lib.hid (fun q h0 h1 => by unfold Cal.ckE; rw [if_pos hcal, if_pos ⟨h0, h1⟩])
        have HCKN : Hid (∀ q, Cal.ckE y m p q = 0 → q < p) := Lib.hid (fun q h0 => ((Cal.ck_zero y m p q).1 h0).2.2)
        obtain ⟨i, hi⟩ : ∃ i : Int, i = (pa : Int) % p := ⟨_, rfl⟩
        have hi0 : 0 ≤ i := by rw [hi]; exact Int.emod_nonneg _ (by omega)
        have hi1 : i < p := by rw [hi]; exact Int.emod_lt_of_pos _ (by omega)
        have HI := Lib.hid hi
        clear hi hcal hokp HC
        obtain ⟨k, hk⟩ : ∃ k : Int, k = min (p - 1) (i - i % 12 + (pb : Int) % 12) := ⟨_, rfl⟩
        have hk0 : 0 ≤ k := by omega
        have hk1 : k < p := by omega
        have hky : i - i % 12 = k - k % 12 := by omega
        have HKE := Lib.hid hk
        have HYS := Lib.hid (Cr.year_same (V := true) (cl := cl) (ro := ro) (l := l) rfl (HCK.out i hi0 hi1) (HCK.out k hk0 hk1) hky)
        clear hk hky
        have k1i := K1.out i
        have k1k := K1.out k
        rw [HYS.out.1, HYS.out.2] at k1k
        have K1i := Lib.hid k1i
        have K1k := Lib.hid k1k
        have hml := HML.out i
        have hqq : ((pa : Int)).tmod p = i := by rw [HI.out]; exact Int.tmod_eq_emod_of_nonneg (by omega)
        have hqq2 : IntKind.i64.wrap (((pa : Int)).tmod p) = i := by rw [hqq]; exact IntWalk.i64_in _ (by omega)
        clear k1i k1k K1 HYS HML
        have u0 := HT.out.cell 0
        have u3 : w3.cell? ⟨w.heap.size, 3, none⟩ = some (.int .i64 p) := (HB.out.cell 3).trans (by rw [HG.out]; rfl)
        clear u0 u3
        go_upto_region 6 with (first
          | (refine wpList_load_blk 29 (.tmp 3) rfl (w.heap.size) rfl (by kernel_rfl) (HB).out Tryz.underlying29 hgi ?_)
          | (go_at_call 30; refine (KV.out _ (H.out.step hb)).mono ?_; rintro e w4 ⟨rfl, hb9⟩; have hb4 := bel hb hb9; have HB4 := Lib.hid (HB.out.step hb9); have HT4 := Lib.hid (HT.out.step hb9); have u0 : w4.cell? ⟨w.heap.size + 1, 0, none⟩ = some (.int .u8 pa) := HT4.out.cell 0; have u1 : w4.cell? ⟨w.heap.size + 1, 1, none⟩ = some (.int .u8 pb) := HT4.out.cell 1; have u3 : w4.cell? ⟨w.heap.size, 3, none⟩ = some (.int .i64 p) := (HB4.out.cell 3).trans (by rw [HG.out]; rfl); clear hb9))
        rw [← HKE.out]
        clear HKE hqq hqq2 u0 u1 u3 hb HB HT
        refine rel_begin (n := 10) (w4) (by kernel_rfl) rfl ?_; have hC := Near.drew (w4)
        refine rel_load_blk (i := 0) rfl 29 (.tmp 3) rfl (w.heap.size) rfl (by kernel_rfl) (by kernel_rfl) (by kernel_rfl) rfl (fun _ _ _ _ h => h) hC (HB4).out Tryz.underlying29 hgi ?_; (try simp only [Act.put, List.setIfInBounds_toArray, List.set_cons_zero, List.set_cons_succ])
        (first | (refine rel_want (i := 1) rfl rfl (by kernel_rfl) (by kernel_rfl) (by kernel_rfl) rfl (fun _ _ _ _ h => h) hC ?_; intro K hK; go_big_quiet_op; go_big_quiet_on) | (refine rel_skip (i := 1) rfl (by kernel_rfl) (by kernel_rfl) (by kernel_rfl) rfl (fun _ _ _ _ h => h) hC ?_; simp only [Act.put, List.setIfInBounds_toArray, List.set_cons_zero, List.set_cons_succ])); (first | (refine rel_want (i := 3) rfl rfl (by kernel_rfl) (by kernel_rfl) (by kernel_rfl) rfl (fun _ _ _ _ h => h) hC ?_; intro K hK; go_big_quiet_op; go_big_quiet_on) | (refine rel_skip (i := 3) rfl (by kernel_rfl) (by kernel_rfl) (by kernel_rfl) rfl (fun _ _ _ _ h => h) hC ?_; simp only [Act.put, List.setIfInBounds_toArray, List.set_cons_zero, List.set_cons_succ]))
        refine rel_call (i := 2) (by kernel_rfl) rfl rfl ?_; intro K hK; go_simp; go_at_call 27; refine (KT.out _ _ _ (Rd.now HR.out (bel hb4 hC.below))).mono ?_; rintro e w2 ⟨v, rfl, ho, hb2⟩; obtain ⟨A5, c5, rfl, hr5⟩ := Rd.of_own ho; have HR5 := Lib.hid hr5; clear hr5 ho; (try go_wp2_with fail); replace hC := hC.on hb2; refine hK _ _ hC (fun _ => ?_); clear hK K; (try simp only [Act.put, List.setIfInBounds_toArray, List.set_cons_zero, List.set_cons_succ])
        refine rel_call (i := 4) (by kernel_rfl) rfl rfl ?_; intro K hK; go_simp; go_at_call 26; refine (K1i.out _ _ _ (H.out.step (bel hb4 hC.below)) HR5.out).mono ?_; rintro e w2 ⟨v, rfl, ho, hb2⟩; obtain ⟨A6, c6, rfl, hr6⟩ := Rd.of_own ho; have HR6 := Lib.hid hr6; clear hr6 ho; (try go_wp2_with fail); replace hC := hC.on hb2; refine hK _ _ hC (fun _ => ?_); clear hK K; (try simp only [Act.put, List.setIfInBounds_toArray, List.set_cons_zero, List.set_cons_succ])
        (first | (refine rel_want (i := 5) rfl rfl (by kernel_rfl) (by kernel_rfl) (by kernel_rfl) rfl (fun _ _ _ _ h => h) hC ?_; intro K hK; go_big_quiet_op; go_big_quiet_on) | (refine rel_skip (i := 5) rfl (by kernel_rfl) (by kernel_rfl) (by kernel_rfl) rfl (fun _ _ _ _ h => h) hC ?_; simp only [Act.put, List.setIfInBounds_toArray, List.set_cons_zero, List.set_cons_succ])); (first | (refine rel_want (i := 6) rfl rfl (by kernel_rfl) (by kernel_rfl) (by kernel_rfl) rfl (fun _ _ _ _ h => h) hC ?_; intro K hK; go_big_quiet_op; go_big_quiet_on) | (refine rel_skip (i := 6) rfl (by kernel_rfl) (by kernel_rfl) (by kernel_rfl) rfl (fun _ _ _ _ h => h) hC ?_; simp only [Act.put, List.setIfInBounds_toArray, List.set_cons_zero, List.set_cons_succ])); (first | (refine rel_want (i := 7) rfl rfl (by kernel_rfl) (by kernel_rfl) (by kernel_rfl) rfl (fun _ _ _ _ h => h) hC ?_; intro K hK; go_big_quiet_op; go_big_quiet_on) | (refine rel_skip (i := 7) rfl (by kernel_rfl) (by kernel_rfl) (by kernel_rfl) rfl (fun _ _ _ _ h => h) hC ?_; simp only [Act.put, List.setIfInBounds_toArray, List.set_cons_zero, List.set_cons_succ])); (first | (refine rel_want (i := 8) rfl rfl (by kernel_rfl) (by kernel_rfl) (by kernel_rfl) rfl (fun _ _ _ _ h => h) hC ?_; intro K hK; go_big_quiet_op; go_big_quiet_on) | (refine rel_skip (i := 8) rfl (by kernel_rfl) (by kernel_rfl) (by kernel_rfl) rfl (fun _ _ _ _ h => h) hC ?_; simp only [Act.put, List.setIfInBounds_toArray, List.set_cons_zero, List.set_cons_succ])); (first | (refine rel_want (i := 9) rfl rfl (by kernel_rfl) (by kernel_rfl) (by kernel_rfl) rfl (fun _ _ _ _ h => h) hC ?_; intro K hK; go_big_quiet_op; go_big_quiet_on) | (refine rel_skip (i := 9) rfl (by kernel_rfl) (by kernel_rfl) (by kernel_rfl) rfl (fun _ _ _ _ h => h) hC ?_; simp only [Act.put, List.setIfInBounds_toArray, List.set_cons_zero, List.set_cons_succ]))
        refine wpAnyH_done (by kernel_rfl) ?_ _
        have hb6 := bel hb4 hC.below
        have HB6 := Lib.hid (HB4.out.step hC.below)
        clear HR5 hC K1i
        obtain ⟨w6, rfl⟩ : ∃ x : World, x = w2 := ⟨_, rfl⟩
        go_wp2_with fail
        refine rel_begin (n := 10) (w6) (by kernel_rfl) rfl ?_; have hC := Near.drew (w6)
        refine rel_load_blk (i := 0) rfl 29 (.tmp 3) rfl (w.heap.size) rfl (by kernel_rfl) (by kernel_rfl) (by kernel_rfl) rfl (fun _ _ _ _ h => h) hC (HB6).out Tryz.underlying29 hgi ?_; (try simp only [Act.put, List.setIfInBounds_toArray, List.set_cons_zero, List.set_cons_succ])
        (first | (refine rel_want (i := 1) rfl rfl (by kernel_rfl) (by kernel_rfl) (by kernel_rfl) rfl (fun _ _ _ _ h => h) hC ?_; intro K hK; go_big_quiet_op; go_big_quiet_on) | (refine rel_skip (i := 1) rfl (by kernel_rfl) (by kernel_rfl) (by kernel_rfl) rfl (fun _ _ _ _ h => h) hC ?_; simp only [Act.put, List.setIfInBounds_toArray, List.set_cons_zero, List.set_cons_succ])); (first | (refine rel_want (i := 3) rfl rfl (by kernel_rfl) (by kernel_rfl) (by kernel_rfl) rfl (fun _ _ _ _ h => h) hC ?_; intro K hK; go_big_quiet_op; go_big_quiet_on) | (refine rel_skip (i := 3) rfl (by kernel_rfl) (by kernel_rfl) (by kernel_rfl) rfl (fun _ _ _ _ h => h) hC ?_; simp only [Act.put, List.setIfInBounds_toArray, List.set_cons_zero, List.set_cons_succ]))
        refine rel_call (i := 2) (by kernel_rfl) rfl rfl ?_; intro K hK; go_simp; go_at_call 27; refine (KT.out _ _ _ (Rd.now HR.out (bel hb6 hC.below))).mono ?_; rintro e w2 ⟨v, rfl, ho, hb2⟩; obtain ⟨A5, c5, rfl, hr5⟩ := Rd.of_own ho; have HR5 := Lib.hid hr5; clear hr5 ho; (try go_wp2_with fail); replace hC := hC.on hb2; refine hK _ _ hC (fun _ => ?_); clear hK K; (try simp only [Act.put, List.setIfInBounds_toArray, List.set_cons_zero, List.set_cons_succ])
        refine rel_call (i := 4) (by kernel_rfl) rfl rfl ?_; intro K hK; go_simp; go_at_call 26; refine (K1k.out _ _ _ (H.out.step (bel hb6 hC.below)) HR5.out).mono ?_; rintro e w2 ⟨v, rfl, ho, hb2⟩; obtain ⟨A7, c7, rfl, hr7⟩ := Rd.of_own ho; have HR7 := Lib.hid hr7; replace HR6 := Lib.hid (Rd.now HR6.out (hC.on hb2).below); clear hr7 ho; (try go_wp2_with fail); replace hC := hC.on hb2; refine hK _ _ hC (fun _ => ?_); clear hK K; (try simp only [Act.put, List.setIfInBounds_toArray, List.set_cons_zero, List.set_cons_succ])
        (first | (refine rel_want (i := 5) rfl rfl (by kernel_rfl) (by kernel_rfl) (by kernel_rfl) rfl (fun _ _ _ _ h => h) hC ?_; intro K hK; go_big_quiet_op; go_big_quiet_on) | (refine rel_skip (i := 5) rfl (by kernel_rfl) (by kernel_rfl) (by kernel_rfl) rfl (fun _ _ _ _ h => h) hC ?_; simp only [Act.put, List.setIfInBounds_toArray, List.set_cons_zero, List.set_cons_succ])); (first | (refine rel_want (i := 6) rfl rfl (by kernel_rfl) (by kernel_rfl) (by kernel_rfl) rfl (fun _ _ _ _ h => h) hC ?_; intro K hK; go_big_quiet_op; go_big_quiet_on) | (refine rel_skip (i := 6) rfl (by kernel_rfl) (by kernel_rfl) (by kernel_rfl) rfl (fun _ _ _ _ h => h) hC ?_; simp only [Act.put, List.setIfInBounds_toArray, List.set_cons_zero, List.set_cons_succ])); (first | (refine rel_want (i := 7) rfl rfl (by kernel_rfl) (by kernel_rfl) (by kernel_rfl) rfl (fun _ _ _ _ h => h) hC ?_; intro K hK; go_big_quiet_op; go_big_quiet_on) | (refine rel_skip (i := 7) rfl (by kernel_rfl) (by kernel_rfl) (by kernel_rfl) rfl (fun _ _ _ _ h => h) hC ?_; simp only [Act.put, List.setIfInBounds_toArray, List.set_cons_zero, List.set_cons_succ])); (first | (refine rel_want (i := 8) rfl rfl (by kernel_rfl) (by kernel_rfl) (by kernel_rfl) rfl (fun _ _ _ _ h => h) hC ?_; intro K hK; go_big_quiet_op; go_big_quiet_on) | (refine rel_skip (i := 8) rfl (by kernel_rfl) (by kernel_rfl) (by kernel_rfl) rfl (fun _ _ _ _ h => h) hC ?_; simp only [Act.put, List.setIfInBounds_toArray, List.set_cons_zero, List.set_cons_succ])); (first | (refine rel_want (i := 9) rfl rfl (by kernel_rfl) (by kernel_rfl) (by kernel_rfl) rfl (fun _ _ _ _ h => h) hC ?_; intro K hK; go_big_quiet_op; go_big_quiet_on) | (refine rel_skip (i := 9) rfl (by kernel_rfl) (by kernel_rfl) (by kernel_rfl) rfl (fun _ _ _ _ h => h) hC ?_; simp only [Act.put, List.setIfInBounds_toArray, List.set_cons_zero, List.set_cons_succ]))
        refine wpAnyH_done (by kernel_rfl) ?_ _
        have hb7 := bel hb6 hC.below
        have HB7 := Lib.hid (HB6.out.step hC.below)
        clear HR5 hC K1k
        obtain ⟨w7, rfl⟩ : ∃ x : World, x = w2 := ⟨_, rfl⟩
        have HSA := Lib.hid (sameb_yes (Cr.cL true y m p i cl ro l) A6 A7 c6 c7 w7 HR6.out HR7.out (by omega))
        have KF := Lib.hid (fun W => rcal_First y m p (i - i % 12 + 12) W)
        have HNY2 := Lib.hid (HNY.out i (i - i % 12 + 12) (by first | trivial | rfl))
        have k2n := K2.out (i - i % 12 + 12)
        have k3n := K3.out (i - i % 12 + 12)
        have K2i := Lib.hid (K2.out i)
        have K3i := Lib.hid (K3.out i)
        have hnx : (i - i % 12 + 12) % 12 = 0 := by omega
        clear HR6 HR7 HNY K2 K3 hml
        generalize hnxe : i - i % 12 + 12 = nx at *
        have HNX := Lib.hid hnxe
        clear hnxe
        generalize Cr.cL true y m p i cl ro l = M at *
        generalize Cr.cE true y m p i cl ro l = E at *
        have hEE : (E != E) = false := by simp
        have z1 : ∀ u : World, Below w7.heap.size w7 u → u.cell? ⟨w.heap.size, 1, none⟩ = some (.int .i64 y) := fun u hu => ((HB7.out.step hu).cell 1).trans (by rw [HG.out]; rfl)
        have z2 : ∀ u : World, Below w7.heap.size w7 u → u.cell? ⟨w.heap.size, 2, none⟩ = some (.int .i64 m) := fun u hu => ((HB7.out.step hu).cell 2).trans (by rw [HG.out]; rfl)
        have z3 : ∀ u : World, Below w7.heap.size w7 u → u.cell? ⟨w.heap.size, 3, none⟩ = some (.int .i64 p) := fun u hu => ((HB7.out.step hu).cell 3).trans (by rw [HG.out]; rfl)
        have Z1 := Lib.hid z1
        have Z2 := Lib.hid z2
        have Z3 := Lib.hid z3
        clear z1 z2 z3
        go_upto_region 11 with (go_at_call 29; refine HSA.out.mono ?_; rintro e w8 ⟨rfl, hb9⟩; have hb8 := bel hb7 hb9; have HB8 := Lib.hid (HB7.out.step hb9); have c1 := Z1.out _ hb9; have c2 := Z2.out _ hb9; have c3 := Z3.out _ hb9; clear hb9)
        try rw [HNX.out]
        go_upto_region 12 with (go_at_call 31; refine (KF.out _).mono ?_; rintro e w9 ⟨rfl, hb9⟩; have hb10 := bel hb8 hb9; have HB10 := Lib.hid (HB8.out.step hb9); clear hb9)
        clear HSA KF Z1 Z2 Z3 hb4 HB4 HT4 hb6 HB6 hb7 HB7 hb8 HB8 c1 c2 c3
        generalize Cal.ckE y m p nx = cn at *
        generalize Cal.fiV y m p nx = B at *
        generalize Cr.toE true y m p nx cl (Cr.isRes cl ro (Cr.bg true y m p nx)) l = v at *
        generalize Cr.toV true y m p nx cl (Cr.isRes cl ro (Cr.bg true y m p nx)) l = wv at *
        generalize Cr.toE true y m p nx cl (Cr.isRet cl ro (Cr.bg true y m p nx)) l = u at *
        generalize Cr.toV true y m p nx cl (Cr.isRet cl ro (Cr.bg true y m p nx)) l = zv at *
        generalize Cr.toE true y m p i cl (Cr.isRes cl ro (Cr.bg true y m p i)) l = t at *
        generalize Cr.toV true y m p i cl (Cr.isRes cl ro (Cr.bg true y m p i)) l = yv at *
        generalize Cr.toE true y m p i cl (Cr.isRet cl ro (Cr.bg true y m p i)) l = s at *
        generalize Cr.toV true y m p i cl (Cr.isRet cl ro (Cr.bg true y m p i)) l = xv at *
        cases hC1 : (cn != 0)
        case true =>
          go_wp2_with fail
          go_ret
          exact ⟨rfl, hb10⟩
        case false =>
          cases hE1 : (E != 0)
          case true =>
            go_wp2_with fail
            go_ret
            exact ⟨rfl, hb10⟩
          case false =>
            have HNY3 := Lib.hid (HNY2.out (by simpa using hE1) (by simpa using hC1) hnx)
            have K3n := Lib.hid k3n
            have K2n := Lib.hid k2n
            clear k3n k2n HNY2
            go_wp2_with fail
            go_loopw [109] (fun a wr => ∃ j : Nat, j ≤ l.length ∧ a = .int .i64 j ∧ w9 = wr ∧ ∀ (o : Nat) (ho : o < l.length), o < j → l[o].date < B) (fun a _ => l.length - (intOf a).toNat)
            case atStart => exact ⟨0, by omega, rfl, rfl, fun o _ h => by omega⟩
            case round =>
              obtain ⟨j, hj, rfl, rfl, hall⟩ := hrel
              have HALL := Lib.hid hall
              clear hall
              by_cases hlt : j < l.length
              · obtain ⟨b0, o, hA, hbo, f0, f1, f2⟩ := DatR.at_ (Rd.now HR.out hb10) hlt
                subst hA
                have HXD : Hid (∀ D, D = l[j].date → D < B → ∀ (o : Nat) (ho : o < l.length), o < j + 1 → l[o].date < B) := Lib.hid (fun D hD h o ho h2 => by
                  by_cases h3 : o < j
                  · exact HALL.out o ho h3
                  · have : o = j := by omega
                    subst this
                    rw [← hD]; exact h)
                have HX2 := Lib.hid (HXD.out _ rfl)
                generalize l[j].date = xd at *
                clear HXD f0 f2
                by_cases hge : B ≤ xd
                · go_wp2_with fail
                  go_ret
                  exact ⟨rfl, hb10⟩
                · go_wp2_with fail
                  go_roundw
                  case rel => exact ⟨j + 1, by omega, by go_num, trivial, HX2.out (by omega)⟩
                  case measure => simp [intOf]; omega
              · obtain ⟨hv, hw, h3⟩ := HNY3.out (fun x hx => by
                  obtain ⟨o, ho, rfl⟩ := List.getElem_of_mem hx
                  exact HALL.out o ho (by omega))
                subst hv hw
                have H3 := Lib.hid h3
                clear h3 HNY3 HALL
                go_wp2_with fail
                refine rel_begin (n := 10) (w9) (by kernel_rfl) rfl ?_; have hC := Near.drew (w9)
                refine rel_load_blk (i := 0) rfl 29 (.tmp 3) rfl (w.heap.size) rfl (by kernel_rfl) (by kernel_rfl) (by kernel_rfl) rfl (fun _ _ _ _ h => h) hC (HB10).out Tryz.underlying29 hgi ?_; (try simp only [Act.put, List.setIfInBounds_toArray, List.set_cons_zero, List.set_cons_succ])
                (first | (refine rel_want (i := 1) rfl rfl (by kernel_rfl) (by kernel_rfl) (by kernel_rfl) rfl (fun _ _ _ _ h => h) hC ?_; intro K hK; go_big_quiet_op; go_big_quiet_on) | (refine rel_skip (i := 1) rfl (by kernel_rfl) (by kernel_rfl) (by kernel_rfl) rfl (fun _ _ _ _ h => h) hC ?_; simp only [Act.put, List.setIfInBounds_toArray, List.set_cons_zero, List.set_cons_succ])); (first | (refine rel_want (i := 3) rfl rfl (by kernel_rfl) (by kernel_rfl) (by kernel_rfl) rfl (fun _ _ _ _ h => h) hC ?_; intro K hK; go_big_quiet_op; go_big_quiet_on) | (refine rel_skip (i := 3) rfl (by kernel_rfl) (by kernel_rfl) (by kernel_rfl) rfl (fun _ _ _ _ h => h) hC ?_; simp only [Act.put, List.setIfInBounds_toArray, List.set_cons_zero, List.set_cons_succ]))
                refine rel_call (i := 2) (by kernel_rfl) rfl rfl ?_; intro K hK; go_simp; go_at_call 27; refine (KT.out _ _ _ (Rd.now HR.out (bel hb10 hC.below))).mono ?_; rintro e w2 ⟨v, rfl, ho, hb2⟩; obtain ⟨A5, c5, rfl, hr5⟩ := Rd.of_own ho; have HR5 := Lib.hid hr5; clear hr5 ho; (try go_wp2_with fail); replace hC := hC.on hb2; refine hK _ _ hC (fun _ => ?_); clear hK K; (try simp only [Act.put, List.setIfInBounds_toArray, List.set_cons_zero, List.set_cons_succ])
                refine rel_call (i := 4) (by kernel_rfl) rfl rfl ?_; intro K hK; go_simp; go_at_call 32; refine (K3i.out _ _ _ (H.out.step (bel hb10 hC.below)) HR5.out).mono ?_; rintro e w2 ⟨rfl, hb2⟩; (try go_wp2_with fail); replace hC := hC.on hb2; refine hK _ _ hC (fun _ => ?_); clear hK K; (try simp only [Act.put, List.setIfInBounds_toArray, List.set_cons_zero, List.set_cons_succ])
                (first | (refine rel_want (i := 5) rfl rfl (by kernel_rfl) (by kernel_rfl) (by kernel_rfl) rfl (fun _ _ _ _ h => h) hC ?_; intro K hK; go_big_quiet_op; go_big_quiet_on) | (refine rel_skip (i := 5) rfl (by kernel_rfl) (by kernel_rfl) (by kernel_rfl) rfl (fun _ _ _ _ h => h) hC ?_; simp only [Act.put, List.setIfInBounds_toArray, List.set_cons_zero, List.set_cons_succ])); (first | (refine rel_want (i := 6) rfl rfl (by kernel_rfl) (by kernel_rfl) (by kernel_rfl) rfl (fun _ _ _ _ h => h) hC ?_; intro K hK; go_big_quiet_op; go_big_quiet_on) | (refine rel_skip (i := 6) rfl (by kernel_rfl) (by kernel_rfl) (by kernel_rfl) rfl (fun _ _ _ _ h => h) hC ?_; simp only [Act.put, List.setIfInBounds_toArray, List.set_cons_zero, List.set_cons_succ])); (first | (refine rel_want (i := 7) rfl rfl (by kernel_rfl) (by kernel_rfl) (by kernel_rfl) rfl (fun _ _ _ _ h => h) hC ?_; intro K hK; go_big_quiet_op; go_big_quiet_on) | (refine rel_skip (i := 7) rfl (by kernel_rfl) (by kernel_rfl) (by kernel_rfl) rfl (fun _ _ _ _ h => h) hC ?_; simp only [Act.put, List.setIfInBounds_toArray, List.set_cons_zero, List.set_cons_succ])); (first | (refine rel_want (i := 8) rfl rfl (by kernel_rfl) (by kernel_rfl) (by kernel_rfl) rfl (fun _ _ _ _ h => h) hC ?_; intro K hK; go_big_quiet_op; go_big_quiet_on) | (refine rel_skip (i := 8) rfl (by kernel_rfl) (by kernel_rfl) (by kernel_rfl) rfl (fun _ _ _ _ h => h) hC ?_; simp only [Act.put, List.setIfInBounds_toArray, List.set_cons_zero, List.set_cons_succ])); (first | (refine rel_want (i := 9) rfl rfl (by kernel_rfl) (by kernel_rfl) (by kernel_rfl) rfl (fun _ _ _ _ h => h) hC ?_; intro K hK; go_big_quiet_op; go_big_quiet_on) | (refine rel_skip (i := 9) rfl (by kernel_rfl) (by kernel_rfl) (by kernel_rfl) rfl (fun _ _ _ _ h => h) hC ?_; simp only [Act.put, List.setIfInBounds_toArray, List.set_cons_zero, List.set_cons_succ]))
                refine wpAnyH_done (by kernel_rfl) ?_ _
                have hb11 := bel hb10 hC.below
                have HB11 := Lib.hid (HB10.out.step hC.below)
                clear HR5 hC
                obtain ⟨w11, rfl⟩ : ∃ x : World, x = w2 := ⟨_, rfl⟩
                go_wp2_with fail
                refine rel_begin (n := 10) (w11) (by kernel_rfl) rfl ?_; have hC := Near.drew (w11)
                refine rel_load_blk (i := 0) rfl 29 (.tmp 3) rfl (w.heap.size) rfl (by kernel_rfl) (by kernel_rfl) (by kernel_rfl) rfl (fun _ _ _ _ h => h) hC (HB11).out Tryz.underlying29 hgi ?_; (try simp only [Act.put, List.setIfInBounds_toArray, List.set_cons_zero, List.set_cons_succ])
                (first | (refine rel_want (i := 1) rfl rfl (by kernel_rfl) (by kernel_rfl) (by kernel_rfl) rfl (fun _ _ _ _ h => h) hC ?_; intro K hK; go_big_quiet_op; go_big_quiet_on) | (refine rel_skip (i := 1) rfl (by kernel_rfl) (by kernel_rfl) (by kernel_rfl) rfl (fun _ _ _ _ h => h) hC ?_; simp only [Act.put, List.setIfInBounds_toArray, List.set_cons_zero, List.set_cons_succ])); (first | (refine rel_want (i := 3) rfl rfl (by kernel_rfl) (by kernel_rfl) (by kernel_rfl) rfl (fun _ _ _ _ h => h) hC ?_; intro K hK; go_big_quiet_op; go_big_quiet_on) | (refine rel_skip (i := 3) rfl (by kernel_rfl) (by kernel_rfl) (by kernel_rfl) rfl (fun _ _ _ _ h => h) hC ?_; simp only [Act.put, List.setIfInBounds_toArray, List.set_cons_zero, List.set_cons_succ]))
                refine rel_call (i := 2) (by kernel_rfl) rfl rfl ?_; intro K hK; go_simp; go_at_call 27; refine (KT.out _ _ _ (Rd.now HR.out (bel hb11 hC.below))).mono ?_; rintro e w2 ⟨v, rfl, ho, hb2⟩; obtain ⟨A5, c5, rfl, hr5⟩ := Rd.of_own ho; have HR5 := Lib.hid hr5; clear hr5 ho; (try go_wp2_with fail); replace hC := hC.on hb2; refine hK _ _ hC (fun _ => ?_); clear hK K; (try simp only [Act.put, List.setIfInBounds_toArray, List.set_cons_zero, List.set_cons_succ])
                refine rel_call (i := 4) (by kernel_rfl) rfl rfl ?_; intro K hK; go_simp; go_at_call 33; refine (K2i.out _ _ _ (H.out.step (bel hb11 hC.below)) HR5.out).mono ?_; rintro e w2 ⟨rfl, hb2⟩; (try go_wp2_with fail); replace hC := hC.on hb2; refine hK _ _ hC (fun _ => ?_); clear hK K; (try simp only [Act.put, List.setIfInBounds_toArray, List.set_cons_zero, List.set_cons_succ])
                (first | (refine rel_want (i := 5) rfl rfl (by kernel_rfl) (by kernel_rfl) (by kernel_rfl) rfl (fun _ _ _ _ h => h) hC ?_; intro K hK; go_big_quiet_op; go_big_quiet_on) | (refine rel_skip (i := 5) rfl (by kernel_rfl) (by kernel_rfl) (by kernel_rfl) rfl (fun _ _ _ _ h => h) hC ?_; simp only [Act.put, List.setIfInBounds_toArray, List.set_cons_zero, List.set_cons_succ])); (first | (refine rel_want (i := 6) rfl rfl (by kernel_rfl) (by kernel_rfl) (by kernel_rfl) rfl (fun _ _ _ _ h => h) hC ?_; intro K hK; go_big_quiet_op; go_big_quiet_on) | (refine rel_skip (i := 6) rfl (by kernel_rfl) (by kernel_rfl) (by kernel_rfl) rfl (fun _ _ _ _ h => h) hC ?_; simp only [Act.put, List.setIfInBounds_toArray, List.set_cons_zero, List.set_cons_succ])); (first | (refine rel_want (i := 7) rfl rfl (by kernel_rfl) (by kernel_rfl) (by kernel_rfl) rfl (fun _ _ _ _ h => h) hC ?_; intro K hK; go_big_quiet_op; go_big_quiet_on) | (refine rel_skip (i := 7) rfl (by kernel_rfl) (by kernel_rfl) (by kernel_rfl) rfl (fun _ _ _ _ h => h) hC ?_; simp only [Act.put, List.setIfInBounds_toArray, List.set_cons_zero, List.set_cons_succ])); (first | (refine rel_want (i := 8) rfl rfl (by kernel_rfl) (by kernel_rfl) (by kernel_rfl) rfl (fun _ _ _ _ h => h) hC ?_; intro K hK; go_big_quiet_op; go_big_quiet_on) | (refine rel_skip (i := 8) rfl (by kernel_rfl) (by kernel_rfl) (by kernel_rfl) rfl (fun _ _ _ _ h => h) hC ?_; simp only [Act.put, List.setIfInBounds_toArray, List.set_cons_zero, List.set_cons_succ])); (first | (refine rel_want (i := 9) rfl rfl (by kernel_rfl) (by kernel_rfl) (by kernel_rfl) rfl (fun _ _ _ _ h => h) hC ?_; intro K hK; go_big_quiet_op; go_big_quiet_on) | (refine rel_skip (i := 9) rfl (by kernel_rfl) (by kernel_rfl) (by kernel_rfl) rfl (fun _ _ _ _ h => h) hC ?_; simp only [Act.put, List.setIfInBounds_toArray, List.set_cons_zero, List.set_cons_succ]))
                refine wpAnyH_done (by kernel_rfl) ?_ _
                have hb12 := bel hb11 hC.below
                have HB12 := Lib.hid (HB11.out.step hC.below)
                clear HR5 hC
                obtain ⟨w12, rfl⟩ : ∃ x : World, x = w2 := ⟨_, rfl⟩
                go_wp2_with fail
                refine rel_begin (n := 10) (w12) (by kernel_rfl) rfl ?_; have hC := Near.drew (w12)
                refine rel_load_blk (i := 0) rfl 29 (.tmp 3) rfl (w.heap.size) rfl (by kernel_rfl) (by kernel_rfl) (by kernel_rfl) rfl (fun _ _ _ _ h => h) hC (HB12).out Tryz.underlying29 hgi ?_; (try simp only [Act.put, List.setIfInBounds_toArray, List.set_cons_zero, List.set_cons_succ])
                (first | (refine rel_want (i := 1) rfl rfl (by kernel_rfl) (by kernel_rfl) (by kernel_rfl) rfl (fun _ _ _ _ h => h) hC ?_; intro K hK; go_big_quiet_op; go_big_quiet_on) | (refine rel_skip (i := 1) rfl (by kernel_rfl) (by kernel_rfl) (by kernel_rfl) rfl (fun _ _ _ _ h => h) hC ?_; simp only [Act.put, List.setIfInBounds_toArray, List.set_cons_zero, List.set_cons_succ])); (first | (refine rel_want (i := 3) rfl rfl (by kernel_rfl) (by kernel_rfl) (by kernel_rfl) rfl (fun _ _ _ _ h => h) hC ?_; intro K hK; go_big_quiet_op; go_big_quiet_on) | (refine rel_skip (i := 3) rfl (by kernel_rfl) (by kernel_rfl) (by kernel_rfl) rfl (fun _ _ _ _ h => h) hC ?_; simp only [Act.put, List.setIfInBounds_toArray, List.set_cons_zero, List.set_cons_succ]))
                refine rel_call (i := 2) (by kernel_rfl) rfl rfl ?_; intro K hK; go_simp; go_at_call 27; refine (KT.out _ _ _ (Rd.now HR.out (bel hb12 hC.below))).mono ?_; rintro e w2 ⟨v, rfl, ho, hb2⟩; obtain ⟨A5, c5, rfl, hr5⟩ := Rd.of_own ho; have HR5 := Lib.hid hr5; clear hr5 ho; (try go_wp2_with fail); replace hC := hC.on hb2; refine hK _ _ hC (fun _ => ?_); clear hK K; (try simp only [Act.put, List.setIfInBounds_toArray, List.set_cons_zero, List.set_cons_succ])
                refine rel_call (i := 4) (by kernel_rfl) rfl rfl ?_; intro K hK; go_simp; go_at_call 32; refine (K3n.out _ _ _ (H.out.step (bel hb12 hC.below)) HR5.out).mono ?_; rintro e w2 ⟨rfl, hb2⟩; (try go_wp2_with fail); replace hC := hC.on hb2; refine hK _ _ hC (fun _ => ?_); clear hK K; (try simp only [Act.put, List.setIfInBounds_toArray, List.set_cons_zero, List.set_cons_succ])
                (first | (refine rel_want (i := 5) rfl rfl (by kernel_rfl) (by kernel_rfl) (by kernel_rfl) rfl (fun _ _ _ _ h => h) hC ?_; intro K hK; go_big_quiet_op; go_big_quiet_on) | (refine rel_skip (i := 5) rfl (by kernel_rfl) (by kernel_rfl) (by kernel_rfl) rfl (fun _ _ _ _ h => h) hC ?_; simp only [Act.put, List.setIfInBounds_toArray, List.set_cons_zero, List.set_cons_succ])); (first | (refine rel_want (i := 6) rfl rfl (by kernel_rfl) (by kernel_rfl) (by kernel_rfl) rfl (fun _ _ _ _ h => h) hC ?_; intro K hK; go_big_quiet_op; go_big_quiet_on) | (refine rel_skip (i := 6) rfl (by kernel_rfl) (by kernel_rfl) (by kernel_rfl) rfl (fun _ _ _ _ h => h) hC ?_; simp only [Act.put, List.setIfInBounds_toArray, List.set_cons_zero, List.set_cons_succ])); (first | (refine rel_want (i := 7) rfl rfl (by kernel_rfl) (by kernel_rfl) (by kernel_rfl) rfl (fun _ _ _ _ h => h) hC ?_; intro K hK; go_big_quiet_op; go_big_quiet_on) | (refine rel_skip (i := 7) rfl (by kernel_rfl) (by kernel_rfl) (by kernel_rfl) rfl (fun _ _ _ _ h => h) hC ?_; simp only [Act.put, List.setIfInBounds_toArray, List.set_cons_zero, List.set_cons_succ])); (first | (refine rel_want (i := 8) rfl rfl (by kernel_rfl) (by kernel_rfl) (by kernel_rfl) rfl (fun _ _ _ _ h => h) hC ?_; intro K hK; go_big_quiet_op; go_big_quiet_on) | (refine rel_skip (i := 8) rfl (by kernel_rfl) (by kernel_rfl) (by kernel_rfl) rfl (fun _ _ _ _ h => h) hC ?_; simp only [Act.put, List.setIfInBounds_toArray, List.set_cons_zero, List.set_cons_succ])); (first | (refine rel_want (i := 9) rfl rfl (by kernel_rfl) (by kernel_rfl) (by kernel_rfl) rfl (fun _ _ _ _ h => h) hC ?_; intro K hK; go_big_quiet_op; go_big_quiet_on) | (refine rel_skip (i := 9) rfl (by kernel_rfl) (by kernel_rfl) (by kernel_rfl) rfl (fun _ _ _ _ h => h) hC ?_; simp only [Act.put, List.setIfInBounds_toArray, List.set_cons_zero, List.set_cons_succ]))
                refine wpAnyH_done (by kernel_rfl) ?_ _
                have hb13 := bel hb12 hC.below
                have HB13 := Lib.hid (HB12.out.step hC.below)
                clear HR5 hC
                obtain ⟨w13, rfl⟩ : ∃ x : World, x = w2 := ⟨_, rfl⟩
                go_wp2_with fail
                refine rel_begin (n := 10) (w13) (by kernel_rfl) rfl ?_; have hC := Near.drew (w13)
                refine rel_load_blk (i := 0) rfl 29 (.tmp 3) rfl (w.heap.size) rfl (by kernel_rfl) (by kernel_rfl) (by kernel_rfl) rfl (fun _ _ _ _ h => h) hC (HB13).out Tryz.underlying29 hgi ?_; (try simp only [Act.put, List.setIfInBounds_toArray, List.set_cons_zero, List.set_cons_succ])
                (first | (refine rel_want (i := 1) rfl rfl (by kernel_rfl) (by kernel_rfl) (by kernel_rfl) rfl (fun _ _ _ _ h => h) hC ?_; intro K hK; go_big_quiet_op; go_big_quiet_on) | (refine rel_skip (i := 1) rfl (by kernel_rfl) (by kernel_rfl) (by kernel_rfl) rfl (fun _ _ _ _ h => h) hC ?_; simp only [Act.put, List.setIfInBounds_toArray, List.set_cons_zero, List.set_cons_succ])); (first | (refine rel_want (i := 3) rfl rfl (by kernel_rfl) (by kernel_rfl) (by kernel_rfl) rfl (fun _ _ _ _ h => h) hC ?_; intro K hK; go_big_quiet_op; go_big_quiet_on) | (refine rel_skip (i := 3) rfl (by kernel_rfl) (by kernel_rfl) (by kernel_rfl) rfl (fun _ _ _ _ h => h) hC ?_; simp only [Act.put, List.setIfInBounds_toArray, List.set_cons_zero, List.set_cons_succ]))
                refine rel_call (i := 2) (by kernel_rfl) rfl rfl ?_; intro K hK; go_simp; go_at_call 27; refine (KT.out _ _ _ (Rd.now HR.out (bel hb13 hC.below))).mono ?_; rintro e w2 ⟨v, rfl, ho, hb2⟩; obtain ⟨A5, c5, rfl, hr5⟩ := Rd.of_own ho; have HR5 := Lib.hid hr5; clear hr5 ho; (try go_wp2_with fail); replace hC := hC.on hb2; refine hK _ _ hC (fun _ => ?_); clear hK K; (try simp only [Act.put, List.setIfInBounds_toArray, List.set_cons_zero, List.set_cons_succ])
                refine rel_call (i := 4) (by kernel_rfl) rfl rfl ?_; intro K hK; go_simp; go_at_call 33; refine (K2n.out _ _ _ (H.out.step (bel hb13 hC.below)) HR5.out).mono ?_; rintro e w2 ⟨rfl, hb2⟩; (try go_wp2_with fail); replace hC := hC.on hb2; refine hK _ _ hC (fun _ => ?_); clear hK K; (try simp only [Act.put, List.setIfInBounds_toArray, List.set_cons_zero, List.set_cons_succ])
                (first | (refine rel_want (i := 5) rfl rfl (by kernel_rfl) (by kernel_rfl) (by kernel_rfl) rfl (fun _ _ _ _ h => h) hC ?_; intro K hK; go_big_quiet_op; go_big_quiet_on) | (refine rel_skip (i := 5) rfl (by kernel_rfl) (by kernel_rfl) (by kernel_rfl) rfl (fun _ _ _ _ h => h) hC ?_; simp only [Act.put, List.setIfInBounds_toArray, List.set_cons_zero, List.set_cons_succ])); (first | (refine rel_want (i := 6) rfl rfl (by kernel_rfl) (by kernel_rfl) (by kernel_rfl) rfl (fun _ _ _ _ h => h) hC ?_; intro K hK; go_big_quiet_op; go_big_quiet_on) | (refine rel_skip (i := 6) rfl (by kernel_rfl) (by kernel_rfl) (by kernel_rfl) rfl (fun _ _ _ _ h => h) hC ?_; simp only [Act.put, List.setIfInBounds_toArray, List.set_cons_zero, List.set_cons_succ])); (first | (refine rel_want (i := 7) rfl rfl (by kernel_rfl) (by kernel_rfl) (by kernel_rfl) rfl (fun _ _ _ _ h => h) hC ?_; intro K hK; go_big_quiet_op; go_big_quiet_on) | (refine rel_skip (i := 7) rfl (by kernel_rfl) (by kernel_rfl) (by kernel_rfl) rfl (fun _ _ _ _ h => h) hC ?_; simp only [Act.put, List.setIfInBounds_toArray, List.set_cons_zero, List.set_cons_succ])); (first | (refine rel_want (i := 8) rfl rfl (by kernel_rfl) (by kernel_rfl) (by kernel_rfl) rfl (fun _ _ _ _ h => h) hC ?_; intro K hK; go_big_quiet_op; go_big_quiet_on) | (refine rel_skip (i := 8) rfl (by kernel_rfl) (by kernel_rfl) (by kernel_rfl) rfl (fun _ _ _ _ h => h) hC ?_; simp only [Act.put, List.setIfInBounds_toArray, List.set_cons_zero, List.set_cons_succ])); (first | (refine rel_want (i := 9) rfl rfl (by kernel_rfl) (by kernel_rfl) (by kernel_rfl) rfl (fun _ _ _ _ h => h) hC ?_; intro K hK; go_big_quiet_op; go_big_quiet_on) | (refine rel_skip (i := 9) rfl (by kernel_rfl) (by kernel_rfl) (by kernel_rfl) rfl (fun _ _ _ _ h => h) hC ?_; simp only [Act.put, List.setIfInBounds_toArray, List.set_cons_zero, List.set_cons_succ]))
                refine wpAnyH_done (by kernel_rfl) ?_ _
                have hb14 := bel hb13 hC.below
                clear HR5 hC
                obtain ⟨w14, rfl⟩ : ∃ x : World, x = w2 := ⟨_, rfl⟩
                cases hs : (s != 0)
                case true =>
                  go_wp2_with fail
                  go_ret
                  exact ⟨rfl, hb14⟩
                case false =>
                  cases ht : (t != 0)
                  case true =>
                    go_wp2_with fail
                    go_ret
                    exact ⟨rfl, hb14⟩
                  case false =>
                    cases hu : (u != 0)
                    case true =>
                      go_wp2_with fail
                      go_ret
                      exact ⟨rfl, hb14⟩
                    case false =>
                      obtain ⟨g0, g1, g2, g3, g4⟩ := H3.out (by simpa using hs) (by simpa using ht) (by simpa using hu)
                      have hws : IntKind.i64.wrap (xv + yv) = xv + yv := IntWalk.i64_in _ (by omega)
                      subst g0
                      clear g1 g2 g3 g4 H3
                      go_wp2_with fail
                      go_ret
                      exact ⟨rfl, hb14⟩
    · have h61 : 60 < l.length := by omega
      go_wp2_with (go_at_call 24; refine (car_awake _).mono ?_; rintro e w4 ⟨rfl, hb9⟩; replace hb := bel hb hb9; clear hb9)
      go_ret
      exact ⟨rfl, hb⟩
end
end Go.Proofs.YthfbpbbepogllaaGreat
/- An argument that is an array of two. Over any program. -/
namespace Go.Proofs.YthfbpbbepogllaaGreat
set_option linter.unusedVariables false
set_option linter.unusedSimpArgs false
open Go.RowKit Go.ChangeShapes Go.WideShapes Go.Deep

section
variable {P : Program} {w : World} {base : Nat} {spare : Nat → Bool} {held : Bool} {H : Type} {enc : TypeId × Value → H}
theorem open_arr2 {r : Reach} {b0 : Nat} {t e : TypeId} {v : Value} {d : DataW H} {p : List MemPlace} (ht : P.underlying t = some (.array 2 e)) (hce : P.cellsOf e = 1) (hC : P.cellsOf t = 2)
    (hv : Value.okWide P w r b0 t v) (h : DataW.Trod enc P w base spare held t v d p) :
    ∃ (c0 c1 : Value) (y0 y1 : DataW H × List MemPlace) (n : Nat), v = .agg #[c0, c1] ∧
      DataW.trod enc P w base spare held n e [c0] = some y0 ∧ DataW.trod enc P w base spare held n e [c1] = some y1 := by
  simp only [Value.okWide, ht] at hv
  obtain ⟨cs, rfl, h2, _⟩ := hv
  obtain ⟨c0, c1, rfl⟩ : ∃ a b, cs = #[a, b] := by
    obtain ⟨l⟩ := cs
    match l, h2.trans hC with
    | [a, b], _ => exact ⟨a, b, rfl⟩
  obtain ⟨fuel, hf⟩ := h
  have hf' : DataW.trod enc P w base spare held fuel t [c0, c1] = some (d, p) := by simpa [Value.cells] using hf
  cases fuel with
  | zero => simp [DataW.trod] at hf'
  | succ n =>
    unfold DataW.trod at hf'
    rw [ht] at hf'
    have r2 : List.range 2 = [0, 1] := rfl
    simp only [r2, hce] at hf'
    cases h0 : DataW.trod enc P w base spare held n e [c0] with
    | none => simp [h0] at hf'
    | some y0 =>
      cases h1 : DataW.trod enc P w base spare held n e [c1] with
      | none => simp [h0, h1] at hf'
      | some y1 => exact ⟨c0, c1, y0, y1, n, rfl, h0, h1⟩
end
end Go.Proofs.YthfbpbbepogllaaGreat
