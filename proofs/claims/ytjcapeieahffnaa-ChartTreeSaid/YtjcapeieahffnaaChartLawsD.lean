/- The walk of the law ChartTree. -/
import Derived.Test.YtjcapeieahffnaaChartLawsC
import Derived.Deep.DeepCutAuto
import Derived.BigRegion
namespace Go.Proofs.Ytjcapeieahffnaa
set_option linter.unusedVariables false
set_option linter.unusedSimpArgs false
open Go.RowKit

theorem Blk.new2 (w : World) (o : Obj) (t : TypeId) (cs : Array Value) : Blk ((w.alloc o).alloc (.cells cs t)) (w.heap.size + 1) t cs := by
  have h := Blk.new (w.alloc o) t cs
  rwa [show (w.alloc o).heap.size = w.heap.size + 1 from by simp] at h
theorem und_mem {l : List Acc} {a : Acc} (ha : a ∈ l) (c : Int) : decide (a.code ∈ Ch.und l c l) = decide (c ∈ Ch.pcl l a.code) := by
  rw [decide_eq_decide]
  unfold Ch.und
  simp only [List.mem_map, List.mem_filter, decide_eq_true_eq]
  constructor
  · rintro ⟨x, ⟨_, h⟩, e⟩
    rw [← e]; exact h
  · intro h
    exact ⟨a, ⟨ha, h⟩, rfl⟩
theorem rem_nat (p n : Nat) : Int.tmod (p : Int) (n : Int) = ((p % n : Nat) : Int) := by
  rw [Int.tmod_eq_emod_of_nonneg (by omega)]
  rfl
set_option maxHeartbeats 4000000 in
set_option maxRecDepth 100000 in
theorem law_ChartTree (l : List Acc) (A : Option Addr) (c1 : Nat) (p q : Nat) (w : World) (hm : l.length ≤ maxLen) (hp : p ≤ 255) (hq : q ≤ 255) (hr : Rd w w.heap.size 4 A l.length (Ch.cells l)) (hwf : ∀ a ∈ l, (Lit.int .i64 a.code).wf = true) :
    Calls Try.prog 8 #[.slice A l.length c1, .int .u8 p, .int .u8 q] w fun e w' => e = .returned (.bool true) ∧ Below w.heap.size w w' := by
  unfold maxLen at hm
  have hb := Below.refl w.heap.size w
  have HR := Lib.hid hr
  have HW := Lib.hid hwf
  clear hr hwf
  by_cases hl : l.length ≤ 60
  · have hF : fewV l.length 0 = true := by unfold fewV; simp [hl]
    by_cases h0 : l.length = 0
    · have h0' : ((l.length : Int) == 0) = true := by simpa using h0
      clear h0
      go_enter Try.func8, Try.ntmps8
      go_wp2_with (first
        | (go_at_call 10; refine (chart_awake _).mono ?_; rintro e w2 ⟨rfl, hb2⟩; replace hb := bel hb hb2; clear hb2)
        | (go_at_call 18; refine (few_any _ _ _ _ _ _ _).mono ?_; rintro e w2 ⟨rfl, rfl⟩))
      go_ret
      exact ⟨rfl, hb⟩
    · have h0' : ((l.length : Int) == 0) = false := by simpa using h0
      cases he : Ch.eitherV l
      · clear h0
        go_enter Try.func8, Try.ntmps8
        go_wp2_with (first
          | (go_at_call 10; refine (chart_awake _).mono ?_; rintro e w2 ⟨rfl, hb2⟩; replace hb := bel hb hb2; clear hb2)
          | (go_at_call 18; refine (few_any _ _ _ _ _ _ _).mono ?_; rintro e w2 ⟨rfl, rfl⟩)
          | (go_at_call 27; refine (reither_any l A c1 _ (Rd.now HR.out hb) (by omega)).mono ?_; rintro e w2 ⟨rfl, hb2⟩; replace hb := bel hb hb2; clear hb2))
        go_ret
        exact ⟨rfl, hb⟩
      · obtain ⟨g, -, hv⟩ := Ch.either_base he
        have HV := Lib.hid hv
        have HE := Lib.hid he
        have hip : p % l.length < l.length := Nat.mod_lt _ (by omega)
        have hiq : q % l.length < l.length := Nat.mod_lt _ (by omega)
        have ep := rem_nat p l.length
        have eq := rem_nat q l.length
        clear hv h0
        go_enter Try.func8, Try.ntmps8
        go_wp2_with (first
          | (go_at_call 10; refine (chart_awake _).mono ?_; rintro e w2 ⟨rfl, hb2⟩; replace hb := bel hb hb2; clear hb2)
          | (go_at_call 18; refine (few_any _ _ _ _ _ _ _).mono ?_; rintro e w2 ⟨rfl, rfl⟩)
          | (go_at_call 27; refine (reither_any l A c1 _ (Rd.now HR.out hb) (by omega)).mono ?_; rintro e w2 ⟨rfl, hb2⟩; replace hb := bel hb hb2; clear hb2))
        obtain ⟨ba, oa, hA, hba, f0, f1, f2, f3⟩ := Ch.at_ (Rd.now HR.out hb) hip
        obtain ⟨bb, ob, hB, hbb, g0, g1, g2, g3⟩ := Ch.at_ (Rd.now HR.out hb) hiq
        rw [hA] at hB
        injection hB with hB
        injection hB with hB1 hB2
        subst hB1 hB2 hA
        go_upto_region 5 with fail
        go_cut [7, 8] (fun s7 s8 wx => ∃ g7 g8 : Nat, s7 = .pointer (some ⟨g7, 0, none⟩) ∧ s8 = .pointer (some ⟨g8, 0, none⟩) ∧ Blk wx g7 26 #[.int .i64 (l[p % l.length]'hip).code, .int .i64 (l[p % l.length]'hip).kind, .int .i64 (l[p % l.length]'hip).basis, .int .i64 (l[p % l.length]'hip).parent] ∧
          Blk wx g8 26 #[.int .i64 (l[q % l.length]'hiq).code, .int .i64 (l[q % l.length]'hiq).kind, .int .i64 (l[q % l.length]'hiq).basis, .int .i64 (l[q % l.length]'hiq).parent] ∧ Below w.heap.size w wx)
        case first =>
          go_region
          all_goals (go_wp2_with fail; go_meet)
          · exact ⟨w2.heap.size, w2.heap.size + 1, rfl, rfl, ((Blk.new w2 _ _).alloc _).drew, (Blk.new2 w2 _ _ _).drew, ((by repeat (first | exact hb | refine Below.alloc ?_ (by have hbs := hb.size; first | omega | (simp; done) | (simp; omega)) _ | refine Below.drew ?_ | refine below_drewN_ ?_ _ | refine Below.setCell ?_ (by simp) _)))⟩
          · exact ⟨w2.heap.size + 1, w2.heap.size, rfl, rfl, (Blk.new2 w2 _ _ _).drew, ((Blk.new w2 _ _).alloc _).drew, ((by repeat (first | exact hb | refine Below.alloc ?_ (by have hbs := hb.size; first | omega | (simp; done) | (simp; omega)) _ | refine Below.drew ?_ | refine below_drewN_ ?_ _ | refine Below.setCell ?_ (by simp) _)))⟩
        case rest =>
          obtain ⟨g7, g8, rfl, rfl, hB7, hB8, hbc⟩ := hcut
          have hmp : l[p % l.length]'hip ∈ l := List.getElem_mem hip
          have hmq : l[q % l.length]'hiq ∈ l := List.getElem_mem hiq
          clear hb f0 f1 f2 f3 g0 g1 g2 g3 ep eq
          have HMP : Hid (l[p % l.length]'hip ∈ l) := Lib.hid hmp
          generalize l[p % l.length]'hip = a at *
          generalize l[q % l.length]'hiq = b at *
          have p7 : wc.cell? ⟨g7, 0, none⟩ = some (.int .i64 a.code) := hB7.cell 0
          go_wp2_with fail
          refine (path_any l a.code _ c1 _ (Rd.now HR.out hbc) (by omega) HW.out).mono ?_
          rintro e w9 ⟨v9, rfl, ho9, hb9⟩
          rw [Ch.path_yes l a.code he] at ho9
          have hB7' := hB7.step hb9
          have hB8' := hB8.step hb9
          have HB0 := Lib.hid (bel hbc hb9)
          have HR9 := Lib.hid (Rd.now HR.out (bel hbc hb9))
          clear hB7 hB8 hbc hb9 p7 HR
          obtain ⟨A9, d9, rfl, hrx⟩ := Rd.of_own ho9
          have HP := Lib.hid hrx
          clear hrx ho9
          have hv := HV.out
          have hpl := Ch.pcl_len l a.code
          have hvp := Ch.v_path hv hmp
          have hne : 0 < (Ch.pcl l a.code).length := by rw [hvp]; simp
          have e0 : (Ch.pcl l a.code)[0] = a.code := by simp only [hvp, List.getElem_cons_zero]
          obtain ⟨bp, op, hA9, hbp, r0⟩ := int_at HP.out hne
          rw [e0] at r0
          subst hA9
          obtain ⟨β, hβ⟩ : ∃ β, decide (b.code ∈ Ch.pcl l a.code) = β := ⟨_, rfl⟩
          have Hβ := Lib.hid hβ
          have HBE : Hid (decide (a.code ∈ Ch.und l b.code l) = β) := Lib.hid (by rw [und_mem hmp]; exact hβ)
          have hul := Ch.und_len l b.code l
          have HUY : Hid (∀ c, Ch.underV l c = Ch.und l c l) := Lib.hid (fun c => Ch.under_yes l c he)
          have q0 : ∀ d : Later w9, d.now.cell? ⟨g7, 0, none⟩ = some (.int .i64 a.code) := fun d => d.cell hB7'.lt (hB7'.cell 0)
          have q1 : ∀ d : Later w9, d.now.cell? ⟨g8, 0, none⟩ = some (.int .i64 b.code) := fun d => d.cell hB8'.lt (hB8'.cell 0)
          have q2 : ∀ d : Later w9, d.now.cell? ⟨bp, op, none⟩ = some (.int .i64 a.code) := fun d => d.cell hbp r0
          have hbb : (β != β) = false := by simp
          have hl0 : (((Ch.pcl l a.code).length : Int) == 0) = false := by simp only [beq_eq_false_iff_ne, ne_eq]; omega
          have haa : (a.code != a.code) = false := by simp
          clear hvp hβ e0 r0 hv he
          go_wp2_with fail
          refine rel_begin (n := 25) (by kernel_rfl) rfl ?_; have hC := Near.drew (w9)
          (first | (refine rel_want (i := 0) rfl rfl (by kernel_rfl) (by kernel_rfl) (by kernel_rfl) rfl (fun _ _ _ _ h => h) hC ?_; intro K hK; go_big_quiet_op; go_big_quiet_on) | (refine rel_skip (i := 0) rfl (by kernel_rfl) (by kernel_rfl) (by kernel_rfl) rfl (fun _ _ _ _ h => h) hC ?_; simp only [Act.put, List.setIfInBounds_toArray, List.set_cons_zero, List.set_cons_succ])); (first | (refine rel_want (i := 1) rfl rfl (by kernel_rfl) (by kernel_rfl) (by kernel_rfl) rfl (fun _ _ _ _ h => h) hC ?_; intro K hK; go_big_quiet_op; go_big_quiet_on) | (refine rel_skip (i := 1) rfl (by kernel_rfl) (by kernel_rfl) (by kernel_rfl) rfl (fun _ _ _ _ h => h) hC ?_; simp only [Act.put, List.setIfInBounds_toArray, List.set_cons_zero, List.set_cons_succ])); (first | (refine rel_want (i := 2) rfl rfl (by kernel_rfl) (by kernel_rfl) (by kernel_rfl) rfl (fun _ _ _ _ h => h) hC ?_; intro K hK; go_big_quiet_op; go_big_quiet_on) | (refine rel_skip (i := 2) rfl (by kernel_rfl) (by kernel_rfl) (by kernel_rfl) rfl (fun _ _ _ _ h => h) hC ?_; simp only [Act.put, List.setIfInBounds_toArray, List.set_cons_zero, List.set_cons_succ])); (first | (refine rel_want (i := 4) rfl rfl (by kernel_rfl) (by kernel_rfl) (by kernel_rfl) rfl (fun _ _ _ _ h => h) hC ?_; intro K hK; go_big_quiet_op; go_big_quiet_on) | (refine rel_skip (i := 4) rfl (by kernel_rfl) (by kernel_rfl) (by kernel_rfl) rfl (fun _ _ _ _ h => h) hC ?_; simp only [Act.put, List.setIfInBounds_toArray, List.set_cons_zero, List.set_cons_succ])); (first | (refine rel_want (i := 5) rfl rfl (by kernel_rfl) (by kernel_rfl) (by kernel_rfl) rfl (fun _ _ _ _ h => h) hC ?_; intro K hK; go_big_quiet_op; go_big_quiet_on) | (refine rel_skip (i := 5) rfl (by kernel_rfl) (by kernel_rfl) (by kernel_rfl) rfl (fun _ _ _ _ h => h) hC ?_; simp only [Act.put, List.setIfInBounds_toArray, List.set_cons_zero, List.set_cons_succ])); (first | (refine rel_want (i := 6) rfl rfl (by kernel_rfl) (by kernel_rfl) (by kernel_rfl) rfl (fun _ _ _ _ h => h) hC ?_; intro K hK; go_big_quiet_op; go_big_quiet_on) | (refine rel_skip (i := 6) rfl (by kernel_rfl) (by kernel_rfl) (by kernel_rfl) rfl (fun _ _ _ _ h => h) hC ?_; simp only [Act.put, List.setIfInBounds_toArray, List.set_cons_zero, List.set_cons_succ])); (first | (refine rel_want (i := 8) rfl rfl (by kernel_rfl) (by kernel_rfl) (by kernel_rfl) rfl (fun _ _ _ _ h => h) hC ?_; intro K hK; go_big_quiet_op; go_big_quiet_on) | (refine rel_skip (i := 8) rfl (by kernel_rfl) (by kernel_rfl) (by kernel_rfl) rfl (fun _ _ _ _ h => h) hC ?_; simp only [Act.put, List.setIfInBounds_toArray, List.set_cons_zero, List.set_cons_succ])); (first | (refine rel_want (i := 9) rfl rfl (by kernel_rfl) (by kernel_rfl) (by kernel_rfl) rfl (fun _ _ _ _ h => h) hC ?_; intro K hK; go_big_quiet_op; go_big_quiet_on) | (refine rel_skip (i := 9) rfl (by kernel_rfl) (by kernel_rfl) (by kernel_rfl) rfl (fun _ _ _ _ h => h) hC ?_; simp only [Act.put, List.setIfInBounds_toArray, List.set_cons_zero, List.set_cons_succ]))
          refine rel_call (i := 3) (by kernel_rfl) rfl rfl ?_; intro K hK; go_simp; go_at_call 28; refine (rhas_b (Ch.pcl l a.code) b.code _ _ d9 _ (Rd.now HP.out hC.below) (by omega) Hβ.out).mono ?_; rintro e w2 ⟨rfl, hb2⟩; (try go_wp2_with fail); replace hC := hC.on hb2; refine hK _ _ hC ?_; clear hK K; (try simp only [Act.put, List.setIfInBounds_toArray, List.set_cons_zero, List.set_cons_succ])
          refine rel_call (i := 7) (by kernel_rfl) rfl rfl ?_; intro K hK; go_simp; go_at_call 19; refine (under_any l b.code _ c1 _ (Rd.now HR9.out hC.below) (by omega) HW.out).mono ?_; rintro e w2 ⟨v4, rfl, ho4, hb2⟩; (try go_wp2_with fail); replace hC := hC.on hb2; refine hK _ _ hC ?_; clear hK K; (try simp only [Act.put, List.setIfInBounds_toArray, List.set_cons_zero, List.set_cons_succ])
          rw [HUY.out] at ho4
          obtain ⟨A4, d4, rfl, hrx⟩ := Rd.of_own ho4
          have HU := Lib.hid hrx
          clear hrx ho4
          refine rel_call (i := 10) (by kernel_rfl) rfl rfl ?_; intro K hK; go_simp; go_at_call 28; refine (rhas_b (Ch.und l b.code l) a.code _ A4 d4 _ HU.out (by omega) HBE.out).mono ?_; rintro e w2 ⟨rfl, hb2⟩; (try go_wp2_with fail); replace hC := hC.on hb2; refine hK _ _ hC ?_; clear hK K; (try simp only [Act.put, List.setIfInBounds_toArray, List.set_cons_zero, List.set_cons_succ])
          (first | (refine rel_want (i := 11) rfl rfl (by kernel_rfl) (by kernel_rfl) (by kernel_rfl) rfl (fun _ _ _ _ h => h) hC ?_; intro K hK; go_big_quiet_op; go_big_quiet_on) | (refine rel_skip (i := 11) rfl (by kernel_rfl) (by kernel_rfl) (by kernel_rfl) rfl (fun _ _ _ _ h => h) hC ?_; simp only [Act.put, List.setIfInBounds_toArray, List.set_cons_zero, List.set_cons_succ])); (first | (refine rel_want (i := 12) rfl rfl (by kernel_rfl) (by kernel_rfl) (by kernel_rfl) rfl (fun _ _ _ _ h => h) hC ?_; intro K hK; go_big_quiet_op; go_big_quiet_on) | (refine rel_skip (i := 12) rfl (by kernel_rfl) (by kernel_rfl) (by kernel_rfl) rfl (fun _ _ _ _ h => h) hC ?_; simp only [Act.put, List.setIfInBounds_toArray, List.set_cons_zero, List.set_cons_succ])); (first | (refine rel_want (i := 13) rfl rfl (by kernel_rfl) (by kernel_rfl) (by kernel_rfl) rfl (fun _ _ _ _ h => h) hC ?_; intro K hK; go_big_quiet_op; go_big_quiet_on) | (refine rel_skip (i := 13) rfl (by kernel_rfl) (by kernel_rfl) (by kernel_rfl) rfl (fun _ _ _ _ h => h) hC ?_; simp only [Act.put, List.setIfInBounds_toArray, List.set_cons_zero, List.set_cons_succ])); (first | (refine rel_want (i := 14) rfl rfl (by kernel_rfl) (by kernel_rfl) (by kernel_rfl) rfl (fun _ _ _ _ h => h) hC ?_; intro K hK; go_big_quiet_op; go_big_quiet_on) | (refine rel_skip (i := 14) rfl (by kernel_rfl) (by kernel_rfl) (by kernel_rfl) rfl (fun _ _ _ _ h => h) hC ?_; simp only [Act.put, List.setIfInBounds_toArray, List.set_cons_zero, List.set_cons_succ])); (first | (refine rel_want (i := 15) rfl rfl (by kernel_rfl) (by kernel_rfl) (by kernel_rfl) rfl (fun _ _ _ _ h => h) hC ?_; intro K hK; go_big_quiet_op; go_big_quiet_on) | (refine rel_skip (i := 15) rfl (by kernel_rfl) (by kernel_rfl) (by kernel_rfl) rfl (fun _ _ _ _ h => h) hC ?_; simp only [Act.put, List.setIfInBounds_toArray, List.set_cons_zero, List.set_cons_succ])); (first | (refine rel_want (i := 16) rfl rfl (by kernel_rfl) (by kernel_rfl) (by kernel_rfl) rfl (fun _ _ _ _ h => h) hC ?_; intro K hK; go_big_quiet_op; go_big_quiet_on) | (refine rel_skip (i := 16) rfl (by kernel_rfl) (by kernel_rfl) (by kernel_rfl) rfl (fun _ _ _ _ h => h) hC ?_; simp only [Act.put, List.setIfInBounds_toArray, List.set_cons_zero, List.set_cons_succ])); (first | (refine rel_want (i := 17) rfl rfl (by kernel_rfl) (by kernel_rfl) (by kernel_rfl) rfl (fun _ _ _ _ h => h) hC ?_; intro K hK; go_big_quiet_op; go_big_quiet_on) | (refine rel_skip (i := 17) rfl (by kernel_rfl) (by kernel_rfl) (by kernel_rfl) rfl (fun _ _ _ _ h => h) hC ?_; simp only [Act.put, List.setIfInBounds_toArray, List.set_cons_zero, List.set_cons_succ])); (first | (refine rel_want (i := 18) rfl rfl (by kernel_rfl) (by kernel_rfl) (by kernel_rfl) rfl (fun _ _ _ _ h => h) hC ?_; intro K hK; go_big_quiet_op; go_big_quiet_on) | (refine rel_skip (i := 18) rfl (by kernel_rfl) (by kernel_rfl) (by kernel_rfl) rfl (fun _ _ _ _ h => h) hC ?_; simp only [Act.put, List.setIfInBounds_toArray, List.set_cons_zero, List.set_cons_succ])); (first | (refine rel_want (i := 19) rfl rfl (by kernel_rfl) (by kernel_rfl) (by kernel_rfl) rfl (fun _ _ _ _ h => h) hC ?_; intro K hK; go_big_quiet_op; go_big_quiet_on) | (refine rel_skip (i := 19) rfl (by kernel_rfl) (by kernel_rfl) (by kernel_rfl) rfl (fun _ _ _ _ h => h) hC ?_; simp only [Act.put, List.setIfInBounds_toArray, List.set_cons_zero, List.set_cons_succ])); (first | (refine rel_want (i := 20) rfl rfl (by kernel_rfl) (by kernel_rfl) (by kernel_rfl) rfl (fun _ _ _ _ h => h) hC ?_; intro K hK; go_big_quiet_op; go_big_quiet_on) | (refine rel_skip (i := 20) rfl (by kernel_rfl) (by kernel_rfl) (by kernel_rfl) rfl (fun _ _ _ _ h => h) hC ?_; simp only [Act.put, List.setIfInBounds_toArray, List.set_cons_zero, List.set_cons_succ])); (first | (refine rel_want (i := 21) rfl rfl (by kernel_rfl) (by kernel_rfl) (by kernel_rfl) rfl (fun _ _ _ _ h => h) hC ?_; intro K hK; go_big_quiet_op; go_big_quiet_on) | (refine rel_skip (i := 21) rfl (by kernel_rfl) (by kernel_rfl) (by kernel_rfl) rfl (fun _ _ _ _ h => h) hC ?_; simp only [Act.put, List.setIfInBounds_toArray, List.set_cons_zero, List.set_cons_succ])); (first | (refine rel_want (i := 22) rfl rfl (by kernel_rfl) (by kernel_rfl) (by kernel_rfl) rfl (fun _ _ _ _ h => h) hC ?_; intro K hK; go_big_quiet_op; go_big_quiet_on) | (refine rel_skip (i := 22) rfl (by kernel_rfl) (by kernel_rfl) (by kernel_rfl) rfl (fun _ _ _ _ h => h) hC ?_; simp only [Act.put, List.setIfInBounds_toArray, List.set_cons_zero, List.set_cons_succ])); (first | (refine rel_want (i := 23) rfl rfl (by kernel_rfl) (by kernel_rfl) (by kernel_rfl) rfl (fun _ _ _ _ h => h) hC ?_; intro K hK; go_big_quiet_op; go_big_quiet_on) | (refine rel_skip (i := 23) rfl (by kernel_rfl) (by kernel_rfl) (by kernel_rfl) rfl (fun _ _ _ _ h => h) hC ?_; simp only [Act.put, List.setIfInBounds_toArray, List.set_cons_zero, List.set_cons_succ])); (first | (refine rel_want (i := 24) rfl rfl (by kernel_rfl) (by kernel_rfl) (by kernel_rfl) rfl (fun _ _ _ _ h => h) hC ?_; intro K hK; go_big_quiet_op; go_big_quiet_on) | (refine rel_skip (i := 24) rfl (by kernel_rfl) (by kernel_rfl) (by kernel_rfl) rfl (fun _ _ _ _ h => h) hC ?_; simp only [Act.put, List.setIfInBounds_toArray, List.set_cons_zero, List.set_cons_succ]))
          refine wpAnyH_done (by kernel_rfl) ?_ _
          have hb := hC.below
          clear HU hC
          go_wp2_with fail
          go_loopw [10] (fun t wr => ∃ i : Nat, i ≤ (Ch.pcl l a.code).length ∧ t = .int .i64 i ∧ Below w9.heap.size w9 wr) (fun t _ => (Ch.pcl l a.code).length - (intOf t).toNat)
          case atStart => exact ⟨0, by omega, rfl, hb⟩
          case round =>
            clear hb q0 q1 q2
            obtain ⟨wo, rfl⟩ : ∃ wo : World, wo = wr := ⟨_, rfl⟩
            obtain ⟨i, hi, rfl, hb⟩ := hrel
            have hzo := hb.size
            by_cases hil : i < (Ch.pcl l a.code).length
            · obtain ⟨bx, ox, hA9, hbx, s0⟩ := int_at (Rd.now HP.out hb) hil
              injection hA9 with hA9
              injection hA9 with hx1 hx2
              subst hx1 hx2
              obtain ⟨x, hx, e1, e2, e3, e4⟩ := Ch.v_chain HV.out a HMP.out i hil
              have HFI : Hid (Ch.find l (Ch.pcl l a.code)[i] = some x) := Lib.hid (by rw [← e1]; exact Ch.base_find (Ch.v_base HV.out) hx)
              have hk' : (x.kind != a.kind) = false := by simp [e2]
              have hw1 : IntKind.i64.wrap ((i : Int) + 1) = (i : Int) + 1 := IntWalk.i64_in _ (by omega)
              have E3 := Lib.hid e3
              have E4 := Lib.hid e4
              clear e1 e2 e3 e4 hw1
              go_wp2_with fail
              refine (find_is l (Ch.pcl l a.code)[i] x _ c1 _ (Rd.now HR9.out hb) (by omega) HFI.out).mono ?_
              rintro e w10 ⟨rfl, hb10⟩
              have hB10 := (hB7'.step hb).step hb10
              have hlt10 := hB10.lt
              have s1 : i + 1 < (Ch.pcl l a.code).length → ∃ n, n = (Ch.pcl l a.code).length := fun _ => ⟨_, rfl⟩
              have hbW : Below w9.heap.size w9 (w10.alloc (.cells #[.int .i64 x.code, .int .i64 x.kind, .int .i64 x.basis, .int .i64 x.parent] 26)) := (bel hb hb10).alloc (by have := hb10.size; omega) _
              have hX := Blk.new w10 26 #[.int .i64 x.code, .int .i64 x.kind, .int .i64 x.basis, .int .i64 x.parent]
              have q0 : ∀ d : Later (w10.alloc (.cells #[.int .i64 x.code, .int .i64 x.kind, .int .i64 x.basis, .int .i64 x.parent] 26)), d.now.cell? ⟨w10.heap.size, 1, none⟩ = some (.int .i64 x.kind) := fun d => d.cell (by simp) (hX.cell 1)
              have q1 : ∀ d : Later (w10.alloc (.cells #[.int .i64 x.code, .int .i64 x.kind, .int .i64 x.basis, .int .i64 x.parent] 26)), d.now.cell? ⟨w10.heap.size, 3, none⟩ = some (.int .i64 x.parent) := fun d => d.cell (by simp) (hX.cell 3)
              have q2 : ∀ d : Later (w10.alloc (.cells #[.int .i64 x.code, .int .i64 x.kind, .int .i64 x.basis, .int .i64 x.parent] 26)), d.now.cell? ⟨g7, 1, none⟩ = some (.int .i64 a.kind) := fun d => d.cell (by simp; omega) ((World.cell?_alloc_lt w10 _ ⟨g7, 1, none⟩ (by show g7 < _; omega)).trans (hB10.cell 1))
              have hw1 : IntKind.i64.wrap ((i : Int) + 1) = (i : Int) + 1 := IntWalk.i64_in _ (by omega)
              by_cases hi1 : i + 1 < (Ch.pcl l a.code).length
              · obtain ⟨by_, oy, hA8, hby, s2⟩ := int_at (Rd.now HP.out (bel hb hb10)) hi1
                injection hA8 with hA8
                injection hA8 with hx1 hx2
                subst hx1 hx2
                have q3 : ∀ d : Later (w10.alloc (.cells #[.int .i64 x.code, .int .i64 x.kind, .int .i64 x.basis, .int .i64 x.parent] 26)), d.now.cell? ⟨bp, op + (i + 1), none⟩ = some (.int .i64 (Ch.pcl l a.code)[i + 1]) := fun d => d.cell (by simp; omega) ((World.cell?_alloc_lt w10 _ ⟨bp, op + (i + 1), none⟩ (by show bp < _; omega)).trans s2)
                have hd1 : decide ((i : Int) + 1 < ((Ch.pcl l a.code).length : Int)) = true := by simp; omega
                have hd2 : ((i : Int) + 1 == ((Ch.pcl l a.code).length : Int)) = false := by simp; omega
                have hp1 : (x.parent != (Ch.pcl l a.code)[i + 1]) = false := by simp [E3.out hi1]
                clear hX hB10 s0 s1 s2 hb10 E3 E4
                go_wp2_with fail
                refine wp_region_later (by kernel_rfl) (by kernel_rfl) ?_; (repeat (go_big_quiet_step ((fail)))); refine wpQuiet_nil ?_; rintro _ ⟨dq, rfl⟩
                have hbe := bel hbW dq.below
                go_wp2_with fail
                go_roundw
                case rel => exact ⟨i + 1, by omega, by go_num, hbe⟩
                case measure => simp [intOf]; omega
              · have hd1 : decide ((i : Int) + 1 < ((Ch.pcl l a.code).length : Int)) = false := by simp; omega
                have hd2 : ((i : Int) + 1 == ((Ch.pcl l a.code).length : Int)) = true := by simp; omega
                have hp1 : (x.parent != 0) = false := by simp [E4.out (by omega)]
                clear hX hB10 s0 s1 hb10 E3 E4
                go_wp2_with fail
                refine wp_region_later (by kernel_rfl) (by kernel_rfl) ?_; (repeat (go_big_quiet_step ((fail)))); refine wpQuiet_nil ?_; rintro _ ⟨dq, rfl⟩
                have hbe := bel hbW dq.below
                go_wp2_with fail
                go_roundw
                case rel => exact ⟨i + 1, by omega, by go_num, hbe⟩
                case measure => simp [intOf]; omega
            · have hkl := Ch.kids_len l a.code
              have p7 : wo.cell? ⟨g7, 0, none⟩ = some (.int .i64 a.code) := (hB7'.step hb).cell 0
              have HCN := Lib.hid (Ch.v_count HV.out HMP.out)
              go_wp2_with fail
              refine (kids_any l a.code _ c1 _ (Rd.now HR9.out hb) (by omega)).mono ?_
              rintro e w11 ⟨v11, rfl, ho11, hb11⟩
              have hB11 := (hB7'.step hb).step hb11
              have HB11 := Lib.hid (bel HB0.out (bel hb hb11))
              have HR11 := Lib.hid (Rd.now HR9.out (bel hb hb11))
              clear hb hb11 p7 hB7' hB8'
              have hb := Below.refl w11.heap.size w11
              obtain ⟨A11, d11, rfl, hrx⟩ := Rd.of_own ho11
              have HK := Lib.hid hrx
              clear hrx ho11
              go_wp2_with fail
              go_loopw [13, 15] (fun s t wr => ∃ k : Nat, k ≤ (Ch.kids l a.code).length ∧ s = .int .i64 (1 + sm ((Ch.kids l a.code).take k) (fun y => ((Ch.und l y l).length : Int))) ∧ t = .int .i64 k ∧ Below w11.heap.size w11 wr) (fun _ t _ => (Ch.kids l a.code).length - (intOf t).toNat)
              case atStart => exact ⟨0, by omega, by rw [List.take_zero, sm_nil]; rfl, rfl, hb⟩
              case round =>
                clear hb
                obtain ⟨k, hk, rfl, rfl, hb⟩ := hrel
                have hbd := sm_bd ((Ch.kids l a.code).take k) (fun y => ((Ch.und l y l).length : Int)) 60 (fun y _ => by have := Ch.und_len l y l; omega)
                rw [List.length_take] at hbd
                have hlo : -100000 ≤ sm ((Ch.kids l a.code).take k) (fun y => ((Ch.und l y l).length : Int)) := by omega
                have hhi : sm ((Ch.kids l a.code).take k) (fun y => ((Ch.und l y l).length : Int)) ≤ 100000 := by omega
                clear hbd
                by_cases hkk : k < (Ch.kids l a.code).length
                · obtain ⟨bk, ok, hA11, hbk, r0⟩ := int_at (Rd.now HK.out hb) hkk
                  subst hA11
                  have hul := Ch.und_len l (Ch.kids l a.code)[k] l
                  have HS2 := Lib.hid (sm_take _ k hkk (fun y => ((Ch.und l y l).length : Int)))
                  go_wp2_with fail
                  refine (under_any l (Ch.kids l a.code)[k] _ c1 _ (Rd.now HR11.out hb) (by omega) HW.out).mono ?_
                  rintro e w12 ⟨v12, rfl, ho12, hb12⟩
                  rw [HUY.out] at ho12
                  replace hb := bel hb hb12
                  obtain ⟨A12, d12, rfl, -⟩ := Rd.of_own ho12
                  clear ho12 hb12
                  go_wp2_with fail
                  go_roundw
                  case rel => exact ⟨k + 1, by omega, by rw [HS2.out, ← Int.add_assoc], by go_num, hb⟩
                  case measure => simp [intOf]; omega
                · have HE2 : Hid (1 + sm ((Ch.kids l a.code).take k) (fun y => ((Ch.und l y l).length : Int)) = ((Ch.und l a.code l).length : Int)) := Lib.hid (by rw [List.take_of_length_le (by omega), HCN.out])
                  rw [HE2.out]
                  have p7 : wr.cell? ⟨g7, 0, none⟩ = some (.int .i64 a.code) := (hB11.step hb).cell 0
                  go_wp2_with fail
                  refine (under_any l a.code _ c1 _ (Rd.now HR11.out hb) (by omega) HW.out).mono ?_
                  rintro e w12 ⟨v12, rfl, ho12, hb12⟩
                  rw [HUY.out] at ho12
                  replace hb := bel hb hb12
                  obtain ⟨A12, d12, rfl, -⟩ := Rd.of_own ho12
                  clear ho12 hb12
                  go_wp2_with fail
                  go_ret
                  exact ⟨rfl, bel HB11.out hb⟩
  · have hF : fewV l.length 0 = false := by unfold fewV; simp; omega
    go_enter Try.func8, Try.ntmps8
    go_wp2_with (first
      | (go_at_call 10; refine (chart_awake _).mono ?_; rintro e w2 ⟨rfl, hb2⟩; replace hb := bel hb hb2; clear hb2)
      | (go_at_call 18; refine (few_any _ _ _ _ _ _ _).mono ?_; rintro e w2 ⟨rfl, rfl⟩))
    go_ret
    exact ⟨rfl, hb⟩
end Go.Proofs.Ytjcapeieahffnaa
