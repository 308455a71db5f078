/- Texts of this claim, put together. -/
import Derived.Test.YtnkmjdaeafeaaaaJAO
import Derived.Test.YtnkmjdaeafeaaaaJAP
import Derived.BigRegion
import Derived.Deep.DeepCutAuto
/- The walk of GroupEntities. -/
namespace Go.Proofs.Ytnkmjdaeafeaaaa
set_option linter.unusedVariables false
set_option linter.unusedSimpArgs false
open Go.RowKit

section
variable (cur : ByteArray) (y m p : Int) (cl : List Acc) (cA : Option Addr) (cc : Nat) (ro : RolesR) (el : List EntR) (eA : Option Addr) (ec : Nat) (w : World)
theorem other_any (gcs : Array Value) (el2 : List EntR) (A2 : Option Addr) (c2 : Nat) (HG : gcs = #[.string cur, .int .i64 y, .int .i64 m, .int .i64 p, .slice cA cl.length cc, .int .i64 ro.investment, .int .i64 ro.goodwill, .int .i64 ro.associates, .int .i64 ro.inventory, .int .i64 ro.reserve, .int .i64 ro.minority, .int .i64 ro.retained, .int .i64 ro.acquired, .int .i64 ro.owners, .int .i64 ro.disposal, .int .i64 ro.associateProfit, .int .i64 ro.dividends, .int .i64 ro.minorityProfit, .int .i64 ro.difference, .int .i64 ro.margin, .slice eA el.length ec]) (h : GIn w cl cA el2 A2) (hF : FewOk cur cl el2) :
    Calls Try.prog 14 #[.agg (gcs.setIfInBounds 20 (.slice A2 el2.length c2))] w (BoolPost (Gr.gv cur cl ro el2 (Cal.ok y m p)) w) := by
  refine gvalid_any (gcs.setIfInBounds 20 (.slice A2 el2.length c2)) cur y m p cl cA cc ro el2 A2 c2 w (Lib.hid ?_) h hF
  rw [HG]
  rfl
theorem less_any (gcs : Array Value) (n1 : Nat) (hn : n1 ≤ el.length) (HG : gcs = #[.string cur, .int .i64 y, .int .i64 m, .int .i64 p, .slice cA cl.length cc, .int .i64 ro.investment, .int .i64 ro.goodwill, .int .i64 ro.associates, .int .i64 ro.inventory, .int .i64 ro.reserve, .int .i64 ro.minority, .int .i64 ro.retained, .int .i64 ro.acquired, .int .i64 ro.owners, .int .i64 ro.disposal, .int .i64 ro.associateProfit, .int .i64 ro.dividends, .int .i64 ro.minorityProfit, .int .i64 ro.difference, .int .i64 ro.margin, .slice eA el.length ec]) (h : GIn w cl cA el eA) (hF : FewOk cur cl el) :
    Calls Try.prog 14 #[.agg (gcs.setIfInBounds 20 (.slice eA n1 ec))] w (BoolPost (Gr.gv cur cl ro (el.take n1) (Cal.ok y m p)) w) := by
  have hl : (el.take n1).length = n1 := by rw [List.length_take]; omega
  have := other_any cur y m p cl cA cc ro el eA ec w gcs (el.take n1) eA ec HG ⟨h.ch, rd_take EntR.len h.en n1 hn, fun x hx => h.ok x (List.mem_of_mem_take hx), h.wf⟩ (few_of hF (by omega) fun x hx => List.mem_of_mem_take hx)
  rwa [hl] at this
theorem set_set_at {α : Type} (l : List α) (i k : Nat) (a b : α) (m : Nat) (hm : m < ((l.set i a).set k b).length) : ((l.set i a).set k b)[m] = if m = k then b else if m = i then a else l[m]'(by simpa using hm) := by
  rw [List.getElem_set, List.getElem_set]
  by_cases h1 : k = m
  · subst h1; simp
  · by_cases h2 : i = m
    · subst h2; simp [h1, Ne.symm h1]
    · simp [h1, h2, Ne.symm h1, Ne.symm h2]
theorem swap_at (el : List EntR) (i k : Nat) (hi : i < el.length) (hk : k < el.length) : ∀ m (hm : m < (swapL el i k).length), (swapL el i k)[m] = if m = k then el[i] else if m = i then el[k] else el[m]'(by rw [swap_len] at hm; omega) := by
  intro m hm
  have := set_set_at el i k (el.getD k default) (el.getD i default) m hm
  have e1 := getD_lt el i default hi
  have e2 := getD_lt el k default hk
  refine Eq.trans this ?_
  simp only [e1, e2]
set_option maxRecDepth 100000 in
set_option maxHeartbeats 16000000 in
theorem law_GroupEntities (pa pb : Nat) (ha : pa ≤ 255) (hpb : pb ≤ 255) (h : GIn w cl cA el eA) (hc : cur.size ≤ maxLen) (hcl : cl.length ≤ maxLen) (hel : el.length ≤ maxLen) (hec : el.length ≤ ec) (hem : ec ≤ maxLen) :
    Calls Try.prog 3 #[.agg #[.string cur, .int .i64 y, .int .i64 m, .int .i64 p, .slice cA cl.length cc, .int .i64 ro.investment, .int .i64 ro.goodwill, .int .i64 ro.associates, .int .i64 ro.inventory, .int .i64 ro.reserve, .int .i64 ro.minority, .int .i64 ro.retained, .int .i64 ro.acquired, .int .i64 ro.owners, .int .i64 ro.disposal, .int .i64 ro.associateProfit, .int .i64 ro.dividends, .int .i64 ro.minorityProfit, .int .i64 ro.difference, .int .i64 ro.margin, .slice eA el.length ec], .int .u8 pa, .int .u8 pb] w fun e w' => e = .returned (.bool true) ∧ Below w.heap.size w w' := by
  have H := Lib.hid h
  clear h
  obtain ⟨gcs, hgc⟩ : ∃ x : Array Value, x = #[.string cur, .int .i64 y, .int .i64 m, .int .i64 p, .slice cA cl.length cc, .int .i64 ro.investment, .int .i64 ro.goodwill, .int .i64 ro.associates, .int .i64 ro.inventory, .int .i64 ro.reserve, .int .i64 ro.minority, .int .i64 ro.retained, .int .i64 ro.acquired, .int .i64 ro.owners, .int .i64 ro.disposal, .int .i64 ro.associateProfit, .int .i64 ro.dividends, .int .i64 ro.minorityProfit, .int .i64 ro.difference, .int .i64 ro.margin, .slice eA el.length ec] := ⟨_, rfl⟩
  have hgi : (Try.prog.info? 29).map (·.size) = some gcs.size := by rw [hgc]; exact grp_size
  have HG := Lib.hid hgc
  rw [← hgc]
  clear hgc
  have K0 := Lib.hid (fun W h => HG.out.symm ▸ few_any cur y m p cl cA cc ro el eA ec W h hc hcl hel)
  clear hcl hel
  have hb : Below w.heap.size w (w.alloc (.cells gcs 29)) := (Below.refl _ _).alloc (Nat.le_refl _) _
  have HB := Lib.hid (Blk.new w 29 gcs)
  go_enter Try.func3, Try.ntmps3
  go_wp2_with (first
    | (refine wpList_load_blk 29 (.tmp 3) rfl (w.heap.size) rfl (by kernel_rfl) (HB).out Try.underlying29 hgi ?_)
    | (go_at_call 10; refine (grp_awake _).mono ?_; rintro e w2 ⟨rfl, hb9⟩; replace hb := bel hb hb9; replace HB := Lib.hid (HB.out.step hb9); clear hb9))
  refine (K0.out _ (H.out.step hb)).mono ?_
  rintro e w3 ⟨b, rfl, hb9, hok⟩
  replace hb := bel hb hb9
  replace HB := Lib.hid (HB.out.step hb9)
  clear hb9 K0
  cases b
  · clear hok
    go_wp2_with (go_at_call 10; refine (grp_awake _).mono ?_; rintro e w4 ⟨rfl, hb9⟩; replace hb := bel hb hb9; clear hb9)
    go_ret
    exact ⟨rfl, hb⟩
  · have OK := Lib.hid (hok rfl)
    clear hok
    have hn := OK.out.en
    have K2 := Lib.hid (fun W h => rgvalid_any gcs cur y m p cl cA cc ro el eA ec W HG h OK.out)
    have HGV := Lib.hid (fun h => (gv_split (cur := cur) (cl := cl) (ro := ro) (el := el) (cal := Cal.ok y m p)).1 h)
    have HGF := Lib.hid (gv_found (cur := cur) (cl := cl) (ro := ro) (el := el) (cal := Cal.ok y m p))
    have HGT := Lib.hid (gv_take (cur := cur) (cl := cl) (ro := ro) (el := el) (cal := Cal.ok y m p))
    have HGS := Lib.hid (gv_swap (cur := cur) (cl := cl) (ro := ro) (el := el) (cal := Cal.ok y m p))
    have KV := Lib.hid (fun W h => gvalid_any gcs cur y m p cl cA cc ro el eA ec W HG h OK.out)
    generalize Gr.gv cur cl ro el (Cal.ok y m p) = V at *
    cases V
    · go_wp2_with (first
        | (refine wpList_load_blk 29 (.tmp 3) rfl (w.heap.size) rfl (by kernel_rfl) (HB).out Try.underlying29 hgi ?_)
        | (go_at_call 12; refine (K2.out _ (H.out.step hb)).mono ?_; rintro e w4 ⟨rfl, hb9⟩; replace hb := bel hb hb9; clear hb9)
        | (go_at_call 10; refine (grp_awake _).mono ?_; rintro e w5 ⟨rfl, hb9⟩; replace hb := bel hb hb9; clear hb9))
      go_ret
      exact ⟨rfl, hb⟩
    · have hn1 := (HGV.out rfl).2.1
      go_wp2_with (first
        | (refine wpList_load_blk 29 (.tmp 3) rfl (w.heap.size) rfl (by kernel_rfl) (HB).out Try.underlying29 hgi ?_)
        | (go_at_call 12; refine (K2.out _ (H.out.step hb)).mono ?_; rintro e w4 ⟨rfl, hb9⟩; replace hb := bel hb hb9; replace HB := Lib.hid (HB.out.step hb9); clear hb9; have g20 : w4.cell? ⟨w.heap.size, 20, none⟩ = some (.slice eA el.length ec) := (HB.out.cell 20).trans (by rw [HG.out]; rfl)))
      clear g20 K2
      go_loopw [31] (fun t wr => ∃ k : Nat, k ≤ el.length ∧ t = .int .i64 k ∧ Below w4.heap.size w4 wr) (fun t _ => el.length - (intOf t).toNat)
      case atStart => exact ⟨0, by omega, rfl, Below.refl _ _⟩
      case round =>
        obtain ⟨k, hk, rfl, hbr⟩ := hrel
        have hbw := bel hb hbr
        have HBr := Lib.hid (HB.out.step hbr)
        by_cases hlt : k < el.length
        · obtain ⟨b, o, hA, hbo, f0, f1, f2, f3, f4⟩ := EntR.at_ (Rd.now H.out.en hbw) hlt
          subst hA
          obtain ⟨z1, z2⟩ := HGF.out (by first | rfl | trivial) k hlt
          have KF := Lib.hid (fun W h => HG.out.symm ▸ gfind_any cur y m p cl cA cc ro el (some ⟨b, o, none⟩) ec W el[k].name h (by omega))
          rw [z1, z2] at KF
          generalize el[k].name = nm at *
          have q0 : ∀ d : Later wr, d.now.cell? ⟨b, o + k * 5, none⟩ = some (.string nm) := fun d => d.cell hbo f0
          have q20 : ∀ d : Later wr, d.now.cell? ⟨w.heap.size, 20, none⟩ = some (.slice (some ⟨b, o, none⟩) el.length ec) := fun d => d.cell HBr.out.lt ((HBr.out.cell 20).trans (by rw [HG.out]; rfl))
          clear z1 z2 f0 f1 f2 f3 f4
          go_wp2_with fail
          refine wp_region_later (by kernel_rfl) (by kernel_rfl) ?_
          (repeat (go_big_quiet_step ((fail)))); refine quiet_load_blk 29 (.tmp 3) rfl (w.heap.size) rfl (by kernel_rfl) (HBr).out Try.underlying29 hgi ?_; (try simp only [Act.put, List.setIfInBounds_toArray, List.set_cons_zero, List.set_cons_succ])
          (repeat (go_big_quiet_step ((fail)))); go_big_quiet_step ((go_at_call 13; exact Later.call _ (KF.out _ (H.out.step (bel hbw (Later.below _))))))
          (repeat (go_big_quiet_step ((fail)))); refine wpQuiet_nil ?_; rintro _ ⟨dq, rfl⟩
          have hbe := bel hbr dq.below
          have hkk : ((k : Int) != (k : Int)) = false := by simp
          clear q0 q20
          go_wp2_with fail
          go_roundw
          case rel => exact ⟨k + 1, by omega, by go_num, hbe⟩
          case measure => simp [intOf]; omega
        · have e20 : wr.cell? ⟨w.heap.size, 20, none⟩ = some (.slice eA el.length ec) := (HBr.out.cell 20).trans (by rw [HG.out]; rfl)
          cases h1 : ((el.length : Int) == 1)
          · go_upto_region 13 with fail
            clear e20
            go_cut [11, 12] (fun s11 s12 wx => ∃ g1 g2 : Nat, s11 = .pointer (some ⟨g1, 0, none⟩) ∧ s12 = .pointer (some ⟨g2, 0, none⟩) ∧ g1 ≠ g2 ∧ wr.heap.size ≤ g1 ∧ wr.heap.size ≤ g2 ∧ Blk wx g1 29 gcs ∧ Blk wx g2 29 gcs ∧ Below wr.heap.size wr wx)
            case first =>
              have HSZ : Hid (zeroG.size = gcs.size) := Lib.hid (by rw [HG.out]; rfl)
              have HONE : Hid (gcs.all (·.oneCell') = true) := Lib.hid (by rw [HG.out]; kernel_rfl)
              refine rel_begin (n := 6) (wr) (by kernel_rfl) rfl ?_; have hC := Near.drew (wr)
              refine rel_load_blk (i := 0) rfl 29 (.tmp 3) rfl (w.heap.size) rfl (by kernel_rfl) (by kernel_rfl) (by kernel_rfl) rfl (fun _ _ _ _ h => h) hC (HBr).out Try.underlying29 hgi ?_; (try simp only [Act.put, List.setIfInBounds_toArray, List.set_cons_zero, List.set_cons_succ])
              refine rel_load_blk (i := 1) rfl 29 (.tmp 3) rfl (w.heap.size) rfl (by kernel_rfl) (by kernel_rfl) (by kernel_rfl) rfl (fun _ _ _ _ h => h) hC (HBr).out Try.underlying29 hgi ?_; (try simp only [Act.put, List.setIfInBounds_toArray, List.set_cons_zero, List.set_cons_succ])
              refine rel_calls (is := [2, 3]) (by kernel_rfl) (by simp) ?_
              intro j hj
              simp only [List.mem_cons, List.not_mem_nil, or_false] at hj
              rcases hj with rfl | rfl
              · refine ⟨_, rfl, rfl, ?_⟩
                intro K hK
                go_simp
                have hC4 : Below wr.heap.size wr (wr.alloc (.cells zeroG 29)).drew := ((Below.refl _ _).alloc (Nat.le_refl _) _).drew
                have hX0 : Blk (wr.alloc (.cells zeroG 29)).drew wr.heap.size 29 zeroG := (Blk.new wr _ _).drew
                refine hK _ _ (Near.of hC4) ?_
                clear hK K hC
                generalize hgen : (wr.alloc (.cells _ 29)).drew = w4
                rw [show (wr.alloc (.cells zeroG 29)).drew = w4 from hgen] at hC4 hX0
                clear hgen
                intro hC
                (try simp only [Act.put, List.setIfInBounds_toArray, List.set_cons_zero, List.set_cons_succ])
                refine rel_call (i := 3) (by kernel_rfl) rfl rfl ?_
                intro K hK
                go_simp
                have hlt4 := hX0.lt
                have hC5 : Below wr.heap.size wr (w4.alloc (.cells zeroG 29)) := hC4.alloc hC4.size _
                have hX1 : Blk (w4.alloc (.cells zeroG 29)) wr.heap.size 29 zeroG := hX0.alloc _
                have hX2 : Blk (w4.alloc (.cells zeroG 29)) w4.heap.size 29 zeroG := Blk.new w4 _ _
                refine hK _ _ (Near.of hC5) ?_
                clear hK K hC
                generalize hgen : w4.alloc (.cells _ 29) = w5
                rw [show w4.alloc (.cells zeroG 29) = w5 from hgen] at hC5 hX1 hX2
                clear hgen
                intro hC
                (try simp only [Act.put, List.setIfInBounds_toArray, List.set_cons_zero, List.set_cons_succ])
                refine rel_call (i := 4) (by kernel_rfl) rfl rfl ?_
                intro K hK
                refine wp_store_row 29 (.tmp 11) (.tmp 60) rfl wr.heap.size gcs rfl rfl 29 zeroG hX1 hgi HSZ.out HONE.out ?_
                have hY1 : Blk (w5.setRow wr.heap.size gcs) wr.heap.size 29 gcs := setRow_heap _ _ zeroG _ _ _ hX1
                have hY2 : Blk (w5.setRow wr.heap.size gcs) w4.heap.size 29 zeroG := (setRow_other _ _ _ _ (by omega)).trans hX2
                have hC6 := below_setRow (cs := gcs) (g := wr.heap.size) hC5 (by omega)
                refine hK _ _ (Near.of hC6) ?_
                clear hK K hC hX1 hX2
                generalize w5.setRow wr.heap.size gcs = w6 at *
                intro hC
                (try simp only [Act.put, List.setIfInBounds_toArray, List.set_cons_zero, List.set_cons_succ])
                refine rel_call (i := 5) (by kernel_rfl) rfl rfl ?_
                intro K hK
                refine wp_store_row 29 (.tmp 12) (.tmp 61) rfl w4.heap.size gcs rfl rfl 29 zeroG hY2 hgi HSZ.out HONE.out ?_
                have hZ2 : Blk (w6.setRow w4.heap.size gcs) w4.heap.size 29 gcs := setRow_heap _ _ zeroG _ _ _ hY2
                have hZ1 : Blk (w6.setRow w4.heap.size gcs) wr.heap.size 29 gcs := (setRow_other _ _ _ _ (by omega)).trans hY1
                have hC7 := below_setRow (cs := gcs) (g := w4.heap.size) hC6 (by omega)
                refine hK _ _ (Near.of hC7) ?_
                clear hK K hC
                generalize w6.setRow w4.heap.size gcs = w7 at *
                intro hC
                (try simp only [Act.put, List.setIfInBounds_toArray, List.set_cons_zero, List.set_cons_succ])
                refine wpAnyH_done (by kernel_rfl) ?_ _
                go_wp2_with fail
                go_meet
                exact ⟨wr.heap.size, w4.heap.size, rfl, rfl, by omega, by omega, by omega, hZ1, hZ2, hC7⟩
              · refine ⟨_, rfl, rfl, ?_⟩
                intro K hK
                go_simp
                have hC4 : Below wr.heap.size wr (wr.alloc (.cells zeroG 29)).drew := ((Below.refl _ _).alloc (Nat.le_refl _) _).drew
                have hX0 : Blk (wr.alloc (.cells zeroG 29)).drew wr.heap.size 29 zeroG := (Blk.new wr _ _).drew
                refine hK _ _ (Near.of hC4) ?_
                clear hK K hC
                generalize hgen : (wr.alloc (.cells _ 29)).drew = w4
                rw [show (wr.alloc (.cells zeroG 29)).drew = w4 from hgen] at hC4 hX0
                clear hgen
                intro hC
                (try simp only [Act.put, List.setIfInBounds_toArray, List.set_cons_zero, List.set_cons_succ])
                refine rel_call (i := 2) (by kernel_rfl) rfl rfl ?_
                intro K hK
                go_simp
                have hlt4 := hX0.lt
                have hC5 : Below wr.heap.size wr (w4.alloc (.cells zeroG 29)) := hC4.alloc hC4.size _
                have hX1 : Blk (w4.alloc (.cells zeroG 29)) wr.heap.size 29 zeroG := hX0.alloc _
                have hX2 : Blk (w4.alloc (.cells zeroG 29)) w4.heap.size 29 zeroG := Blk.new w4 _ _
                refine hK _ _ (Near.of hC5) ?_
                clear hK K hC
                generalize hgen : w4.alloc (.cells _ 29) = w5
                rw [show w4.alloc (.cells zeroG 29) = w5 from hgen] at hC5 hX1 hX2
                clear hgen
                intro hC
                (try simp only [Act.put, List.setIfInBounds_toArray, List.set_cons_zero, List.set_cons_succ])
                refine rel_call (i := 4) (by kernel_rfl) rfl rfl ?_
                intro K hK
                refine wp_store_row 29 (.tmp 11) (.tmp 60) rfl w4.heap.size gcs rfl rfl 29 zeroG hX2 hgi HSZ.out HONE.out ?_
                have hY1 : Blk (w5.setRow w4.heap.size gcs) w4.heap.size 29 gcs := setRow_heap _ _ zeroG _ _ _ hX2
                have hY2 : Blk (w5.setRow w4.heap.size gcs) wr.heap.size 29 zeroG := (setRow_other _ _ _ _ (by omega)).trans hX1
                have hC6 := below_setRow (cs := gcs) (g := w4.heap.size) hC5 (by omega)
                refine hK _ _ (Near.of hC6) ?_
                clear hK K hC hX1 hX2
                generalize w5.setRow w4.heap.size gcs = w6 at *
                intro hC
                (try simp only [Act.put, List.setIfInBounds_toArray, List.set_cons_zero, List.set_cons_succ])
                refine rel_call (i := 5) (by kernel_rfl) rfl rfl ?_
                intro K hK
                refine wp_store_row 29 (.tmp 12) (.tmp 61) rfl wr.heap.size gcs rfl rfl 29 zeroG hY2 hgi HSZ.out HONE.out ?_
                have hZ2 : Blk (w6.setRow wr.heap.size gcs) wr.heap.size 29 gcs := setRow_heap _ _ zeroG _ _ _ hY2
                have hZ1 : Blk (w6.setRow wr.heap.size gcs) w4.heap.size 29 gcs := (setRow_other _ _ _ _ (by omega)).trans hY1
                have hC7 := below_setRow (cs := gcs) (g := wr.heap.size) hC6 (by omega)
                refine hK _ _ (Near.of hC7) ?_
                clear hK K hC
                generalize w6.setRow wr.heap.size gcs = w7 at *
                intro hC
                (try simp only [Act.put, List.setIfInBounds_toArray, List.set_cons_zero, List.set_cons_succ])
                refine wpAnyH_done (by kernel_rfl) ?_ _
                go_wp2_with fail
                go_meet
                exact ⟨w4.heap.size, wr.heap.size, rfl, rfl, by omega, by omega, by omega, hZ1, hZ2, hC7⟩
            case rest =>
              obtain ⟨g1, g2, rfl, rfl, hne, hg1, hg2, hP1, hP2, hb9⟩ := hcut
              have hbc := bel hbw hb9
              have hn2 : 2 ≤ el.length := by simp at h1; omega
              obtain ⟨b, o, hA, hbo, f0, f1, f2, f3, f4⟩ := EntR.at_ (k := 0) (Rd.now H.out.en hbc) hn1
              subst hA
              clear f0 f1 f2 f3 f4
              have HBc := Lib.hid (HBr.out.step hb9)
              have HP1 := Lib.hid hP1
              have HP2 := Lib.hid hP2
              have x20 : wc.cell? ⟨g1, 20, none⟩ = some (.slice (some ⟨b, o, none⟩) el.length ec) := (HP1.out.cell 20).trans (by rw [HG.out]; rfl)
              have x21 : wc.frozen? ⟨g1, 20, none⟩ = false := HP1.out.frozen 20
              have v20 : wc.cell? ⟨w.heap.size, 20, none⟩ = some (.slice (some ⟨b, o, none⟩) el.length ec) := (HBc.out.cell 20).trans (by rw [HG.out]; rfl)
              have hw1 : IntKind.i64.wrap ((el.length : Int) - 1) = ((el.length - 1 : Nat) : Int) := by rw [IntWalk.i64_in _ (by omega)]; omega
              have hgg : w.heap.size ≠ g1 := by have := hbw.size; have := HBr.out.lt; omega
              have y20 : (wc.setCell ⟨g1, 20, none⟩ (.slice (some ⟨b, o, none⟩) (el.length - 1) ec)).cell? ⟨w.heap.size, 20, none⟩ = some (.slice (some ⟨b, o, none⟩) el.length ec) := (World.cell?_setCell_other wc ⟨g1, 20, none⟩ ⟨w.heap.size, 20, none⟩ _ (fun e => hgg (congrArg Addr.block e).symm)).trans v20
              have hecn : (el.length - 1 : Nat) ≤ ec := by omega
              have hlt9 : w.heap.size < wc.heap.size := HBc.out.lt
              have hlt8 : w.heap.size < (wc.setCell ⟨g1, 20, none⟩ (.slice (some ⟨b, o, none⟩) (el.length - 1) ec)).heap.size := by rw [World.size_setCell]; exact hlt9
              have hz0 : (0 : Int) ≤ ((el.length - 1 : Nat) : Int) := Int.natCast_nonneg _
              have hb8 : Below w.heap.size w (wc.setCell ⟨g1, 20, none⟩ (.slice (some ⟨b, o, none⟩) (el.length - 1) ec)) := hbc.setCell (p := ⟨g1, 20, none⟩) (by have := hbw.size; show w.heap.size ≤ g1; omega) _
              have hRD := Lib.hid ((Rd.now H.out.en hb8).alloc (Nat.le_refl _) (.cells #[] 36))
              have HOW : Hid (((wc.setCell ⟨g1, 20, none⟩ (.slice (some ⟨b, o, none⟩) (el.length - 1) ec)).alloc (.cells #[] 36)).ownsRow w.heap.size 36 5 (.slice (some ⟨wc.heap.size, 0, none⟩) 0 0) 0 []) := Lib.hid (by have := own_empty (w := (wc.setCell ⟨g1, 20, none⟩ (.slice (some ⟨b, o, none⟩) (el.length - 1) ec))) 36 w.heap.size 5 0 (Nat.le_of_lt hlt8) #[] rfl (by decide); rwa [World.size_setCell] at this)
              obtain ⟨i0, hi, hz0, hz1, hz2⟩ := info_parts EntR.info
              go_wp2_with (at_builtin; (refine wpList_append_any _ rfl (.tmp 68) (.tmp 70) 27 rfl w.heap.size 36 i0 (.agg #[.string ⟨#[]⟩, .string ⟨#[]⟩, .slice none 0 0, .slice none 0 0, .bool false]) 5 88 Try.underlying27 hi hz0 hz1 hz2 rfl (by decide) _ 0 [] rfl HOW.out _ (some ⟨b, o, none⟩) el.length ec _ rfl hRD.out (cells_one EntR.one el) ?c3 ?c4 ?c5 ?_))
              case c3 => simp only [maxLen]; omega
              case c4 => omega
              case c5 => have := hb8.size; simp at this ⊢; omega
              intro v4 w4 ho4 hg4
              have hlt1 := HP1.out.lt
              have hlt2 := HP2.out.lt
              have hrow : ∀ q, q < wc.heap.size → some q ≠ (Value.slice (some ⟨wc.heap.size, 0, none⟩) 0 0).ownBlock := fun q hq e => by
                simp only [Value.ownBlock, Option.some.injEq] at e
                omega
              have hQ1 : Blk w4 g1 29 (gcs.setIfInBounds 20 (.slice (some ⟨b, o, none⟩) (el.length - 1) ec)) := ((HP1.out.set_ 20 _).alloc _).grown hg4 (hrow _ hlt1)
              have hQ2 : Blk w4 g2 29 gcs := ((HP2.out.far (p := ⟨g1, 20, none⟩) (Ne.symm hne) _).alloc _).grown hg4 (hrow _ hlt2)
              have hQ0 : Blk w4 w.heap.size 29 gcs := ((HBc.out.far (p := ⟨g1, 20, none⟩) hgg _).alloc _).grown hg4 (hrow _ hlt9)
              have hb4 : Below w.heap.size w w4 := bel_own (hb8.alloc hb8.size (.cells #[] 36)) (by have := hb8.size; simp at this ⊢; omega) HOW.out hg4
              obtain ⟨g, cap, cE, rfl, hgb, hG, hnc, hcs⟩ := own_blk ho4 (by omega)
              clear hg4 hrow hRD y20 v20 x20 x21 ho4 hb8 hlt8 hlt9
              have hgw := hb4.size
              have hge : g ≠ g1 := hG.ne hQ1 (by decide)
              have hge2 : g ≠ g2 := hG.ne hQ2 (by decide)
              have x20 : w4.cell? ⟨g2, 20, none⟩ = some (.slice (some ⟨b, o, none⟩) el.length ec) := (hQ2.cell 20).trans (by rw [HG.out]; rfl)
              have x21 : w4.frozen? ⟨g2, 20, none⟩ = false := hQ2.frozen 20
              have hg2b : w.heap.size ≤ g2 := by have := hbw.size; omega
              have hR1 := Lib.hid (hQ1.far (p := ⟨g2, 20, none⟩) hne (.slice (some ⟨g, 0, none⟩) el.length cap))
              have hR2 := Lib.hid (hQ2.set_ 20 (.slice (some ⟨g, 0, none⟩) el.length cap))
              have hR0 := Lib.hid (hQ0.far (p := ⟨g2, 20, none⟩) (by have := HBr.out.lt; show w.heap.size ≠ g2; omega) (.slice (some ⟨g, 0, none⟩) el.length cap))
              have hRG := Lib.hid (hG.far (p := ⟨g2, 20, none⟩) hge2 (.slice (some ⟨g, 0, none⟩) el.length cap))
              have hb5 := hb4.setCell (p := ⟨g2, 20, none⟩) hg2b (.slice (some ⟨g, 0, none⟩) el.length cap)
              have HCS := Lib.hid hcs
              clear hQ1 hQ2 hQ0 hG hcs hbc HBc HP1 HP2 hb9
              clear HOW hec hecn
              obtain ⟨i, hi1, hi2, hiE⟩ : ∃ i : Nat, 1 ≤ i ∧ i < el.length ∧ i = 1 + pa % (el.length - 1) := ⟨1 + pa % (el.length - 1), by omega, by have := Nat.mod_lt pa (show 0 < el.length - 1 by omega); omega, rfl⟩
              obtain ⟨k2, hk1, hk2, hkE⟩ : ∃ i : Nat, 1 ≤ i ∧ i < el.length ∧ i = 1 + pb % (el.length - 1) := ⟨1 + pb % (el.length - 1), by omega, by have := Nat.mod_lt pb (show 0 < el.length - 1 by omega); omega, rfl⟩
              have hq0 : ((el.length - 1 : Nat) : Int) ≠ 0 := by omega
              have HIE : Hid (wrap64 (1 + (pa : Int) % ((el.length - 1 : Nat) : Int)) = (i : Int)) := Lib.hid (by rw [hiE, IntWalk.wrap64_in _ (by have := Int.emod_lt_of_pos (pa : Int) (show (0 : Int) < ((el.length - 1 : Nat) : Int) by omega); have := Int.emod_nonneg (pa : Int) hq0; omega)]; simp)
              have HKE : Hid (wrap64 (1 + (pb : Int) % ((el.length - 1 : Nat) : Int)) = (k2 : Int)) := Lib.hid (by rw [hkE, IntWalk.wrap64_in _ (by have := Int.emod_lt_of_pos (pb : Int) (show (0 : Int) < ((el.length - 1 : Nat) : Int) by omega); have := Int.emod_nonneg (pb : Int) hq0; omega)]; simp)
              clear hiE hkE
              go_wp2_with fail
              clear x20 x21
              refine wp_region_later (by kernel_rfl) (by kernel_rfl) ?_; (repeat (go_big_quiet_step ((fail)))); refine wpQuiet_nil ?_; rintro _ ⟨dq, rfl⟩
              obtain ⟨wd, hbd⟩ := dq
              dsimp only
              rw [HIE.out, HKE.out]
              have R1 := Lib.hid (hR1.out.step hbd)
              have R2 := Lib.hid (hR2.out.step hbd)
              have R0 := Lib.hid (hR0.out.step hbd)
              have RG := Lib.hid (hRG.out.step hbd)
              have hb6 := bel hb5 hbd
              have d20 : wd.cell? ⟨g2, 20, none⟩ = some (.slice (some ⟨g, 0, none⟩) el.length cap) := (R2.out.cell 20).trans (by rw [HG.out]; rfl)
              obtain ⟨ri, ti⟩ := range_of EntR.len RG.out HCS.out i hi2
              obtain ⟨rk, tk⟩ := range_of EntR.len RG.out HCS.out k2 hk2
              have KL : Hid (∀ W, GIn W cl cA el (some ⟨b, o, none⟩) → Calls Try.prog 14 #[.agg (gcs.setIfInBounds 20 (.slice (some ⟨b, o, none⟩) (el.length - 1) ec))] W (BoolPost true W)) := Lib.hid (fun W h => by
                have := less_any cur y m p cl cA cc ro el (some ⟨b, o, none⟩) ec W gcs (el.length - 1) (by omega) HG.out h OK.out
                rwa [HGT.out trivial (el.length - 1) (by omega) (by omega)] at this)
              have KW : Hid (∀ W, GIn W cl cA (swapL el i k2) (some ⟨g, 0, none⟩) → Calls Try.prog 14 #[.agg (gcs.setIfInBounds 20 (.slice (some ⟨g, 0, none⟩) el.length cap))] W (BoolPost true W)) := Lib.hid (fun W h => by
                have := other_any cur y m p cl cA cc ro el (some ⟨b, o, none⟩) ec W gcs (swapL el i k2) (some ⟨g, 0, none⟩) cap HG.out h (few_of OK.out (Nat.le_of_eq (swap_len _ _ _)) fun x hx => (swap_perm el i k2 hi2 hk2).mem_iff.1 hx)
                rwa [HGS.out trivial i k2 hi1 hk1 hi2 hk2, swap_len] at this)
              have HMEM : Hid (∀ x ∈ swapL el i k2, x ∈ el) := Lib.hid fun x hx => (swap_perm el i k2 hi2 hk2).mem_iff.1 hx
              have HSW := Lib.hid (swap_rd (f := EntR.cells) (sz := 5) (w := wd) (l := el) (l' := swapL el i k2) EntR.len (by decide) RG.out HCS.out i k2 hi2 hk2 (swap_len _ _ _) (swap_at el i k2 hi2 hk2))
              obtain ⟨ei, hei⟩ : ∃ x, x = el[i] := ⟨_, rfl⟩
              obtain ⟨ek, hek⟩ : ∃ x, x = el[k2] := ⟨_, rfl⟩
              have HEQ : Hid (i = k2 → EntR.cells ek = EntR.cells ei) := Lib.hid (fun e => by rw [hei, hek]; subst e; rfl)
              have hsw := HSW.out
              rw [← hei] at ri hsw
              rw [← hek] at rk hsw
              clear HSW hei hek hR1 hR2 hR0 hRG hb5 hbd hb4 HCS HIE HKE
              obtain ⟨n1, c1, ⟨q1, A1, cp1⟩, ⟨q2, A2, cp2⟩, j1⟩ := ei
              obtain ⟨n3, c3, ⟨q3, A3, cp3⟩, ⟨q4, A4, cp4⟩, j3⟩ := ek
              have HSW := Lib.hid hsw
              have a0 : wd.cell? ⟨g, i * 5, none⟩ = some (.string n1) := ri 0 _ rfl
              have a1 : wd.cell? ⟨g, i * 5 + 1, none⟩ = some (.string c1) := ri 1 _ rfl
              have a2 : wd.cell? ⟨g, i * 5 + 2, none⟩ = some (.slice A1 q1.length cp1) := ri 2 _ rfl
              have a3 : wd.cell? ⟨g, i * 5 + 3, none⟩ = some (.slice A2 q2.length cp2) := ri 3 _ rfl
              have a4 : wd.cell? ⟨g, i * 5 + 4, none⟩ = some (.bool j1) := ri 4 _ rfl
              have b0 : wd.cell? ⟨g, k2 * 5, none⟩ = some (.string n3) := rk 0 _ rfl
              have b1 : wd.cell? ⟨g, k2 * 5 + 1, none⟩ = some (.string c3) := rk 1 _ rfl
              have b2 : wd.cell? ⟨g, k2 * 5 + 2, none⟩ = some (.slice A3 q3.length cp3) := rk 2 _ rfl
              have b3 : wd.cell? ⟨g, k2 * 5 + 3, none⟩ = some (.slice A4 q4.length cp4) := rk 3 _ rfl
              have b4 : wd.cell? ⟨g, k2 * 5 + 4, none⟩ = some (.bool j3) := rk 4 _ rfl
              have u0 : wd.frozen? ⟨g, i * 5, none⟩ = false := (ti 0 (by decide)).2
              have u1 : wd.frozen? ⟨g, i * 5 + 1, none⟩ = false := (ti 1 (by decide)).2
              have u2 : wd.frozen? ⟨g, i * 5 + 2, none⟩ = false := (ti 2 (by decide)).2
              have u3 : wd.frozen? ⟨g, i * 5 + 3, none⟩ = false := (ti 3 (by decide)).2
              have u4 : wd.frozen? ⟨g, i * 5 + 4, none⟩ = false := (ti 4 (by decide)).2
              have v0 : wd.frozen? ⟨g, k2 * 5, none⟩ = false := (tk 0 (by decide)).2
              have v1 : wd.frozen? ⟨g, k2 * 5 + 1, none⟩ = false := (tk 1 (by decide)).2
              have v2 : wd.frozen? ⟨g, k2 * 5 + 2, none⟩ = false := (tk 2 (by decide)).2
              have v3 : wd.frozen? ⟨g, k2 * 5 + 3, none⟩ = false := (tk 3 (by decide)).2
              have v4 : wd.frozen? ⟨g, k2 * 5 + 4, none⟩ = false := (tk 4 (by decide)).2
              clear ri rk ti tk hsw
              go_wp2_with fail
              by_cases hik : i = k2
              · subst hik
                go_region
                replace HSW := Lib.hid (HEQ.out rfl ▸ HSW.out)
                generalize hgen : (World.setCell _ _ (.bool j1)).drew = wz
                obtain ⟨W2, hW2⟩ : ∃ W2, W2 = (wd.setCells g (i * 5) (EntR.cells ⟨n1, c1, ⟨q1, A1, cp1⟩, ⟨q2, A2, cp2⟩, j1⟩)).setCells g (i * 5) (EntR.cells ⟨n1, c1, ⟨q1, A1, cp1⟩, ⟨q2, A2, cp2⟩, j1⟩) := ⟨_, rfl⟩
                have hz : W2.drew = wz := by rw [hW2]; exact hgen
                clear hgen
                subst hz
                have F1 : Hid (Blk W2.drew g1 29 _) := Lib.hid (by rw [hW2]; exact ((R1.out.setCells (Ne.symm hge) _ _).setCells (Ne.symm hge) _ _).drew)
                have F2 : Hid (Blk W2.drew g2 29 _) := Lib.hid (by rw [hW2]; exact ((R2.out.setCells (Ne.symm hge2) _ _).setCells (Ne.symm hge2) _ _).drew)
                have hgz : w.heap.size ≠ g := fun e => by have h1 := R0.out; have h2 := RG.out; exact h2.ne h1 (by decide) e.symm
                have F0 : Hid (Blk W2.drew w.heap.size 29 gcs) := Lib.hid (by rw [hW2]; exact ((R0.out.setCells hgz _ _).setCells hgz _ _).drew)
                have HRS : Hid (Rd W2.drew W2.drew.heap.size 5 (some ⟨g, 0, none⟩) (swapL el i i).length (cellsOf EntR.cells (swapL el i i))) := Lib.hid (by have := HSW.out; rw [← hW2] at this; exact this)
                have hb7 : Below w.heap.size w W2.drew := by rw [hW2]; exact (below_setCells hgb _ _ (below_setCells hgb _ _ hb6)).drew
                clear hW2 HSW R1 R2 R0 RG d20 a0 a1 a2 a3 a4 u0 u1 u2 u3 u4
                generalize W2.drew = W3 at *
                have HG3 : Hid (GIn W3 cl cA (swapL el i i) (some ⟨g, 0, none⟩)) := Lib.hid ⟨(H.out.step hb7).ch, HRS.out, fun x hx => (H.out.step hb7).ok x (HMEM.out x hx), (H.out.step hb7).wf⟩
                have hz1 : (gcs.setIfInBounds 20 (.slice (some ⟨b, o, none⟩) (el.length - 1) ec)).size = gcs.size := Array.size_setIfInBounds
                have hgi1 : (Try.prog.info? 29).map (·.size) = some (gcs.setIfInBounds 20 (.slice (some ⟨b, o, none⟩) (el.length - 1) ec)).size := by rw [hz1]; exact hgi
                have hz2' : (gcs.setIfInBounds 20 (.slice (some ⟨g, 0, none⟩) el.length cap)).size = gcs.size := Array.size_setIfInBounds
                have hgi2 : (Try.prog.info? 29).map (·.size) = some (gcs.setIfInBounds 20 (.slice (some ⟨g, 0, none⟩) el.length cap)).size := by rw [hz2']; exact hgi
                clear hz1 hz2'
                go_wp2_with ((refine wpList_load_blk 29 (.tmp 3) rfl (w.heap.size) rfl (by kernel_rfl) (F0).out Try.underlying29 hgi ?_))
                refine (KV.out _ (H.out.step hb7)).mono ?_
                rintro e w8 ⟨rfl, hb9⟩
                have hb8 := bel hb7 hb9
                replace F1 := Lib.hid (F1.out.step hb9)
                replace F2 := Lib.hid (F2.out.step hb9)
                replace HG3 := Lib.hid (HG3.out.step hb9)
                clear hb9 F0 hb7
                go_wp2_with (refine wpList_load_blk 29 (.tmp 11) rfl g1 rfl (by kernel_rfl) F1.out Try.underlying29 hgi1 ?_)
                refine (KL.out _ (H.out.step hb8)).mono ?_
                rintro e w9 ⟨rfl, hb9⟩
                have hb10 := bel hb8 hb9
                replace F2 := Lib.hid (F2.out.step hb9)
                replace HG3 := Lib.hid (HG3.out.step hb9)
                clear hb9 F1 hb8
                go_wp2_with (refine wpList_load_blk 29 (.tmp 12) rfl g2 rfl (by kernel_rfl) F2.out Try.underlying29 hgi2 ?_)
                refine (KW.out _ HG3.out).mono ?_
                rintro e w11 ⟨rfl, hb9⟩
                have hb12 := bel hb10 hb9
                go_wp2_with fail
                go_ret
                exact ⟨rfl, hb12⟩
              · go_region
                generalize hgen : (World.setCell _ _ (.bool j1)).drew = wz
                obtain ⟨W2, hW2⟩ : ∃ W2, W2 = (wd.setCells g (i * 5) (EntR.cells ⟨n3, c3, ⟨q3, A3, cp3⟩, ⟨q4, A4, cp4⟩, j3⟩)).setCells g (k2 * 5) (EntR.cells ⟨n1, c1, ⟨q1, A1, cp1⟩, ⟨q2, A2, cp2⟩, j1⟩) := ⟨_, rfl⟩
                have hz : W2.drew = wz := by rw [hW2]; exact hgen
                clear hgen
                subst hz
                have F1 : Hid (Blk W2.drew g1 29 _) := Lib.hid (by rw [hW2]; exact ((R1.out.setCells (Ne.symm hge) _ _).setCells (Ne.symm hge) _ _).drew)
                have F2 : Hid (Blk W2.drew g2 29 _) := Lib.hid (by rw [hW2]; exact ((R2.out.setCells (Ne.symm hge2) _ _).setCells (Ne.symm hge2) _ _).drew)
                have hgz : w.heap.size ≠ g := fun e => by have h1 := R0.out; have h2 := RG.out; exact h2.ne h1 (by decide) e.symm
                have F0 : Hid (Blk W2.drew w.heap.size 29 gcs) := Lib.hid (by rw [hW2]; exact ((R0.out.setCells hgz _ _).setCells hgz _ _).drew)
                have HRS : Hid (Rd W2.drew W2.drew.heap.size 5 (some ⟨g, 0, none⟩) (swapL el i k2).length (cellsOf EntR.cells (swapL el i k2))) := Lib.hid (by have := HSW.out; rw [← hW2] at this; exact this)
                have hb7 : Below w.heap.size w W2.drew := by rw [hW2]; exact (below_setCells hgb _ _ (below_setCells hgb _ _ hb6)).drew
                clear hW2 HSW R1 R2 R0 RG d20 a0 a1 a2 a3 a4 u0 u1 u2 u3 u4
                generalize W2.drew = W3 at *
                have HG3 : Hid (GIn W3 cl cA (swapL el i k2) (some ⟨g, 0, none⟩)) := Lib.hid ⟨(H.out.step hb7).ch, HRS.out, fun x hx => (H.out.step hb7).ok x (HMEM.out x hx), (H.out.step hb7).wf⟩
                have hz1 : (gcs.setIfInBounds 20 (.slice (some ⟨b, o, none⟩) (el.length - 1) ec)).size = gcs.size := Array.size_setIfInBounds
                have hgi1 : (Try.prog.info? 29).map (·.size) = some (gcs.setIfInBounds 20 (.slice (some ⟨b, o, none⟩) (el.length - 1) ec)).size := by rw [hz1]; exact hgi
                have hz2' : (gcs.setIfInBounds 20 (.slice (some ⟨g, 0, none⟩) el.length cap)).size = gcs.size := Array.size_setIfInBounds
                have hgi2 : (Try.prog.info? 29).map (·.size) = some (gcs.setIfInBounds 20 (.slice (some ⟨g, 0, none⟩) el.length cap)).size := by rw [hz2']; exact hgi
                clear hz1 hz2'
                go_wp2_with ((refine wpList_load_blk 29 (.tmp 3) rfl (w.heap.size) rfl (by kernel_rfl) (F0).out Try.underlying29 hgi ?_))
                refine (KV.out _ (H.out.step hb7)).mono ?_
                rintro e w8 ⟨rfl, hb9⟩
                have hb8 := bel hb7 hb9
                replace F1 := Lib.hid (F1.out.step hb9)
                replace F2 := Lib.hid (F2.out.step hb9)
                replace HG3 := Lib.hid (HG3.out.step hb9)
                clear hb9 F0 hb7
                go_wp2_with (refine wpList_load_blk 29 (.tmp 11) rfl g1 rfl (by kernel_rfl) F1.out Try.underlying29 hgi1 ?_)
                refine (KL.out _ (H.out.step hb8)).mono ?_
                rintro e w9 ⟨rfl, hb9⟩
                have hb10 := bel hb8 hb9
                replace F2 := Lib.hid (F2.out.step hb9)
                replace HG3 := Lib.hid (HG3.out.step hb9)
                clear hb9 F1 hb8
                go_wp2_with (refine wpList_load_blk 29 (.tmp 12) rfl g2 rfl (by kernel_rfl) F2.out Try.underlying29 hgi2 ?_)
                refine (KW.out _ HG3.out).mono ?_
                rintro e w11 ⟨rfl, hb9⟩
                have hb12 := bel hb10 hb9
                go_wp2_with fail
                go_ret
                exact ⟨rfl, hb12⟩
          · go_wp2_with (first
              | (refine wpList_load_blk 29 (.tmp 3) rfl (w.heap.size) rfl (by kernel_rfl) (HBr).out Try.underlying29 hgi ?_)
              | (go_at_call 14; refine (KV.out _ (H.out.step hbw)).mono ?_; rintro e w5 ⟨rfl, hb9⟩; replace hbw := bel hbw hb9; clear hb9))
            go_ret
            exact ⟨rfl, hbw⟩
end
end Go.Proofs.Ytnkmjdaeafeaaaa
