/- The walk of PostingUndone. -/
import Derived.Test.YthenamibehbdnaaTotLaws
import Derived.Test.YthenamibehbdnaaLibJ
import Derived.Deep.DeepCutAuto
namespace Go.Proofs.Ythenamibehbdnaa
set_option linter.unusedVariables false
set_option linter.unusedSimpArgs false
open Go.RowKit

theorem own_set {w : World} {base : Nat} {e : TypeId} {sz : Nat} {v : Value} {n : Nat} {xs : List Value} (h : w.ownsRow base e sz v n xs) {p : Addr} (hp : p.block < base) (u : Value) : (w.setCell p u).ownsRow base e sz v n xs :=
  ⟨h.1, h.2.imp id fun ⟨g, cap, cur, h1, h2, h3, h4⟩ => ⟨g, cap, cur, h1, h2, (Below.heap_setCell w p u g (by omega)).trans h3, h4⟩⟩
theorem Blk.set {w : World} {g i : Nat} {t : TypeId} {cs : Array Value} (h : Blk w g t cs) (v : Value) : Blk (w.setCell ⟨g, i, none⟩ v) g t (cs.setIfInBounds i v) := by
  exact Joins.block_setCell h v
theorem Rd.set {w : World} {base : Nat} {e : TypeId} {sz : Nat} {A : Option Addr} {c n : Nat} {xs : List Value} (h : w.ownsRow base e sz (.slice A n c) n xs) : Rd w w.heap.size sz A n xs := by
  obtain ⟨B, d, e, h⟩ := Rd.of_own h
  injection e with e1 _ _
  subst e1
  exact h
theorem own_cap {w : World} {base : Nat} {e : TypeId} {sz : Nat} {A : Option Addr} {c n : Nat} {xs : List Value} (h : w.ownsRow base e sz (.slice A n c) n xs) : n ≤ c ∧ c ≤ maxLen := by
  rcases h.2 with ⟨h1, h0⟩ | ⟨g, cap, cur, h1, hb, hg, hnc, hcm, _⟩
  · injection h1 with _ _ e3
    subst e3
    exact ⟨by omega, by simp [maxLen]⟩
  · injection h1 with _ _ e3
    subst e3
    exact ⟨hnc, hcm⟩
theorem within_neg {m : List Bal} (h : within 1125899906842624 m) : within 1125899906842624 (negL m) := by
  intro x hx
  unfold negL at hx
  obtain ⟨y, hy, rfl⟩ := List.mem_map.1 hx
  have := h y hy
  show _ ≤ wrap64 (-y.amount) ∧ wrap64 (-y.amount) ≤ _
  rw [wrap_in (by omega) (by omega)]
  omega
theorem ofV_neg {m : List Bal} (h : within 1125899906842624 m) (c : Int) : ofV m c + ofV (negL m) c = 0 := by
  induction m with
  | nil => rfl
  | cons x m ih =>
    have h1 := ih (fun y hy => h y (by simp [hy]))
    have h2 := h x (by simp)
    have e : negL (x :: m) = ⟨x.account, wrap64 (-x.amount)⟩ :: negL m := rfl
    unfold ofV at h1 ⊢
    rw [e, sm_cons, sm_cons, wrap_in (by omega) (by omega)]
    dsimp only
    split <;> omega
theorem allB_two (I : List ItemR) (P : List PostR) (p q : PostR) : allB I (P ++ [p, q]) = allB I P ++ (p.parts.l ++ q.parts.l) := by
  unfold allB poBals
  rw [List.flatMap_append, List.append_assoc]
  simp
theorem undone_of {l m : List Bal} (hl : within 1125899906842624 l) (hll : l.length ≤ 1200) (hm : within 1125899906842624 m) (hml : m.length ≤ 200) (c : Int) : ofW l c = ofW (l ++ (m ++ negL m)) c := by
  have hw := within_app hl (within_app hm (within_neg hm))
  have hn := negL_len m
  have hlen : (l ++ (m ++ negL m)).length ≤ 1600 := by rw [List.length_append, List.length_append]; omega
  rw [ofW_eq' l c hl (by omega) (by omega), ofW_eq' _ c hw (by omega) (by omega)]
  have := ofV_neg hm c
  unfold ofV at this ⊢
  rw [sm_app, sm_app]
  omega
def pOf (a1 a2 a3 a4 : Int) (m : List Bal) (A : Option Addr) (cap : Nat) : PostR := ⟨a1, a2, a3, a4, ⟨m, A, cap⟩⟩
set_option maxRecDepth 100000 in
set_option maxHeartbeats 8000000 in
theorem law_PostingUndone (per : Int) (I : List ItemR) (AI : Option Addr) (cI : Nat) (P : List PostR) (AP : Option Addr) (cP : Nat) (vT : Value) (a1 a2 a3 a4 : Int) (m : List Bal) (A : Option Addr) (cap : Nat) (w : World)
    (hI : Rd w w.heap.size 7 AI I.length (cellsOf ItemR.cells I)) (hP : Rd w w.heap.size 5 AP P.length (cellsOf PostR.cells P)) (hPP : ∀ p ∈ P, p.Ok w) (hII : ∀ p ∈ I, p.Ok w) (hnI : I.length ≤ maxLen) (hnP : P.length ≤ maxLen)
    (hp : (PostR.mk a1 a2 a3 a4 ⟨m, A, cap⟩).Ok w) :
    Calls Try.prog 6 #[.agg #[.int .i64 per, .slice AI I.length cI, .slice AP P.length cP, vT], .agg #[.int .i64 a1, .int .i64 a2, .int .i64 a3, .int .i64 a4, .slice A m.length cap]] w fun e w' => e = .returned (.bool true) ∧ Below w.heap.size w w' := by
  have hb0 := Below.refl w.heap.size w
  have hb : Below w.heap.size w ((w.alloc (.cells #[.int .i64 per, .slice AI I.length cI, .slice AP P.length cP, vT] 43)).alloc (.cells #[.int .i64 a1, .int .i64 a2, .int .i64 a3, .int .i64 a4, .slice A m.length cap] 45)) := by
    have hb := hb0
    exact (by repeat (first | exact hb | refine Below.alloc ?_ (by have hbs := hb.size; first | omega | (simp; done) | (simp; omega)) _ | refine Below.drew ?_ | refine below_drewN_ ?_ _ | refine Below.setCell ?_ (by simp) _))
  clear hb0
  have HB := Lib.hid ((Blk.new w 43 #[.int .i64 per, .slice AI I.length cI, .slice AP P.length cP, vT]).alloc (.cells #[.int .i64 a1, .int .i64 a2, .int .i64 a3, .int .i64 a4, .slice A m.length cap] 45))
  have HD0 := Blk.new (w.alloc (.cells #[.int .i64 per, .slice AI I.length cI, .slice AP P.length cP, vT] 43)) 45 #[.int .i64 a1, .int .i64 a2, .int .i64 a3, .int .i64 a4, .slice A m.length cap]
  have hsz1 : (w.alloc (.cells #[.int .i64 per, .slice AI I.length cI, .slice AP P.length cP, vT] 43)).heap.size = w.heap.size + 1 := by simp
  rw [hsz1] at HD0
  have HD := Lib.hid HD0
  clear HD0 hsz1
  have HI := Lib.hid hI
  have HP := Lib.hid hP
  have HPP := Lib.hid hPP
  have HPO := Lib.hid hp
  have hpar := hp.2.2.2.2
  dsimp only at hpar
  have HM := Lib.hid hpar.1.1
  have hml : m.length ≤ maxLen := Nat.le_trans hpar.1.2.1 hpar.1.2.2
  have HWM : Hid (∀ x ∈ m, Wf x.account) := Lib.hid fun x hx => (hpar.2 x hx).1
  have HWF : Hid (∀ x ∈ allB I P, Wf x.account) := Lib.hid (by
    intro x hx
    rcases List.mem_append.1 hx with hx | hx
    · obtain ⟨i, hi, rfl⟩ := List.mem_map.1 hx
      exact (hII i hi).2.2.1
    · obtain ⟨p, hp, hxp⟩ := List.mem_flatMap.1 hx
      exact ((hPP p hp).2.2.2.2.2 x hxp).1)
  clear hI hP hPP hII hp hpar
  obtain ⟨j0, hj, hy0, hy1, hy2⟩ := info_parts PostR.info
  go_enter Try.func6, Try.ntmps6
  go_wp2_with fail
  generalize hWW : (w.alloc (.cells #[.int .i64 per, .slice AI I.length cI, .slice AP P.length cP, vT] 43)).alloc (.cells #[.int .i64 a1, .int .i64 a2, .int .i64 a3, .int .i64 a4, .slice A m.length cap] 45) = W at *
  clear hWW
  refine (post_awake _).mono ?_
  rintro e w2 ⟨rfl, hb9⟩
  replace hb := bel hb hb9
  replace HB := Lib.hid (HB.out.step hb9)
  replace HD := Lib.hid (HD.out.step hb9)
  clear hb9
  have e0 : w2.cell? ⟨w.heap.size, 0, none⟩ = some (.int .i64 per) := HB.out.cell 0
  have e1 : w2.cell? ⟨w.heap.size, 1, none⟩ = some (.slice AI I.length cI) := HB.out.cell 1
  have e2 : w2.cell? ⟨w.heap.size, 2, none⟩ = some (.slice AP P.length cP) := HB.out.cell 2
  have e3 : w2.cell? ⟨w.heap.size, 3, none⟩ = some vT := HB.out.cell 3
  go_wp2_with fail
  refine (parts_any per I AI cI P AP cP vT _ (Rd.now HI.out hb) (Rd.now HP.out hb) (fun p hp => (HPP.out p hp).step hb) hnI hnP).mono ?_
  rintro e w3 ⟨b, rfl, hb9, hok⟩
  clear e0 e1 e2 e3
  replace hb := bel hb hb9
  replace HB := Lib.hid (HB.out.step hb9)
  replace HD := Lib.hid (HD.out.step hb9)
  clear hb9
  cases b
  · clear hok
    go_wp2_with fail
    go_ret
    exact ⟨rfl, hb⟩
  · have OK := Lib.hid (hok rfl)
    clear hok hnI hnP
    have hlI := OK.out.items
    have hlP := OK.out.postings
    have hlA : (allB I P).length ≤ 1000000 := by have := OK.out.len; omega
    have e4 : w3.cell? ⟨w.heap.size + 1, 4, none⟩ = some (.slice A m.length cap) := HD.out.cell 4
    cases hs : smallV m
    · go_wp2_with (go_at_call 15; refine (small_any m A cap _ (Rd.now HM.out hb) hml).mono ?_; rintro e w2 ⟨rfl, rfl⟩)
      go_ret
      exact ⟨rfl, hb⟩
    · have HS := Lib.hid (small_is hs)
      have hl := (small_is hs).2
      go_wp2_with (go_at_call 15; refine (small_any m A cap _ (Rd.now HM.out hb) hml).mono ?_; rintro e w2 ⟨rfl, rfl⟩)
      clear e4
      have q0 : ∀ d : Later w3, d.now.cell? ⟨w.heap.size + 1, 0, none⟩ = some (.int .i64 a1) := fun d => d.cell HD.out.lt (HD.out.cell 0)
      have q4 : ∀ d : Later w3, d.now.cell? ⟨w.heap.size + 1, 4, none⟩ = some (.slice A m.length cap) := fun d => d.cell HD.out.lt (HD.out.cell 4)
      go_upto_region 5 with fail
      go_cut [5] (fun s5 wx => ∃ (g : Nat) (B : Option Addr) (cB : Nat), s5 = .pointer (some ⟨g, 0, none⟩) ∧ Blk wx g 45 #[.int .i64 a1, .int .i64 0, .int .i64 0, .int .i64 0, .slice B (negL m).length cB] ∧ Rd wx wx.heap.size 2 B (negL m).length (cellsOf Bal.cells (negL m)) ∧ (negL m).length ≤ cB ∧ cB ≤ maxLen ∧ Below w3.heap.size w3 wx)
      case first =>
        refine rel_begin (n := 8) (w3) (by kernel_rfl) rfl ?_; have hC := Near.drew (w3)
        (first | (refine rel_want (i := 0) rfl rfl (by kernel_rfl) (by kernel_rfl) (by kernel_rfl) rfl (fun _ _ _ _ h => h) hC ?_; intro K hK; go_big_quiet_op; go_big_quiet_on) | (refine rel_skip (i := 0) rfl (by kernel_rfl) (by kernel_rfl) (by kernel_rfl) rfl (fun _ _ _ _ h => h) hC ?_; simp only [Act.put, List.setIfInBounds_toArray, List.set_cons_zero, List.set_cons_succ])); (first | (refine rel_want (i := 1) rfl rfl (by kernel_rfl) (by kernel_rfl) (by kernel_rfl) rfl (fun _ _ _ _ h => h) hC ?_; intro K hK; go_big_quiet_op; go_big_quiet_on) | (refine rel_skip (i := 1) rfl (by kernel_rfl) (by kernel_rfl) (by kernel_rfl) rfl (fun _ _ _ _ h => h) hC ?_; simp only [Act.put, List.setIfInBounds_toArray, List.set_cons_zero, List.set_cons_succ])); (first | (refine rel_want (i := 2) rfl rfl (by kernel_rfl) (by kernel_rfl) (by kernel_rfl) rfl (fun _ _ _ _ h => h) hC ?_; intro K hK; go_big_quiet_op; go_big_quiet_on) | (refine rel_skip (i := 2) rfl (by kernel_rfl) (by kernel_rfl) (by kernel_rfl) rfl (fun _ _ _ _ h => h) hC ?_; simp only [Act.put, List.setIfInBounds_toArray, List.set_cons_zero, List.set_cons_succ])); (first | (refine rel_want (i := 3) rfl rfl (by kernel_rfl) (by kernel_rfl) (by kernel_rfl) rfl (fun _ _ _ _ h => h) hC ?_; intro K hK; go_big_quiet_op; go_big_quiet_on) | (refine rel_skip (i := 3) rfl (by kernel_rfl) (by kernel_rfl) (by kernel_rfl) rfl (fun _ _ _ _ h => h) hC ?_; simp only [Act.put, List.setIfInBounds_toArray, List.set_cons_zero, List.set_cons_succ]))
        refine rel_calls (is := [4, 6]) (by kernel_rfl) (by simp) ?_
        intro j hj
        simp only [List.mem_cons, List.not_mem_nil, or_false] at hj
        rcases hj with rfl | rfl
        · refine ⟨_, rfl, rfl, ?_⟩
          intro K hK
          go_simp
          go_at_call 22
          refine (neg_any m A cap _ (Rd.now HM.out (bel hb hC.below)) (by omega)).mono ?_
          rintro e w5 ⟨v5, rfl, ho5, hb5⟩
          obtain ⟨B, cB, rfl, hrx⟩ := Rd.of_own ho5
          have H5 := Lib.hid hrx
          clear hrx
          have hcp := own_cap ho5
          (try go_wp2_with fail)
          replace hC := hC.on hb5
          refine hK _ _ hC (fun _ => ?_)
          clear hK K
          (try simp only [Act.put, List.setIfInBounds_toArray, List.set_cons_zero, List.set_cons_succ])
          (first | (refine rel_want (i := 5) rfl rfl (by kernel_rfl) (by kernel_rfl) (by kernel_rfl) rfl (fun _ _ _ _ h => h) hC ?_; intro K hK; go_big_quiet_op; go_big_quiet_on) | (refine rel_skip (i := 5) rfl (by kernel_rfl) (by kernel_rfl) (by kernel_rfl) rfl (fun _ _ _ _ h => h) hC ?_; simp only [Act.put, List.setIfInBounds_toArray, List.set_cons_zero, List.set_cons_succ]))
          have hC5 := hC.below
          refine rel_call (i := 6) (by kernel_rfl) rfl rfl ?_; intro K hK; go_simp; have hC2 := hC.below; refine hK _ _ (Near.of (by repeat (first | exact hC2 | refine Below.alloc ?_ (by have hbs := hC2.size; first | omega | (simp; done) | (simp at hbs ⊢; omega)) _ | refine Below.drew ?_ | refine below_drewN_ ?_ _))) ?_; clear hK K hC hC2; intro hC; (try simp only [Act.put, List.setIfInBounds_toArray, List.set_cons_zero, List.set_cons_succ])
          refine rel_call (i := 7) (by kernel_rfl) rfl rfl ?_
          intro K hK
          go_simp
          refine hK _ _ (Near.of (hC5.alloc hC5.size _)) (fun _ => ?_)
          clear hK K
          (try simp only [Act.put, List.setIfInBounds_toArray, List.set_cons_zero, List.set_cons_succ])
          refine wpAnyH_done (by kernel_rfl) ?_ _
          go_wp2_with fail
          go_meet
          exact ⟨w5.heap.size, B, cB, rfl, Blk.new w5 _ _, (H5.out.alloc (Nat.le_refl _) _).more (by simp), hcp.1, hcp.2, hC5.alloc hC5.size _⟩
        · refine ⟨_, rfl, rfl, ?_⟩
          intro K hK
          go_simp
          have hC4 : Below w3.heap.size w3 (w3.alloc (.cells #[.int .i64 0, .int .i64 0, .int .i64 0, .int .i64 0, .slice none 0 0] 45)).drew := ((Below.refl _ _).alloc (Nat.le_refl _) _).drew
          have hX := (Blk.new w3 45 #[.int .i64 0, .int .i64 0, .int .i64 0, .int .i64 0, .slice none 0 0]).drew
          refine hK _ _ (Near.of hC4) (fun hC => ?_)
          clear hK K
          generalize (w3.alloc (.cells #[.int .i64 0, .int .i64 0, .int .i64 0, .int .i64 0, .slice none 0 0] 45)).drew = w4 at *
          (try simp only [Act.put, List.setIfInBounds_toArray, List.set_cons_zero, List.set_cons_succ])
          refine rel_call (i := 4) (by kernel_rfl) rfl rfl ?_
          intro K hK
          go_simp
          go_at_call 22
          refine (neg_any m A cap _ (Rd.now HM.out (bel hb hC.below)) (by omega)).mono ?_
          rintro e w5 ⟨v5, rfl, ho5, hb5⟩
          obtain ⟨B, cB, rfl, -⟩ := Rd.of_own ho5
          have hcp := own_cap ho5
          (try go_wp2_with fail)
          replace hC := hC.on hb5
          have hlt4 := hX.lt
          replace hX := hX.step hb5
          refine hK _ _ hC (fun _ => ?_)
          clear hK K
          (try simp only [Act.put, List.setIfInBounds_toArray, List.set_cons_zero, List.set_cons_succ])
          (first | (refine rel_want (i := 5) rfl rfl (by kernel_rfl) (by kernel_rfl) (by kernel_rfl) rfl (fun _ _ _ _ h => h) hC ?_; intro K hK; go_big_quiet_op; go_big_quiet_on) | (refine rel_skip (i := 5) rfl (by kernel_rfl) (by kernel_rfl) (by kernel_rfl) rfl (fun _ _ _ _ h => h) hC ?_; simp only [Act.put, List.setIfInBounds_toArray, List.set_cons_zero, List.set_cons_succ]))
          refine rel_call (i := 7) (by kernel_rfl) rfl rfl ?_
          intro K hK
          have g0 : w5.cell? ⟨w3.heap.size, 0, none⟩ = some (.int .i64 0) := hX.cell 0
          have g1 : w5.cell? ⟨w3.heap.size, 1, none⟩ = some (.int .i64 0) := hX.cell 1
          have g2 : w5.cell? ⟨w3.heap.size, 2, none⟩ = some (.int .i64 0) := hX.cell 2
          have g3 : w5.cell? ⟨w3.heap.size, 3, none⟩ = some (.int .i64 0) := hX.cell 3
          have g4 : w5.cell? ⟨w3.heap.size, 4, none⟩ = some (.slice none 0 0) := hX.cell 4
          have h0 : w5.frozen? ⟨w3.heap.size, 0, none⟩ = false := hX.frozen 0
          have h1 : w5.frozen? ⟨w3.heap.size, 1, none⟩ = false := hX.frozen 1
          have h2 : w5.frozen? ⟨w3.heap.size, 2, none⟩ = false := hX.frozen 2
          have h3 : w5.frozen? ⟨w3.heap.size, 3, none⟩ = false := hX.frozen 3
          have h4 : w5.frozen? ⟨w3.heap.size, 4, none⟩ = false := hX.frozen 4
          go_simp
          have hZ : Below w3.heap.size w3 (((((w5.setCell ⟨w3.heap.size, 0, none⟩ (.int .i64 a1)).setCell ⟨w3.heap.size, 1, none⟩ (.int .i64 0)).setCell ⟨w3.heap.size, 2, none⟩ (.int .i64 0)).setCell ⟨w3.heap.size, 3, none⟩ (.int .i64 0)).setCell ⟨w3.heap.size, 4, none⟩ (.slice B (negL m).length cB)) :=
            ((((hC.below.setCell (by simp) _).setCell (by simp) _).setCell (by simp) _).setCell (by simp) _).setCell (by simp) _
          have hY := ((((hX.set (i := 0) (.int .i64 a1)).set (i := 1) (.int .i64 0)).set (i := 2) (.int .i64 0)).set (i := 3) (.int .i64 0)).set (i := 4) (.slice B (negL m).length cB)
          have hO := Rd.set (own_set (own_set (own_set (own_set (own_set ho5 (p := ⟨w3.heap.size, 0, none⟩) hlt4 (.int .i64 a1)) (p := ⟨w3.heap.size, 1, none⟩) hlt4 (.int .i64 0)) (p := ⟨w3.heap.size, 2, none⟩) hlt4 (.int .i64 0)) (p := ⟨w3.heap.size, 3, none⟩) hlt4 (.int .i64 0)) (p := ⟨w3.heap.size, 4, none⟩) hlt4 (.slice B (negL m).length cB))
          refine hK _ _ (Near.of hZ) (fun _ => ?_)
          clear hK K g0 g1 g2 g3 g4 h0 h1 h2 h3 h4
          generalize (((((w5.setCell ⟨w3.heap.size, 0, none⟩ (.int .i64 a1)).setCell ⟨w3.heap.size, 1, none⟩ (.int .i64 0)).setCell ⟨w3.heap.size, 2, none⟩ (.int .i64 0)).setCell ⟨w3.heap.size, 3, none⟩ (.int .i64 0)).setCell ⟨w3.heap.size, 4, none⟩ (.slice B (negL m).length cB)) = w6 at *
          (try simp only [Act.put, List.setIfInBounds_toArray, List.set_cons_zero, List.set_cons_succ])
          refine wpAnyH_done (by kernel_rfl) ?_ _
          go_wp2_with fail
          go_meet
          exact ⟨w3.heap.size, B, cB, rfl, hY, hO, hcp.1, hcp.2, hZ⟩
      case rest =>
        obtain ⟨g, B, cB, rfl, hQ, hB5, hcp1, hcp2, hb9⟩ := hcut
        replace hb := bel hb hb9
        replace HB := Lib.hid (HB.out.step hb9)
        replace HD := Lib.hid (HD.out.step hb9)
        have HQ := Lib.hid hQ
        have H5 := Lib.hid hB5
        clear hb9 hQ hB5 q0 q4
        have e1 : wc.cell? ⟨w.heap.size, 1, none⟩ = some (.slice AI I.length cI) := HB.out.cell 1
        have e2 : wc.cell? ⟨w.heap.size, 2, none⟩ = some (.slice AP P.length cP) := HB.out.cell 2
        go_wp2_with fail
        refine (total_any I AI cI P AP cP _ (Rd.now HI.out hb) (Rd.now HP.out hb) (fun p hp => (HPP.out p hp).step hb) HWF.out hlA (by omega) (by omega)).mono ?_
        rintro e w6 ⟨v4, L, E, rfl, ho4, hb9, hc4⟩
        replace hb := bel hb hb9
        replace HB := Lib.hid (HB.out.step hb9)
        replace HD := Lib.hid (HD.out.step hb9)
        replace HQ := Lib.hid (HQ.out.step hb9)
        replace H5 := Lib.hid (Rd.now (H5).out hb9)
        clear hb9 e1 e2
        have HC : Hid (ColAlt (ofW (allB I P)) L E) := Lib.hid hc4
        have hL : L.length ≤ 1000000 := by have := col_len HC.out rfl; omega
        clear hc4
        obtain ⟨A4, c4, rfl, hrx⟩ := Rd.of_own ho4
        have H4 := Lib.hid hrx
        clear hrx ho4
        have HUN := Lib.hid (undone_of OK.out.within OK.out.len HS.out.1 HS.out.2)
        have HNL := Lib.hid (negL_len m)
        have HLL : Hid ((allB I (P ++ [pOf a1 a2 a3 a4 m A cap, pOf a1 0 0 0 (negL m) B cB])).length ≤ 1000000) := Lib.hid (by
          have h1 := OK.out.len
          have h2 := HNL.out
          rw [allB_two, List.length_append, List.length_append]
          show _ + (m.length + (negL m).length) ≤ _
          omega)
        have HWA : Hid (∀ x ∈ allB I (P ++ [pOf a1 a2 a3 a4 m A cap, pOf a1 0 0 0 (negL m) B cB]), Wf x.account) := Lib.hid (by
          intro x hx
          rw [allB_two] at hx
          rcases List.mem_append.1 hx with hx | hx
          · exact HWF.out x hx
          · rcases List.mem_append.1 hx with hx | hx
            · exact HWM.out x hx
            · obtain ⟨y, hy, rfl⟩ := List.mem_map.1 (show x ∈ m.map _ from hx)
              exact HWM.out y hy)
        have HALL : Hid (∀ p ∈ P ++ [pOf a1 a2 a3 a4 m A cap, pOf a1 0 0 0 (negL m) B cB], p.Ok w6) := Lib.hid (by
          intro p hp
          rcases List.mem_append.1 hp with hp | hp
          · exact (HPP.out p hp).step hb
          · simp only [List.mem_cons, List.not_mem_nil, or_false] at hp
            rcases hp with rfl | rfl
            · exact HPO.out.step hb
            · refine ⟨HPO.out.1, rfl, rfl, rfl, ⟨H5.out, hcp1, hcp2⟩, fun y hy => ?_⟩
              obtain ⟨z, hz, rfl⟩ := List.mem_map.1 (show y ∈ m.map _ from hy)
              exact ⟨HWM.out z hz, wrap64_wf _⟩)
        go_upto_region 7 with fail
        go_cut [8, 9] (fun s8 s9 wx => ∃ (v : Value) (L2 : List Bal) (E2 : Int), s8 = v ∧ s9 = .int .i64 E2 ∧ wx.ownsRow w6.heap.size 35 2 v L2.length (cellsOf Bal.cells L2) ∧ ColAlt (ofW (allB I (P ++ [pOf a1 a2 a3 a4 m A cap, pOf a1 0 0 0 (negL m) B cB]))) L2 E2 ∧ Below w6.heap.size w6 wx)
        case first =>
          have p1 : ∀ d : Later w6, d.now.cell? ⟨w.heap.size, 1, none⟩ = some (.slice AI I.length cI) := fun d => d.cell HB.out.lt (HB.out.cell 1)
          have p2 : ∀ d : Later w6, d.now.cell? ⟨w.heap.size, 2, none⟩ = some (.slice AP P.length cP) := fun d => d.cell HB.out.lt (HB.out.cell 2)
          have q0 : ∀ d : Later w6, d.now.cell? ⟨w.heap.size + 1, 0, none⟩ = some (.int .i64 a1) := fun d => d.cell HD.out.lt (HD.out.cell 0)
          have q1 : ∀ d : Later w6, d.now.cell? ⟨w.heap.size + 1, 1, none⟩ = some (.int .i64 a2) := fun d => d.cell HD.out.lt (HD.out.cell 1)
          have q2 : ∀ d : Later w6, d.now.cell? ⟨w.heap.size + 1, 2, none⟩ = some (.int .i64 a3) := fun d => d.cell HD.out.lt (HD.out.cell 2)
          have q3 : ∀ d : Later w6, d.now.cell? ⟨w.heap.size + 1, 3, none⟩ = some (.int .i64 a4) := fun d => d.cell HD.out.lt (HD.out.cell 3)
          have q4 : ∀ d : Later w6, d.now.cell? ⟨w.heap.size + 1, 4, none⟩ = some (.slice A m.length cap) := fun d => d.cell HD.out.lt (HD.out.cell 4)
          have r0 : ∀ d : Later w6, d.now.cell? ⟨g, 0, none⟩ = some (.int .i64 a1) := fun d => d.cell HQ.out.lt (HQ.out.cell 0)
          have r1 : ∀ d : Later w6, d.now.cell? ⟨g, 1, none⟩ = some (.int .i64 0) := fun d => d.cell HQ.out.lt (HQ.out.cell 1)
          have r2 : ∀ d : Later w6, d.now.cell? ⟨g, 2, none⟩ = some (.int .i64 0) := fun d => d.cell HQ.out.lt (HQ.out.cell 2)
          have r3 : ∀ d : Later w6, d.now.cell? ⟨g, 3, none⟩ = some (.int .i64 0) := fun d => d.cell HQ.out.lt (HQ.out.cell 3)
          have r4 : ∀ d : Later w6, d.now.cell? ⟨g, 4, none⟩ = some (.slice B (negL m).length cB) := fun d => d.cell HQ.out.lt (HQ.out.cell 4)
          refine rel_begin (n := 16) (w6) (by kernel_rfl) rfl ?_; have hC := Near.drew (w6)
          (first | (refine rel_want (i := 0) rfl rfl (by kernel_rfl) (by kernel_rfl) (by kernel_rfl) rfl (fun _ _ _ _ h => h) hC ?_; intro K hK; go_big_quiet_op; go_big_quiet_on) | (refine rel_skip (i := 0) rfl (by kernel_rfl) (by kernel_rfl) (by kernel_rfl) rfl (fun _ _ _ _ h => h) hC ?_; simp only [Act.put, List.setIfInBounds_toArray, List.set_cons_zero, List.set_cons_succ])); (first | (refine rel_want (i := 1) rfl rfl (by kernel_rfl) (by kernel_rfl) (by kernel_rfl) rfl (fun _ _ _ _ h => h) hC ?_; intro K hK; go_big_quiet_op; go_big_quiet_on) | (refine rel_skip (i := 1) rfl (by kernel_rfl) (by kernel_rfl) (by kernel_rfl) rfl (fun _ _ _ _ h => h) hC ?_; simp only [Act.put, List.setIfInBounds_toArray, List.set_cons_zero, List.set_cons_succ])); (first | (refine rel_want (i := 3) rfl rfl (by kernel_rfl) (by kernel_rfl) (by kernel_rfl) rfl (fun _ _ _ _ h => h) hC ?_; intro K hK; go_big_quiet_op; go_big_quiet_on) | (refine rel_skip (i := 3) rfl (by kernel_rfl) (by kernel_rfl) (by kernel_rfl) rfl (fun _ _ _ _ h => h) hC ?_; simp only [Act.put, List.setIfInBounds_toArray, List.set_cons_zero, List.set_cons_succ])); (first | (refine rel_want (i := 4) rfl rfl (by kernel_rfl) (by kernel_rfl) (by kernel_rfl) rfl (fun _ _ _ _ h => h) hC ?_; intro K hK; go_big_quiet_op; go_big_quiet_on) | (refine rel_skip (i := 4) rfl (by kernel_rfl) (by kernel_rfl) (by kernel_rfl) rfl (fun _ _ _ _ h => h) hC ?_; simp only [Act.put, List.setIfInBounds_toArray, List.set_cons_zero, List.set_cons_succ])); (first | (refine rel_want (i := 6) rfl rfl (by kernel_rfl) (by kernel_rfl) (by kernel_rfl) rfl (fun _ _ _ _ h => h) hC ?_; intro K hK; go_big_quiet_op; go_big_quiet_on) | (refine rel_skip (i := 6) rfl (by kernel_rfl) (by kernel_rfl) (by kernel_rfl) rfl (fun _ _ _ _ h => h) hC ?_; simp only [Act.put, List.setIfInBounds_toArray, List.set_cons_zero, List.set_cons_succ])); (first | (refine rel_want (i := 7) rfl rfl (by kernel_rfl) (by kernel_rfl) (by kernel_rfl) rfl (fun _ _ _ _ h => h) hC ?_; intro K hK; go_big_quiet_op; go_big_quiet_on) | (refine rel_skip (i := 7) rfl (by kernel_rfl) (by kernel_rfl) (by kernel_rfl) rfl (fun _ _ _ _ h => h) hC ?_; simp only [Act.put, List.setIfInBounds_toArray, List.set_cons_zero, List.set_cons_succ]))
          obtain ⟨wx, hwx⟩ : ∃ wx, wx = w6.drew := ⟨_, rfl⟩
          rw [← hwx] at hC ⊢
          clear hwx
          refine rel_calls (is := [2, 8]) (by kernel_rfl) (by simp) ?_
          intro j hj
          simp only [List.mem_cons, List.not_mem_nil, or_false] at hj
          rcases hj with rfl | rfl
          · refine ⟨_, rfl, rfl, ?_⟩
            intro K hK
            go_simp
            have ho2 := own_empty wx 45 w6.heap.size 5 0 hC.below.size #[] rfl (by decide)
            have hs2 := Below.alloc (Below.refl wx.heap.size wx) (Nat.le_refl _) (.cells #[] 45)
            have hC2 := hC.below.alloc hC.below.size (.cells #[] 45)
            have hlt2 : wx.heap.size < (wx.alloc (.cells #[] 45)).heap.size := by simp
            refine hK _ _ (Near.of hC2) (fun _ => ?_)
            clear hK K hC
            generalize wx.alloc (.cells #[] 45) = wy at *
            have hC := Near.of hC2
            clear hC2
            (try simp only [Act.put, List.setIfInBounds_toArray, List.set_cons_zero, List.set_cons_succ])
            refine rel_calls (is := [5, 8]) (by kernel_rfl) (by simp) ?_
            intro j hj
            simp only [List.mem_cons, List.not_mem_nil, or_false] at hj
            rcases hj with rfl | rfl
            · refine ⟨_, rfl, rfl, ?_⟩
              intro K hK
              refine wp_append_any _ (.tmp 38) (.tmp 40) 41 rfl w6.heap.size 45 j0 _ 5 56 Try.underlying41 hj hy0 hy1 hy2 rfl (by decide) _ 0 [] rfl ho2 _ AP P.length cP _ rfl (Rd.now HP.out (bel hb hC.below)) (cells_one PostR.one P) ?c3 ?c4 ?c5 ?_
              case c3 => simp only [maxLen]; omega
              case c4 => omega
              case c5 => exact hC.below.size
              intro v9 w9 ho9 hg9
              have hC9 := bel_own hC.below hC.below.size ho2 hg9
              refine hK _ _ (Near.of hC9) (fun _ => ?_)
              clear hK K hC
              have hC := Near.of hC9
              clear hC9
              replace ho9 : w9.ownsRow w6.heap.size 45 5 v9 P.length (cellsOf PostR.cells P) := by simpa using ho9
              (try simp only [Act.put, List.setIfInBounds_toArray, List.set_cons_zero, List.set_cons_succ])
              refine rel_call (i := 8) (by kernel_rfl) rfl rfl ?_
              intro K hK
              go_simp
              have hB8 := Blk.new w9 45 #[.int .i64 a1, .int .i64 a2, .int .i64 a3, .int .i64 a4, .slice A m.length cap, .int .i64 a1, .int .i64 0, .int .i64 0, .int .i64 0, .slice B (negL m).length cB]
              have hs8 := Below.alloc (Below.refl w9.heap.size w9) (Nat.le_refl _) (.cells #[.int .i64 a1, .int .i64 a2, .int .i64 a3, .int .i64 a4, .slice A m.length cap, .int .i64 a1, .int .i64 0, .int .i64 0, .int .i64 0, .slice B (negL m).length cB] 45)
              have hC2 := hC.below.alloc hC.below.size (.cells #[.int .i64 a1, .int .i64 a2, .int .i64 a3, .int .i64 a4, .slice A m.length cap, .int .i64 a1, .int .i64 0, .int .i64 0, .int .i64 0, .slice B (negL m).length cB] 45)
              refine hK _ _ (Near.of hC2) (fun _ => ?_)
              clear hK K hC
              generalize hgen : w9.alloc (.cells #[.int .i64 a1, .int .i64 a2, .int .i64 a3, .int .i64 a4, .slice A m.length cap, .int .i64 a1, .int .i64 0, .int .i64 0, .int .i64 0, .slice B (negL m).length cB] 45) = w10 at *
              clear hgen
              have hC := Near.of hC2
              clear hC2
              (try simp only [Act.put, List.setIfInBounds_toArray, List.set_cons_zero, List.set_cons_succ])
              replace ho9 : w10.ownsRow w6.heap.size 45 5 v9 P.length (cellsOf PostR.cells P) := ho9.kept (grown_below hs8 none) (Classical.em _)
              generalize w9.heap.size = g8 at *
              refine rel_call (i := 9) (by kernel_rfl) rfl rfl ?_
              intro K hK
              have hR8 : Rd w10 w10.heap.size 5 (some ⟨g8, 0, none⟩) 2 (cellsOf PostR.cells [pOf a1 a2 a3 a4 m A cap, pOf a1 0 0 0 (negL m) B cB]) := Rd.of_blk hB8 rfl rfl
              refine wp_append_any _ (.tmp 41) (.tmp 44) 41 rfl w6.heap.size 45 j0 _ 5 56 Try.underlying41 hj hy0 hy1 hy2 rfl (by decide) _ P.length _ rfl ho9 _ _ 2 _ _ rfl hR8 (cells_one PostR.one _) ?c3 ?c4 ?c5 ?_
              case c3 => simp only [maxLen]; omega
              case c4 => omega
              case c5 => exact hC.below.size
              intro v11 w11 ho11 hg11
              have hC11 := bel_own hC.below hC.below.size ho9 hg11
              refine hK _ _ (Near.of hC11) (fun _ => ?_)
              clear hK K hC
              have hC := Near.of hC11
              replace ho11 : w11.ownsRow w6.heap.size 45 5 v11 (P ++ [pOf a1 a2 a3 a4 m A cap, pOf a1 0 0 0 (negL m) B cB]).length (cellsOf PostR.cells (P ++ [pOf a1 a2 a3 a4 m A cap, pOf a1 0 0 0 (negL m) B cB])) := by
                rw [List.length_append, cellsOf_app]; exact ho11
              obtain ⟨PP, hPP⟩ : ∃ PP, PP = P ++ [pOf a1 a2 a3 a4 m A cap, pOf a1 0 0 0 (negL m) B cB] := ⟨_, rfl⟩
              rw [← hPP] at ho11
              have HPPe := Lib.hid hPP
              clear hPP
              obtain ⟨A11, c11, rfl, hrx⟩ := Rd.of_own ho11
              have H11 := Lib.hid hrx
              clear hrx ho11
              (try simp only [Act.put, List.setIfInBounds_toArray, List.set_cons_zero, List.set_cons_succ])
              have hbl := bel hb hC.below
              have hlen := HPPe.out ▸ HLL.out
              have hlP2 : PP.length ≤ 1000000 := by rw [HPPe.out, List.length_append]; simp; omega
              have HOK11 := Lib.hid (fun p (hp : p ∈ PP) => (HALL.out p (HPPe.out ▸ hp)).step hC.below)
              have HW11 := Lib.hid (fun x (hx : x ∈ allB I PP) => HWA.out x (HPPe.out ▸ hx))
              refine rel_call (i := 10) (by kernel_rfl) rfl rfl ?_; intro K hK; go_simp; go_at_call 25; refine (total_any I AI cI PP A11 c11 _ (Rd.now HI.out hbl) H11.out HOK11.out HW11.out hlen (by omega) hlP2).mono ?_; rintro e w2 ⟨v12, L2, E2, rfl, ho12, hb2, hc12⟩; (try go_wp2_with fail); replace hC := hC.on hb2; refine hK _ _ hC (fun _ => ?_); clear hK K; (try simp only [Act.put, List.setIfInBounds_toArray, List.set_cons_zero, List.set_cons_succ])
              (first | (refine rel_want (i := 11) rfl rfl (by kernel_rfl) (by kernel_rfl) (by kernel_rfl) rfl (fun _ _ _ _ h => h) hC ?_; intro K hK; go_big_quiet_op; go_big_quiet_on) | (refine rel_skip (i := 11) rfl (by kernel_rfl) (by kernel_rfl) (by kernel_rfl) rfl (fun _ _ _ _ h => h) hC ?_; simp only [Act.put, List.setIfInBounds_toArray, List.set_cons_zero, List.set_cons_succ])); (first | (refine rel_want (i := 12) rfl rfl (by kernel_rfl) (by kernel_rfl) (by kernel_rfl) rfl (fun _ _ _ _ h => h) hC ?_; intro K hK; go_big_quiet_op; go_big_quiet_on) | (refine rel_skip (i := 12) rfl (by kernel_rfl) (by kernel_rfl) (by kernel_rfl) rfl (fun _ _ _ _ h => h) hC ?_; simp only [Act.put, List.setIfInBounds_toArray, List.set_cons_zero, List.set_cons_succ])); (first | (refine rel_want (i := 13) rfl rfl (by kernel_rfl) (by kernel_rfl) (by kernel_rfl) rfl (fun _ _ _ _ h => h) hC ?_; intro K hK; go_big_quiet_op; go_big_quiet_on) | (refine rel_skip (i := 13) rfl (by kernel_rfl) (by kernel_rfl) (by kernel_rfl) rfl (fun _ _ _ _ h => h) hC ?_; simp only [Act.put, List.setIfInBounds_toArray, List.set_cons_zero, List.set_cons_succ])); (first | (refine rel_want (i := 14) rfl rfl (by kernel_rfl) (by kernel_rfl) (by kernel_rfl) rfl (fun _ _ _ _ h => h) hC ?_; intro K hK; go_big_quiet_op; go_big_quiet_on) | (refine rel_skip (i := 14) rfl (by kernel_rfl) (by kernel_rfl) (by kernel_rfl) rfl (fun _ _ _ _ h => h) hC ?_; simp only [Act.put, List.setIfInBounds_toArray, List.set_cons_zero, List.set_cons_succ])); (first | (refine rel_want (i := 15) rfl rfl (by kernel_rfl) (by kernel_rfl) (by kernel_rfl) rfl (fun _ _ _ _ h => h) hC ?_; intro K hK; go_big_quiet_op; go_big_quiet_on) | (refine rel_skip (i := 15) rfl (by kernel_rfl) (by kernel_rfl) (by kernel_rfl) rfl (fun _ _ _ _ h => h) hC ?_; simp only [Act.put, List.setIfInBounds_toArray, List.set_cons_zero, List.set_cons_succ]))
              refine wpAnyH_done (by kernel_rfl) ?_ _
              go_wp2_with fail
              go_meet
              exact ⟨v12, L2, E2, rfl, rfl, own_base ho12 (by have := hC11.size; omega), HPPe.out ▸ hc12, hC.below⟩
            · refine ⟨_, rfl, rfl, ?_⟩
              intro K hK
              go_simp
              have hB8 := Blk.new wy 45 #[.int .i64 a1, .int .i64 a2, .int .i64 a3, .int .i64 a4, .slice A m.length cap, .int .i64 a1, .int .i64 0, .int .i64 0, .int .i64 0, .slice B (negL m).length cB]
              have hs8 := Below.alloc (Below.refl wy.heap.size wy) (Nat.le_refl _) (.cells #[.int .i64 a1, .int .i64 a2, .int .i64 a3, .int .i64 a4, .slice A m.length cap, .int .i64 a1, .int .i64 0, .int .i64 0, .int .i64 0, .slice B (negL m).length cB] 45)
              have hC2 := hC.below.alloc hC.below.size (.cells #[.int .i64 a1, .int .i64 a2, .int .i64 a3, .int .i64 a4, .slice A m.length cap, .int .i64 a1, .int .i64 0, .int .i64 0, .int .i64 0, .slice B (negL m).length cB] 45)
              refine hK _ _ (Near.of hC2) (fun _ => ?_)
              clear hK K hC
              generalize hgen : wy.alloc (.cells #[.int .i64 a1, .int .i64 a2, .int .i64 a3, .int .i64 a4, .slice A m.length cap, .int .i64 a1, .int .i64 0, .int .i64 0, .int .i64 0, .slice B (negL m).length cB] 45) = wz at *
              clear hgen
              have hC := Near.of hC2
              clear hC2
              (try simp only [Act.put, List.setIfInBounds_toArray, List.set_cons_zero, List.set_cons_succ])
              replace ho2 : wz.ownsRow w6.heap.size 45 5 (.slice (some ⟨wx.heap.size, 0, none⟩) 0 0) 0 [] := ho2.kept (grown_below hs8 none) (Classical.em _)
              refine rel_call (i := 5) (by kernel_rfl) rfl rfl ?_
              intro K hK
              refine wp_append_any _ (.tmp 38) (.tmp 40) 41 rfl w6.heap.size 45 j0 _ 5 56 Try.underlying41 hj hy0 hy1 hy2 rfl (by decide) _ 0 [] rfl ho2 _ AP P.length cP _ rfl (Rd.now HP.out (bel hb hC.below)) (cells_one PostR.one P) ?c3 ?c4 ?c5 ?_
              case c3 => simp only [maxLen]; omega
              case c4 => omega
              case c5 => exact hC.below.size
              intro v9 w9 ho9 hg9
              have hC9 := bel_own hC.below hC.below.size ho2 hg9
              refine hK _ _ (Near.of hC9) (fun _ => ?_)
              clear hK K hC
              have hC := Near.of hC9
              clear hC9
              replace ho9 : w9.ownsRow w6.heap.size 45 5 v9 P.length (cellsOf PostR.cells P) := by simpa using ho9
              (try simp only [Act.put, List.setIfInBounds_toArray, List.set_cons_zero, List.set_cons_succ])
              replace hB8 := hB8.grown hg9 (fun e => by have e2 : wy.heap.size = wx.heap.size := Option.some.inj e; omega)
              generalize wy.heap.size = g8 at *
              refine rel_call (i := 9) (by kernel_rfl) rfl rfl ?_
              intro K hK
              have hR8 : Rd w9 w9.heap.size 5 (some ⟨g8, 0, none⟩) 2 (cellsOf PostR.cells [pOf a1 a2 a3 a4 m A cap, pOf a1 0 0 0 (negL m) B cB]) := Rd.of_blk hB8 rfl rfl
              refine wp_append_any _ (.tmp 41) (.tmp 44) 41 rfl w6.heap.size 45 j0 _ 5 56 Try.underlying41 hj hy0 hy1 hy2 rfl (by decide) _ P.length _ rfl ho9 _ _ 2 _ _ rfl hR8 (cells_one PostR.one _) ?c3 ?c4 ?c5 ?_
              case c3 => simp only [maxLen]; omega
              case c4 => omega
              case c5 => exact hC.below.size
              intro v11 w11 ho11 hg11
              have hC11 := bel_own hC.below hC.below.size ho9 hg11
              refine hK _ _ (Near.of hC11) (fun _ => ?_)
              clear hK K hC
              have hC := Near.of hC11
              replace ho11 : w11.ownsRow w6.heap.size 45 5 v11 (P ++ [pOf a1 a2 a3 a4 m A cap, pOf a1 0 0 0 (negL m) B cB]).length (cellsOf PostR.cells (P ++ [pOf a1 a2 a3 a4 m A cap, pOf a1 0 0 0 (negL m) B cB])) := by
                rw [List.length_append, cellsOf_app]; exact ho11
              obtain ⟨PP, hPP⟩ : ∃ PP, PP = P ++ [pOf a1 a2 a3 a4 m A cap, pOf a1 0 0 0 (negL m) B cB] := ⟨_, rfl⟩
              rw [← hPP] at ho11
              have HPPe := Lib.hid hPP
              clear hPP
              obtain ⟨A11, c11, rfl, hrx⟩ := Rd.of_own ho11
              have H11 := Lib.hid hrx
              clear hrx ho11
              (try simp only [Act.put, List.setIfInBounds_toArray, List.set_cons_zero, List.set_cons_succ])
              have hbl := bel hb hC.below
              have hlen := HPPe.out ▸ HLL.out
              have hlP2 : PP.length ≤ 1000000 := by rw [HPPe.out, List.length_append]; simp; omega
              have HOK11 := Lib.hid (fun p (hp : p ∈ PP) => (HALL.out p (HPPe.out ▸ hp)).step hC.below)
              have HW11 := Lib.hid (fun x (hx : x ∈ allB I PP) => HWA.out x (HPPe.out ▸ hx))
              refine rel_call (i := 10) (by kernel_rfl) rfl rfl ?_; intro K hK; go_simp; go_at_call 25; refine (total_any I AI cI PP A11 c11 _ (Rd.now HI.out hbl) H11.out HOK11.out HW11.out hlen (by omega) hlP2).mono ?_; rintro e w2 ⟨v12, L2, E2, rfl, ho12, hb2, hc12⟩; (try go_wp2_with fail); replace hC := hC.on hb2; refine hK _ _ hC (fun _ => ?_); clear hK K; (try simp only [Act.put, List.setIfInBounds_toArray, List.set_cons_zero, List.set_cons_succ])
              (first | (refine rel_want (i := 11) rfl rfl (by kernel_rfl) (by kernel_rfl) (by kernel_rfl) rfl (fun _ _ _ _ h => h) hC ?_; intro K hK; go_big_quiet_op; go_big_quiet_on) | (refine rel_skip (i := 11) rfl (by kernel_rfl) (by kernel_rfl) (by kernel_rfl) rfl (fun _ _ _ _ h => h) hC ?_; simp only [Act.put, List.setIfInBounds_toArray, List.set_cons_zero, List.set_cons_succ])); (first | (refine rel_want (i := 12) rfl rfl (by kernel_rfl) (by kernel_rfl) (by kernel_rfl) rfl (fun _ _ _ _ h => h) hC ?_; intro K hK; go_big_quiet_op; go_big_quiet_on) | (refine rel_skip (i := 12) rfl (by kernel_rfl) (by kernel_rfl) (by kernel_rfl) rfl (fun _ _ _ _ h => h) hC ?_; simp only [Act.put, List.setIfInBounds_toArray, List.set_cons_zero, List.set_cons_succ])); (first | (refine rel_want (i := 13) rfl rfl (by kernel_rfl) (by kernel_rfl) (by kernel_rfl) rfl (fun _ _ _ _ h => h) hC ?_; intro K hK; go_big_quiet_op; go_big_quiet_on) | (refine rel_skip (i := 13) rfl (by kernel_rfl) (by kernel_rfl) (by kernel_rfl) rfl (fun _ _ _ _ h => h) hC ?_; simp only [Act.put, List.setIfInBounds_toArray, List.set_cons_zero, List.set_cons_succ])); (first | (refine rel_want (i := 14) rfl rfl (by kernel_rfl) (by kernel_rfl) (by kernel_rfl) rfl (fun _ _ _ _ h => h) hC ?_; intro K hK; go_big_quiet_op; go_big_quiet_on) | (refine rel_skip (i := 14) rfl (by kernel_rfl) (by kernel_rfl) (by kernel_rfl) rfl (fun _ _ _ _ h => h) hC ?_; simp only [Act.put, List.setIfInBounds_toArray, List.set_cons_zero, List.set_cons_succ])); (first | (refine rel_want (i := 15) rfl rfl (by kernel_rfl) (by kernel_rfl) (by kernel_rfl) rfl (fun _ _ _ _ h => h) hC ?_; intro K hK; go_big_quiet_op; go_big_quiet_on) | (refine rel_skip (i := 15) rfl (by kernel_rfl) (by kernel_rfl) (by kernel_rfl) rfl (fun _ _ _ _ h => h) hC ?_; simp only [Act.put, List.setIfInBounds_toArray, List.set_cons_zero, List.set_cons_succ]))
              refine wpAnyH_done (by kernel_rfl) ?_ _
              go_wp2_with fail
              go_meet
              exact ⟨v12, L2, E2, rfl, rfl, own_base ho12 (by have := hC11.size; omega), HPPe.out ▸ hc12, hC.below⟩
          · refine ⟨_, rfl, rfl, ?_⟩
            intro K hK
            go_simp
            have hB8 := Blk.new wx 45 #[.int .i64 a1, .int .i64 a2, .int .i64 a3, .int .i64 a4, .slice A m.length cap, .int .i64 a1, .int .i64 0, .int .i64 0, .int .i64 0, .slice B (negL m).length cB]
            have hs8 := Below.alloc (Below.refl wx.heap.size wx) (Nat.le_refl _) (.cells #[.int .i64 a1, .int .i64 a2, .int .i64 a3, .int .i64 a4, .slice A m.length cap, .int .i64 a1, .int .i64 0, .int .i64 0, .int .i64 0, .slice B (negL m).length cB] 45)
            have hC2 := hC.below.alloc hC.below.size (.cells #[.int .i64 a1, .int .i64 a2, .int .i64 a3, .int .i64 a4, .slice A m.length cap, .int .i64 a1, .int .i64 0, .int .i64 0, .int .i64 0, .slice B (negL m).length cB] 45)
            refine hK _ _ (Near.of hC2) (fun _ => ?_)
            clear hK K hC
            generalize hgen : wx.alloc (.cells #[.int .i64 a1, .int .i64 a2, .int .i64 a3, .int .i64 a4, .slice A m.length cap, .int .i64 a1, .int .i64 0, .int .i64 0, .int .i64 0, .slice B (negL m).length cB] 45) = wz at *
            clear hgen
            have hC := Near.of hC2
            clear hC2
            (try simp only [Act.put, List.setIfInBounds_toArray, List.set_cons_zero, List.set_cons_succ])
            have hlt8 := hB8.lt
            generalize wx.heap.size = g8 at *
            refine rel_call (i := 2) (by kernel_rfl) rfl rfl ?_
            intro K hK
            go_simp
            have ho2 := own_empty wz 45 w6.heap.size 5 0 hC.below.size #[] rfl (by decide)
            have hs2 := Below.alloc (Below.refl wz.heap.size wz) (Nat.le_refl _) (.cells #[] 45)
            have hC2 := hC.below.alloc hC.below.size (.cells #[] 45)
            have hlt2 : wz.heap.size < (wz.alloc (.cells #[] 45)).heap.size := by simp
            refine hK _ _ (Near.of hC2) (fun _ => ?_)
            clear hK K hC
            generalize wz.alloc (.cells #[] 45) = wy at *
            have hC := Near.of hC2
            clear hC2
            (try simp only [Act.put, List.setIfInBounds_toArray, List.set_cons_zero, List.set_cons_succ])
            replace hB8 := hB8.step hs2
            refine rel_call (i := 5) (by kernel_rfl) rfl rfl ?_
            intro K hK
            refine wp_append_any _ (.tmp 38) (.tmp 40) 41 rfl w6.heap.size 45 j0 _ 5 56 Try.underlying41 hj hy0 hy1 hy2 rfl (by decide) _ 0 [] rfl ho2 _ AP P.length cP _ rfl (Rd.now HP.out (bel hb hC.below)) (cells_one PostR.one P) ?c3 ?c4 ?c5 ?_
            case c3 => simp only [maxLen]; omega
            case c4 => omega
            case c5 => exact hC.below.size
            intro v9 w9 ho9 hg9
            have hC9 := bel_own hC.below hC.below.size ho2 hg9
            refine hK _ _ (Near.of hC9) (fun _ => ?_)
            clear hK K hC
            have hC := Near.of hC9
            clear hC9
            replace ho9 : w9.ownsRow w6.heap.size 45 5 v9 P.length (cellsOf PostR.cells P) := by simpa using ho9
            (try simp only [Act.put, List.setIfInBounds_toArray, List.set_cons_zero, List.set_cons_succ])
            replace hB8 := hB8.grown hg9 (fun e => by have e2 : g8 = wz.heap.size := Option.some.inj e; omega)
            refine rel_call (i := 9) (by kernel_rfl) rfl rfl ?_
            intro K hK
            have hR8 : Rd w9 w9.heap.size 5 (some ⟨g8, 0, none⟩) 2 (cellsOf PostR.cells [pOf a1 a2 a3 a4 m A cap, pOf a1 0 0 0 (negL m) B cB]) := Rd.of_blk hB8 rfl rfl
            refine wp_append_any _ (.tmp 41) (.tmp 44) 41 rfl w6.heap.size 45 j0 _ 5 56 Try.underlying41 hj hy0 hy1 hy2 rfl (by decide) _ P.length _ rfl ho9 _ _ 2 _ _ rfl hR8 (cells_one PostR.one _) ?c3 ?c4 ?c5 ?_
            case c3 => simp only [maxLen]; omega
            case c4 => omega
            case c5 => exact hC.below.size
            intro v11 w11 ho11 hg11
            have hC11 := bel_own hC.below hC.below.size ho9 hg11
            refine hK _ _ (Near.of hC11) (fun _ => ?_)
            clear hK K hC
            have hC := Near.of hC11
            replace ho11 : w11.ownsRow w6.heap.size 45 5 v11 (P ++ [pOf a1 a2 a3 a4 m A cap, pOf a1 0 0 0 (negL m) B cB]).length (cellsOf PostR.cells (P ++ [pOf a1 a2 a3 a4 m A cap, pOf a1 0 0 0 (negL m) B cB])) := by
              rw [List.length_append, cellsOf_app]; exact ho11
            obtain ⟨PP, hPP⟩ : ∃ PP, PP = P ++ [pOf a1 a2 a3 a4 m A cap, pOf a1 0 0 0 (negL m) B cB] := ⟨_, rfl⟩
            rw [← hPP] at ho11
            have HPPe := Lib.hid hPP
            clear hPP
            obtain ⟨A11, c11, rfl, hrx⟩ := Rd.of_own ho11
            have H11 := Lib.hid hrx
            clear hrx ho11
            (try simp only [Act.put, List.setIfInBounds_toArray, List.set_cons_zero, List.set_cons_succ])
            have hbl := bel hb hC.below
            have hlen := HPPe.out ▸ HLL.out
            have hlP2 : PP.length ≤ 1000000 := by rw [HPPe.out, List.length_append]; simp; omega
            have HOK11 := Lib.hid (fun p (hp : p ∈ PP) => (HALL.out p (HPPe.out ▸ hp)).step hC.below)
            have HW11 := Lib.hid (fun x (hx : x ∈ allB I PP) => HWA.out x (HPPe.out ▸ hx))
            refine rel_call (i := 10) (by kernel_rfl) rfl rfl ?_; intro K hK; go_simp; go_at_call 25; refine (total_any I AI cI PP A11 c11 _ (Rd.now HI.out hbl) H11.out HOK11.out HW11.out hlen (by omega) hlP2).mono ?_; rintro e w2 ⟨v12, L2, E2, rfl, ho12, hb2, hc12⟩; (try go_wp2_with fail); replace hC := hC.on hb2; refine hK _ _ hC (fun _ => ?_); clear hK K; (try simp only [Act.put, List.setIfInBounds_toArray, List.set_cons_zero, List.set_cons_succ])
            (first | (refine rel_want (i := 11) rfl rfl (by kernel_rfl) (by kernel_rfl) (by kernel_rfl) rfl (fun _ _ _ _ h => h) hC ?_; intro K hK; go_big_quiet_op; go_big_quiet_on) | (refine rel_skip (i := 11) rfl (by kernel_rfl) (by kernel_rfl) (by kernel_rfl) rfl (fun _ _ _ _ h => h) hC ?_; simp only [Act.put, List.setIfInBounds_toArray, List.set_cons_zero, List.set_cons_succ])); (first | (refine rel_want (i := 12) rfl rfl (by kernel_rfl) (by kernel_rfl) (by kernel_rfl) rfl (fun _ _ _ _ h => h) hC ?_; intro K hK; go_big_quiet_op; go_big_quiet_on) | (refine rel_skip (i := 12) rfl (by kernel_rfl) (by kernel_rfl) (by kernel_rfl) rfl (fun _ _ _ _ h => h) hC ?_; simp only [Act.put, List.setIfInBounds_toArray, List.set_cons_zero, List.set_cons_succ])); (first | (refine rel_want (i := 13) rfl rfl (by kernel_rfl) (by kernel_rfl) (by kernel_rfl) rfl (fun _ _ _ _ h => h) hC ?_; intro K hK; go_big_quiet_op; go_big_quiet_on) | (refine rel_skip (i := 13) rfl (by kernel_rfl) (by kernel_rfl) (by kernel_rfl) rfl (fun _ _ _ _ h => h) hC ?_; simp only [Act.put, List.setIfInBounds_toArray, List.set_cons_zero, List.set_cons_succ])); (first | (refine rel_want (i := 14) rfl rfl (by kernel_rfl) (by kernel_rfl) (by kernel_rfl) rfl (fun _ _ _ _ h => h) hC ?_; intro K hK; go_big_quiet_op; go_big_quiet_on) | (refine rel_skip (i := 14) rfl (by kernel_rfl) (by kernel_rfl) (by kernel_rfl) rfl (fun _ _ _ _ h => h) hC ?_; simp only [Act.put, List.setIfInBounds_toArray, List.set_cons_zero, List.set_cons_succ])); (first | (refine rel_want (i := 15) rfl rfl (by kernel_rfl) (by kernel_rfl) (by kernel_rfl) rfl (fun _ _ _ _ h => h) hC ?_; intro K hK; go_big_quiet_op; go_big_quiet_on) | (refine rel_skip (i := 15) rfl (by kernel_rfl) (by kernel_rfl) (by kernel_rfl) rfl (fun _ _ _ _ h => h) hC ?_; simp only [Act.put, List.setIfInBounds_toArray, List.set_cons_zero, List.set_cons_succ]))
            refine wpAnyH_done (by kernel_rfl) ?_ _
            go_wp2_with fail
            go_meet
            exact ⟨v12, L2, E2, rfl, rfl, own_base ho12 (by have := hC11.size; omega), HPPe.out ▸ hc12, hC.below⟩
        case rest =>
          obtain ⟨v8, L2, E2, rfl, rfl, ho8, hc8, hb9⟩ := hcut
          rw [allB_two] at hc8
          obtain ⟨rfl, rfl⟩ := col_same HC.out hc8 HUN.out
          replace hb := bel hb hb9
          replace H4 := Lib.hid (Rd.now (H4).out hb9)
          clear hb9 hc8
          obtain ⟨A8, c8, rfl, hrx⟩ := Rd.of_own ho8
          have H8 := Lib.hid hrx
          clear hrx ho8
          have he : (E == E) = true := by simp
          go_wp2_with fail
          refine (sametot_yes L A4 A8 c4 c8 _ H4.out H8.out hL).mono ?_
          rintro e w10 ⟨rfl, hb9⟩
          replace hb := bel hb hb9
          go_wp2_with fail
          go_ret
          exact ⟨rfl, hb⟩
end Go.Proofs.Ythenamibehbdnaa
