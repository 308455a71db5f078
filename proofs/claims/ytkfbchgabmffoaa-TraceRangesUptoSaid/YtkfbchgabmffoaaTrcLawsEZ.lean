/- Texts of this claim, put together. -/
import Derived.Test.YtkfbchgabmffoaaJAP
import Derived.Test.YtkfbchgabmffoaaJAJ
/- The walk of TraceRanges. -/
namespace Go.Proofs.Ytkfbchgabmffoaa
set_option linter.unusedVariables false
set_option linter.unusedSimpArgs false
open Go.RowKit

theorem src_ne (s t : SrcR) (h : (s.account == t.account) = false) : ((s.ref.entry == t.ref.entry) = false) ∨ ((s.ref.entry == t.ref.entry) = true ∧ (s.ref.line == t.ref.line) = false) ∨ ((s.ref.entry == t.ref.entry) = true ∧ (s.ref.line == t.ref.line) = true ∧ (s.posting == t.posting) = false) ∨
    ((s.ref.entry == t.ref.entry) = true ∧ (s.ref.line == t.ref.line) = true ∧ (s.posting == t.posting) = true ∧ (s.index == t.index) = false) ∨ ((s.ref.entry == t.ref.entry) = true ∧ (s.ref.line == t.ref.line) = true ∧ (s.posting == t.posting) = true ∧ (s.index == t.index) = true ∧ (s.account == t.account) = false) := by
  cases h1 : (s.ref.entry == t.ref.entry)
  · simp
  · cases h2 : (s.ref.line == t.ref.line)
    · simp
    · cases h3 : (s.posting == t.posting)
      · simp
      · cases h4 : (s.index == t.index)
        · simp
        · simp [h]
def lowB (b : Int) (s : SrcR) : Bool := decide (s.account ≤ b)
def highB (b : Int) (s : SrcR) : Bool := !decide (s.account ≤ b)
def cnt (p : SrcR → Bool) (l : List SrcR) : Nat := (l.filter p).length
theorem cnt_step (p : SrcR → Bool) (l : List SrcR) (n : Nat) (hn : n < l.length) : cnt p (l.take (n + 1)) = cnt p (l.take n) + if p l[n] = true then 1 else 0 := filter_step p l n hn
theorem cnt_le (p : SrcR → Bool) (l : List SrcR) (n : Nat) : cnt p (l.take n) ≤ (l.filter p).length := by
  unfold cnt
  conv => rhs; rw [← List.take_append_drop n l, List.filter_append, List.length_append]
  omega
/-- a source of the lower range against one of the upper -/
theorem low_high {b : Int} {s t : SrcR} (h : lowB b s = true) (h2 : lowB b t = false) : (t.account == s.account) = false := by
  unfold lowB at h h2
  simp at h h2 ⊢
  omega
section
variable (per : Int) (I : List ItemR) (AI : Option Addr) (cI : Nat) (P : List PostR) (AP : Option Addr) (cP : Nat) (T : List Bal) (AT : Option Addr) (cT : Nat) (w : World)
/-- Lines hands back a slice that reads as the sources -/
def SlSrc (L : List SrcR) (w : World) (e : Ending) (w' : World) : Prop := ∃ A c, e = .returned (.slice A L.length c) ∧ Rd w' w'.heap.size 6 A L.length (cellsOf SrcR.cells L) ∧ Below w.heap.size w w'
theorem lines_sl {L : List SrcR} {f t : Int} (hL : L = linesV f t I P) (h : RIn w I AI P AP T AT) (hnB : (allB I P).length ≤ 1000000) (hnI : I.length ≤ 1000000) (hnP : P.length ≤ 1000000) (hnT : T.length ≤ 1000000) (hnQ : ∀ p ∈ P, p.parts.l.length ≤ 1000000) :
    Calls Try.prog 10 #[.agg #[.int .i64 per, .slice AI I.length cI, .slice AP P.length cP, .slice AT T.length cT], .int .i64 f, .int .i64 t] w (SlSrc L w) := by
  refine (lines_any per I AI cI P AP cP T AT cT f t w h hnB hnI hnP hnT hnQ).mono ?_
  rintro e w' ⟨v, rfl, ho, hb⟩
  rw [← hL] at ho
  obtain ⟨A, c, rfl, hr⟩ := Rd.of_own ho
  exact ⟨A, c, rfl, hr, hb⟩
set_option maxRecDepth 100000 in
set_option maxHeartbeats 8000000 in
theorem law_TraceRanges (a b c : Int) (ha0 : 0 ≤ a) (ha : a ≤ 65535) (hb0 : 0 ≤ b) (hbb : b ≤ 65535) (hc0 : 0 ≤ c) (hcb : c ≤ 65535) (h : TIn w I AI cI P AP cP T AT cT) :
    Calls Try.prog 6 #[.agg #[.int .i64 per, .slice AI I.length cI, .slice AP P.length cP, .slice AT T.length cT], .agg #[.int .u16 a, .int .u16 b, .int .u16 c]] w fun e w' => e = .returned (.bool true) ∧ Below w.heap.size w w' := by
  have hb0' := Below.refl w.heap.size w
  have hb : Below w.heap.size w ((w.alloc (.cells #[.int .i64 per, .slice AI I.length cI, .slice AP P.length cP, .slice AT T.length cT] 26)).alloc (.cells #[.int .u16 a, .int .u16 b, .int .u16 c] 41)) := by
    have hb := hb0'
    exact (by repeat (first | exact hb | refine Below.alloc ?_ (by have hbs := hb.size; first | omega | (simp; done) | (simp; omega)) _ | refine Below.drew ?_ | refine below_drewN_ ?_ _ | refine Below.setCell ?_ (by simp) _))
  clear hb0'
  have HB := Lib.hid ((Blk.new w 26 #[.int .i64 per, .slice AI I.length cI, .slice AP P.length cP, .slice AT T.length cT]).alloc (.cells #[.int .u16 a, .int .u16 b, .int .u16 c] 41))
  have HX0 := Blk.new (w.alloc (.cells #[.int .i64 per, .slice AI I.length cI, .slice AP P.length cP, .slice AT T.length cT] 26)) 41 #[.int .u16 a, .int .u16 b, .int .u16 c]
  rw [World.size_alloc] at HX0
  have HX := Lib.hid HX0
  have H := Lib.hid h.rin
  have HT := Lib.hid h
  clear h HX0
  go_enter Try.func6, Try.ntmps6
  go_wp2_with fail
  refine (tr_awake _).mono ?_
  rintro e w2 ⟨rfl, hb9⟩
  replace hb := bel hb hb9
  replace HB := Lib.hid (HB.out.step hb9)
  replace HX := Lib.hid (HX.out.step hb9)
  clear hb9
  have hXl := HX.out.lt
  have x0 : ∀ d : Later w2, _ := fun d => d.cell hXl (HX.out.cell 0)
  have x1 : ∀ d : Later w2, _ := fun d => d.cell hXl (HX.out.cell 1)
  have x2 : ∀ d : Later w2, _ := fun d => d.cell hXl (HX.out.cell 2)
  go_wp2_with fail
  refine wp_region_later (by kernel_rfl) (by kernel_rfl) ?_; (repeat (go_big_quiet_step ((fail)))); refine wpQuiet_nil ?_; rintro _ ⟨dq, rfl⟩
  replace hb := bel hb dq.below
  replace HB := Lib.hid (HB.out.step dq.below)
  clear HX hXl x0 x1 x2
  generalize dq.now = w3 at *
  have e0 : (w3).cell? ⟨w.heap.size, 0, none⟩ = some (.int .i64 per) := (HB).out.cell 0
  have e1 : (w3).cell? ⟨w.heap.size, 1, none⟩ = some (.slice AI I.length cI) := (HB).out.cell 1
  have e2 : (w3).cell? ⟨w.heap.size, 2, none⟩ = some (.slice AP P.length cP) := (HB).out.cell 2
  have e3 : (w3).cell? ⟨w.heap.size, 3, none⟩ = some (.slice AT T.length cT) := (HB).out.cell 3
  cases hs : smallT I P T
  · have HS := Lib.hid hs
    clear hs
    go_wp2_with fail
    refine (tsmall_any per I AI cI P AP cP T AT cT _ (H.out.step hb) HT.out.all HT.out.it HT.out.po HT.out.to).mono ?_
    rintro e w4 ⟨rfl, hb9⟩
    replace hb := bel hb hb9
    replace HB := Lib.hid (HB.out.step hb9)
    rw [HS.out]
    clear hb9
    go_wp2_with fail
    go_ret
    exact ⟨rfl, hb⟩
  · have HS := Lib.hid hs
    have OK := smallT_ok hs
    clear hs
    have n1 : (allB I P).length ≤ 1000000 := by have := OK.all; omega
    have n2 : I.length ≤ 1000000 := by have := OK.items; omega
    have n3 : P.length ≤ 1000000 := by have := OK.postings; omega
    have n4 : T.length ≤ 1000000 := by have := OK.all; omega
    have N1 := Lib.hid n1
    have HOK := Lib.hid OK
    clear OK n1
    by_cases hab : a ≤ b
    · by_cases hbc : b ≤ c
      · go_wp2_with fail
        refine (tsmall_any per I AI cI P AP cP T AT cT _ (H.out.step hb) HT.out.all HT.out.it HT.out.po HT.out.to).mono ?_
        rintro e w4 ⟨rfl, hb9⟩
        replace hb := bel hb hb9
        replace HB := Lib.hid (HB.out.step hb9)
        rw [HS.out]
        clear hb9
        clear e0 e1 e2 e3
        have hBl := (HB).out.lt
        have p0 : ∀ d : Later w4, _ := fun d => d.cell hBl ((HB).out.cell 0)
        have p1 : ∀ d : Later w4, _ := fun d => d.cell hBl ((HB).out.cell 1)
        have p2 : ∀ d : Later w4, _ := fun d => d.cell hBl ((HB).out.cell 2)
        have p3 : ∀ d : Later w4, _ := fun d => d.cell hBl ((HB).out.cell 3)
        obtain ⟨S, hS⟩ : ∃ S, S = linesV a c I P := ⟨_, rfl⟩
        have hX : S.filter (lowB b) = linesV a b I P := by rw [hS]; exact (pick_pick hab hbc _).1.symm
        have hY : S.filter (highB b) = linesV (b + 1) c I P := by rw [hS]; exact (pick_pick hab hbc _).2.symm
        have hlS : S.length ≤ 1000000 := by rw [hS]; have := lines_len a c I P; have := N1.out; omega
        have K1 := Lib.hid (fun W h => lines_sl per I AI cI P AP cP T AT cT W hX h N1.out n2 n3 n4 HOK.out.parts)
        have K2 := Lib.hid (fun W h => lines_sl per I AI cI P AP cP T AT cT W hY h N1.out n2 n3 n4 HOK.out.parts)
        have K3 := Lib.hid (fun W h => lines_sl per I AI cI P AP cP T AT cT W hS h N1.out n2 n3 n4 HOK.out.parts)
        have HXL : Hid ((S.filter (lowB b)).length ≤ 1000000) := Lib.hid (Nat.le_trans (List.length_filter_le _ _) hlS)
        have HYL : Hid ((S.filter (highB b)).length ≤ 1000000) := Lib.hid (Nat.le_trans (List.length_filter_le _ _) hlS)
        obtain ⟨X, hXX⟩ : ∃ X, X = S.filter (lowB b) := ⟨_, rfl⟩
        obtain ⟨Y, hYY⟩ : ∃ Y, Y = S.filter (highB b) := ⟨_, rfl⟩
        rw [← hXX] at K1 HXL
        rw [← hYY] at K2 HYL
        have HXX := Lib.hid hXX
        have HYY := Lib.hid hYY
        have hw1 : IntKind.i64.wrap (b + 1) = b + 1 := IntWalk.i64_in _ (by omega)
        clear hS hX hY hXX hYY
        go_wp2_with fail
        refine rel_begin (n := 16) (w4) (by kernel_rfl) rfl ?_; have hC := Near.drew (w4)
        (first | (refine rel_want (i := 0) rfl rfl (by kernel_rfl) (by kernel_rfl) (by kernel_rfl) rfl (fun _ _ _ _ h => h) hC ?_; intro K hK; go_big_quiet_op; go_big_quiet_on) | (refine rel_skip (i := 0) rfl (by kernel_rfl) (by kernel_rfl) (by kernel_rfl) rfl (fun _ _ _ _ h => h) hC ?_; simp only [Act.put, List.setIfInBounds_toArray, List.set_cons_zero, List.set_cons_succ])); (first | (refine rel_want (i := 1) rfl rfl (by kernel_rfl) (by kernel_rfl) (by kernel_rfl) rfl (fun _ _ _ _ h => h) hC ?_; intro K hK; go_big_quiet_op; go_big_quiet_on) | (refine rel_skip (i := 1) rfl (by kernel_rfl) (by kernel_rfl) (by kernel_rfl) rfl (fun _ _ _ _ h => h) hC ?_; simp only [Act.put, List.setIfInBounds_toArray, List.set_cons_zero, List.set_cons_succ])); (first | (refine rel_want (i := 2) rfl rfl (by kernel_rfl) (by kernel_rfl) (by kernel_rfl) rfl (fun _ _ _ _ h => h) hC ?_; intro K hK; go_big_quiet_op; go_big_quiet_on) | (refine rel_skip (i := 2) rfl (by kernel_rfl) (by kernel_rfl) (by kernel_rfl) rfl (fun _ _ _ _ h => h) hC ?_; simp only [Act.put, List.setIfInBounds_toArray, List.set_cons_zero, List.set_cons_succ])); (first | (refine rel_want (i := 4) rfl rfl (by kernel_rfl) (by kernel_rfl) (by kernel_rfl) rfl (fun _ _ _ _ h => h) hC ?_; intro K hK; go_big_quiet_op; go_big_quiet_on) | (refine rel_skip (i := 4) rfl (by kernel_rfl) (by kernel_rfl) (by kernel_rfl) rfl (fun _ _ _ _ h => h) hC ?_; simp only [Act.put, List.setIfInBounds_toArray, List.set_cons_zero, List.set_cons_succ])); (first | (refine rel_want (i := 5) rfl rfl (by kernel_rfl) (by kernel_rfl) (by kernel_rfl) rfl (fun _ _ _ _ h => h) hC ?_; intro K hK; go_big_quiet_op; go_big_quiet_on) | (refine rel_skip (i := 5) rfl (by kernel_rfl) (by kernel_rfl) (by kernel_rfl) rfl (fun _ _ _ _ h => h) hC ?_; simp only [Act.put, List.setIfInBounds_toArray, List.set_cons_zero, List.set_cons_succ])); (first | (refine rel_want (i := 6) rfl rfl (by kernel_rfl) (by kernel_rfl) (by kernel_rfl) rfl (fun _ _ _ _ h => h) hC ?_; intro K hK; go_big_quiet_op; go_big_quiet_on) | (refine rel_skip (i := 6) rfl (by kernel_rfl) (by kernel_rfl) (by kernel_rfl) rfl (fun _ _ _ _ h => h) hC ?_; simp only [Act.put, List.setIfInBounds_toArray, List.set_cons_zero, List.set_cons_succ])); (first | (refine rel_want (i := 7) rfl rfl (by kernel_rfl) (by kernel_rfl) (by kernel_rfl) rfl (fun _ _ _ _ h => h) hC ?_; intro K hK; go_big_quiet_op; go_big_quiet_on) | (refine rel_skip (i := 7) rfl (by kernel_rfl) (by kernel_rfl) (by kernel_rfl) rfl (fun _ _ _ _ h => h) hC ?_; simp only [Act.put, List.setIfInBounds_toArray, List.set_cons_zero, List.set_cons_succ])); (first | (refine rel_want (i := 9) rfl rfl (by kernel_rfl) (by kernel_rfl) (by kernel_rfl) rfl (fun _ _ _ _ h => h) hC ?_; intro K hK; go_big_quiet_op; go_big_quiet_on) | (refine rel_skip (i := 9) rfl (by kernel_rfl) (by kernel_rfl) (by kernel_rfl) rfl (fun _ _ _ _ h => h) hC ?_; simp only [Act.put, List.setIfInBounds_toArray, List.set_cons_zero, List.set_cons_succ])); (first | (refine rel_want (i := 10) rfl rfl (by kernel_rfl) (by kernel_rfl) (by kernel_rfl) rfl (fun _ _ _ _ h => h) hC ?_; intro K hK; go_big_quiet_op; go_big_quiet_on) | (refine rel_skip (i := 10) rfl (by kernel_rfl) (by kernel_rfl) (by kernel_rfl) rfl (fun _ _ _ _ h => h) hC ?_; simp only [Act.put, List.setIfInBounds_toArray, List.set_cons_zero, List.set_cons_succ])); (first | (refine rel_want (i := 11) rfl rfl (by kernel_rfl) (by kernel_rfl) (by kernel_rfl) rfl (fun _ _ _ _ h => h) hC ?_; intro K hK; go_big_quiet_op; go_big_quiet_on) | (refine rel_skip (i := 11) rfl (by kernel_rfl) (by kernel_rfl) (by kernel_rfl) rfl (fun _ _ _ _ h => h) hC ?_; simp only [Act.put, List.setIfInBounds_toArray, List.set_cons_zero, List.set_cons_succ]))
        refine rel_call (i := 3) (by kernel_rfl) rfl rfl ?_; intro K hK; go_simp; go_at_call 10; refine (K1.out _ (H.out.step (bel hb hC.below))).mono ?_; rintro e w2 ⟨A1, c1, rfl, H1, hb2⟩; (try go_wp2_with fail); replace hC := hC.on hb2; refine hK _ _ hC (fun _ => ?_); clear hK K; (try simp only [Act.put, List.setIfInBounds_toArray, List.set_cons_zero, List.set_cons_succ])
        have hq1 := hb2
        clear hb2
        refine rel_call (i := 8) (by kernel_rfl) rfl rfl ?_; intro K hK; go_simp; go_at_call 10; refine (K2.out _ (H.out.step (bel hb hC.below))).mono ?_; rintro e w2 ⟨A2, c2, rfl, H2, hb2⟩; (try go_wp2_with fail); replace hC := hC.on hb2; refine hK _ _ hC (fun _ => ?_); clear hK K; (try simp only [Act.put, List.setIfInBounds_toArray, List.set_cons_zero, List.set_cons_succ])
        have hq2 := hb2
        clear hb2
        refine rel_call (i := 12) (by kernel_rfl) rfl rfl ?_; intro K hK; go_simp; go_at_call 10; refine (K3.out _ (H.out.step (bel hb hC.below))).mono ?_; rintro e w2 ⟨A3, c3, rfl, H3, hb2⟩; (try go_wp2_with fail); replace hC := hC.on hb2; refine hK _ _ hC (fun _ => ?_); clear hK K; (try simp only [Act.put, List.setIfInBounds_toArray, List.set_cons_zero, List.set_cons_succ])
        (first | (refine rel_want (i := 13) rfl rfl (by kernel_rfl) (by kernel_rfl) (by kernel_rfl) rfl (fun _ _ _ _ h => h) hC ?_; intro K hK; go_big_quiet_op; go_big_quiet_on) | (refine rel_skip (i := 13) rfl (by kernel_rfl) (by kernel_rfl) (by kernel_rfl) rfl (fun _ _ _ _ h => h) hC ?_; simp only [Act.put, List.setIfInBounds_toArray, List.set_cons_zero, List.set_cons_succ])); (first | (refine rel_want (i := 14) rfl rfl (by kernel_rfl) (by kernel_rfl) (by kernel_rfl) rfl (fun _ _ _ _ h => h) hC ?_; intro K hK; go_big_quiet_op; go_big_quiet_on) | (refine rel_skip (i := 14) rfl (by kernel_rfl) (by kernel_rfl) (by kernel_rfl) rfl (fun _ _ _ _ h => h) hC ?_; simp only [Act.put, List.setIfInBounds_toArray, List.set_cons_zero, List.set_cons_succ])); (first | (refine rel_want (i := 15) rfl rfl (by kernel_rfl) (by kernel_rfl) (by kernel_rfl) rfl (fun _ _ _ _ h => h) hC ?_; intro K hK; go_big_quiet_op; go_big_quiet_on) | (refine rel_skip (i := 15) rfl (by kernel_rfl) (by kernel_rfl) (by kernel_rfl) rfl (fun _ _ _ _ h => h) hC ?_; simp only [Act.put, List.setIfInBounds_toArray, List.set_cons_zero, List.set_cons_succ]))
        refine wpAnyH_done (by kernel_rfl) ?_ _
        have hb5 := bel hb hC.below
        have G1 := Lib.hid (Rd.now (Rd.now H1 hq2) hb2)
        have G2 := Lib.hid (Rd.now H2 hb2)
        have G3 := Lib.hid H3
        clear H1 H2 H3 hq1 hq2 hb2 hC p0 p1 p2 p3 hBl hw1 K1 K2 K3
        generalize w2 = wd at *
        go_wp2_with fail
        go_loopw [11, 12, 13] (fun x y z wr => ∃ n : Nat, n ≤ S.length ∧ x = .int .i64 (cnt (lowB b) (S.take n)) ∧ y = .int .i64 (cnt (highB b) (S.take n)) ∧ z = .int .i64 n ∧ Below wd.heap.size wd wr) (fun _ _ z _ => S.length - (intOf z).toNat)
        case atStart => exact ⟨0, by omega, rfl, rfl, rfl, Below.refl _ _⟩
        case round =>
          obtain ⟨n, hn, rfl, rfl, rfl, hbr⟩ := hrel
          by_cases hlt : n < S.length
          · obtain ⟨b3, o3, hA3, hbb3, f0, f1, f2, f3, f4, f5⟩ := SrcR.at_ (Rd.now G3.out hbr) hlt
            subst hA3
            have HC1 := Lib.hid (cnt_step (lowB b) S n hlt)
            have HC2 := Lib.hid (cnt_step (highB b) S n hlt)
            have c0 := fun d : Later wr => d.cell hbb3 f0
            have c1 := fun d : Later wr => d.cell hbb3 f1
            have c2 := fun d : Later wr => d.cell hbb3 f2
            have c3 := fun d : Later wr => d.cell hbb3 f3
            have c4 := fun d : Later wr => d.cell hbb3 f4
            have c5 := fun d : Later wr => d.cell hbb3 f5
            have hn0 : (0 : Int) ≤ (n : Int) := by omega
            have hn1 : (n : Int) < (S.length : Int) := by omega
            clear f0 f1 f2 f3 f4 f5
            cases hp : lowB b S[n]
            · have hq : highB b S[n] = true := by unfold highB; unfold lowB at hp; rw [hp]; rfl
              obtain ⟨l1, l2⟩ := filter_at (highB b) S n hlt hq
              have hi : cnt (highB b) (S.take n) < Y.length := by rw [HYY.out]; exact l1
              have hxe : Y[cnt (highB b) (S.take n)]'hi = S[n] := by
                have := List.getElem?_eq_getElem hi
                rw [show Y[cnt (highB b) (S.take n)]? = some S[n] from by rw [HYY.out]; exact l2] at this
                injection this with this
                exact this.symm
              obtain ⟨b2, o2, hA2, hbb2, g0, g1, g2, g3, g4, g5⟩ := SrcR.at_ (Rd.now G2.out hbr) hi
              subst hA2
              rw [hxe] at g0 g1 g2 g3 g4 g5
              have HS1 : Hid (cnt (lowB b) (S.take (n + 1)) = cnt (lowB b) (S.take n)) := Lib.hid (by rw [HC1.out, hp]; rfl)
              have HS2 : Hid (cnt (highB b) (S.take (n + 1)) = cnt (highB b) (S.take n) + 1) := Lib.hid (by rw [HC2.out, hq]; rfl)
              have HLO : Hid (∀ i (hi : i < X.length), (S[n].account == (X[i]).account) = false) := Lib.hid fun i hi => low_high (b := b) (by
                have : X[i] ∈ S.filter (lowB b) := by rw [← HXX.out]; exact List.getElem_mem hi
                exact (List.mem_filter.1 this).2) hp
              clear l1 l2 hxe hp hq
              have y0 := fun d : Later wr => d.cell hbb2 g0
              have y1 := fun d : Later wr => d.cell hbb2 g1
              have y2 := fun d : Later wr => d.cell hbb2 g2
              have y3 := fun d : Later wr => d.cell hbb2 g3
              have y4 := fun d : Later wr => d.cell hbb2 g4
              have y5 := fun d : Later wr => d.cell hbb2 g5
              generalize cnt (lowB b) (S.take n) = ii at *
              generalize cnt (highB b) (S.take n) = kk at *
              have hil := HXL.out
              have hyl := HYL.out
              have hi0 : (0 : Int) ≤ (kk : Int) := by omega
              have hi1 : (kk : Int) < (Y.length : Int) := by omega
              clear g0 g1 g2 g3 g4 g5
              by_cases hix : ii < X.length
              · obtain ⟨b1, o1, hA1, hbb1, g0, g1, g2, g3, g4, g5⟩ := SrcR.at_ (Rd.now G1.out hbr) hix
                subst hA1
                have hne := HLO.out ii hix
                obtain ⟨s, hs⟩ : ∃ s, s = S[n] := ⟨_, rfl⟩
                obtain ⟨u, hu⟩ : ∃ u, u = X[ii] := ⟨_, rfl⟩
                rw [← hs] at c0 c1 c2 c3 c4 c5 y0 y1 y2 y3 y4 y5 hne
                rw [← hu] at g0 g1 g2 g3 g4 g5 hne
                clear hs hu
                have d0 := fun d : Later wr => d.cell hbb1 g0
                have d1 := fun d : Later wr => d.cell hbb1 g1
                have d2 := fun d : Later wr => d.cell hbb1 g2
                have d3 := fun d : Later wr => d.cell hbb1 g3
                have d4 := fun d : Later wr => d.cell hbb1 g4
                have d5 := fun d : Later wr => d.cell hbb1 g5
                have hj0 : (0 : Int) ≤ (ii : Int) := by omega
                have hj1 : (ii : Int) < (X.length : Int) := by omega
                clear g0 g1 g2 g3 g4 g5
                rcases src_ne s u hne with h1 | ⟨h1, h2⟩ | ⟨h1, h2, h3⟩ | ⟨h1, h2, h3, h4⟩ | ⟨h1, h2, h3, h4, -⟩
                all_goals
                  go_wp2_with fail
                  refine wp_region_later (by kernel_rfl) (by kernel_rfl) ?_; (repeat (go_big_quiet_step ((fail)))); refine wpQuiet_nil ?_; rintro _ ⟨dq, rfl⟩
                  have hbe := bel hbr dq.below
                  have c0' : ∀ d : Later dq.now, _ := fun d => c0 ⟨d.now, bel dq.below d.below⟩
                  have c1' : ∀ d : Later dq.now, _ := fun d => c1 ⟨d.now, bel dq.below d.below⟩
                  have c2' : ∀ d : Later dq.now, _ := fun d => c2 ⟨d.now, bel dq.below d.below⟩
                  have c3' : ∀ d : Later dq.now, _ := fun d => c3 ⟨d.now, bel dq.below d.below⟩
                  have c4' : ∀ d : Later dq.now, _ := fun d => c4 ⟨d.now, bel dq.below d.below⟩
                  have c5' : ∀ d : Later dq.now, _ := fun d => c5 ⟨d.now, bel dq.below d.below⟩
                  have y0' : ∀ d : Later dq.now, _ := fun d => y0 ⟨d.now, bel dq.below d.below⟩
                  have y1' : ∀ d : Later dq.now, _ := fun d => y1 ⟨d.now, bel dq.below d.below⟩
                  have y2' : ∀ d : Later dq.now, _ := fun d => y2 ⟨d.now, bel dq.below d.below⟩
                  have y3' : ∀ d : Later dq.now, _ := fun d => y3 ⟨d.now, bel dq.below d.below⟩
                  have y4' : ∀ d : Later dq.now, _ := fun d => y4 ⟨d.now, bel dq.below d.below⟩
                  have y5' : ∀ d : Later dq.now, _ := fun d => y5 ⟨d.now, bel dq.below d.below⟩
                  clear c0 c1 c2 c3 c4 c5 y0 y1 y2 y3 y4 y5
                  go_wp2_with fail
                  refine wp_region_later (by kernel_rfl) (by kernel_rfl) ?_; (repeat (go_big_quiet_step ((fail)))); refine wpQuiet_nil ?_; rintro _ ⟨dq, rfl⟩
                  have hbf := bel hbe dq.below
                  go_wp2_with fail
                  go_roundw
                  case rel => exact ⟨n + 1, by omega, by rw [HS1.out], by rw [HS2.out]; go_num, by go_num, hbf⟩
                  case measure => simp [intOf]; omega
              · have hdx : decide ((ii : Int) < (X.length : Int)) = false := by simp; omega
                have hdx2 : decide (ii < X.length) = false := by simp; omega
                go_wp2_with fail
                refine wp_region_later (by kernel_rfl) (by kernel_rfl) ?_; (repeat (go_big_quiet_step ((fail)))); refine wpQuiet_nil ?_; rintro _ ⟨dq, rfl⟩
                have hbe := bel hbr dq.below
                have c0' : ∀ d : Later dq.now, _ := fun d => c0 ⟨d.now, bel dq.below d.below⟩
                have c1' : ∀ d : Later dq.now, _ := fun d => c1 ⟨d.now, bel dq.below d.below⟩
                have c2' : ∀ d : Later dq.now, _ := fun d => c2 ⟨d.now, bel dq.below d.below⟩
                have c3' : ∀ d : Later dq.now, _ := fun d => c3 ⟨d.now, bel dq.below d.below⟩
                have c4' : ∀ d : Later dq.now, _ := fun d => c4 ⟨d.now, bel dq.below d.below⟩
                have c5' : ∀ d : Later dq.now, _ := fun d => c5 ⟨d.now, bel dq.below d.below⟩
                have y0' : ∀ d : Later dq.now, _ := fun d => y0 ⟨d.now, bel dq.below d.below⟩
                have y1' : ∀ d : Later dq.now, _ := fun d => y1 ⟨d.now, bel dq.below d.below⟩
                have y2' : ∀ d : Later dq.now, _ := fun d => y2 ⟨d.now, bel dq.below d.below⟩
                have y3' : ∀ d : Later dq.now, _ := fun d => y3 ⟨d.now, bel dq.below d.below⟩
                have y4' : ∀ d : Later dq.now, _ := fun d => y4 ⟨d.now, bel dq.below d.below⟩
                have y5' : ∀ d : Later dq.now, _ := fun d => y5 ⟨d.now, bel dq.below d.below⟩
                clear c0 c1 c2 c3 c4 c5 y0 y1 y2 y3 y4 y5
                go_wp2_with fail
                refine wp_region_later (by kernel_rfl) (by kernel_rfl) ?_; (repeat (go_big_quiet_step ((fail)))); refine wpQuiet_nil ?_; rintro _ ⟨dq, rfl⟩
                have hbf := bel hbe dq.below
                go_wp2_with fail
                go_roundw
                case rel => exact ⟨n + 1, by omega, by rw [HS1.out], by rw [HS2.out]; go_num, by go_num, hbf⟩
                case measure => simp [intOf]; omega
            · obtain ⟨l1, l2⟩ := filter_at (lowB b) S n hlt hp
              have hi : cnt (lowB b) (S.take n) < X.length := by rw [HXX.out]; exact l1
              have hxe : X[cnt (lowB b) (S.take n)]'hi = S[n] := by
                have := List.getElem?_eq_getElem hi
                rw [show X[cnt (lowB b) (S.take n)]? = some S[n] from by rw [HXX.out]; exact l2] at this
                injection this with this
                exact this.symm
              obtain ⟨b1, o1, hA1, hbb1, g0, g1, g2, g3, g4, g5⟩ := SrcR.at_ (Rd.now G1.out hbr) hi
              subst hA1
              rw [hxe] at g0 g1 g2 g3 g4 g5
              have hq : highB b S[n] = false := by unfold highB; unfold lowB at hp; rw [hp]; rfl
              have HS1 : Hid (cnt (lowB b) (S.take (n + 1)) = cnt (lowB b) (S.take n) + 1) := Lib.hid (by rw [HC1.out, hp]; rfl)
              have HS2 : Hid (cnt (highB b) (S.take (n + 1)) = cnt (highB b) (S.take n)) := Lib.hid (by rw [HC2.out, hq]; rfl)
              clear l1 l2 hxe hp hq
              have d0 := fun d : Later wr => d.cell hbb1 g0
              have d1 := fun d : Later wr => d.cell hbb1 g1
              have d2 := fun d : Later wr => d.cell hbb1 g2
              have d3 := fun d : Later wr => d.cell hbb1 g3
              have d4 := fun d : Later wr => d.cell hbb1 g4
              have d5 := fun d : Later wr => d.cell hbb1 g5
              generalize cnt (lowB b) (S.take n) = ii at *
              generalize cnt (highB b) (S.take n) = kk at *
              have hil := HXL.out
              have hi0 : (0 : Int) ≤ (ii : Int) := by omega
              have hi1 : (ii : Int) < (X.length : Int) := by omega
              clear g0 g1 g2 g3 g4 g5
              go_wp2_with fail
              refine wp_region_later (by kernel_rfl) (by kernel_rfl) ?_; (repeat (go_big_quiet_step ((fail)))); refine wpQuiet_nil ?_; rintro _ ⟨dq, rfl⟩
              have hbe := bel hbr dq.below
              go_wp2_with fail
              go_roundw
              case rel => exact ⟨n + 1, by omega, by rw [HS1.out]; go_num, by rw [HS2.out], by go_num, hbe⟩
              case measure => simp [intOf]; omega
          · have HE : Hid (S.take n = S) := Lib.hid (List.take_of_length_le (by omega))
            have E1 : Hid (cnt (lowB b) (S.take n) = X.length) := Lib.hid (by rw [HE.out, HXX.out]; rfl)
            have E2 : Hid (cnt (highB b) (S.take n) = Y.length) := Lib.hid (by rw [HE.out, HYY.out]; rfl)
            rw [E1.out, E2.out]
            have hbw := bel hb5 hbr
            go_wp2_with fail
            go_ret
            exact ⟨by simp, hbw⟩
      · go_wp2_with fail
        refine (tsmall_any per I AI cI P AP cP T AT cT _ (H.out.step hb) HT.out.all HT.out.it HT.out.po HT.out.to).mono ?_
        rintro e w4 ⟨rfl, hb9⟩
        replace hb := bel hb hb9
        replace HB := Lib.hid (HB.out.step hb9)
        rw [HS.out]
        clear hb9
        go_wp2_with fail
        go_ret
        exact ⟨rfl, hb⟩
    · go_wp2_with fail
      refine (tsmall_any per I AI cI P AP cP T AT cT _ (H.out.step hb) HT.out.all HT.out.it HT.out.po HT.out.to).mono ?_
      rintro e w4 ⟨rfl, hb9⟩
      replace hb := bel hb hb9
      replace HB := Lib.hid (HB.out.step hb9)
      rw [HS.out]
      clear hb9
      go_wp2_with fail
      go_ret
      exact ⟨rfl, hb⟩
end
end Go.Proofs.Ytkfbchgabmffoaa
