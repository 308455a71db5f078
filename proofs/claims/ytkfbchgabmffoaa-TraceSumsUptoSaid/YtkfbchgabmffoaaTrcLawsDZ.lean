/- Texts of this claim, put together. -/
import Derived.Test.YtkfbchgabmffoaaJAP
/- The walk of TraceSums. -/
namespace Go.Proofs.Ytkfbchgabmffoaa
set_option linter.unusedVariables false
set_option linter.unusedSimpArgs false
open Go.RowKit

/-- what a loop over sources adds up -/
def sumS (l : List SrcR) : Int := sumW (l.map SrcR.bal)
theorem sumS_take (l : List SrcR) (k : Nat) (h : k < l.length) : sumS (l.take (k + 1)) = wrap64 (sumS (l.take k) + l[k].amount) := by
  unfold sumS
  rw [List.map_take, List.map_take]
  have := sumW_take (l.map SrcR.bal) k (by rw [List.length_map]; exact h)
  rw [this, List.getElem_map]
  rfl
theorem sums_eq {I : List ItemR} {P : List PostR} {T : List Bal} (h : CheckOk I P T) (hs : SmallOk I P T) (f t : Int) : sumS (linesV f t I P) = figW f t T := by
  have hl := lines_len f t I P
  have ha := hs.all
  unfold sumS
  rw [sumW_eq _ (lines_within hs.am) (by decide) (by rw [List.length_map]; omega), lines_sum, check_sum h hs.am (by omega)]
  unfold figW
  rw [condW_eq _ T hs.amT (by decide) (by omega)]
theorem lines_all {w : World} {I : List ItemR} {AI : Option Addr} {P : List PostR} {AP : Option Addr} {T : List Bal} {AT : Option Addr} (h : RIn w I AI P AP T AT) : linesV (-9223372036854775808) 9223372036854775807 I P = srcs I P := by
  unfold linesV pick
  rw [List.filter_eq_self]
  intro s hs
  have hm : s.bal ∈ allB I P := by rw [← srcs_bal]; exact List.mem_map.2 ⟨s, hs, rfl⟩
  have := bounds_i64 (h.wf _ hm)
  unfold inS
  have e : s.bal.account = s.account := rfl
  rw [e] at this
  simp [this.1, this.2]
/-- two sources that are items, with one reference -/
def clash (a b : SrcR) : Bool := (a.posting == -1) && (b.posting == -1) && decide (a.ref = b.ref)
theorem no_clash {I : List ItemR} (P : List PostR) (h : itemsV I = true) (i k : Nat) (hi : i < (srcs I P).length) (hk : k < i) : clash ((srcs I P)[i]) ((srcs I P)[k]'(by omega)) = false := by
  unfold clash
  by_cases h1 : ((srcs I P)[i]).posting = -1
  · by_cases h2 : ((srcs I P)[k]'(by omega)).posting = -1
    · have := srcs_refs P h i k hi hk h1 h2
      simp [this]
    · simp [h2]
  · simp [h1]
section
variable (per : Int) (I : List ItemR) (AI : Option Addr) (cI : Nat) (P : List PostR) (AP : Option Addr) (cP : Nat) (T : List Bal) (AT : Option Addr) (cT : Nat) (w : World)
set_option maxRecDepth 100000 in
set_option maxHeartbeats 8000000 in
theorem law_TraceSums (f t : Int) (h : TIn w I AI cI P AP cP T AT cT) : Calls Try.prog 5 #[.agg #[.int .i64 per, .slice AI I.length cI, .slice AP P.length cP, .slice AT T.length cT], .int .i64 f, .int .i64 t] w fun e w' => e = .returned (.bool true) ∧ Below w.heap.size w w' := by
  have hb : Below w.heap.size w (w.alloc (.cells #[.int .i64 per, .slice AI I.length cI, .slice AP P.length cP, .slice AT T.length cT] 26)) := (Below.refl _ _).alloc (Nat.le_refl _) _
  have HB := Lib.hid (Blk.new w 26 #[.int .i64 per, .slice AI I.length cI, .slice AP P.length cP, .slice AT T.length cT])
  have H := Lib.hid h.rin
  have HT := Lib.hid h
  clear h
  go_enter Try.func5, Try.ntmps5
  go_wp2_with fail
  refine (tr_awake _).mono ?_
  rintro e w2 ⟨rfl, hb9⟩
  replace hb := bel hb hb9
  replace HB := Lib.hid (HB.out.step hb9)
  clear hb9
  have e0 : (w2).cell? ⟨w.heap.size, 0, none⟩ = some (.int .i64 per) := (HB).out.cell 0
  have e1 : (w2).cell? ⟨w.heap.size, 1, none⟩ = some (.slice AI I.length cI) := (HB).out.cell 1
  have e2 : (w2).cell? ⟨w.heap.size, 2, none⟩ = some (.slice AP P.length cP) := (HB).out.cell 2
  have e3 : (w2).cell? ⟨w.heap.size, 3, none⟩ = some (.slice AT T.length cT) := (HB).out.cell 3
  cases hs : smallT I P T
  · have HS := Lib.hid hs
    clear hs
    go_wp2_with fail
    refine (tsmall_any per I AI cI P AP cP T AT cT _ (H.out.step hb) HT.out.all HT.out.it HT.out.po HT.out.to).mono ?_
    rintro e w3 ⟨rfl, hb9⟩
    replace hb := bel hb hb9
    replace HB := Lib.hid (HB.out.step hb9)
    rw [HS.out]
    clear hb9
    go_wp2_with fail
    go_ret
    exact ⟨rfl, hb⟩
  · have HS := Lib.hid hs
    have OK := smallT_ok hs
    clear hs
    have n1 : (allB I P).length ≤ 1000000 := by have := OK.all; omega
    have n2 : I.length ≤ 1000000 := by have := OK.items; omega
    have n3 : P.length ≤ 1000000 := by have := OK.postings; omega
    have n4 : T.length ≤ 1000000 := by have := OK.all; omega
    have N1 := Lib.hid n1
    have HOK := Lib.hid OK
    clear OK n1
    go_wp2_with fail
    refine (tsmall_any per I AI cI P AP cP T AT cT _ (H.out.step hb) HT.out.all HT.out.it HT.out.po HT.out.to).mono ?_
    rintro e w3 ⟨rfl, hb9⟩
    replace hb := bel hb hb9
    replace HB := Lib.hid (HB.out.step hb9)
    rw [HS.out]
    clear hb9
    clear e0 e1 e2 e3
    have e0 : (w3).cell? ⟨w.heap.size, 0, none⟩ = some (.int .i64 per) := (HB).out.cell 0
    have e1 : (w3).cell? ⟨w.heap.size, 1, none⟩ = some (.slice AI I.length cI) := (HB).out.cell 1
    have e2 : (w3).cell? ⟨w.heap.size, 2, none⟩ = some (.slice AP P.length cP) := (HB).out.cell 2
    have e3 : (w3).cell? ⟨w.heap.size, 3, none⟩ = some (.slice AT T.length cT) := (HB).out.cell 3
    go_wp2_with fail
    refine (tcheck_any per I AI cI P AP cP T AT cT _ (H.out.step hb) N1.out n2 n3 n4).mono ?_
    rintro e w4 ⟨rfl, hb9⟩
    replace hb := bel hb hb9
    replace HB := Lib.hid (HB.out.step hb9)
    clear hb9 e0 e1 e2 e3
    have e0 : (w4).cell? ⟨w.heap.size, 0, none⟩ = some (.int .i64 per) := (HB).out.cell 0
    have e1 : (w4).cell? ⟨w.heap.size, 1, none⟩ = some (.slice AI I.length cI) := (HB).out.cell 1
    have e2 : (w4).cell? ⟨w.heap.size, 2, none⟩ = some (.slice AP P.length cP) := (HB).out.cell 2
    have e3 : (w4).cell? ⟨w.heap.size, 3, none⟩ = some (.slice AT T.length cT) := (HB).out.cell 3
    cases hck : checkV I P T
    · clear hck
      go_wp2_with fail
      go_ret
      exact ⟨rfl, hb⟩
    · have HCK := Lib.hid (check_ok hck)
      clear hck
      obtain ⟨L, hL⟩ : ∃ L, L = linesV f t I P := ⟨_, rfl⟩
      have hlL : L.length ≤ 1000000 := by rw [hL]; have := lines_len f t I P; have := N1.out; omega
      have HLS : Hid (sumS L = figW f t T) := Lib.hid (by rw [hL]; exact sums_eq HCK.out HOK.out f t)
      have HLL := Lib.hid hL
      clear hL
      go_wp2_with fail
      refine (lines_any per I AI cI P AP cP T AT cT f t _ (H.out.step hb) N1.out n2 n3 n4 HOK.out.parts).mono ?_
      rintro e w5 ⟨v5, rfl, ho5, hb9⟩
      rw [← HLL.out] at ho5
      replace hb := bel hb hb9
      replace HB := Lib.hid (HB.out.step hb9)
      clear hb9 e0 e1 e2 e3
      obtain ⟨A5, c5, rfl, hrx⟩ := Rd.of_own ho5
      have H5 := Lib.hid hrx
      clear hrx ho5
      go_wp2_with fail
      go_loopw [7, 9] (fun s x wr => ∃ k : Nat, k ≤ L.length ∧ x = .int .i64 k ∧ s = .int .i64 (sumS (L.take k)) ∧ Below w5.heap.size w5 wr) (fun _ x _ => L.length - (intOf x).toNat)
      case atStart => exact ⟨0, by omega, rfl, rfl, Below.refl _ _⟩
      case round =>
        obtain ⟨k, hk, rfl, rfl, hbr⟩ := hrel
        by_cases hlt : k < L.length
        · obtain ⟨b, o, hA, hbo, f0, f1, f2, f3, f4, f5⟩ := SrcR.at_ (Rd.now H5.out hbr) hlt
          subst hA
          have HST := Lib.hid (sumS_take L k hlt)
          go_wp2_with fail
          go_roundw
          case rel => exact ⟨k + 1, by omega, by go_num, by rw [HST.out], hbr⟩
          case measure => simp [intOf]; omega
        · have HE : Hid (sumS (L.take k) = figW f t T) := Lib.hid (by rw [List.take_of_length_le (by omega)]; exact HLS.out)
          have hbw := bel hb hbr
          have HBr := Lib.hid (HB.out.step hbr)
          have e0 : (wr).cell? ⟨w.heap.size, 0, none⟩ = some (.int .i64 per) := (HBr).out.cell 0
          have e1 : (wr).cell? ⟨w.heap.size, 1, none⟩ = some (.slice AI I.length cI) := (HBr).out.cell 1
          have e2 : (wr).cell? ⟨w.heap.size, 2, none⟩ = some (.slice AP P.length cP) := (HBr).out.cell 2
          have e3 : (wr).cell? ⟨w.heap.size, 3, none⟩ = some (.slice AT T.length cT) := (HBr).out.cell 3
          have HSA := Lib.hid (lines_all H.out)
          obtain ⟨S, hS⟩ : ∃ S, S = srcs I P := ⟨_, rfl⟩
          have hlS : S.length ≤ 1000000 := by rw [hS, srcs_len]; exact N1.out
          have HNC : Hid (∀ i k (hi : i < S.length) (hk : k < i), clash (S[i]) (S[k]'(by omega)) = false) := Lib.hid (by subst hS; exact no_clash P HCK.out.1)
          have HSS : Hid (linesV (-9223372036854775808) 9223372036854775807 I P = S) := Lib.hid (by rw [HSA.out, hS])
          clear hS HSA
          go_wp2_with fail
          refine (lines_any per I AI cI P AP cP T AT cT (-9223372036854775808) 9223372036854775807 _ (H.out.step hbw) N1.out n2 n3 n4 HOK.out.parts).mono ?_
          rintro e w6 ⟨v6, rfl, ho6, hb9⟩
          rw [HSS.out] at ho6
          have hb6 := bel hbw hb9
          have HB6 := Lib.hid (HBr.out.step hb9)
          clear hb9 e0 e1 e2 e3 HBr hbr hbw hb HB H5
          obtain ⟨A6, c6, rfl, hrx⟩ := Rd.of_own ho6
          have H6 := Lib.hid hrx
          clear hrx ho6
          go_wp2_with fail
          go_loopw [11] (fun x wr => ∃ k : Nat, k ≤ S.length ∧ x = .int .i64 k ∧ Below w6.heap.size w6 wr) (fun x _ => S.length - (intOf x).toNat)
          case atStart => exact ⟨0, by omega, rfl, Below.refl _ _⟩
          case round =>
            obtain ⟨wo, rfl⟩ : ∃ wo : World, wo = wr := ⟨_, rfl⟩
            obtain ⟨i, hi, rfl, hbo⟩ := hrel
            by_cases hlt : i < S.length
            · go_wp2_with fail
              go_loopw [12] (fun x wr => ∃ j : Nat, j ≤ i ∧ x = .int .i64 j ∧ Below w6.heap.size w6 wr) (fun x _ => i - (intOf x).toNat)
              case atStart => exact ⟨0, by omega, rfl, hbo⟩
              case round =>
                obtain ⟨j, hj, rfl, hbr⟩ := hrel
                by_cases hjl : j < i
                · have hjS : j < S.length := by omega
                  obtain ⟨b, o, hA, hbb, f0, f1, f2, f3, f4, f5⟩ := SrcR.at_ (Rd.now H6.out hbr) hlt
                  obtain ⟨b', o', hA', hbb', g0, g1, g2, g3, g4, g5⟩ := SrcR.at_ (Rd.now H6.out hbr) hjS
                  subst hA
                  injection hA' with hA'
                  injection hA' with hb' ho' _
                  subst hb' ho'
                  have hcl := HNC.out i j hlt hjl
                  obtain ⟨a, ha⟩ : ∃ a, a = S[i] := ⟨_, rfl⟩
                  obtain ⟨c, hc⟩ : ∃ a, a = S[j] := ⟨_, rfl⟩
                  rw [← ha] at hcl f0 f1 f2
                  rw [← hc] at hcl g0 g1 g2
                  clear ha hc
                  have c0 := fun d : Later wr => d.cell hbb f0
                  have c1 := fun d : Later wr => d.cell hbb f1
                  have c2 := fun d : Later wr => d.cell hbb f2
                  have d0 := fun d : Later wr => d.cell hbb' g0
                  have d1 := fun d : Later wr => d.cell hbb' g1
                  have d2 := fun d : Later wr => d.cell hbb' g2
                  have hi0 : (0 : Int) ≤ (i : Int) := by omega
                  have hi1 : (i : Int) < (S.length : Int) := by omega
                  have hj0 : (0 : Int) ≤ (j : Int) := by omega
                  have hj1 : (j : Int) < (S.length : Int) := by omega
                  clear f0 f1 f2 f3 f4 f5 g0 g1 g2 g3 g4 g5
                  unfold clash at hcl
                  cases h1 : (a.posting == -1)
                  · clear hcl
                    go_wp2_with fail
                    refine wp_region_later (by kernel_rfl) (by kernel_rfl) ?_; (repeat (go_big_quiet_step ((fail)))); refine wpQuiet_nil ?_; rintro _ ⟨dq, rfl⟩
                    have hbe := bel hbr dq.below
                    go_wp2_with fail
                    go_roundw
                    case rel => exact ⟨j + 1, by omega, by go_num, hbe⟩
                    case measure => simp [intOf]; omega
                  · cases h2 : (c.posting == -1)
                    · clear hcl
                      go_wp2_with fail
                      refine wp_region_later (by kernel_rfl) (by kernel_rfl) ?_; (repeat (go_big_quiet_step ((fail)))); refine wpQuiet_nil ?_; rintro _ ⟨dq, rfl⟩
                      have hbe := bel hbr dq.below
                      go_wp2_with fail
                      go_roundw
                      case rel => exact ⟨j + 1, by omega, by go_num, hbe⟩
                      case measure => simp [intOf]; omega
                    · rw [h1, h2] at hcl
                      rcases ref_cases a.ref c.ref with e | ⟨e1, -⟩ | ⟨e1, e2, -⟩
                      · simp [e] at hcl
                      · clear hcl
                        go_wp2_with fail
                        refine wp_region_later (by kernel_rfl) (by kernel_rfl) ?_; (repeat (go_big_quiet_step ((fail)))); refine wpQuiet_nil ?_; rintro _ ⟨dq, rfl⟩
                        have hbe := bel hbr dq.below
                        go_wp2_with fail
                        go_roundw
                        case rel => exact ⟨j + 1, by omega, by go_num, hbe⟩
                        case measure => simp [intOf]; omega
                      · clear hcl
                        go_wp2_with fail
                        refine wp_region_later (by kernel_rfl) (by kernel_rfl) ?_; (repeat (go_big_quiet_step ((fail)))); refine wpQuiet_nil ?_; rintro _ ⟨dq, rfl⟩
                        have hbe := bel hbr dq.below
                        go_wp2_with fail
                        go_roundw
                        case rel => exact ⟨j + 1, by omega, by go_num, hbe⟩
                        case measure => simp [intOf]; omega
                · go_wp2_with fail
                  go_roundw
                  case rel => exact ⟨i + 1, by omega, by go_num, hbr⟩
                  case measure => simp [intOf]; omega
            · have HB7 := Lib.hid (HB6.out.step hbo)
              have hb7 := bel hb6 hbo
              have e0 : (wo).cell? ⟨w.heap.size, 0, none⟩ = some (.int .i64 per) := (HB7).out.cell 0
              have e1 : (wo).cell? ⟨w.heap.size, 1, none⟩ = some (.slice AI I.length cI) := (HB7).out.cell 1
              have e2 : (wo).cell? ⟨w.heap.size, 2, none⟩ = some (.slice AP P.length cP) := (HB7).out.cell 2
              have e3 : (wo).cell? ⟨w.heap.size, 3, none⟩ = some (.slice AT T.length cT) := (HB7).out.cell 3
              have hsf : (sumS (L.take k) == figW f t T) = true := by rw [HE.out]; simp
              go_wp2_with fail
              refine (tfig_any per (.slice AI I.length cI) (.slice AP P.length cP) T AT cT f t _ (Rd.now H.out.to hb7) n4).mono ?_
              rintro e w8 ⟨rfl, hb9⟩
              go_wp2_with fail
              go_ret
              exact ⟨rfl, bel hb7 hb9⟩
end
end Go.Proofs.Ytkfbchgabmffoaa
