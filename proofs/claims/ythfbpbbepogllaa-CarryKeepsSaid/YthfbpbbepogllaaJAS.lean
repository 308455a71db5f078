/- Texts of this claim, put together. -/
import Derived.Test.YthfbpbbepogllaaJAR
import Derived.Test.YthfbpbbepogllaaJAI
import Derived.Test.YthfbpbbepogllaaJAO
import Derived.Test.YthfbpbbepogllaaJAB
/- The walk of mapping.Valid. -/
namespace Go.Proofs.Ythfbpbbepogllaa
set_option linter.unusedVariables false
set_option linter.unusedSimpArgs false
open Go.RowKit
open Go.Maps (Keyed)

def lkey (a s : Int) : Value := .agg #[.int .i64 a, .int .i64 0, .int .i64 s]
open Classical in
/-- the links before number k, by their keys -/
noncomputable def linkSeen (L : List LinkR) (k : Nat) (v : Value) : Bool := decide (∃ x ∈ L.take k, v = lkey x.from_ x.since)
theorem linkSeen_zero (L : List LinkR) : linkSeen L 0 = fun _ => false := by
  funext v
  simp [linkSeen]
theorem linkSeen_at (L : List LinkR) (k : Nat) (h : k < L.length) : linkSeen L k (lkey L[k].from_ L[k].since) = Gr.linkBefore L k := by
  unfold linkSeen Gr.linkBefore
  rw [getD_lt L k default h, Bool.eq_iff_iff]
  simp only [decide_eq_true_eq, List.any_eq_true, lkey, link_val, Bool.and_eq_true, beq_iff_eq]
  constructor
  · rintro ⟨x, hx, h1, -, h2⟩; exact ⟨x, hx, h1.symm, h2.symm⟩
  · rintro ⟨x, hx, h1, h2⟩; exact ⟨x, hx, h1.symm, trivial, h2.symm⟩
theorem linkSeen_here (L : List LinkR) (k : Nat) (h : k < L.length) : linkSeen L (k + 1) (lkey L[k].from_ L[k].since) = true := by
  unfold linkSeen
  rw [List.take_succ_eq_append_getElem h]
  simp only [decide_eq_true_eq]
  exact ⟨L[k], List.mem_append.2 (.inr (List.mem_singleton.2 rfl)), rfl⟩
theorem linkSeen_other (L : List LinkR) (k : Nat) (h : k < L.length) (u : Value) (hu : u ≠ lkey L[k].from_ L[k].since) : linkSeen L (k + 1) u = linkSeen L k u := by
  unfold linkSeen
  rw [List.take_succ_eq_append_getElem h, Bool.eq_iff_iff]
  simp only [decide_eq_true_eq, List.mem_append, List.mem_singleton]
  constructor
  · rintro ⟨x, hx | rfl, e⟩
    · exact ⟨x, hx, e⟩
    · exact absurd e hu
  · rintro ⟨x, hx, e⟩; exact ⟨x, .inl hx, e⟩
theorem mapV_no {e c : List Acc} {L : List LinkR} {k : Nat} (hk : k < L.length) (h : Gr.linkOk e c L k = false) : Gr.mapV e c L = false := by
  unfold Gr.mapV
  rw [show allAt L.length (Gr.linkOk e c L) = false from allAt_no hk h]
  simp
set_option maxRecDepth 100000 in
set_option maxHeartbeats 4000000 in
theorem mvalid_any (xn xc : ByteArray) (l1 : List Acc) (A1 : Option Addr) (c1 : Nat) (L : List LinkR) (A2 : Option Addr) (c2 : Nat) (xj : Bool) (cl : List Acc) (cA : Option Addr) (cc : Nat) (w : World)
    (h1 : Rd w w.heap.size 4 A1 l1.length (Ch.cells l1)) (h2 : Rd w w.heap.size 4 cA cl.length (Ch.cells cl)) (h3 : Rd w w.heap.size 3 A2 L.length (cellsOf LinkR.cells L)) (hn1 : l1.length ≤ 300000) (hn2 : cl.length ≤ 300000)
    (hw1 : ∀ a ∈ l1, (Lit.int .i64 a.code).wf = true) (hw2 : ∀ a ∈ cl, (Lit.int .i64 a.code).wf = true) (hw3 : ∀ x ∈ L, Wf x.from_ ∧ Wf x.to ∧ Wf x.since) :
    Calls Try.prog 90 #[.agg #[.string xn, .string xc, .slice A1 l1.length c1, .slice A2 L.length c2, .bool xj], .slice cA cl.length cc] w (BoolPost (Gr.mapV l1 cl L) w) := by
  have H1 := Lib.hid h1
  have H2 := Lib.hid h2
  have H3 := Lib.hid h3
  have HW1 := Lib.hid hw1
  have HW2 := Lib.hid hw2
  have HW3 := Lib.hid hw3
  clear h1 h2 h3 hw1 hw2 hw3
  have hb : Below w.heap.size w (w.alloc (.cells #[.string xn, .string xc, .slice A1 l1.length c1, .slice A2 L.length c2, .bool xj] 88)) := by
    have hb := Below.refl w.heap.size w
    exact (by repeat (first | exact hb | refine Below.alloc ?_ (by have hbs := hb.size; first | omega | (simp; done) | (simp; omega)) _ | refine Below.drew ?_ | refine below_drewN_ ?_ _ | refine Below.setCell ?_ (by simp) _))
  have HB := Lib.hid (Blk.new w 88 #[.string xn, .string xc, .slice A1 l1.length c1, .slice A2 L.length c2, .bool xj])
  have hmm := @run_makeMap Try.prog
  go_enter Try.func90, Try.ntmps90
  cases hv1 : Ch.validV cl true
  · have HE : Hid (Gr.mapV l1 cl L = false) := Lib.hid (by unfold Gr.mapV; rw [hv1]; rfl)
    have HV1 := Lib.hid hv1
    clear hv1
    go_wp2_with (go_at_call 83; (with_reducible refine (valid_any cl true cA cc _ (Rd.now H2.out hb) hn2 HW2.out).mono ?_); rintro e w2 ⟨rfl, hb2⟩; replace hb := bel hb hb2; rw [HV1.out]; have hB2 := HB.out.step hb2; have e2 := hB2.cell 2; have e3 := hB2.cell 3)
    go_ret
    exact ⟨by rw [HE.out]; rfl, hb⟩
  · have HV1 := Lib.hid hv1
    cases hv2 : Ch.validV l1 false
    · have HE : Hid (Gr.mapV l1 cl L = false) := Lib.hid (by unfold Gr.mapV; rw [hv1, hv2]; rfl)
      have HV2 := Lib.hid hv2
      clear hv1 hv2
      go_wp2_with (first | (go_at_call 83; (with_reducible refine (valid_any cl true cA cc _ (Rd.now H2.out hb) hn2 HW2.out).mono ?_); rintro e w2 ⟨rfl, hb2⟩; replace hb := bel hb hb2; rw [HV1.out]; have hB2 := HB.out.step hb2; have e2 := hB2.cell 2; have e3 := hB2.cell 3) | (go_at_call 83; (with_reducible refine (valid_any l1 false A1 c1 _ (Rd.now H1.out hb) hn1 HW1.out).mono ?_); rintro e w3 ⟨rfl, hb3⟩; replace hb := bel hb hb3; rw [HV2.out]; have hB3 := hB2.step hb3; have e4 := hB3.cell 3))
      go_ret
      exact ⟨by rw [HE.out]; rfl, hb⟩
    · have HV2 := Lib.hid hv2
      by_cases h400 : L.length ≤ 400
      · clear hv1 hv2
        go_wp2_with (first | (go_at_call 83; (with_reducible refine (valid_any cl true cA cc _ (Rd.now H2.out hb) hn2 HW2.out).mono ?_); rintro e w2 ⟨rfl, hb2⟩; replace hb := bel hb hb2; rw [HV1.out]; have hB2 := HB.out.step hb2; have e2 := hB2.cell 2; have e3 := hB2.cell 3) | (go_at_call 83; (with_reducible refine (valid_any l1 false A1 c1 _ (Rd.now H1.out hb) hn1 HW1.out).mono ?_); rintro e w3 ⟨rfl, hb3⟩; replace hb := bel hb hb3; rw [HV2.out]; have hB3 := hB2.step hb3; have e4 := hB3.cell 3; have e5 : (w3.alloc (.map #[] 0)).cell? ⟨w.heap.size, 3, none⟩ = some (.slice A2 L.length c2) := (hB3.alloc _).cell 3))
        have hl3 := hB3.lt
        have HB3 := Lib.hid hB3
        clear hB2 hB3 e2 e3 e4 e5
        go_loopw [28] (fun t wr => ∃ k : Nat, k ≤ L.length ∧ (∀ j, j < k → Gr.linkOk l1 cl L j = true) ∧ t = .int .i64 k ∧ SaysW Try.prog 118 4 wr w3.heap.size k (linkSeen L k) ∧ Blk wr w.heap.size 88 #[.string xn, .string xc, .slice A1 l1.length c1, .slice A2 L.length c2, .bool xj] ∧ Below w.heap.size w wr) (fun t _ => L.length - (intOf t).toNat)
        case atStart => exact ⟨0, by omega, fun j h => by omega, rfl, by rw [linkSeen_zero]; exact SaysW.made w3, HB3.out.alloc _, hb.alloc hb.size _⟩
        case round =>
          clear hb HB3
          obtain ⟨k, hk, hno, rfl, hS, hB, hb⟩ := hrel
          have HN := Lib.hid hno
          have hz := hb.size
          clear hno
          by_cases hlt : k < L.length
          · obtain ⟨b, o, hA, hbo, f0, f1, f2⟩ := LinkR.at_ (Rd.now H3.out hb) hlt
            subst hA
            obtain ⟨q1, q2, q3⟩ := HW3.out _ (List.getElem_mem hlt)
            have HX : Hid (Gr.linkOk l1 cl L k = (Gr.linkV l1 cl L[k] && !Gr.linkBefore L k)) := Lib.hid (by unfold Gr.linkOk; rw [getD_lt L k default hlt])
            have HS1 := Lib.hid (linkSeen_at L k hlt)
            have HS2 := Lib.hid (linkSeen_here L k hlt)
            have HS3 := Lib.hid (linkSeen_other L k hlt)
            generalize L[k] = x at *
            obtain ⟨f, t, s⟩ := x
            dsimp only at *
            obtain ⟨kl, hkl⟩ := link_key (a := f) (b := 0) (c := s) q1 (by decide) q3
            have hLL := ((hS.alloc (.cells #[.int .i64 f, .int .i64 t, .int .i64 s] 118)).alloc (.cells #[.int .i64 f, .int .i64 0, .int .i64 s] 118)).look (t := 178) keyed_link Try.underlying4 Try.underlying178 (zero_bool _) hkl
            rw [show linkSeen L k (.agg #[.int .i64 f, .int .i64 0, .int .i64 s]) = Gr.linkBefore L k from HS1.out] at hLL
            have hBB := (hB.alloc (.cells #[.int .i64 f, .int .i64 t, .int .i64 s] 118)).alloc (.cells #[.int .i64 f, .int .i64 0, .int .i64 s] 118)
            have e0 := hBB.cell 0
            have e1 := hBB.cell 1
            have e2 := hBB.cell 2
            have e3 := hBB.cell 3
            have e4 := hBB.cell 4
            have hbA : Below w.heap.size w ((wr.alloc (.cells #[.int .i64 f, .int .i64 t, .int .i64 s] 118)).alloc (.cells #[.int .i64 f, .int .i64 0, .int .i64 s] 118)) := (by repeat (first | exact hb | refine Below.alloc ?_ (by have hbs := hb.size; first | omega | (simp; done) | (simp; omega)) _ | refine Below.drew ?_ | refine below_drewN_ ?_ _ | refine Below.setCell ?_ (by simp) _))
            have hK0 := Blk.new (wr.alloc (.cells #[.int .i64 f, .int .i64 t, .int .i64 s] 118)) 118 #[.int .i64 f, .int .i64 0, .int .i64 s]
            have ez : (wr.alloc (.cells #[.int .i64 f, .int .i64 t, .int .i64 s] 118)).heap.size = wr.heap.size + 1 := by simp
            rw [ez] at hK0
            have HK := Lib.hid hK0
            have HBB := Lib.hid hBB
            have hSS := Lib.hid ((hS.alloc (.cells #[.int .i64 f, .int .i64 t, .int .i64 s] 118)).alloc (.cells #[.int .i64 f, .int .i64 0, .int .i64 s] 118))
            clear ez hK0 hBB hS hB HS1
            cases hbf : Gr.linkBefore L k
            · rw [hbf] at hLL HX
              clear hbf
              cases hv : Gr.linkV l1 cl ⟨f, t, s⟩
              · have HE : Hid (Gr.mapV l1 cl L = false) := Lib.hid (mapV_no hlt (by rw [HX.out, hv]; rfl))
                have HV := Lib.hid hv
                clear hv
                go_wp2_with (go_at_call 110; refine (link_any xn xc l1 A1 c1 (.bool true) xj cl cA cc f t s L.length (some ⟨b, o, none⟩) c2 _ (Rd.now H1.out hbA) (Rd.now H2.out hbA) hn1 hn2).mono ?_; rintro e w4 ⟨rfl, hb9⟩; rw [HV.out]; have hb4 := bel hbA hb9; clear hb9)
                go_ret
                exact ⟨by rw [HE.out]; rfl, hb4⟩
              · have HO : Hid (Gr.linkOk l1 cl L k = true) := Lib.hid (by rw [HX.out, hv]; rfl)
                have HV := Lib.hid hv
                clear hv
                go_wp2_with (first
                  | (go_at_call 110; refine (link_any xn xc l1 A1 c1 (.bool true) xj cl cA cc f t s L.length (some ⟨b, o, none⟩) c2 _ (Rd.now H1.out hbA) (Rd.now H2.out hbA) hn1 hn2).mono ?_; rintro e w4 ⟨rfl, hb9⟩; rw [HV.out]; have hb4 := bel hbA hb9; have hS4 := hSS.out.step hb9; have HB4 := Lib.hid (HBB.out.step hb9); have hK4 := HK.out.step hb9; have k0 := hK4.cell 0; have k1 := hK4.cell 1; have k2 := hK4.cell 2; clear hb9 e0 e1 e2 e3 e4)
                  | (at_mapUpdate; refine wpList_says_put (linkSeen L (k + 1)) rfl _ _ _ 178 rfl keyed_link Try.underlying4 Try.underlying178 hS4 (by unfold maxLen; omega) (.agg #[.int .i64 f, .int .i64 0, .int .i64 s]) kl true hkl rfl rfl rfl HS2.out (fun u lu _ hu => HS3.out u hu) ?_; intro w5 hS5 hg5))
                have hbz := hb4.size
                have hB5 := HB4.out.grown hg5 (by simp; omega)
                have hb5 : Below w.heap.size w w5 := Below.grown hb4 hg5 (by omega) (fun j hj => by injection hj with hj; omega)
                clear hg5 hS4 hK4 k0 k1 k2
                go_wp2_with fail
                go_roundw
                case rel =>
                  refine ⟨k + 1, by omega, fun j hj => ?_, by go_num, hS5, hB5, hb5⟩
                  by_cases e : j = k
                  · subst e; exact HO.out
                  · exact HN.out j (by omega)
                case measure => simp [intOf]; omega
            · rw [hbf] at hLL HX
              have HE : Hid (Gr.mapV l1 cl L = false) := Lib.hid (mapV_no hlt (by rw [HX.out]; simp))
              clear hbf
              go_wp2_with fail
              go_ret
              exact ⟨by rw [HE.out]; rfl, hbA⟩
          · have HE : Hid (Gr.mapV l1 cl L = true) := Lib.hid (by unfold Gr.mapV; rw [HV1.out, HV2.out, allAt_yes (fun j hj => HN.out j (by omega))]; simp [h400])
            go_wp2_with fail
            go_ret
            exact ⟨by rw [HE.out]; rfl, hb⟩
      · have HE : Hid (Gr.mapV l1 cl L = false) := Lib.hid (by unfold Gr.mapV; rw [hv1, hv2]; simp [h400])
        clear hv1 hv2
        go_wp2_with (first | (go_at_call 83; (with_reducible refine (valid_any cl true cA cc _ (Rd.now H2.out hb) hn2 HW2.out).mono ?_); rintro e w2 ⟨rfl, hb2⟩; replace hb := bel hb hb2; rw [HV1.out]; have hB2 := HB.out.step hb2; have e2 := hB2.cell 2; have e3 := hB2.cell 3) | (go_at_call 83; (with_reducible refine (valid_any l1 false A1 c1 _ (Rd.now H1.out hb) hn1 HW1.out).mono ?_); rintro e w3 ⟨rfl, hb3⟩; replace hb := bel hb hb3; rw [HV2.out]; have hB3 := hB2.step hb3; have e4 := hB3.cell 3))
        go_ret
        exact ⟨by rw [HE.out]; rfl, hb⟩
end Go.Proofs.Ythfbpbbepogllaa
/- The walk of the reference's mapping.Valid. -/
namespace Go.Proofs.Ythfbpbbepogllaa
set_option linter.unusedVariables false
set_option linter.unusedSimpArgs false
open Go.RowKit

theorem xfind_gen (l : List Acc) (c : Int) (A : Option Addr) (cap : Nat) (w : World) (hr : Rd w w.heap.size 4 A l.length (Ch.cells l)) (hn : l.length ≤ 300000) :
    Calls Try.prog 45 #[.slice A l.length cap, .int .i64 c] w (fun e w' => e = .returned (.tuple #[.agg #[.int .i64 (Ch.fnV l c).code, .int .i64 (Ch.fnV l c).kind, .int .i64 (Ch.fnV l c).basis, .int .i64 (Ch.fnV l c).parent], .bool (Ch.fnB l c)]) ∧ Below w.heap.size w w') :=
  (rfind_any l c A cap w hr hn).mono (fun _ _ h => h)
theorem linkBefore_yes {L : List LinkR} {k j : Nat} (hk : k < L.length) (hj : j < k) (h1 : (L[j]'(by omega)).from_ = L[k].from_) (h2 : (L[j]'(by omega)).since = L[k].since) : Gr.linkBefore L k = true := by
  unfold Gr.linkBefore
  rw [getD_lt L k default hk, List.any_eq_true]
  refine ⟨L[j]'(by omega), ?_, by rw [h1, h2]; simp⟩
  rw [List.mem_take_iff_getElem]
  exact ⟨j, by omega, rfl⟩
theorem linkBefore_no {L : List LinkR} {k : Nat} (hk : k < L.length) (h : ∀ j (hj : j < k), ¬ ((L[j]'(by omega)).from_ = L[k].from_ ∧ (L[j]'(by omega)).since = L[k].since)) : Gr.linkBefore L k = false := by
  unfold Gr.linkBefore
  rw [getD_lt L k default hk, List.any_eq_false]
  intro x hx
  rw [List.mem_take_iff_getElem] at hx
  obtain ⟨j, hj, rfl⟩ := hx
  have := h j (by omega)
  simpa using this
end Go.Proofs.Ythfbpbbepogllaa
