/- Texts of this claim, put together. -/
import Derived.Test.YtnddoehhcpejjaaGreatJAK
import Derived.Test.YtnddoehhcpejjaaGreatChartWalksHZ
import Derived.Test.YtnddoehhcpejjaaGreatJAA
/- The walk of the reference's mapping.Valid. -/
namespace Go.Proofs.YtnddoehhcpejjaaGreat
set_option linter.unusedVariables false
set_option linter.unusedSimpArgs false
open Go.RowKit

theorem rday_any (n : Int) (w : World) : Calls Tryz.prog 52 #[.int .i64 n] w fun e w' => e = .returned (.bool (Gr.dayV n)) ∧ w = w' := drvalid_any n w
theorem xvalid_gen (l : List Acc) (g : Bool) (A : Option Addr) (cap : Nat) (w : World) (hr : Rd w w.heap.size 4 A l.length (Ch.cells l)) (hn : l.length ≤ 300000) :
    Calls Tryz.prog 99 #[.slice A l.length cap, .bool g] w (BoolPost (Ch.validV l g) w) := by
  rw [Ch.valid_eq]
  exact rvalid_any l g A cap w hr hn
theorem xfind_gen (l : List Acc) (c : Int) (A : Option Addr) (cap : Nat) (w : World) (hr : Rd w w.heap.size 4 A l.length (Ch.cells l)) (hn : l.length ≤ 300000) :
    Calls Tryz.prog 106 #[.slice A l.length cap, .int .i64 c] w (fun e w' => e = .returned (.tuple #[.agg #[.int .i64 (Ch.fnV l c).code, .int .i64 (Ch.fnV l c).kind, .int .i64 (Ch.fnV l c).basis, .int .i64 (Ch.fnV l c).parent], .bool (Ch.fnB l c)]) ∧ Below w.heap.size w w') :=
  (rfind_any l c A cap w hr hn).mono (fun _ _ h => h)
theorem linkBefore_yes {L : List LinkR} {k j : Nat} (hk : k < L.length) (hj : j < k) (h1 : (L[j]'(by omega)).from_ = L[k].from_) (h2 : (L[j]'(by omega)).since = L[k].since) : Gr.linkBefore L k = true := by
  unfold Gr.linkBefore
  rw [getD_lt L k default hk, List.any_eq_true]
  refine ⟨L[j]'(by omega), ?_, by rw [h1, h2]; simp⟩
  rw [List.mem_take_iff_getElem]
  exact ⟨j, by omega, rfl⟩
theorem linkBefore_no {L : List LinkR} {k : Nat} (hk : k < L.length) (h : ∀ j (hj : j < k), ¬ ((L[j]'(by omega)).from_ = L[k].from_ ∧ (L[j]'(by omega)).since = L[k].since)) : Gr.linkBefore L k = false := by
  unfold Gr.linkBefore
  rw [getD_lt L k default hk, List.any_eq_false]
  intro x hx
  rw [List.mem_take_iff_getElem] at hx
  obtain ⟨j, hj, rfl⟩ := hx
  have := h j (by omega)
  simpa using this
set_option maxRecDepth 100000 in
set_option maxHeartbeats 8000000 in
theorem rmvalid_any (xn xc : ByteArray) (l1 : List Acc) (A1 : Option Addr) (c1 : Nat) (L : List LinkR) (A2 : Option Addr) (c2 : Nat) (xj : Bool) (cl : List Acc) (cA : Option Addr) (cc : Nat) (w : World)
    (h1 : Rd w w.heap.size 4 A1 l1.length (Ch.cells l1)) (h2 : Rd w w.heap.size 4 cA cl.length (Ch.cells cl)) (h3 : Rd w w.heap.size 3 A2 L.length (cellsOf LinkR.cells L)) (hn1 : l1.length ≤ 300000) (hn2 : cl.length ≤ 300000) :
    Calls Tryz.prog 104 #[.agg #[.string xn, .string xc, .slice A1 l1.length c1, .slice A2 L.length c2, .bool xj], .slice cA cl.length cc] w (BoolPost (Gr.mapV l1 cl L) w) := by
  have H1 := Lib.hid h1
  have H2 := Lib.hid h2
  have H3 := Lib.hid h3
  clear h1 h2 h3
  have hb : Below w.heap.size w (w.alloc (.cells #[.string xn, .string xc, .slice A1 l1.length c1, .slice A2 L.length c2, .bool xj] 90)) := by
    have hb := Below.refl w.heap.size w
    exact (by repeat (first | exact hb | refine Below.alloc ?_ (by have hbs := hb.size; first | omega | (simp; done) | (simp; omega)) _ | refine Below.drew ?_ | refine below_drewN_ ?_ _ | refine Below.setCell ?_ (by simp) _))
  have HB := Lib.hid (Blk.new w 90 #[.string xn, .string xc, .slice A1 l1.length c1, .slice A2 L.length c2, .bool xj])
  go_enter Tryz.func104, Tryz.ntmps104
  cases hv1 : Ch.validV cl true
  · have HE : Hid (Gr.mapV l1 cl L = false) := Lib.hid (by unfold Gr.mapV; rw [hv1]; rfl)
    have HV1 := Lib.hid hv1
    clear hv1
    go_wp2_with
      (go_at_call 99; (with_reducible refine (xvalid_gen cl true cA cc _ (Rd.now H2.out hb) hn2).mono ?_); rintro e w2 ⟨rfl, hb2⟩; replace hb := bel hb hb2; rw [HV1.out]; have hB2 := HB.out.step hb2; have e2 := hB2.cell 2; have e3 := hB2.cell 3)
    go_ret
    exact ⟨by rw [HE.out]; rfl, hb⟩
  · have HV1 := Lib.hid hv1
    cases hv2 : Ch.validV l1 false
    · have HE : Hid (Gr.mapV l1 cl L = false) := Lib.hid (by unfold Gr.mapV; rw [hv1, hv2]; rfl)
      have HV2 := Lib.hid hv2
      clear hv1 hv2
      go_wp2_with (first
        | (go_at_call 99; (with_reducible refine (xvalid_gen cl true cA cc _ (Rd.now H2.out hb) hn2).mono ?_); rintro e w2 ⟨rfl, hb2⟩; replace hb := bel hb hb2; rw [HV1.out]; have hB2 := HB.out.step hb2; have e2 := hB2.cell 2; have e3 := hB2.cell 3)
        | (go_at_call 99; (with_reducible refine (xvalid_gen l1 false A1 c1 _ (Rd.now H1.out hb) hn1).mono ?_); rintro e w3 ⟨rfl, hb3⟩; replace hb := bel hb hb3; rw [HV2.out]; have hB3 := hB2.step hb3; have e4 := hB3.cell 3))
      go_ret
      exact ⟨by rw [HE.out]; rfl, hb⟩
    · have HV2 := Lib.hid hv2
      by_cases h400 : L.length ≤ 400
      · clear hv1 hv2
        go_wp2_with (first
          | (go_at_call 99; (with_reducible refine (xvalid_gen cl true cA cc _ (Rd.now H2.out hb) hn2).mono ?_); rintro e w2 ⟨rfl, hb2⟩; replace hb := bel hb hb2; rw [HV1.out]; have hB2 := HB.out.step hb2; have e2 := hB2.cell 2; have e3 := hB2.cell 3)
          | (go_at_call 99; (with_reducible refine (xvalid_gen l1 false A1 c1 _ (Rd.now H1.out hb) hn1).mono ?_); rintro e w3 ⟨rfl, hb3⟩; replace hb := bel hb hb3; rw [HV2.out]; have hB3 := hB2.step hb3; have e4 := hB3.cell 3))
        have HB3 := Lib.hid hB3
        clear hB2 hB3 e2 e3 e4 HB hb2 hb3
        go_loopw [5] (fun t wr => ∃ k : Nat, k ≤ L.length ∧ (∀ j, j < k → Gr.linkOk l1 cl L j = true) ∧ t = .int .i64 k ∧ Below w3.heap.size w3 wr) (fun t _ => L.length - (intOf t).toNat)
        case atStart => exact ⟨0, by omega, fun j h => by omega, rfl, Below.refl _ _⟩
        case round =>
          obtain ⟨k, hk, hno, rfl, hbr⟩ := hrel
          obtain ⟨wo, rfl⟩ : ∃ wo : World, wo = wr := ⟨_, rfl⟩
          have HN := Lib.hid hno
          clear hno
          have hB := HB3.out.step hbr
          have hbw := bel hb hbr
          have hz := hbw.size
          have e3 : wo.cell? ⟨w.heap.size, 3, none⟩ = some (.slice A2 L.length c2) := hB.cell 3
          by_cases hlt : k < L.length
          · obtain ⟨b, o, hA, hbo, f0, f1, f2⟩ := LinkR.at_ (Rd.now H3.out hbw) hlt
            subst hA
            have HX : Hid (Gr.linkOk l1 cl L k = (Gr.linkV l1 cl L[k] && !Gr.linkBefore L k)) := Lib.hid (by unfold Gr.linkOk; rw [getD_lt L k default hlt])
            generalize hx : L[k] = x at *
            obtain ⟨f, t, s⟩ := x
            have HXX := Lib.hid hx
            clear hx
            dsimp only at *
            have HD : Hid (Gr.linkV l1 cl ⟨f, t, s⟩ = (Ch.fnB l1 f && (Ch.fnB cl t && (decide ((Ch.fnV l1 f).kind = (Ch.fnV cl t).kind) && Gr.dayV s)))) := Lib.hid rfl
            have K1 := Lib.hid (fun W h => xfind_gen l1 f A1 c1 W h hn1)
            have K2 := Lib.hid (fun W h => xfind_gen cl t cA cc W h hn2)
            have K3 := Lib.hid (fun W => rday_any s W)
            generalize Ch.fnV l1 f = a1 at *
            generalize Ch.fnB l1 f = b1 at *
            generalize Ch.fnV cl t = a2 at *
            generalize Ch.fnB cl t = b2 at *
            generalize Gr.dayV s = dv at *
            have hB1 := hB.alloc (.cells #[.int .i64 f, .int .i64 t, .int .i64 s] 126)
            have e2 : (wo.alloc (.cells #[.int .i64 f, .int .i64 t, .int .i64 s] 126)).cell? ⟨w.heap.size, 2, none⟩ = some (.slice A1 l1.length c1) := hB1.cell 2
            have HB1 := Lib.hid hB1
            have HL1 := Lib.hid (Blk.new wo 126 #[.int .i64 f, .int .i64 t, .int .i64 s])
            have hb4 : Below w.heap.size w (wo.alloc (.cells #[.int .i64 f, .int .i64 t, .int .i64 s] 126)) := hbw.alloc hz _
            have hbs4 : Below w3.heap.size w3 (wo.alloc (.cells #[.int .i64 f, .int .i64 t, .int .i64 s] 126)) := hbr.alloc hbr.size _
            clear hB hB1
            go_wp2_with fail
            clear e2 e3 f0 f1 f2
            generalize hgen : wo.alloc (.cells #[.int .i64 f, .int .i64 t, .int .i64 s] 126) = W at *
            clear hgen
            refine (K1.out W (Rd.now H1.out hb4)).mono ?_
            rintro e w5 ⟨rfl, hb9⟩
            have hb5 := (bel hb4 hb9).alloc (bel hb4 hb9).size (.cells #[.int .i64 a1.code, .int .i64 a1.kind, .int .i64 a1.basis, .int .i64 a1.parent] 121)
            have hbs5 := (bel hbs4 hb9).alloc (bel hbs4 hb9).size (.cells #[.int .i64 a1.code, .int .i64 a1.kind, .int .i64 a1.basis, .int .i64 a1.parent] 121)
            have HB5 := Lib.hid ((HB1.out.step hb9).alloc (.cells #[.int .i64 a1.code, .int .i64 a1.kind, .int .i64 a1.basis, .int .i64 a1.parent] 121))
            have HL5 := Lib.hid ((HL1.out.step hb9).alloc (.cells #[.int .i64 a1.code, .int .i64 a1.kind, .int .i64 a1.basis, .int .i64 a1.parent] 121))
            have HA5 := Lib.hid (Blk.new w5 121 #[.int .i64 a1.code, .int .i64 a1.kind, .int .i64 a1.basis, .int .i64 a1.parent])
            have g1 : (w5.alloc (.cells #[.int .i64 a1.code, .int .i64 a1.kind, .int .i64 a1.basis, .int .i64 a1.parent] 121)).cell? ⟨wo.heap.size, 1, none⟩ = some (.int .i64 t) := HL5.out.cell 1
            clear hb9 HB1 HL1 hb4 hbs4
            go_wp2_with fail
            clear g1
            generalize hgen : w5.alloc (.cells #[.int .i64 a1.code, .int .i64 a1.kind, .int .i64 a1.basis, .int .i64 a1.parent] 121) = W5 at *
            clear hgen
            refine (K2.out W5 (Rd.now H2.out hb5)).mono ?_
            rintro e w6 ⟨rfl, hb9⟩
            have hb8 := (bel hb5 hb9).alloc (bel hb5 hb9).size (.cells #[.int .i64 a2.code, .int .i64 a2.kind, .int .i64 a2.basis, .int .i64 a2.parent] 121)
            have hbs8 := (bel hbs5 hb9).alloc (bel hbs5 hb9).size (.cells #[.int .i64 a2.code, .int .i64 a2.kind, .int .i64 a2.basis, .int .i64 a2.parent] 121)
            have HB8 := Lib.hid ((HB5.out.step hb9).alloc (.cells #[.int .i64 a2.code, .int .i64 a2.kind, .int .i64 a2.basis, .int .i64 a2.parent] 121))
            have HL8 := Lib.hid ((HL5.out.step hb9).alloc (.cells #[.int .i64 a2.code, .int .i64 a2.kind, .int .i64 a2.basis, .int .i64 a2.parent] 121))
            have HA8 := (HA5.out.step hb9).alloc (.cells #[.int .i64 a2.code, .int .i64 a2.kind, .int .i64 a2.basis, .int .i64 a2.parent] 121)
            have g2 : (w6.alloc (.cells #[.int .i64 a2.code, .int .i64 a2.kind, .int .i64 a2.basis, .int .i64 a2.parent] 121)).cell? ⟨wo.heap.size, 2, none⟩ = some (.int .i64 s) := HL8.out.cell 2
            have g3 : (w6.alloc (.cells #[.int .i64 a2.code, .int .i64 a2.kind, .int .i64 a2.basis, .int .i64 a2.parent] 121)).cell? ⟨w5.heap.size, 1, none⟩ = some (.int .i64 a1.kind) := HA8.cell 1
            clear hb9 HB5 HL5 HA5 hb5 hbs5 HA8
            have HD' := Lib.hid HD.out
            clear HD
            cases b1
            · have hk3 : True := trivial
              have HE : Hid (Gr.mapV l1 cl L = false) := Lib.hid (mapV_no hlt (by rw [HX.out, HD'.out]; (try simp at hk3); simp [hk3]))
              go_wp2_with (go_at_call 52; refine ((K3.out _)).mono ?_; rintro e w2 ⟨rfl, rfl⟩)
              go_ret
              exact ⟨by rw [HE.out]; rfl, hb8⟩
            · cases b2
              · have hk3 : True := trivial
                have HE : Hid (Gr.mapV l1 cl L = false) := Lib.hid (mapV_no hlt (by rw [HX.out, HD'.out]; (try simp at hk3); simp [hk3]))
                go_wp2_with (go_at_call 52; refine ((K3.out _)).mono ?_; rintro e w2 ⟨rfl, rfl⟩)
                go_ret
                exact ⟨by rw [HE.out]; rfl, hb8⟩
              · cases hk3 : (a1.kind != a2.kind)
                · cases dv
                  · have HE : Hid (Gr.mapV l1 cl L = false) := Lib.hid (mapV_no hlt (by rw [HX.out, HD'.out]; (try simp at hk3); simp [hk3]))
                    go_wp2_with (go_at_call 52; refine ((K3.out _)).mono ?_; rintro e w2 ⟨rfl, rfl⟩)
                    go_ret
                    exact ⟨by rw [HE.out]; rfl, hb8⟩
                  · have HO : Hid (Gr.linkOk l1 cl L k = !Gr.linkBefore L k) := Lib.hid (by rw [HX.out, HD'.out]; simp at hk3; simp [hk3])
                    go_wp2_with (go_at_call 52; refine ((K3.out _)).mono ?_; rintro e w2 ⟨rfl, rfl⟩)
                    clear g2 g3
                    generalize hgen : w6.alloc (.cells #[.int .i64 a2.code, .int .i64 a2.kind, .int .i64 a2.basis, .int .i64 a2.parent] 121) = W6 at *
                    clear hgen hk3 HX HD' K1 K2 K3
                    have HLW : Hid (wo.heap.size < W6.heap.size) := Lib.hid HL8.out.lt
                    have HBW : Hid (w.heap.size < W6.heap.size) := Lib.hid HB8.out.lt
                    go_loopw [11] (fun t wr => ∃ j : Nat, j ≤ k ∧ (∀ i (h : i < k), i < j → ¬ ((L[i]'(by omega)).from_ = L[k].from_ ∧ (L[i]'(by omega)).since = L[k].since)) ∧ t = .int .i64 j ∧ Below W6.heap.size W6 wr) (fun t _ => k - (intOf t).toNat)
                    case atStart => exact ⟨0, by omega, fun i _ h => by omega, rfl, Below.refl _ _⟩
                    case round =>
                      obtain ⟨j, hj, hnj, rfl, hbi⟩ := hrel
                      have HNJ := Lib.hid hnj
                      clear hnj
                      by_cases hjk : j < k
                      · have hjl : j < L.length := by omega
                        have hbz := hbi.size
                        obtain ⟨b', o', hA', hbo', p0, -, p2⟩ := LinkR.at_ (Rd.now H3.out (bel hb8 hbi)) hjl
                        injection hA' with hA'
                        injection hA' with hA1 hA2
                        subst hA1 hA2
                        have q0 : ∀ d : Later wr, d.now.cell? ⟨b, o + j * 3, none⟩ = some (.int .i64 (L[j]'hjl).from_) := fun d => d.cell hbo' p0
                        have q2 : ∀ d : Later wr, d.now.cell? ⟨b, o + j * 3 + 2, none⟩ = some (.int .i64 (L[j]'hjl).since) := fun d => d.cell hbo' p2
                        have q3 : ∀ d : Later wr, d.now.cell? ⟨w.heap.size, 3, none⟩ = some (.slice (some ⟨b, o, none⟩) L.length c2) := fun d => d.cell (HB8.out.step hbi).lt ((HB8.out.step hbi).cell 3)
                        have q4 : ∀ d : Later wr, d.now.cell? ⟨wo.heap.size, 0, none⟩ = some (.int .i64 f) := fun d => d.cell (HL8.out.step hbi).lt ((HL8.out.step hbi).cell 0)
                        have q5 : ∀ d : Later wr, d.now.cell? ⟨wo.heap.size, 2, none⟩ = some (.int .i64 s) := fun d => d.cell (HL8.out.step hbi).lt ((HL8.out.step hbi).cell 2)
                        clear p0 p2
                        cases hf : ((L[j]'hjl).from_ == f)
                        · have HNE : Hid (¬ ((L[j]'hjl).from_ = f ∧ (L[j]'hjl).since = s)) := Lib.hid (fun e => by simp at hf; exact hf e.1)
                          go_wp2_with fail
                          refine wp_region_later (by kernel_rfl) (by kernel_rfl) ?_; (repeat (go_big_quiet_step ((fail)))); refine wpQuiet_nil ?_; rintro _ ⟨dq, rfl⟩
                          have hbe := bel hbi dq.below
                          go_wp2_with fail
                          go_roundw
                          case rel =>
                            refine ⟨j + 1, by omega, fun i hi hij => ?_, by go_num, hbe⟩
                            by_cases e : i = j
                            · subst e; rw [HXX.out]; exact HNE.out
                            · exact HNJ.out i hi (by omega)
                          case measure => simp [intOf]; omega
                        · cases hs : ((L[j]'hjl).since == s)
                          · have HNE : Hid (¬ ((L[j]'hjl).from_ = f ∧ (L[j]'hjl).since = s)) := Lib.hid (fun e => by simp at hs; exact hs e.2)
                            go_wp2_with fail
                            refine wp_region_later (by kernel_rfl) (by kernel_rfl) ?_; (repeat (go_big_quiet_step ((fail)))); refine wpQuiet_nil ?_; rintro _ ⟨dq, rfl⟩
                            have hbe := bel hbi dq.below
                            go_wp2_with fail
                            go_roundw
                            case rel =>
                              refine ⟨j + 1, by omega, fun i hi hij => ?_, by go_num, hbe⟩
                              by_cases e : i = j
                              · subst e; rw [HXX.out]; exact HNE.out
                              · exact HNJ.out i hi (by omega)
                            case measure => simp [intOf]; omega
                          · have HE : Hid (Gr.mapV l1 cl L = false) := Lib.hid (mapV_no hlt (by rw [HO.out, linkBefore_yes hlt hjk (by rw [HXX.out]; simpa using hf) (by rw [HXX.out]; simpa using hs)]; rfl))
                            go_wp2_with fail
                            refine wp_region_later (by kernel_rfl) (by kernel_rfl) ?_; (repeat (go_big_quiet_step ((fail)))); refine wpQuiet_nil ?_; rintro _ ⟨dq, rfl⟩
                            have hbe := bel (bel hb8 hbi) dq.below
                            go_wp2_with fail
                            go_ret
                            exact ⟨by rw [HE.out]; rfl, hbe⟩
                      · have HOK : Hid (Gr.linkOk l1 cl L k = true) := Lib.hid (by rw [HO.out, linkBefore_no hlt fun i hi => HNJ.out i hi (by omega)]; rfl)
                        have hbe := bel hbs8 hbi
                        go_wp2_with fail
                        go_roundw
                        case rel =>
                          refine ⟨k + 1, by omega, fun j hj => ?_, by go_num, hbe⟩
                          by_cases e : j = k
                          · subst e; exact HOK.out
                          · exact HN.out j (by omega)
                        case measure => simp [intOf]; omega
                · have HE : Hid (Gr.mapV l1 cl L = false) := Lib.hid (mapV_no hlt (by rw [HX.out, HD'.out]; (try simp at hk3); simp [hk3]))
                  go_wp2_with (go_at_call 52; refine ((K3.out _)).mono ?_; rintro e w2 ⟨rfl, rfl⟩)
                  go_ret
                  exact ⟨by rw [HE.out]; rfl, hb8⟩
          · have HE : Hid (Gr.mapV l1 cl L = true) := Lib.hid (by unfold Gr.mapV; rw [HV1.out, HV2.out, allAt_yes (fun j hj => HN.out j (by omega))]; simp [h400])
            clear hB
            go_wp2_with fail
            go_ret
            exact ⟨by rw [HE.out]; rfl, hbw⟩
      · have HE : Hid (Gr.mapV l1 cl L = false) := Lib.hid (by unfold Gr.mapV; rw [hv1, hv2]; simp [h400])
        clear hv1 hv2
        go_wp2_with (first
          | (go_at_call 99; (with_reducible refine (xvalid_gen cl true cA cc _ (Rd.now H2.out hb) hn2).mono ?_); rintro e w2 ⟨rfl, hb2⟩; replace hb := bel hb hb2; rw [HV1.out]; have hB2 := HB.out.step hb2; have e2 := hB2.cell 2; have e3 := hB2.cell 3)
          | (go_at_call 99; (with_reducible refine (xvalid_gen l1 false A1 c1 _ (Rd.now H1.out hb) hn1).mono ?_); rintro e w3 ⟨rfl, hb3⟩; replace hb := bel hb hb3; rw [HV2.out]; have hB3 := hB2.step hb3; have e4 := hB3.cell 3))
        go_ret
        exact ⟨by rw [HE.out]; rfl, hb⟩
end Go.Proofs.YtnddoehhcpejjaaGreat
