/- Texts of this claim, put together. -/
import Derived.Test.YtnkmjdaeafeaaaaJAJ
import Derived.Test.YtnkmjdaeafeaaaaChartWalksHZ
import Derived.Test.YtnkmjdaeafeaaaaJAA
import Derived.Test.YtnkmjdaeafeaaaaJAH
/- The walk of the reference's mapping.Valid. -/
namespace Go.Proofs.Ytnkmjdaeafeaaaa
set_option linter.unusedVariables false
set_option linter.unusedSimpArgs false
open Go.RowKit

theorem rday_any (n : Int) (w : World) : Calls Try.prog 127 #[.int .i64 n] w fun e w' => e = .returned (.bool (Gr.dayV n)) ∧ w = w' := drvalid_any n w
theorem xvalid_gen (l : List Acc) (g : Bool) (A : Option Addr) (cap : Nat) (w : World) (hr : Rd w w.heap.size 4 A l.length (Ch.cells l)) (hn : l.length ≤ 300000) :
    Calls Try.prog 86 #[.slice A l.length cap, .bool g] w (BoolPost (Ch.validV l g) w) := by
  rw [Ch.valid_eq]
  exact rvalid_any l g A cap w hr hn
theorem xfind_gen (l : List Acc) (c : Int) (A : Option Addr) (cap : Nat) (w : World) (hr : Rd w w.heap.size 4 A l.length (Ch.cells l)) (hn : l.length ≤ 300000) :
    Calls Try.prog 110 #[.slice A l.length cap, .int .i64 c] w (fun e w' => e = .returned (.tuple #[.agg #[.int .i64 (Ch.fnV l c).code, .int .i64 (Ch.fnV l c).kind, .int .i64 (Ch.fnV l c).basis, .int .i64 (Ch.fnV l c).parent], .bool (Ch.fnB l c)]) ∧ Below w.heap.size w w') :=
  (rfind_any l c A cap w hr hn).mono (fun _ _ h => h)
theorem linkBefore_yes {L : List LinkR} {k j : Nat} (hk : k < L.length) (hj : j < k) (h1 : (L[j]'(by omega)).from_ = L[k].from_) (h2 : (L[j]'(by omega)).since = L[k].since) : Gr.linkBefore L k = true := by
  unfold Gr.linkBefore
  rw [getD_lt L k default hk, List.any_eq_true]
  refine ⟨L[j]'(by omega), ?_, by rw [h1, h2]; simp⟩
  rw [List.mem_take_iff_getElem]
  exact ⟨j, by omega, rfl⟩
theorem linkBefore_no {L : List LinkR} {k : Nat} (hk : k < L.length) (h : ∀ j (hj : j < k), ¬ ((L[j]'(by omega)).from_ = L[k].from_ ∧ (L[j]'(by omega)).since = L[k].since)) : Gr.linkBefore L k = false := by
  unfold Gr.linkBefore
  rw [getD_lt L k default hk, List.any_eq_false]
  intro x hx
  rw [List.mem_take_iff_getElem] at hx
  obtain ⟨j, hj, rfl⟩ := hx
  have := h j (by omega)
  simpa using this
set_option maxRecDepth 100000 in
set_option maxHeartbeats 8000000 in
theorem rmvalid_any (xn xc : ByteArray) (l1 : List Acc) (A1 : Option Addr) (c1 : Nat) (L : List LinkR) (A2 : Option Addr) (c2 : Nat) (xj : Bool) (cl : List Acc) (cA : Option Addr) (cc : Nat) (w : World)
    (h1 : Rd w w.heap.size 4 A1 l1.length (Ch.cells l1)) (h2 : Rd w w.heap.size 4 cA cl.length (Ch.cells cl)) (h3 : Rd w w.heap.size 3 A2 L.length (cellsOf LinkR.cells L)) (hn1 : l1.length ≤ 300000) (hn2 : cl.length ≤ 300000) :
    Calls Try.prog 90 #[.agg #[.string xn, .string xc, .slice A1 l1.length c1, .slice A2 L.length c2, .bool xj], .slice cA cl.length cc] w (BoolPost (Gr.mapV l1 cl L) w) := by
  have H1 := Lib.hid h1
  have H2 := Lib.hid h2
  have H3 := Lib.hid h3
  clear h1 h2 h3
  have hb : Below w.heap.size w (w.alloc (.cells #[.string xn, .string xc, .slice A1 l1.length c1, .slice A2 L.length c2, .bool xj] 36)) := by
    have hb := Below.refl w.heap.size w
    exact (by repeat (first | exact hb | refine Below.alloc ?_ (by have hbs := hb.size; first | omega | (simp; done) | (simp; omega)) _ | refine Below.drew ?_ | refine below_drewN_ ?_ _ | refine Below.setCell ?_ (by simp) _))
  have HB := Lib.hid (Blk.new w 36 #[.string xn, .string xc, .slice A1 l1.length c1, .slice A2 L.length c2, .bool xj])
  go_enter Try.func90, Try.ntmps90
  cases hv1 : Ch.validV cl true
  · have HE : Hid (Gr.mapV l1 cl L = false) := Lib.hid (by unfold Gr.mapV; rw [hv1]; rfl)
    have HV1 := Lib.hid hv1
    clear hv1
    go_wp2_with
      (go_at_call 86; (with_reducible refine (xvalid_gen cl true cA cc _ (Rd.now H2.out hb) hn2).mono ?_); rintro e w2 ⟨rfl, hb2⟩; replace hb := bel hb hb2; rw [HV1.out]; have hB2 := HB.out.step hb2; have e2 := hB2.cell 2; have e3 := hB2.cell 3)
    go_ret
    exact ⟨by rw [HE.out]; rfl, hb⟩
  · have HV1 := Lib.hid hv1
    cases hv2 : Ch.validV l1 false
    · have HE : Hid (Gr.mapV l1 cl L = false) := Lib.hid (by unfold Gr.mapV; rw [hv1, hv2]; rfl)
      have HV2 := Lib.hid hv2
      clear hv1 hv2
      go_wp2_with (first
        | (go_at_call 86; (with_reducible refine (xvalid_gen cl true cA cc _ (Rd.now H2.out hb) hn2).mono ?_); rintro e w2 ⟨rfl, hb2⟩; replace hb := bel hb hb2; rw [HV1.out]; have hB2 := HB.out.step hb2; have e2 := hB2.cell 2; have e3 := hB2.cell 3)
        | (go_at_call 86; (with_reducible refine (xvalid_gen l1 false A1 c1 _ (Rd.now H1.out hb) hn1).mono ?_); rintro e w3 ⟨rfl, hb3⟩; replace hb := bel hb hb3; rw [HV2.out]; have hB3 := hB2.step hb3; have e4 := hB3.cell 3))
      go_ret
      exact ⟨by rw [HE.out]; rfl, hb⟩
    · have HV2 := Lib.hid hv2
      by_cases h400 : L.length ≤ 400
      · clear hv1 hv2
        go_wp2_with (first
          | (go_at_call 86; (with_reducible refine (xvalid_gen cl true cA cc _ (Rd.now H2.out hb) hn2).mono ?_); rintro e w2 ⟨rfl, hb2⟩; replace hb := bel hb hb2; rw [HV1.out]; have hB2 := HB.out.step hb2; have e2 := hB2.cell 2; have e3 := hB2.cell 3)
          | (go_at_call 86; (with_reducible refine (xvalid_gen l1 false A1 c1 _ (Rd.now H1.out hb) hn1).mono ?_); rintro e w3 ⟨rfl, hb3⟩; replace hb := bel hb hb3; rw [HV2.out]; have hB3 := hB2.step hb3; have e4 := hB3.cell 3))
        have HB3 := Lib.hid hB3
        clear hB2 hB3 e2 e3 e4 HB hb2 hb3
        go_loopw [5] (fun t wr => ∃ k : Nat, k ≤ L.length ∧ (∀ j, j < k → Gr.linkOk l1 cl L j = true) ∧ t = .int .i64 k ∧ Below w3.heap.size w3 wr) (fun t _ => L.length - (intOf t).toNat)
        case atStart => exact ⟨0, by omega, fun j h => by omega, rfl, Below.refl _ _⟩
        case round =>
          obtain ⟨k, hk, hno, rfl, hbr⟩ := hrel
          obtain ⟨wo, rfl⟩ : ∃ wo : World, wo = wr := ⟨_, rfl⟩
          have HN := Lib.hid hno
          clear hno
          have hB := HB3.out.step hbr
          have hbw := bel hb hbr
          have hz := hbw.size
          have e3 : wo.cell? ⟨w.heap.size, 3, none⟩ = some (.slice A2 L.length c2) := hB.cell 3
          by_cases hlt : k < L.length
          · obtain ⟨b, o, hA, hbo, f0, f1, f2⟩ := LinkR.at_ (Rd.now H3.out hbw) hlt
            subst hA
            have HX : Hid (Gr.linkOk l1 cl L k = (Gr.linkV l1 cl L[k] && !Gr.linkBefore L k)) := Lib.hid (by unfold Gr.linkOk; rw [getD_lt L k default hlt])
            generalize hx : L[k] = x at *
            obtain ⟨f, t, s⟩ := x
            have HXX := Lib.hid hx
            clear hx
            dsimp only at *
            have HD : Hid (Gr.linkV l1 cl ⟨f, t, s⟩ = (Ch.fnB l1 f && (Ch.fnB cl t && (decide ((Ch.fnV l1 f).kind = (Ch.fnV cl t).kind) && Gr.dayV s)))) := Lib.hid rfl
            have K1 := Lib.hid (fun W h => xfind_gen l1 f A1 c1 W h hn1)
            have K2 := Lib.hid (fun W h => xfind_gen cl t cA cc W h hn2)
            have K3 := Lib.hid (fun W => rday_any s W)
            generalize Ch.fnV l1 f = a1 at *
            generalize Ch.fnB l1 f = b1 at *
            generalize Ch.fnV cl t = a2 at *
            generalize Ch.fnB cl t = b2 at *
            generalize Gr.dayV s = dv at *
            have hB1 := hB.alloc (.cells #[.int .i64 f, .int .i64 t, .int .i64 s] 168)
            have e2 : (wo.alloc (.cells #[.int .i64 f, .int .i64 t, .int .i64 s] 168)).cell? ⟨w.heap.size, 2, none⟩ = some (.slice A1 l1.length c1) := hB1.cell 2
            have HB1 := Lib.hid hB1
            have HL1 := Lib.hid (Blk.new wo 168 #[.int .i64 f, .int .i64 t, .int .i64 s])
            have hb4 : Below w.heap.size w (wo.alloc (.cells #[.int .i64 f, .int .i64 t, .int .i64 s] 168)) := hbw.alloc hz _
            have hbs4 : Below w3.heap.size w3 (wo.alloc (.cells #[.int .i64 f, .int .i64 t, .int .i64 s] 168)) := hbr.alloc hbr.size _
            clear hB hB1
            go_wp2_with fail
            clear e2 e3 f0 f1 f2
            generalize hgen : wo.alloc (.cells #[.int .i64 f, .int .i64 t, .int .i64 s] 168) = W at *
            clear hgen
            refine (K1.out W (Rd.now H1.out hb4)).mono ?_
            rintro e w5 ⟨rfl, hb9⟩
            have hb5 := (bel hb4 hb9).alloc (bel hb4 hb9).size (.cells #[.int .i64 a1.code, .int .i64 a1.kind, .int .i64 a1.basis, .int .i64 a1.parent] 124)
            have hbs5 := (bel hbs4 hb9).alloc (bel hbs4 hb9).size (.cells #[.int .i64 a1.code, .int .i64 a1.kind, .int .i64 a1.basis, .int .i64 a1.parent] 124)
            have HB5 := Lib.hid ((HB1.out.step hb9).alloc (.cells #[.int .i64 a1.code, .int .i64 a1.kind, .int .i64 a1.basis, .int .i64 a1.parent] 124))
            have HL5 := Lib.hid ((HL1.out.step hb9).alloc (.cells #[.int .i64 a1.code, .int .i64 a1.kind, .int .i64 a1.basis, .int .i64 a1.parent] 124))
            have HA5 := Lib.hid (Blk.new w5 124 #[.int .i64 a1.code, .int .i64 a1.kind, .int .i64 a1.basis, .int .i64 a1.parent])
            have g1 : (w5.alloc (.cells #[.int .i64 a1.code, .int .i64 a1.kind, .int .i64 a1.basis, .int .i64 a1.parent] 124)).cell? ⟨wo.heap.size, 1, none⟩ = some (.int .i64 t) := HL5.out.cell 1
            clear hb9 HB1 HL1 hb4 hbs4
            go_wp2_with fail
            clear g1
            generalize hgen : w5.alloc (.cells #[.int .i64 a1.code, .int .i64 a1.kind, .int .i64 a1.basis, .int .i64 a1.parent] 124) = W5 at *
            clear hgen
            refine (K2.out W5 (Rd.now H2.out hb5)).mono ?_
            rintro e w6 ⟨rfl, hb9⟩
            have hb8 := (bel hb5 hb9).alloc (bel hb5 hb9).size (.cells #[.int .i64 a2.code, .int .i64 a2.kind, .int .i64 a2.basis, .int .i64 a2.parent] 124)
            have hbs8 := (bel hbs5 hb9).alloc (bel hbs5 hb9).size (.cells #[.int .i64 a2.code, .int .i64 a2.kind, .int .i64 a2.basis, .int .i64 a2.parent] 124)
            have HB8 := Lib.hid ((HB5.out.step hb9).alloc (.cells #[.int .i64 a2.code, .int .i64 a2.kind, .int .i64 a2.basis, .int .i64 a2.parent] 124))
            have HL8 := Lib.hid ((HL5.out.step hb9).alloc (.cells #[.int .i64 a2.code, .int .i64 a2.kind, .int .i64 a2.basis, .int .i64 a2.parent] 124))
            have HA8 := (HA5.out.step hb9).alloc (.cells #[.int .i64 a2.code, .int .i64 a2.kind, .int .i64 a2.basis, .int .i64 a2.parent] 124)
            have g2 : (w6.alloc (.cells #[.int .i64 a2.code, .int .i64 a2.kind, .int .i64 a2.basis, .int .i64 a2.parent] 124)).cell? ⟨wo.heap.size, 2, none⟩ = some (.int .i64 s) := HL8.out.cell 2
            have g3 : (w6.alloc (.cells #[.int .i64 a2.code, .int .i64 a2.kind, .int .i64 a2.basis, .int .i64 a2.parent] 124)).cell? ⟨w5.heap.size, 1, none⟩ = some (.int .i64 a1.kind) := HA8.cell 1
            clear hb9 HB5 HL5 HA5 hb5 hbs5 HA8
            have HD' := Lib.hid HD.out
            clear HD
            cases b1
            · have hk3 : True := trivial
              have HE : Hid (Gr.mapV l1 cl L = false) := Lib.hid (mapV_no hlt (by rw [HX.out, HD'.out]; (try simp at hk3); simp [hk3]))
              go_wp2_with (go_at_call 127; refine ((K3.out _)).mono ?_; rintro e w2 ⟨rfl, rfl⟩)
              go_ret
              exact ⟨by rw [HE.out]; rfl, hb8⟩
            · cases b2
              · have hk3 : True := trivial
                have HE : Hid (Gr.mapV l1 cl L = false) := Lib.hid (mapV_no hlt (by rw [HX.out, HD'.out]; (try simp at hk3); simp [hk3]))
                go_wp2_with (go_at_call 127; refine ((K3.out _)).mono ?_; rintro e w2 ⟨rfl, rfl⟩)
                go_ret
                exact ⟨by rw [HE.out]; rfl, hb8⟩
              · cases hk3 : (a1.kind != a2.kind)
                · cases dv
                  · have HE : Hid (Gr.mapV l1 cl L = false) := Lib.hid (mapV_no hlt (by rw [HX.out, HD'.out]; (try simp at hk3); simp [hk3]))
                    go_wp2_with (go_at_call 127; refine ((K3.out _)).mono ?_; rintro e w2 ⟨rfl, rfl⟩)
                    go_ret
                    exact ⟨by rw [HE.out]; rfl, hb8⟩
                  · have HO : Hid (Gr.linkOk l1 cl L k = !Gr.linkBefore L k) := Lib.hid (by rw [HX.out, HD'.out]; simp at hk3; simp [hk3])
                    go_wp2_with (go_at_call 127; refine ((K3.out _)).mono ?_; rintro e w2 ⟨rfl, rfl⟩)
                    clear g2 g3
                    generalize hgen : w6.alloc (.cells #[.int .i64 a2.code, .int .i64 a2.kind, .int .i64 a2.basis, .int .i64 a2.parent] 124) = W6 at *
                    clear hgen hk3 HX HD' K1 K2 K3
                    have HLW : Hid (wo.heap.size < W6.heap.size) := Lib.hid HL8.out.lt
                    have HBW : Hid (w.heap.size < W6.heap.size) := Lib.hid HB8.out.lt
                    go_loopw [11] (fun t wr => ∃ j : Nat, j ≤ k ∧ (∀ i (h : i < k), i < j → ¬ ((L[i]'(by omega)).from_ = L[k].from_ ∧ (L[i]'(by omega)).since = L[k].since)) ∧ t = .int .i64 j ∧ Below W6.heap.size W6 wr) (fun t _ => k - (intOf t).toNat)
                    case atStart => exact ⟨0, by omega, fun i _ h => by omega, rfl, Below.refl _ _⟩
                    case round =>
                      obtain ⟨j, hj, hnj, rfl, hbi⟩ := hrel
                      have HNJ := Lib.hid hnj
                      clear hnj
                      by_cases hjk : j < k
                      · have hjl : j < L.length := by omega
                        have hbz := hbi.size
                        obtain ⟨b', o', hA', hbo', p0, -, p2⟩ := LinkR.at_ (Rd.now H3.out (bel hb8 hbi)) hjl
                        injection hA' with hA'
                        injection hA' with hA1 hA2
                        subst hA1 hA2
                        have q0 : ∀ d : Later wr, d.now.cell? ⟨b, o + j * 3, none⟩ = some (.int .i64 (L[j]'hjl).from_) := fun d => d.cell hbo' p0
                        have q2 : ∀ d : Later wr, d.now.cell? ⟨b, o + j * 3 + 2, none⟩ = some (.int .i64 (L[j]'hjl).since) := fun d => d.cell hbo' p2
                        have q3 : ∀ d : Later wr, d.now.cell? ⟨w.heap.size, 3, none⟩ = some (.slice (some ⟨b, o, none⟩) L.length c2) := fun d => d.cell (HB8.out.step hbi).lt ((HB8.out.step hbi).cell 3)
                        have q4 : ∀ d : Later wr, d.now.cell? ⟨wo.heap.size, 0, none⟩ = some (.int .i64 f) := fun d => d.cell (HL8.out.step hbi).lt ((HL8.out.step hbi).cell 0)
                        have q5 : ∀ d : Later wr, d.now.cell? ⟨wo.heap.size, 2, none⟩ = some (.int .i64 s) := fun d => d.cell (HL8.out.step hbi).lt ((HL8.out.step hbi).cell 2)
                        clear p0 p2
                        cases hf : ((L[j]'hjl).from_ == f)
                        · have HNE : Hid (¬ ((L[j]'hjl).from_ = f ∧ (L[j]'hjl).since = s)) := Lib.hid (fun e => by simp at hf; exact hf e.1)
                          go_wp2_with fail
                          refine wp_region_later (by kernel_rfl) (by kernel_rfl) ?_; (repeat (go_big_quiet_step ((fail)))); refine wpQuiet_nil ?_; rintro _ ⟨dq, rfl⟩
                          have hbe := bel hbi dq.below
                          go_wp2_with fail
                          go_roundw
                          case rel =>
                            refine ⟨j + 1, by omega, fun i hi hij => ?_, by go_num, hbe⟩
                            by_cases e : i = j
                            · subst e; rw [HXX.out]; exact HNE.out
                            · exact HNJ.out i hi (by omega)
                          case measure => simp [intOf]; omega
                        · cases hs : ((L[j]'hjl).since == s)
                          · have HNE : Hid (¬ ((L[j]'hjl).from_ = f ∧ (L[j]'hjl).since = s)) := Lib.hid (fun e => by simp at hs; exact hs e.2)
                            go_wp2_with fail
                            refine wp_region_later (by kernel_rfl) (by kernel_rfl) ?_; (repeat (go_big_quiet_step ((fail)))); refine wpQuiet_nil ?_; rintro _ ⟨dq, rfl⟩
                            have hbe := bel hbi dq.below
                            go_wp2_with fail
                            go_roundw
                            case rel =>
                              refine ⟨j + 1, by omega, fun i hi hij => ?_, by go_num, hbe⟩
                              by_cases e : i = j
                              · subst e; rw [HXX.out]; exact HNE.out
                              · exact HNJ.out i hi (by omega)
                            case measure => simp [intOf]; omega
                          · have HE : Hid (Gr.mapV l1 cl L = false) := Lib.hid (mapV_no hlt (by rw [HO.out, linkBefore_yes hlt hjk (by rw [HXX.out]; simpa using hf) (by rw [HXX.out]; simpa using hs)]; rfl))
                            go_wp2_with fail
                            refine wp_region_later (by kernel_rfl) (by kernel_rfl) ?_; (repeat (go_big_quiet_step ((fail)))); refine wpQuiet_nil ?_; rintro _ ⟨dq, rfl⟩
                            have hbe := bel (bel hb8 hbi) dq.below
                            go_wp2_with fail
                            go_ret
                            exact ⟨by rw [HE.out]; rfl, hbe⟩
                      · have HOK : Hid (Gr.linkOk l1 cl L k = true) := Lib.hid (by rw [HO.out, linkBefore_no hlt fun i hi => HNJ.out i hi (by omega)]; rfl)
                        have hbe := bel hbs8 hbi
                        go_wp2_with fail
                        go_roundw
                        case rel =>
                          refine ⟨k + 1, by omega, fun j hj => ?_, by go_num, hbe⟩
                          by_cases e : j = k
                          · subst e; exact HOK.out
                          · exact HN.out j (by omega)
                        case measure => simp [intOf]; omega
                · have HE : Hid (Gr.mapV l1 cl L = false) := Lib.hid (mapV_no hlt (by rw [HX.out, HD'.out]; (try simp at hk3); simp [hk3]))
                  go_wp2_with (go_at_call 127; refine ((K3.out _)).mono ?_; rintro e w2 ⟨rfl, rfl⟩)
                  go_ret
                  exact ⟨by rw [HE.out]; rfl, hb8⟩
          · have HE : Hid (Gr.mapV l1 cl L = true) := Lib.hid (by unfold Gr.mapV; rw [HV1.out, HV2.out, allAt_yes (fun j hj => HN.out j (by omega))]; simp [h400])
            clear hB
            go_wp2_with fail
            go_ret
            exact ⟨by rw [HE.out]; rfl, hbw⟩
      · have HE : Hid (Gr.mapV l1 cl L = false) := Lib.hid (by unfold Gr.mapV; rw [hv1, hv2]; simp [h400])
        clear hv1 hv2
        go_wp2_with (first
          | (go_at_call 86; (with_reducible refine (xvalid_gen cl true cA cc _ (Rd.now H2.out hb) hn2).mono ?_); rintro e w2 ⟨rfl, hb2⟩; replace hb := bel hb hb2; rw [HV1.out]; have hB2 := HB.out.step hb2; have e2 := hB2.cell 2; have e3 := hB2.cell 3)
          | (go_at_call 86; (with_reducible refine (xvalid_gen l1 false A1 c1 _ (Rd.now H1.out hb) hn1).mono ?_); rintro e w3 ⟨rfl, hb3⟩; replace hb := bel hb hb3; rw [HV2.out]; have hB3 := hB2.step hb3; have e4 := hB3.cell 3))
        go_ret
        exact ⟨by rw [HE.out]; rfl, hb⟩
end Go.Proofs.Ytnkmjdaeafeaaaa
/- The walk of group.accounts. -/
namespace Go.Proofs.Ytnkmjdaeafeaaaa
set_option linter.unusedVariables false
set_option linter.unusedSimpArgs false
open Go.RowKit

theorem fidx_any {α : Type} (q : α → Bool) (l : List α) : decide (0 ≤ fidx q l) = l.any q := by
  unfold fidx
  cases hf : l.findIdx? q with
  | none =>
    rw [List.findIdx?_eq_none_iff] at hf
    have : l.any q = false := by rw [List.any_eq_false]; intro x hx; simpa using hf x hx
    rw [this]; rfl
  | some k =>
    rw [List.findIdx?_eq_some_iff_getElem] at hf
    obtain ⟨hk, h1, -⟩ := hf
    have : l.any q = true := by rw [List.any_eq_true]; exact ⟨l[k], List.getElem_mem hk, h1⟩
    rw [this]; simp
def unbased (a : Acc) : Bool := !Gr.based a
theorem unbased_any (l : List Acc) : l.any unbased = !Gr.basedAll l := by
  rw [Bool.eq_iff_iff]
  unfold Gr.basedAll unbased
  cases h : allAt l.length fun k => Gr.based (l.getD k Ch.zero)
  · simp only [Bool.not_false, iff_true]
    apply Classical.byContradiction
    intro hn
    rw [Bool.not_eq_true, List.any_eq_false] at hn
    have : allAt l.length (fun k => Gr.based (l.getD k Ch.zero)) = true := allAt_yes fun j hj => by
      have := hn l[j] (List.getElem_mem hj)
      rw [Ch.getD_at l j hj]
      simpa using this
    rw [this] at h
    cases h
  · simp only [Bool.not_true, Bool.false_eq_true, iff_false, Bool.not_eq_true]
    rw [List.any_eq_false]
    intro x hx
    obtain ⟨j, hj, rfl⟩ := List.mem_iff_getElem.1 hx
    have := allAt_at h hj
    rw [Ch.getD_at l j hj] at this
    simp [this]
theorem codeBefore_mem (R : List RoleR) (k : Nat) (hk : k < R.length) : decide (R[k].code ∈ (R.take k).map RoleR.code) = Gr.codeBefore R k := by
  unfold Gr.codeBefore
  rw [getD_lt R k default hk, Bool.eq_iff_iff]
  simp only [decide_eq_true_eq, List.mem_map, List.any_eq_true, beq_iff_eq]
theorem codes_take (R : List RoleR) (k : Nat) (hk : k < R.length) : (R.take (k + 1)).map RoleR.code = (R.take k).map RoleR.code ++ [R[k].code] := by
  rw [List.take_succ_eq_append_getElem hk, List.map_append]; rfl
theorem acc1b_any (a : Acc) (w : World) : Calls Try.prog 94 #[.agg #[.int .i64 a.code, .int .i64 a.kind, .int .i64 a.basis, .int .i64 a.parent]] w (BoolPost (unbased a) w) := by
  have hb : Below w.heap.size w (w.alloc (.cells #[.int .i64 a.code, .int .i64 a.kind, .int .i64 a.basis, .int .i64 a.parent] 124)) := (Below.refl _ _).alloc (Nat.le_refl _) _
  have HB := Lib.hid hb
  clear hb
  have HD : Hid (unbased a = !Gr.based a) := Lib.hid rfl
  go_enter Try.func94, Try.ntmps94
  go_wp2_with (go_at_call 95; refine (based_any a _).mono ?_; rintro e w2 ⟨rfl, hb2⟩)
  go_ret
  exact ⟨by rw [HD.out]; rfl, bel HB.out hb2⟩
set_option maxHeartbeats 1000000 in
theorem idxBas_any (l : List Acc) (A : Option Addr) (lc : Nat)  (w : World) (hr : Rd w w.heap.size 4 A l.length (Ch.cells l)) (hn : l.length ≤ 1000000)
    (hc : ∀ (a : Acc) (W : World), Below w.heap.size w W → Calls Try.prog 94 #[.agg #[.int .i64 a.code, .int .i64 a.kind, .int .i64 a.basis, .int .i64 a.parent]] W (BoolPost (unbased a) W)) :
    Calls Try.prog 113 #[.slice A l.length lc, .func (.func 94) #[] #[]] w (fun e w' => e = .returned (.int .i64 (fidx (unbased) l)) ∧ Below w.heap.size w w') := by
  have hb := Below.refl w.heap.size w
  have HR := Lib.hid hr
  have HC := Lib.hid hc
  clear hr hc
  go_enter Try.func113, Try.ntmps113
  go_wp2_with fail
  go_loopw [5, 8] (fun _ t wr => ∃ k : Nat, k ≤ l.length ∧ (∀ j (h : j < k) (h1 : j < l.length), unbased (l[j]'h1) = false) ∧ t = .int .i64 k ∧ Below w.heap.size w wr) (fun _ t _ => l.length - (intOf t).toNat)
  case atStart => exact ⟨0, by omega, fun j h => by omega, rfl, hb⟩
  case round =>
    clear hb
    obtain ⟨k, hk, hno, rfl, hb⟩ := hrel
    have HN := Lib.hid hno
    clear hno
    by_cases hlt : k < l.length
    · obtain ⟨b, o, hA, hbo, f0, f1, f2, f3⟩ := Ch.at_ (HR.out.below hb (Nat.le_refl _)) hlt
      subst hA
      cases hq : unbased l[k]
      · have HQ := Lib.hid hq
        go_wp2_with (go_at_call 94; refine ((HC.out l[k] _ hb)).mono ?_; rintro e w2 ⟨rfl, hb2⟩; replace hb := bel hb hb2; clear hb2)
        go_roundw
        case rel =>
          refine ⟨k + 1, by omega, fun j h h1 => ?_, by go_num, hb⟩
          by_cases e : j = k
          · subst e; exact HQ.out
          · exact HN.out j (by omega) h1
        case measure => simp [intOf]; omega
      · have HE : Hid (fidx (unbased) l = k) := Lib.hid (fidx_hit k hlt (fun j hj => HN.out j hj (by omega)) hq)
        go_wp2_with (go_at_call 94; refine ((HC.out l[k] _ hb)).mono ?_; rintro e w2 ⟨rfl, hb2⟩; replace hb := bel hb hb2; clear hb2)
        go_ret
        exact ⟨ret_int HE.out.symm, hb⟩
    · have HE : Hid (fidx (unbased) l = -1) := Lib.hid (fidx_miss fun j hj => HN.out j (by omega) hj)
      go_wp2_with fail
      go_ret
      exact ⟨ret_int HE.out.symm, hb⟩
theorem hasBas_any (l : List Acc) (A : Option Addr) (lc : Nat) (w : World) (hr : Rd w w.heap.size 4 A l.length (Ch.cells l)) (hn : l.length ≤ 1000000) :
    Calls Try.prog 93 #[.slice A l.length lc, .func (.func 94) #[] #[]] w (BoolPost (!Gr.basedAll l) w) := by
  have HR := Lib.hid hr
  have HE := Lib.hid ((unbased_any l).symm.trans (fidx_any unbased l).symm)
  clear hr
  generalize (!Gr.basedAll l) = v at *
  have K := Lib.hid (fun W h => idxBas_any l A lc W h hn (fun a W' _ => acc1b_any a W'))
  generalize fidx unbased l = i at *
  by_cases h0 : 0 ≤ i
  · go_enter Try.func93, Try.ntmps93
    go_wp2_with (go_at_call 113; refine (K.out _ HR.out).mono ?_; rintro e w2 ⟨rfl, hb2⟩)
    go_ret
    exact ⟨by rw [HE.out]; simp [h0], hb2⟩
  · go_enter Try.func93, Try.ntmps93
    go_wp2_with (go_at_call 113; refine (K.out _ HR.out).mono ?_; rintro e w2 ⟨rfl, hb2⟩)
    go_ret
    exact ⟨by rw [HE.out]; simp [h0], hb2⟩
theorem accsV_no {ch : List Acc} {R : List RoleR} {k : Nat} (hk : k < R.length) (h : Gr.roleOk ch R k = false) : Gr.accsV ch R = false := by
  unfold Gr.accsV Gr.rolesOk
  rw [allAt_no hk h]
  simp
section
variable (gcs : Array Value) (cur : ByteArray) (y m p : Int) (cl : List Acc) (cA : Option Addr) (cc : Nat) (ro : RolesR) (el : List EntR) (eA : Option Addr) (ec : Nat) (w : World)
set_option maxRecDepth 100000 in
set_option maxHeartbeats 8000000 in
theorem accounts_any (HG : Hid (gcs = #[.string cur, .int .i64 y, .int .i64 m, .int .i64 p, .slice cA cl.length cc, .int .i64 ro.investment, .int .i64 ro.goodwill, .int .i64 ro.associates, .int .i64 ro.inventory, .int .i64 ro.reserve, .int .i64 ro.minority, .int .i64 ro.retained, .int .i64 ro.acquired, .int .i64 ro.owners, .int .i64 ro.disposal, .int .i64 ro.associateProfit, .int .i64 ro.dividends, .int .i64 ro.minorityProfit, .int .i64 ro.difference, .int .i64 ro.margin, .slice eA el.length ec])) (h : GIn w cl cA el eA) (hn : cl.length ≤ 300000) : Calls Try.prog 48 #[.agg gcs] w (BoolPost (Gr.accsV cl (Gr.roles ro)) w) := by
  have H := Lib.hid h
  clear h
  have hb : Below w.heap.size w (w.alloc (.cells gcs 29)) := (Below.refl _ _).alloc (Nat.le_refl _) _
  have HB := Lib.hid (Blk.new w 29 gcs)
  have e4 : (w.alloc (.cells gcs 29)).cell? ⟨w.heap.size, 4, none⟩ = some (.slice cA cl.length cc) := (HB.out.cell 4).trans (by rw [HG.out]; rfl)
  have hmm := @run_makeMap Try.prog
  cases hv : Ch.validV cl true
  · have HE : Hid (Gr.accsV cl (Gr.roles ro) = false) := Lib.hid (by unfold Gr.accsV; rw [hv]; rfl)
    have HV := Lib.hid hv
    clear hv
    go_enter Try.func48, Try.ntmps48
    go_wp2_with
      (go_at_call 92; refine (valid_any cl true cA cc _ (H.out.step hb).ch hn H.out.wf).mono ?_; rintro e w2 ⟨rfl, hb2⟩; replace hb := bel hb hb2; rw [HV.out]; have HB2 := Lib.hid (HB.out.step hb2); have e42 : w2.cell? ⟨w.heap.size, 4, none⟩ = some (.slice cA cl.length cc) := (HB2.out.cell 4).trans (by rw [HG.out]; rfl))
    go_ret
    exact ⟨by rw [HE.out]; rfl, hb⟩
  · have HV := Lib.hid hv
    cases hba : Gr.basedAll cl
    · have HE : Hid (Gr.accsV cl (Gr.roles ro) = false) := Lib.hid (by unfold Gr.accsV; rw [hba]; simp)
      have HBA := Lib.hid hba
      clear hv hba
      go_enter Try.func48, Try.ntmps48
      go_wp2_with (first
        | (go_at_call 92; refine (valid_any cl true cA cc _ (H.out.step hb).ch hn H.out.wf).mono ?_; rintro e w2 ⟨rfl, hb2⟩; replace hb := bel hb hb2; rw [HV.out]; have HB2 := Lib.hid (HB.out.step hb2); have e42 : w2.cell? ⟨w.heap.size, 4, none⟩ = some (.slice cA cl.length cc) := (HB2.out.cell 4).trans (by rw [HG.out]; rfl))
        | (go_at_call 93; refine (hasBas_any cl cA cc _ (H.out.step hb).ch (by omega)).mono ?_; rintro e w3 ⟨rfl, hb3⟩; replace hb := bel hb hb3; rw [HBA.out]; have HB3 := Lib.hid ((HB2.out.step hb3).alloc (.map #[] 0)); have g5 : (w3.alloc (.map #[] 0)).cell? ⟨w.heap.size, 5, none⟩ = some (.int .i64 ro.investment) := (HB3.out.cell 5).trans (by rw [HG.out]; rfl); have g6 : (w3.alloc (.map #[] 0)).cell? ⟨w.heap.size, 6, none⟩ = some (.int .i64 ro.goodwill) := (HB3.out.cell 6).trans (by rw [HG.out]; rfl); have g7 : (w3.alloc (.map #[] 0)).cell? ⟨w.heap.size, 7, none⟩ = some (.int .i64 ro.associates) := (HB3.out.cell 7).trans (by rw [HG.out]; rfl); have g8 : (w3.alloc (.map #[] 0)).cell? ⟨w.heap.size, 8, none⟩ = some (.int .i64 ro.inventory) := (HB3.out.cell 8).trans (by rw [HG.out]; rfl); have g9 : (w3.alloc (.map #[] 0)).cell? ⟨w.heap.size, 9, none⟩ = some (.int .i64 ro.reserve) := (HB3.out.cell 9).trans (by rw [HG.out]; rfl); have g10 : (w3.alloc (.map #[] 0)).cell? ⟨w.heap.size, 10, none⟩ = some (.int .i64 ro.minority) := (HB3.out.cell 10).trans (by rw [HG.out]; rfl); have g11 : (w3.alloc (.map #[] 0)).cell? ⟨w.heap.size, 11, none⟩ = some (.int .i64 ro.retained) := (HB3.out.cell 11).trans (by rw [HG.out]; rfl); have g12 : (w3.alloc (.map #[] 0)).cell? ⟨w.heap.size, 12, none⟩ = some (.int .i64 ro.acquired) := (HB3.out.cell 12).trans (by rw [HG.out]; rfl); have g13 : (w3.alloc (.map #[] 0)).cell? ⟨w.heap.size, 13, none⟩ = some (.int .i64 ro.owners) := (HB3.out.cell 13).trans (by rw [HG.out]; rfl); have g14 : (w3.alloc (.map #[] 0)).cell? ⟨w.heap.size, 14, none⟩ = some (.int .i64 ro.disposal) := (HB3.out.cell 14).trans (by rw [HG.out]; rfl); have g15 : (w3.alloc (.map #[] 0)).cell? ⟨w.heap.size, 15, none⟩ = some (.int .i64 ro.associateProfit) := (HB3.out.cell 15).trans (by rw [HG.out]; rfl); have g16 : (w3.alloc (.map #[] 0)).cell? ⟨w.heap.size, 16, none⟩ = some (.int .i64 ro.dividends) := (HB3.out.cell 16).trans (by rw [HG.out]; rfl); have g17 : (w3.alloc (.map #[] 0)).cell? ⟨w.heap.size, 17, none⟩ = some (.int .i64 ro.minorityProfit) := (HB3.out.cell 17).trans (by rw [HG.out]; rfl); have g18 : (w3.alloc (.map #[] 0)).cell? ⟨w.heap.size, 18, none⟩ = some (.int .i64 ro.difference) := (HB3.out.cell 18).trans (by rw [HG.out]; rfl); have g19 : (w3.alloc (.map #[] 0)).cell? ⟨w.heap.size, 19, none⟩ = some (.int .i64 ro.margin) := (HB3.out.cell 19).trans (by rw [HG.out]; rfl)))
      go_ret
      exact ⟨by rw [HE.out]; rfl, hb⟩
    · have HBA := Lib.hid hba
      clear hv hba
      go_enter Try.func48, Try.ntmps48
      go_wp2_with (first
        | (go_at_call 92; refine (valid_any cl true cA cc _ (H.out.step hb).ch hn H.out.wf).mono ?_; rintro e w2 ⟨rfl, hb2⟩; replace hb := bel hb hb2; rw [HV.out]; have HB2 := Lib.hid (HB.out.step hb2); have e42 : w2.cell? ⟨w.heap.size, 4, none⟩ = some (.slice cA cl.length cc) := (HB2.out.cell 4).trans (by rw [HG.out]; rfl))
        | (go_at_call 93; refine (hasBas_any cl cA cc _ (H.out.step hb).ch (by omega)).mono ?_; rintro e w3 ⟨rfl, hb3⟩; replace hb := bel hb hb3; rw [HBA.out]; have HB3 := Lib.hid ((HB2.out.step hb3).alloc (.map #[] 0)); have g5 : (w3.alloc (.map #[] 0)).cell? ⟨w.heap.size, 5, none⟩ = some (.int .i64 ro.investment) := (HB3.out.cell 5).trans (by rw [HG.out]; rfl); have g6 : (w3.alloc (.map #[] 0)).cell? ⟨w.heap.size, 6, none⟩ = some (.int .i64 ro.goodwill) := (HB3.out.cell 6).trans (by rw [HG.out]; rfl); have g7 : (w3.alloc (.map #[] 0)).cell? ⟨w.heap.size, 7, none⟩ = some (.int .i64 ro.associates) := (HB3.out.cell 7).trans (by rw [HG.out]; rfl); have g8 : (w3.alloc (.map #[] 0)).cell? ⟨w.heap.size, 8, none⟩ = some (.int .i64 ro.inventory) := (HB3.out.cell 8).trans (by rw [HG.out]; rfl); have g9 : (w3.alloc (.map #[] 0)).cell? ⟨w.heap.size, 9, none⟩ = some (.int .i64 ro.reserve) := (HB3.out.cell 9).trans (by rw [HG.out]; rfl); have g10 : (w3.alloc (.map #[] 0)).cell? ⟨w.heap.size, 10, none⟩ = some (.int .i64 ro.minority) := (HB3.out.cell 10).trans (by rw [HG.out]; rfl); have g11 : (w3.alloc (.map #[] 0)).cell? ⟨w.heap.size, 11, none⟩ = some (.int .i64 ro.retained) := (HB3.out.cell 11).trans (by rw [HG.out]; rfl); have g12 : (w3.alloc (.map #[] 0)).cell? ⟨w.heap.size, 12, none⟩ = some (.int .i64 ro.acquired) := (HB3.out.cell 12).trans (by rw [HG.out]; rfl); have g13 : (w3.alloc (.map #[] 0)).cell? ⟨w.heap.size, 13, none⟩ = some (.int .i64 ro.owners) := (HB3.out.cell 13).trans (by rw [HG.out]; rfl); have g14 : (w3.alloc (.map #[] 0)).cell? ⟨w.heap.size, 14, none⟩ = some (.int .i64 ro.disposal) := (HB3.out.cell 14).trans (by rw [HG.out]; rfl); have g15 : (w3.alloc (.map #[] 0)).cell? ⟨w.heap.size, 15, none⟩ = some (.int .i64 ro.associateProfit) := (HB3.out.cell 15).trans (by rw [HG.out]; rfl); have g16 : (w3.alloc (.map #[] 0)).cell? ⟨w.heap.size, 16, none⟩ = some (.int .i64 ro.dividends) := (HB3.out.cell 16).trans (by rw [HG.out]; rfl); have g17 : (w3.alloc (.map #[] 0)).cell? ⟨w.heap.size, 17, none⟩ = some (.int .i64 ro.minorityProfit) := (HB3.out.cell 17).trans (by rw [HG.out]; rfl); have g18 : (w3.alloc (.map #[] 0)).cell? ⟨w.heap.size, 18, none⟩ = some (.int .i64 ro.difference) := (HB3.out.cell 18).trans (by rw [HG.out]; rfl); have g19 : (w3.alloc (.map #[] 0)).cell? ⟨w.heap.size, 19, none⟩ = some (.int .i64 ro.margin) := (HB3.out.cell 19).trans (by rw [HG.out]; rfl)))
      have hwz3 := (HB2.out.step hb3).lt
      clear e4 e42 g5 g6 g7 g8 g9 g10 g11 g12 g13 g14 g15 g16 g17 g18 g19 HB HB2 hb2 hb3
      have hS3 := SetW.made (P := Try.prog) (k := 3) (e := 4) w3
      have hb4 := hb.alloc hb.size (.map #[] 0)
      have hz4 : w3.heap.size < (w3.alloc (.map #[] 0)).heap.size := by simp
      generalize hgen : w3.alloc (.map #[] 0) = W at *
      clear hgen hb
      refine (roles_any ro W).mono ?_
      rintro e w4 ⟨A, lc, rfl, hr, hb9⟩
      have hb := bel hb4 hb9
      have hlR : (Gr.roles ro).length ≤ 15 := Nat.le_of_eq (Gr.roles_len ro)
      generalize Gr.roles ro = R at *
      have HR := Lib.hid hr
      have HB4 := Lib.hid (HB3.out.step hb9)
      have HS4 := Lib.hid (hS3.step hb9)
      have hz5 := Nat.lt_of_lt_of_le hz4 hb9.size
      clear hr hb9 HB3 hS3 hb4 hz4
      go_wp2_with fail
      go_loopw [22] (fun t wr => ∃ k : Nat, k ≤ R.length ∧ (∀ j, j < k → Gr.roleOk cl R j = true) ∧ t = .int .i64 k ∧ SetW Try.prog 3 4 wr w3.heap.size k ((R.take k).map RoleR.code) ∧ Blk wr w.heap.size 29 gcs ∧ Rd wr wr.heap.size 5 A R.length (cellsOf RoleR.cells R) ∧ Below w.heap.size w wr) (fun t _ => R.length - (intOf t).toNat)
      case atStart => exact ⟨0, by omega, fun j h => by omega, rfl, HS4.out, HB4.out, HR.out, hb⟩
      case round =>
        clear HS4 HB4 HR hb
        obtain ⟨k, hk, hno, rfl, hS, hB, hRr, hb⟩ := hrel
        have HN := Lib.hid hno
        have HRr := Lib.hid hRr
        have hz := hb.size
        clear hno
        by_cases hlt : k < R.length
        · obtain ⟨b, o, hA, hbo, f0, f1, f2, f3, f4⟩ := RoleR.at_ hRr hlt
          subst hA
          have HX : Hid (Gr.roleOk cl R k = (Ch.fnB cl R[k].code && (!Gr.codeBefore R k && (decide ((Ch.fnV cl R[k].code).kind = R[k].kind) && decide ((Ch.fnV cl R[k].code).basis = R[k].basis))))) := Lib.hid (by unfold Gr.roleOk; rw [getD_lt R k default hlt])
          have HC := Lib.hid (codeBefore_mem R k hlt)
          have HT := Lib.hid (codes_take R k hlt)
          generalize R[k] = x at *
          obtain ⟨nm, c, kd, bs, mp⟩ := x
          dsimp only at *
          have hwd : Hid (Ch.fnB cl c = true → (Lit.int .i64 c).wf = true) := Lib.hid (fun hf => by
            unfold Ch.fnB at hf
            rw [Option.isSome_iff_exists] at hf
            obtain ⟨a, ha⟩ := hf
            obtain ⟨h1, h2⟩ := Ch.find_some cl c a ha
            rw [← h2]
            exact H.out.wf a h1)
          have K1 := Lib.hid (fun W h => find_gen cl c cA cc W h hn)
          generalize Ch.fnV cl c = a at *
          have hB1 := hB.alloc (.cells #[.string nm, .int .i64 c, .int .i64 kd, .int .i64 bs, .bool mp] 175)
          have e4 : (wr.alloc (.cells #[.string nm, .int .i64 c, .int .i64 kd, .int .i64 bs, .bool mp] 175)).cell? ⟨w.heap.size, 4, none⟩ = some (.slice cA cl.length cc) := (hB1.cell 4).trans (by rw [HG.out]; rfl)
          have HB1 := Lib.hid hB1
          have HQ1 := Lib.hid (Blk.new wr 175 #[.string nm, .int .i64 c, .int .i64 kd, .int .i64 bs, .bool mp])
          have HS1 := Lib.hid (hS.alloc (.cells #[.string nm, .int .i64 c, .int .i64 kd, .int .i64 bs, .bool mp] 175))
          have HR1 := Lib.hid (Rd.now HRr.out ((Below.refl wr.heap.size wr).alloc (Nat.le_refl _) (.cells #[.string nm, .int .i64 c, .int .i64 kd, .int .i64 bs, .bool mp] 175)))
          have hb1 := hb.alloc hz (.cells #[.string nm, .int .i64 c, .int .i64 kd, .int .i64 bs, .bool mp] 175)
          clear hB1 hS hB hRr
          go_wp2_with fail
          clear e4 f0 f1 f2 f3 f4 hb
          generalize hgen : wr.alloc (.cells #[.string nm, .int .i64 c, .int .i64 kd, .int .i64 bs, .bool mp] 175) = W1 at *
          clear hgen
          refine (K1.out W1 (H.out.step hb1).ch).mono ?_
          rintro e w5 ⟨rfl, hb9⟩
          have hb6 := (bel hb1 hb9).alloc (bel hb1 hb9).size (.cells #[.int .i64 a.code, .int .i64 a.kind, .int .i64 a.basis, .int .i64 a.parent] 124)
          have HB6 := Lib.hid ((HB1.out.step hb9).alloc (.cells #[.int .i64 a.code, .int .i64 a.kind, .int .i64 a.basis, .int .i64 a.parent] 124))
          have hQ6 := (HQ1.out.step hb9).alloc (.cells #[.int .i64 a.code, .int .i64 a.kind, .int .i64 a.basis, .int .i64 a.parent] 124)
          have hS6 := (HS1.out.step hb9).alloc (.cells #[.int .i64 a.code, .int .i64 a.kind, .int .i64 a.basis, .int .i64 a.parent] 124)
          have HR6 := Lib.hid (Rd.now HR1.out (hb9.alloc hb9.size (.cells #[.int .i64 a.code, .int .i64 a.kind, .int .i64 a.basis, .int .i64 a.parent] 124)))
          have g1 : (w5.alloc (.cells #[.int .i64 a.code, .int .i64 a.kind, .int .i64 a.basis, .int .i64 a.parent] 124)).cell? ⟨wr.heap.size, 1, none⟩ = some (.int .i64 c) := hQ6.cell 1
          have g2 : (w5.alloc (.cells #[.int .i64 a.code, .int .i64 a.kind, .int .i64 a.basis, .int .i64 a.parent] 124)).cell? ⟨wr.heap.size, 2, none⟩ = some (.int .i64 kd) := hQ6.cell 2
          have g3 : (w5.alloc (.cells #[.int .i64 a.code, .int .i64 a.kind, .int .i64 a.basis, .int .i64 a.parent] 124)).cell? ⟨wr.heap.size, 3, none⟩ = some (.int .i64 bs) := hQ6.cell 3
          have hbs6 := Below.refl w.heap.size w
          replace hbs6 := hb6
          have hb := Below.refl w.heap.size w
          clear hb9 HB1 HQ1 HS1 HR1 hb1 hQ6 K1
          have hg : True := trivial
          cases hf : Ch.fnB cl c
          · have HE : Hid (Gr.accsV cl R = false) := Lib.hid (accsV_no hlt (by rw [HX.out, hf]; rfl))
            go_wp2_with fail
            go_ret
            exact ⟨by rw [HE.out]; rfl, bel hb hbs6⟩
          · have hw2 := hwd.out hf
            have hLL := hS6.look (t := 171) Try.underlying3 Try.underlying4 Try.underlying171 (zero_bool _) hw2
            rw [HC.out] at hLL
            cases hg : Gr.codeBefore R k
            · rw [hg] at hLL
              have hf0 := hf
              cases hk : (a.kind != kd)
              · cases hs : (a.basis != bs)
                · have HO : Hid (Gr.roleOk cl R k = true) := Lib.hid (by rw [HX.out]; simp at hk hs; simp [hf, hg, hk, hs])
                  have HF := Lib.hid hf
                  clear hf hg hf0
                  go_wp2_with (at_mapUpdate; refine wpList_set_put rfl _ _ _ 171 rfl Try.underlying3 Try.underlying4 Try.underlying171 hS6 (by unfold maxLen; omega) c hw2 rfl rfl rfl ?_; intro w7 hS7 hg7)
                  have hB7 := HB6.out.grown hg7 (by simp; omega)
                  have hb7 : Below w.heap.size w w7 := Below.grown hb6 hg7 hb6.size (fun j hj => by injection hj with hj; omega)
                  have hR7 : Rd w7 w7.heap.size 5 (some ⟨b, o, none⟩) R.length (cellsOf RoleR.cells R) := (HR6.out.past hg7 hS6.isMap).more hg7.size
                  rw [← HT.out] at hS7
                  clear hg7 hS6 g1 g2 g3
                  go_wp2_with fail
                  go_roundw
                  case rel =>
                    refine ⟨k + 1, by omega, fun j hj => ?_, by go_num, hS7, hB7, hR7, hb7⟩
                    by_cases e : j = k
                    · subst e; exact HO.out
                    · exact HN.out j (by omega)
                  case measure => simp [intOf]; omega
                · have hf := hs
                  have hg := hs
                  have HE : Hid (Gr.accsV cl R = false) := Lib.hid (accsV_no hlt (by rw [HX.out]; simp at hs; simp [hs]))
                  go_wp2_with fail
                  go_ret
                  exact ⟨by rw [HE.out]; rfl, bel hb hbs6⟩
              · have HE : Hid (Gr.accsV cl R = false) := Lib.hid (accsV_no hlt (by rw [HX.out]; simp at hk; simp [hk]))
                go_wp2_with fail
                go_ret
                exact ⟨by rw [HE.out]; rfl, bel hb hbs6⟩
            · rw [hg] at hLL
              have HE : Hid (Gr.accsV cl R = false) := Lib.hid (accsV_no hlt (by rw [HX.out, hg]; simp))
              go_wp2_with fail
              go_ret
              exact ⟨by rw [HE.out]; rfl, bel hb hbs6⟩
        · have HE : Hid (Gr.accsV cl R = true) := Lib.hid (by unfold Gr.accsV Gr.rolesOk; rw [HV.out, HBA.out, allAt_yes (fun j hj => HN.out j (by omega))]; rfl)
          clear hB hRr
          go_wp2_with fail
          go_ret
          exact ⟨by rw [HE.out]; rfl, hb⟩
end
end Go.Proofs.Ytnkmjdaeafeaaaa
