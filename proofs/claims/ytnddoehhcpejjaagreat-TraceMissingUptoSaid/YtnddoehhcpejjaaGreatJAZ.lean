/- Texts of this claim, put together. -/
import Derived.Test.YtnddoehhcpejjaaGreatJrnRefBZ
import Derived.Test.YtnddoehhcpejjaaGreatJAY
/- The walks of the reference's Post, Check and Valid of a journal. -/
namespace Go.Proofs.YtnddoehhcpejjaaGreat
set_option linter.unusedVariables false
set_option linter.unusedSimpArgs false
open Go.RowKit

namespace Jn
theorem getI_none {es : List EntryR} {id : Int} (h : get es id = none) : getI es id = -1 := by unfold getI; rw [h]
theorem getI_some {es : List EntryR} {id : Int} {k : Nat} (h : get es id = some k) : getI es id = k := by unfold getI; rw [h]
end Jn
section
variable (gcs : Array Value) (cur : ByteArray) (y m p : Int) (cl : List Acc) (cA : Option Addr) (cc : Nat) (ro : RolesR) (el : List EntR) (eA : Option Addr) (ec : Nat) (w : World) (id en da kd fo : Int) (tx : ByteArray) (ll : List LineR) (lA : Option Addr) (lc : Nat)
set_option maxRecDepth 100000 in
set_option maxHeartbeats 16000000 in
theorem rpost_any (es : List EntryR) (sA : Option Addr) (sc : Nat) (HG : Hid (gcs = #[.string cur, .int .i64 y, .int .i64 m, .int .i64 p, .slice cA cl.length cc, .int .i64 ro.investment, .int .i64 ro.goodwill, .int .i64 ro.associates, .int .i64 ro.inventory, .int .i64 ro.reserve, .int .i64 ro.minority, .int .i64 ro.retained, .int .i64 ro.acquired, .int .i64 ro.owners, .int .i64 ro.disposal, .int .i64 ro.associateProfit, .int .i64 ro.dividends, .int .i64 ro.minorityProfit, .int .i64 ro.difference, .int .i64 ro.margin, .slice eA el.length ec])) (h : GIn w cl cA el eA) (hF : FewOk cur cl el) (hE : EsIn w es sA)
    (hes : ∀ y' ∈ es, Jn.ckE (Gr.gv cur cl ro el (Cal.ok y m p)) el.length (Jn.kB el) (Jn.dB y m p) y' = 0) (hln : es.length ≤ 1000) (htx : tx.size ≤ maxLen) (hr : Rd w w.heap.size 3 lA ll.length (cellsOf LineR.cells ll)) (hn : ll.length ≤ 1000) :
    Calls Tryz.prog 49 #[.agg gcs, .slice sA es.length sc, .agg #[.int .i64 id, .int .i64 en, .int .i64 da, .int .i64 kd, .int .i64 fo, .string tx, .slice lA ll.length lc]] w (IntPost (Jn.poE (Jn.ckE (Gr.gv cur cl ro el (Cal.ok y m p)) el.length (Jn.kB el) (Jn.dB y m p)) es (⟨id, en, da, kd, fo, tx, ⟨ll, lA, lc⟩⟩ : EntryR)) w) := by
  have H := Lib.hid h
  have HE := Lib.hid hE
  have HR := Lib.hid hr
  have hgi : (Tryz.prog.info? 29).map (·.size) = some gcs.size := by rw [HG.out]; exact grp_size
  have hes2 : ∀ y' ∈ es, y'.lines.l.length ≤ 40 ∧ ∀ l ∈ y'.lines.l, -1000000000000 ≤ l.amount ∧ l.amount ≤ 1000000000000 := fun y' hy => (Jn.ck_lines (hes y' hy)).2
  have HES := Lib.hid hes2
  have KC := Lib.hid (fun W h hr => rcheck_any gcs cur y m p cl cA cc ro el eA ec W id en da kd fo tx ll lA lc HG h hF htx hr hn)
  have HRP := Lib.hid (Jn.rev_pos hes fo)
  have HPO := Lib.hid (Jn.po_is (C := Jn.ckE (Gr.gv cur cl ro el (Cal.ok y m p)) el.length (Jn.kB el) (Jn.dB y m p)) (es := es) (x := (⟨id, en, da, kd, fo, tx, ⟨ll, lA, lc⟩⟩ : EntryR)) (by omega))
  generalize Jn.poE (Jn.ckE (Gr.gv cur cl ro el (Cal.ok y m p)) el.length (Jn.kB el) (Jn.dB y m p)) es (⟨id, en, da, kd, fo, tx, ⟨ll, lA, lc⟩⟩ : EntryR) = X at *
  generalize Jn.ckE (Gr.gv cur cl ro el (Cal.ok y m p)) el.length (Jn.kB el) (Jn.dB y m p) (⟨id, en, da, kd, fo, tx, ⟨ll, lA, lc⟩⟩ : EntryR) = c0 at *
  clear h hE hr hes hes2 hF
  have hb : Below w.heap.size w ((w.alloc (.cells gcs 29)).alloc (.cells #[.int .i64 id, .int .i64 en, .int .i64 da, .int .i64 kd, .int .i64 fo, .string tx, .slice lA ll.length lc] 67)) := ((Below.refl _ _).alloc (Nat.le_refl _) _).alloc (by simp) _
  have HB := Lib.hid ((Blk.new w 29 gcs).alloc (.cells #[.int .i64 id, .int .i64 en, .int .i64 da, .int .i64 kd, .int .i64 fo, .string tx, .slice lA ll.length lc] 67))
  have HP := Lib.hid (blk_new2 w (.cells gcs 29) 67 #[.int .i64 id, .int .i64 en, .int .i64 da, .int .i64 kd, .int .i64 fo, .string tx, .slice lA ll.length lc])
  go_enter Tryz.func49, Tryz.ntmps49
  go_upto_region 1 with fail
  generalize (w.alloc (.cells gcs 29)).alloc (.cells #[.int .i64 id, .int .i64 en, .int .i64 da, .int .i64 kd, .int .i64 fo, .string tx, .slice lA ll.length lc] 67) = W at *
  go_upto_region 2 with (first
    | (refine wpList_load_blk 29 (.tmp 3) rfl (w.heap.size) rfl (by kernel_rfl) (HB).out Tryz.underlying29 hgi ?_)
    | (refine wpList_load_blk 67 (.tmp 5) rfl (w.heap.size + 1) rfl (by kernel_rfl) HP.out Tryz.underlying67 entry_size ?_)
    | (go_at_call 74; refine (KC.out _ (H.out.step hb) (Rd.now HR.out hb)).mono ?_; rintro e w3 ⟨rfl, hb9⟩; have hb3 := bel hb hb9; have HP3 := Lib.hid (HP.out.step hb9); clear hb9))
  clear hb HB HP
  have k0 : w3.cell? ⟨w.heap.size + 1, 0, none⟩ = some (.int .i64 id) := HP3.out.cell 0
  have k1 : w3.cell? ⟨w.heap.size + 1, 1, none⟩ = some (.int .i64 en) := HP3.out.cell 1
  have k2 : w3.cell? ⟨w.heap.size + 1, 2, none⟩ = some (.int .i64 da) := HP3.out.cell 2
  have k3 : w3.cell? ⟨w.heap.size + 1, 3, none⟩ = some (.int .i64 kd) := HP3.out.cell 3
  have k4 : w3.cell? ⟨w.heap.size + 1, 4, none⟩ = some (.int .i64 fo) := HP3.out.cell 4
  have k6 : w3.cell? ⟨w.heap.size + 1, 6, none⟩ = some (.slice lA ll.length lc) := HP3.out.cell 6
  have hn2 : ¬ (2000 : Int) ≤ (es.length : Int) := by omega
  cases hc : (c0 != 0)
  · have hc0 : c0 = 0 := by simpa using hc
    have HPO2 : Hid (X = if (Jn.get es id).isSome then 9 else if kd = 3 then Jn.rvE es (⟨id, en, da, kd, fo, tx, ⟨ll, lA, lc⟩⟩ : EntryR) else 0) := Lib.hid (by rw [HPO.out, if_pos hc0])
    clear hc0
    have KG := Lib.hid (fun i => rget_any es i sA sc w3 (HE.out.step hb3).rd hln)
    cases hget : Jn.get es id with
    | some k =>
      have HE9 : Hid (X = 9) := Lib.hid (by rw [HPO2.out, hget]; rfl)
      have HGI := Lib.hid (Jn.getI_some hget)
      clear hget
      have hk0 : (0 : Int) ≤ (k : Int) := by omega
      go_wp2_with (go_at_call 75; refine (KG.out id).mono ?_; rintro e w4 ⟨rfl, rfl⟩; rw [HGI.out])
      go_ret
      exact ⟨by rw [HE9.out]; rfl, hb3⟩
    | none =>
      have HPO3 : Hid (X = if kd = 3 then Jn.rvE es (⟨id, en, da, kd, fo, tx, ⟨ll, lA, lc⟩⟩ : EntryR) else 0) := Lib.hid (by rw [HPO2.out, hget]; rfl)
      have HGI := Lib.hid (Jn.getI_none hget)
      clear hget HPO2 HPO
      cases h3 : (kd == 3)
      · have h3' : kd ≠ 3 := by simpa using h3
        have HX0 : Hid (X = 0) := Lib.hid (by rw [HPO3.out, if_neg h3'])
        clear h3'
        go_wp2_with (go_at_call 75; refine (KG.out id).mono ?_; rintro e w4 ⟨rfl, rfl⟩; rw [HGI.out])
        go_ret
        exact ⟨by rw [HX0.out]; rfl, hb3⟩
      · have h3' : kd = 3 := by simpa using h3
        have HPO4 : Hid (X = Jn.rvE es (⟨id, en, da, kd, fo, tx, ⟨ll, lA, lc⟩⟩ : EntryR)) := Lib.hid (by rw [HPO3.out, if_pos h3'])
        clear h3'
        go_upto_region 7 with (go_at_call 75; refine (KG.out id).mono ?_; rintro e w4 ⟨rfl, rfl⟩; rw [HGI.out])
        cases hgf : Jn.get es fo with
        | none =>
          have HE8 : Hid (X = 8) := Lib.hid (by rw [HPO4.out]; exact Jn.rv_none hgf)
          have HGF := Lib.hid (Jn.getI_none hgf)
          clear hgf
          go_wp2_with (go_at_call 75; refine (KG.out fo).mono ?_; rintro e w4 ⟨rfl, rfl⟩; rw [HGF.out])
          go_ret
          exact ⟨by rw [HE8.out]; rfl, hb3⟩
        | some k =>
          obtain ⟨hk, -⟩ := Jn.get_lt hgf
          have HGF := Lib.hid (Jn.getI_some hgf)
          have HRV := Lib.hid (Jn.rv_at (x := (⟨id, en, da, kd, fo, tx, ⟨ll, lA, lc⟩⟩ : EntryR)) (o := es[k]) hgf (by rw [getD_lt es k default hk]))
          rw [← HPO4.out] at HRV
          dsimp only at HRV
          clear hgf
          have hk0 : ¬ (k : Int) < 0 := by omega
          have hk1 : (0 : Int) ≤ (k : Int) := by omega
          have hk2 : (k : Int) < (es.length : Int) := by omega
          have KRV := Lib.hid (rrev_any es fo sA sc w3 (HE.out.step hb3).rd hln)
          obtain ⟨b, o, hA, hbo, f0, f1, f2, f3, f4, f5, f6⟩ := EntryR.at_ (HE.out.step hb3).rd hk
          subst hA
          have hbd := HES.out _ (List.getElem_mem hk)
          have hol := (HE.out.ok _ (List.getElem_mem hk)).2.2.2.2.2.2.1.1
          generalize es[k] = z at *
          obtain ⟨oi, oe, od, ok, oo, ot, ⟨ol, oA, oc⟩⟩ := z
          dsimp only [Sl.val] at *
          have HBD := Lib.hid hbd
          have HOL := Lib.hid hol
          clear hbd hol
          have HRI : Hid ((Jn.rev es fo).isSome = (Jn.revI es fo != 0)) := Lib.hid (by
            rw [Bool.eq_iff_iff, HRP.out]
            unfold Jn.revI
            simp)
          generalize (Jn.rev es fo).isSome = rb at *
          generalize Jn.revI es fo = ri at *
          cases hk3 : (ok == 3)
          · have hk3' : decide (ok = 3) = false := by simpa using hk3
            rw [hk3', Bool.false_or] at HRV
            clear hk3'
            cases hri : (ri != 0)
            · rw [hri] at HRI
              rw [HRI.out] at HRV
              have HQ : Hid (X = if decide (oe = en) && decide (od ≤ da) && Jn.oppB ll ol then 0 else 18) := Lib.hid HRV.out
              clear HRV HRI
              go_upto_region 12 with (first
                | (go_at_call 75; refine (KG.out fo).mono ?_; rintro e w4 ⟨rfl, rfl⟩; rw [HGF.out])
                | (go_at_call 76; refine KRV.out.mono ?_; rintro e w4 ⟨rfl, rfl⟩))
              obtain ⟨wo, hwo⟩ : ∃ wo : World, wo = w3 := ⟨_, rfl⟩
              have q1 : ∀ d : Later w3, d.now.cell? ⟨b, o + k * 7 + 1, none⟩ = some (.int .i64 oe) := fun d => d.cell hbo f1
              have q2 : ∀ d : Later w3, d.now.cell? ⟨b, o + k * 7 + 2, none⟩ = some (.int .i64 od) := fun d => d.cell hbo f2
              have q6 : ∀ d : Later w3, d.now.cell? ⟨b, o + k * 7 + 6, none⟩ = some (.slice oA ol.length oc) := fun d => d.cell hbo f6
              have p1 : ∀ d : Later w3, d.now.cell? ⟨w.heap.size + 1, 1, none⟩ = some (.int .i64 en) := fun d => d.cell HP3.out.lt (HP3.out.cell 1)
              have p2 : ∀ d : Later w3, d.now.cell? ⟨w.heap.size + 1, 2, none⟩ = some (.int .i64 da) := fun d => d.cell HP3.out.lt (HP3.out.cell 2)
              have p6 : ∀ d : Later w3, d.now.cell? ⟨w.heap.size + 1, 6, none⟩ = some (.slice lA ll.length lc) := fun d => d.cell HP3.out.lt (HP3.out.cell 6)
              clear hwo f0 f1 f2 f3 f4 f5 f6 k0 k1 k2 k3 k4 k6
              cases hoe : (oe != en)
              · by_cases hda : da < od
                · have HE : Hid (X = 18) := Lib.hid (by rw [HQ.out]; simp; omega)
                  refine wp_region_later (by kernel_rfl) (by kernel_rfl) ?_; (repeat (go_big_quiet_step ((fail)))); refine wpQuiet_nil ?_; rintro _ ⟨dq, rfl⟩
                  have hbe := bel hb3 dq.below
                  go_wp2_with fail
                  go_ret
                  exact ⟨by rw [HE.out]; rfl, hbe⟩
                · have hoe' : decide (oe = en) = true := by simpa using hoe
                  have hda' : decide (od ≤ da) = true := by simp; omega
                  have HQ2 : Hid (X = if Jn.oppB ll ol then 0 else 18) := Lib.hid (by rw [HQ.out, hoe', hda']; rfl)
                  clear hoe' hda' HQ
                  have K := Lib.hid (fun W h1 h2 => ropp_any ll ol lA oA lc oc W h1 h2 hn (by have := HBD.out.1; omega) (fun y hy => by have := HBD.out.2 y hy; omega))
                  cases hop : Jn.oppB ll ol
                  · have HE : Hid (X = 18) := Lib.hid (by rw [HQ2.out, hop]; rfl)
                    rw [hop] at K
                    clear hop
                    refine wp_region_later (by kernel_rfl) (by kernel_rfl) ?_
                    (repeat (go_big_quiet_step ((fail)))); go_big_quiet_step ((go_at_call 77; exact Later.call _ (K.out _ (Rd.now HR.out (bel hb3 (Later.below _))) (Rd.now HOL.out (bel hb3 (Later.below _))))))
                    (repeat (go_big_quiet_step ((fail)))); refine wpQuiet_nil ?_; rintro _ ⟨dq, rfl⟩
                    have hbe := bel hb3 dq.below
                    go_wp2_with fail
                    go_ret
                    exact ⟨by rw [HE.out]; rfl, hbe⟩
                  · have HE : Hid (X = 0) := Lib.hid (by rw [HQ2.out, hop]; rfl)
                    rw [hop] at K
                    clear hop
                    refine wp_region_later (by kernel_rfl) (by kernel_rfl) ?_
                    (repeat (go_big_quiet_step ((fail)))); go_big_quiet_step ((go_at_call 77; exact Later.call _ (K.out _ (Rd.now HR.out (bel hb3 (Later.below _))) (Rd.now HOL.out (bel hb3 (Later.below _))))))
                    (repeat (go_big_quiet_step ((fail)))); refine wpQuiet_nil ?_; rintro _ ⟨dq, rfl⟩
                    have hbe := bel hb3 dq.below
                    go_wp2_with fail
                    go_ret
                    exact ⟨by rw [HE.out]; rfl, hbe⟩
              · have hoe' : decide (oe = en) = false := by simpa using hoe
                have HE : Hid (X = 18) := Lib.hid (by rw [HQ.out, hoe']; rfl)
                clear hoe'
                refine wp_region_later (by kernel_rfl) (by kernel_rfl) ?_; (repeat (go_big_quiet_step ((fail)))); refine wpQuiet_nil ?_; rintro _ ⟨dq, rfl⟩
                have hbe := bel hb3 dq.below
                go_wp2_with fail
                go_ret
                exact ⟨by rw [HE.out]; rfl, hbe⟩
            · rw [hri] at HRI
              rw [HRI.out] at HRV
              have HE : Hid (X = 7) := Lib.hid HRV.out
              clear HRV HRI
              go_wp2_with (first
                | (go_at_call 75; refine (KG.out fo).mono ?_; rintro e w4 ⟨rfl, rfl⟩; rw [HGF.out])
                | (go_at_call 76; refine KRV.out.mono ?_; rintro e w4 ⟨rfl, rfl⟩))
              go_ret
              exact ⟨by rw [HE.out]; rfl, hb3⟩
          · have hk3' : decide (ok = 3) = true := by simpa using hk3
            have HE : Hid (X = 7) := Lib.hid (by rw [HRV.out, hk3']; rfl)
            clear hk3' HRV HRI
            go_wp2_with (go_at_call 75; refine (KG.out fo).mono ?_; rintro e w4 ⟨rfl, rfl⟩; rw [HGF.out])
            go_ret
            exact ⟨by rw [HE.out]; rfl, hb3⟩
  · have hc0 : c0 ≠ 0 := by simpa using hc
    have HX : Hid (X = c0) := Lib.hid (by rw [HPO.out, if_neg hc0])
    clear hc0
    go_wp2_with fail
    go_ret
    exact ⟨by rw [HX.out]; rfl, hb3⟩
end
end Go.Proofs.YtnddoehhcpejjaaGreat
/- The walks of the reference's Check and Valid of a journal. -/
namespace Go.Proofs.YtnddoehhcpejjaaGreat
set_option linter.unusedVariables false
set_option linter.unusedSimpArgs false
open Go.RowKit

theorem EsIn.take {w : World} {es : List EntryR} {A : Option Addr} (h : EsIn w es A) (k : Nat) (hk : k ≤ es.length) : EsIn w (es.take k) A :=
  ⟨rd_take EntryR.len h.rd k hk, fun x hx => h.ok x (List.mem_of_mem_take hx), fun x hx => h.ln x (List.mem_of_mem_take hx), fun x hx => h.am x (List.mem_of_mem_take hx)⟩
section
variable (gcs : Array Value) (cur : ByteArray) (y m p : Int) (cl : List Acc) (cA : Option Addr) (cc : Nat) (ro : RolesR) (el : List EntR) (eA : Option Addr) (ec : Nat) (w : World)
set_option maxRecDepth 100000 in
set_option maxHeartbeats 16000000 in
theorem rjcheck_any (es : List EntryR) (sA : Option Addr) (sc : Nat) (HG : Hid (gcs = #[.string cur, .int .i64 y, .int .i64 m, .int .i64 p, .slice cA cl.length cc, .int .i64 ro.investment, .int .i64 ro.goodwill, .int .i64 ro.associates, .int .i64 ro.inventory, .int .i64 ro.reserve, .int .i64 ro.minority, .int .i64 ro.retained, .int .i64 ro.acquired, .int .i64 ro.owners, .int .i64 ro.disposal, .int .i64 ro.associateProfit, .int .i64 ro.dividends, .int .i64 ro.minorityProfit, .int .i64 ro.difference, .int .i64 ro.margin, .slice eA el.length ec])) (h : GIn w cl cA el eA) (hF : FewOk cur cl el) (hE : EsIn w es sA) (hn : es.length ≤ 1000) (hsc : es.length ≤ sc) :
    Calls Tryz.prog 30 #[.agg gcs, .slice sA es.length sc] w (CheckPost (jvB (Gr.gv cur cl ro el (Cal.ok y m p)) el.length (Jn.kB el) (Jn.dB y m p) es) w) := by
  have H := Lib.hid h
  have HE := Lib.hid hE
  have KV := Lib.hid (fun W (h : GIn W cl cA el eA) => rgvalid_any gcs cur y m p cl cA cc ro el eA ec W HG h hF)
  have hgi : (Tryz.prog.info? 29).map (·.size) = some gcs.size := by rw [HG.out]; exact grp_size
  have hb : Below w.heap.size w (w.alloc (.cells gcs 29)) := (Below.refl _ _).alloc (Nat.le_refl _) _
  have HB := Lib.hid (Blk.new w 29 gcs)
  have HJV : Hid (jvB (Gr.gv cur cl ro el (Cal.ok y m p)) el.length (Jn.kB el) (Jn.dB y m p) es = (Gr.gv cur cl ro el (Cal.ok y m p) && Jn.allB (Jn.ckE (Gr.gv cur cl ro el (Cal.ok y m p)) el.length (Jn.kB el) (Jn.dB y m p)) es)) := Lib.hid rfl
  have HPO := Lib.hid (fun W id en da kd fo tx ll lA lc es' (h : GIn W cl cA el eA) hE hes hln htx hr hn => rpost_any gcs cur y m p cl cA cc ro el eA ec W id en da kd fo tx ll lA lc es' sA sc HG h hF hE hes hln htx hr hn)
  clear h hE hF
  generalize jvB (Gr.gv cur cl ro el (Cal.ok y m p)) el.length (Jn.kB el) (Jn.dB y m p) es = J at *
  generalize hCC : Jn.ckE (Gr.gv cur cl ro el (Cal.ok y m p)) el.length (Jn.kB el) (Jn.dB y m p) = C at *
  clear hCC
  generalize Gr.gv cur cl ro el (Cal.ok y m p) = V at *
  go_enter Tryz.func30, Tryz.ntmps30
  go_upto_region 1 with fail
  generalize w.alloc (.cells gcs 29) = W at *
  cases V
  · have HJ0 : Hid (J = false) := Lib.hid HJV.out
    go_wp2_with (first
      | (refine wpList_load_blk 29 (.tmp 2) rfl (w.heap.size) rfl (by kernel_rfl) (HB).out Tryz.underlying29 hgi ?_)
      | (go_at_call 48; refine (KV.out _ (H.out.step hb)).mono ?_; rintro e w3 ⟨rfl, hb3⟩; have hb4 := bel hb hb3))
    go_ret2
    exact ⟨0, 1, rfl, by rw [HJ0.out]; simp, hb4⟩
  · have HJ1 : Hid (J = Jn.allB C es) := Lib.hid (by rw [HJV.out, Bool.true_and])
    clear HJV
    go_upto_region 3 with (first
      | (refine wpList_load_blk 29 (.tmp 2) rfl (w.heap.size) rfl (by kernel_rfl) (HB).out Tryz.underlying29 hgi ?_)
      | (go_at_call 48; refine (KV.out _ (H.out.step hb)).mono ?_; rintro e w3 ⟨rfl, hb3⟩; have hb4 := bel hb hb3; have HB4 := Lib.hid (HB.out.step hb3); clear hb3))
    clear hb HB KV
    go_wp2_with fail
    go_loopw [6] (fun t wr => ∃ k : Nat, k ≤ es.length ∧ Jn.okTo C es k ∧ t = .int .i64 k ∧ Blk wr w.heap.size 29 gcs ∧ Below w.heap.size w wr) (fun t _ => es.length - (intOf t).toNat)
    case atStart => exact ⟨0, by omega, Jn.okTo_zero C es, rfl, HB4.out, hb4⟩
    case round =>
      clear hb4 HB4
      obtain ⟨k, hk, hok, rfl, hB, hb⟩ := hrel
      have HOK := Lib.hid hok
      have HBr := Lib.hid hB
      have hz := hb.size
      clear hok hB
      by_cases hlt : k < es.length
      · obtain ⟨b, o, hA, hbo, f0, f1, f2, f3, f4, f5, f6⟩ := EntryR.at_ (Rd.now HE.out.rd hb) hlt
        subst hA
        have hxo := HE.out.ok _ (List.getElem_mem hlt)
        have hxl := HE.out.ln _ (List.getElem_mem hlt)
        have HST := Lib.hid (fun h2 => Jn.okTo_step (C := C) hlt HOK.out h2)
        have HNO := Lib.hid (fun h2 => Jn.okTo_no (C := C) (es := es) hlt h2)
        generalize es[k] = x at *
        obtain ⟨id, en, da, kd, fo, tx, ⟨ll, lA, lc⟩⟩ := x
        dsimp only [Sl.val] at *
        have htk : (es.take k).length = k := by rw [List.length_take]; omega
        have htk2 : (es.take k).length ≤ 1000 := by omega
        have HEA := Lib.hid (Jn.ok_each HOK.out)
        have HC := Lib.hid (fun W (hw : Below w.heap.size w W) => HPO.out W id en da kd fo tx ll lA lc (es.take k) (H.out.step hw) ((HE.out.step hw).take k hk) HEA.out htk2 hxo.2.2.2.2.2.1 (Rd.now hxo.2.2.2.2.2.2.1.1 hw) (by omega))
        rw [htk] at HC
        generalize Jn.poE C (es.take k) ⟨id, en, da, kd, fo, tx, ⟨ll, lA, lc⟩⟩ = X at *
        have q0 := fun d : Later wr => d.cell hbo f0
        have q1 := fun d : Later wr => d.cell hbo f1
        have q2 := fun d : Later wr => d.cell hbo f2
        have q3 := fun d : Later wr => d.cell hbo f3
        have q4 := fun d : Later wr => d.cell hbo f4
        have q5 := fun d : Later wr => d.cell hbo f5
        have q6 := fun d : Later wr => d.cell hbo f6
        have hz2 : (0 : Int) ≤ (k : Int) := by omega
        have hz3 : (k : Int) < es.length := by omega
        have hz4 : (k : Int) ≤ sc := by omega
        clear f0 f1 f2 f3 f4 f5 f6 hxo hxl htk htk2
        unfold IntPost at HC
        cases hX : (X != 0)
        · have hX0 : X = 0 := by simpa using hX
          have HS0 := Lib.hid (HST.out hX0)
          clear hX0
          go_upto_region 6 with fail
          refine wp_region_later (by kernel_rfl) (by kernel_rfl) ?_
          (repeat (go_big_quiet_step ((fail)))); refine quiet_load_blk 29 (.tmp 2) rfl (w.heap.size) rfl (by kernel_rfl) (HBr).out Tryz.underlying29 hgi ?_; (try simp only [Act.put, List.setIfInBounds_toArray, List.set_cons_zero, List.set_cons_succ])
          (repeat (go_big_quiet_step ((fail)))); go_big_quiet_step ((go_at_call 49; exact Later.call _ (HC.out _ (bel hb (Later.below _)))))
          (repeat (go_big_quiet_step ((fail)))); refine wpQuiet_nil ?_; rintro _ ⟨dq, rfl⟩
          have hbe := bel hb dq.below
          have HBe := Lib.hid (HBr.out.step dq.below)
          go_wp2_with fail
          go_roundw
          case rel => exact ⟨k + 1, by omega, HS0.out, by go_num, HBe.out, hbe⟩
          case measure => simp [intOf]; omega
        · have hX0 : X ≠ 0 := by simpa using hX
          have HN0 := Lib.hid (HNO.out hX0)
          have HX0 := Lib.hid hX0
          clear hX0
          go_upto_region 6 with fail
          refine wp_region_later (by kernel_rfl) (by kernel_rfl) ?_
          (repeat (go_big_quiet_step ((fail)))); refine quiet_load_blk 29 (.tmp 2) rfl (w.heap.size) rfl (by kernel_rfl) (HBr).out Tryz.underlying29 hgi ?_; (try simp only [Act.put, List.setIfInBounds_toArray, List.set_cons_zero, List.set_cons_succ])
          (repeat (go_big_quiet_step ((fail)))); go_big_quiet_step ((go_at_call 49; exact Later.call _ (HC.out _ (bel hb (Later.below _)))))
          (repeat (go_big_quiet_step ((fail)))); refine wpQuiet_nil ?_; rintro _ ⟨dq, rfl⟩
          have hbe := bel hb dq.below
          go_wp2_with fail
          go_ret2
          exact ⟨k, X, rfl, ⟨fun h => absurd h HX0.out, fun h => by rw [HJ1.out, HN0.out] at h; cases h⟩, hbe⟩
      · have HAL := Lib.hid (Jn.okTo_all (C := C) (es := es) (by omega) HOK.out)
        go_wp2_with fail
        go_ret2
        exact ⟨0, 0, rfl, by rw [HJ1.out, HAL.out]; exact ⟨fun _ => rfl, fun _ => rfl⟩, hb⟩
set_option maxRecDepth 100000 in
set_option maxHeartbeats 4000000 in
theorem rjvalid_any (es : List EntryR) (sA : Option Addr) (sc : Nat) (HG : Hid (gcs = #[.string cur, .int .i64 y, .int .i64 m, .int .i64 p, .slice cA cl.length cc, .int .i64 ro.investment, .int .i64 ro.goodwill, .int .i64 ro.associates, .int .i64 ro.inventory, .int .i64 ro.reserve, .int .i64 ro.minority, .int .i64 ro.retained, .int .i64 ro.acquired, .int .i64 ro.owners, .int .i64 ro.disposal, .int .i64 ro.associateProfit, .int .i64 ro.dividends, .int .i64 ro.minorityProfit, .int .i64 ro.difference, .int .i64 ro.margin, .slice eA el.length ec])) (h : GIn w cl cA el eA) (hF : FewOk cur cl el) (hE : EsIn w es sA) (hn : es.length ≤ 1000) (hsc : es.length ≤ sc) :
    Calls Tryz.prog 18 #[.agg gcs, .slice sA es.length sc] w (BoolPost (jvB (Gr.gv cur cl ro el (Cal.ok y m p)) el.length (Jn.kB el) (Jn.dB y m p) es) w) := by
  have H := Lib.hid h
  have HE := Lib.hid hE
  have KC := Lib.hid (fun W (h : GIn W cl cA el eA) hE => rjcheck_any gcs cur y m p cl cA cc ro el eA ec W es sA sc HG h hF hE hn hsc)
  have hgi : (Tryz.prog.info? 29).map (·.size) = some gcs.size := by rw [HG.out]; exact grp_size
  have hb : Below w.heap.size w (w.alloc (.cells gcs 29)) := (Below.refl _ _).alloc (Nat.le_refl _) _
  have HB := Lib.hid (Blk.new w 29 gcs)
  clear h hE hF
  generalize jvB (Gr.gv cur cl ro el (Cal.ok y m p)) el.length (Jn.kB el) (Jn.dB y m p) es = J at *
  go_enter Tryz.func18, Tryz.ntmps18
  go_upto_region 1 with fail
  generalize w.alloc (.cells gcs 29) = W at *
  go_upto_region 2 with (first
    | (refine wpList_load_blk 29 (.tmp 2) rfl (w.heap.size) rfl (by kernel_rfl) (HB).out Tryz.underlying29 hgi ?_)
    | (go_at_call 30; refine (KC.out _ (H.out.step hb) (HE.out.step hb)).mono ?_; rintro e w3 ⟨kk, E, rfl, hEE, hb9⟩; have hb3 := bel hb hb9; have HEE := Lib.hid hEE; clear hb9 hEE))
  cases J
  · have hx : (E == 0) = false := by
      cases h : (E == 0)
      · rfl
      · have := HEE.out.1 (by simpa using h); cases this
    go_wp2_with fail
    go_ret
    exact ⟨rfl, hb3⟩
  · have hx : (E == 0) = true := by simpa using HEE.out.2 rfl
    go_wp2_with fail
    go_ret
    exact ⟨rfl, hb3⟩
end
end Go.Proofs.YtnddoehhcpejjaaGreat
