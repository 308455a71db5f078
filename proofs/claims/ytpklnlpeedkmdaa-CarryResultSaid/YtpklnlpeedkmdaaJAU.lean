/- Texts of this claim, put together. -/
import Derived.Test.YtpklnlpeedkmdaaJAT
import Derived.Test.YtpklnlpeedkmdaaJAS
import Derived.Test.YtpklnlpeedkmdaaJAG
/- The walks of carry.Result and Retained, and of their references. -/
namespace Go.Proofs.Ytpklnlpeedkmdaa
set_option linter.unusedVariables false
set_option linter.unusedSimpArgs false
open Go.RowKit

theorem bg_is {V : Bool} {Y M P q : Int} {cl : List Acc} {l : List DatR} (h : Cr.vE V Y M P q cl l = 0) : Cr.bg V Y M P q = Cal.beV Y M P q := by
  unfold Cr.vE at h
  split at h
  · rename_i h1
    unfold Cr.ckE at h1
    unfold Cr.bg
    cases V
    · simp at h1
    · rfl
  · rename_i h1
    exact absurd h h1
section
variable (gcs : Array Value) (cur : ByteArray) (y m p : Int) (cl : List Acc) (cA : Option Addr) (cc : Nat) (ro : RolesR) (el : List EntR) (eA : Option Addr) (ec : Nat) (w : World)
def RTwo (F : Int → DatR → Bool) (V : Bool) (y m p q : Int) (cl : List Acc) (l : List DatR) (w : World) : Ending → World → Prop := Two (Cr.toV V y m p q cl (F (Cr.bg V y m p q)) l) (Cr.toE V y m p q cl (F (Cr.bg V y m p q)) l) w
set_option maxRecDepth 100000 in
set_option maxHeartbeats 4000000 in
theorem cres_any (l : List DatR) (A : Option Addr) (lc : Nat) (q : Int) (HG : Hid (gcs = #[.string cur, .int .i64 y, .int .i64 m, .int .i64 p, .slice cA cl.length cc, .int .i64 ro.investment, .int .i64 ro.goodwill, .int .i64 ro.associates, .int .i64 ro.inventory, .int .i64 ro.reserve, .int .i64 ro.minority, .int .i64 ro.retained, .int .i64 ro.acquired, .int .i64 ro.owners, .int .i64 ro.disposal, .int .i64 ro.associateProfit, .int .i64 ro.dividends, .int .i64 ro.minorityProfit, .int .i64 ro.difference, .int .i64 ro.margin, .slice eA el.length ec])) (h : GIn w cl cA el eA) (hF : FewOk cur cl el) (hr : Rd w w.heap.size 3 A l.length (cellsOf DatR.cells l)) (hl : l.length ≤ 1000) :
    Calls Try.prog 33 #[.agg gcs, .slice A l.length lc, .int .i64 q] w (RTwo (Cr.isRes cl ro) (Gr.gv cur cl ro el (Cal.ok y m p)) y m p q cl l w) := by
  have hn : cl.length ≤ 100000 := by have := hF.ch; omega
  have hgi : (Try.prog.info? 29).map (·.size) = some gcs.size := by rw [HG.out]; exact grp_size
  have hb : Below w.heap.size w (w.alloc (.cells gcs 29)) := (Below.refl _ _).alloc (Nat.le_refl _) _
  have HB := Lib.hid (Blk.new w 29 gcs)
  have K1 := Lib.hid (totalRes_any gcs cur y m p cl cA cc ro el eA ec (w.alloc (.cells gcs 29)) (Cr.isRes cl ro (Cr.bg (Gr.gv cur cl ro el (Cal.ok y m p)) y m p q)) l A lc q w.heap.size HG (h.step hb) hF (Rd.now hr hb) hl (fun x _ W hW => res1_any gcs cur y m p cl cA cc ro el eA ec W _ _ w.heap.size HG (h.step (bel hb hW)) hn (HB.out.step hW)))
  clear h hF hr
  unfold RTwo
  generalize Gr.gv cur cl ro el (Cal.ok y m p) = V at *
  generalize Cr.toV V y m p q cl (Cr.isRes cl ro (Cr.bg V y m p q)) l = tv at *
  generalize Cr.toE V y m p q cl (Cr.isRes cl ro (Cr.bg V y m p q)) l = te at *
  go_enter Try.func33, Try.ntmps33
  go_wp2_with (first
    | (refine wpList_load_blk 29 (.tmp 3) rfl (w.heap.size) rfl (by kernel_rfl) (HB).out Try.underlying29 hgi ?_)
    | (go_at_call 59; refine K1.out.mono ?_; rintro e w2 ⟨rfl, hb9⟩; replace hb := bel hb hb9; clear hb9))
  go_ret2
  exact ⟨rfl, hb⟩
set_option maxRecDepth 100000 in
set_option maxHeartbeats 4000000 in
theorem cret_any (l : List DatR) (A : Option Addr) (lc : Nat) (q : Int) (HG : Hid (gcs = #[.string cur, .int .i64 y, .int .i64 m, .int .i64 p, .slice cA cl.length cc, .int .i64 ro.investment, .int .i64 ro.goodwill, .int .i64 ro.associates, .int .i64 ro.inventory, .int .i64 ro.reserve, .int .i64 ro.minority, .int .i64 ro.retained, .int .i64 ro.acquired, .int .i64 ro.owners, .int .i64 ro.disposal, .int .i64 ro.associateProfit, .int .i64 ro.dividends, .int .i64 ro.minorityProfit, .int .i64 ro.difference, .int .i64 ro.margin, .slice eA el.length ec])) (h : GIn w cl cA el eA) (hF : FewOk cur cl el) (hr : Rd w w.heap.size 3 A l.length (cellsOf DatR.cells l)) (hl : l.length ≤ 1000) :
    Calls Try.prog 36 #[.agg gcs, .slice A l.length lc, .int .i64 q] w (RTwo (Cr.isRet cl ro) (Gr.gv cur cl ro el (Cal.ok y m p)) y m p q cl l w) := by
  have hn : cl.length ≤ 100000 := by have := hF.ch; omega
  have hgi : (Try.prog.info? 29).map (·.size) = some gcs.size := by rw [HG.out]; exact grp_size
  have hb : Below w.heap.size w (w.alloc (.cells gcs 29)) := (Below.refl _ _).alloc (Nat.le_refl _) _
  have HB := Lib.hid (Blk.new w 29 gcs)
  have K1 := Lib.hid (totalRet_any gcs cur y m p cl cA cc ro el eA ec (w.alloc (.cells gcs 29)) (Cr.isRet cl ro (Cr.bg (Gr.gv cur cl ro el (Cal.ok y m p)) y m p q)) l A lc q HG (h.step hb) hF (Rd.now hr hb) hl (fun x _ W hW => ret1_any _ _ W))
  clear h hF hr
  unfold RTwo
  generalize Gr.gv cur cl ro el (Cal.ok y m p) = V at *
  generalize Cr.toV V y m p q cl (Cr.isRet cl ro (Cr.bg V y m p q)) l = tv at *
  generalize Cr.toE V y m p q cl (Cr.isRet cl ro (Cr.bg V y m p q)) l = te at *
  go_enter Try.func36, Try.ntmps36
  go_wp2_with (first
    | (refine wpList_load_blk 29 (.tmp 3) rfl (w.heap.size) rfl (by kernel_rfl) (HB).out Try.underlying29 hgi ?_)
    | (go_at_call 59; refine K1.out.mono ?_; rintro e w2 ⟨rfl, hb9⟩; replace hb := bel hb hb9; clear hb9))
  go_ret2
  exact ⟨rfl, hb⟩
set_option maxRecDepth 100000 in
set_option maxHeartbeats 8000000 in
theorem crres_any (l : List DatR) (A : Option Addr) (lc : Nat) (q : Int) (HG : Hid (gcs = #[.string cur, .int .i64 y, .int .i64 m, .int .i64 p, .slice cA cl.length cc, .int .i64 ro.investment, .int .i64 ro.goodwill, .int .i64 ro.associates, .int .i64 ro.inventory, .int .i64 ro.reserve, .int .i64 ro.minority, .int .i64 ro.retained, .int .i64 ro.acquired, .int .i64 ro.owners, .int .i64 ro.disposal, .int .i64 ro.associateProfit, .int .i64 ro.dividends, .int .i64 ro.minorityProfit, .int .i64 ro.difference, .int .i64 ro.margin, .slice eA el.length ec])) (h : GIn w cl cA el eA) (hF : FewOk cur cl el) (hr : Rd w w.heap.size 3 A l.length (cellsOf DatR.cells l)) (hl : l.length ≤ 1000) :
    Calls Try.prog 35 #[.agg gcs, .slice A l.length lc, .int .i64 q] w (RTwo (Cr.isRes cl ro) (Gr.gv cur cl ro el (Cal.ok y m p)) y m p q cl l w) := by
  have hn : cl.length ≤ 100000 := by have := hF.ch; omega
  have H := Lib.hid h
  have HR := Lib.hid hr
  have hgi : (Try.prog.info? 29).map (·.size) = some gcs.size := by rw [HG.out]; exact grp_size
  have hb : Below w.heap.size w (w.alloc (.cells gcs 29)) := (Below.refl _ _).alloc (Nat.le_refl _) _
  have HB := Lib.hid (Blk.new w 29 gcs)
  have K1 := Lib.hid (fun W h h2 => rdvalid_any gcs cur y m p cl cA cc ro el eA ec W l A lc q HG h hF h2 hl)
  clear h hF hr
  unfold RTwo
  generalize Gr.gv cur cl ro el (Cal.ok y m p) = V at *
  have HNA := Lib.hid (Cr.vE_zero (V := V) (Y := y) (M := m) (P := p) (q := q) (cl := cl) (l := l))
  have HBG := Lib.hid (bg_is (V := V) (Y := y) (M := m) (P := p) (q := q) (cl := cl) (l := l))
  obtain ⟨F, hFe⟩ : ∃ F, F = Cr.isRes cl ro (Cr.bg V y m p q) := ⟨_, rfl⟩
  rw [← hFe]
  have HFE := Lib.hid hFe
  clear hFe
  have HE : Hid (Cr.toE V y m p q cl F l = if Cr.vE V y m p q cl l = 0 then (if amV (Cr.tot F l) then 0 else 2) else Cr.vE V y m p q cl l) := Lib.hid rfl
  have HV : Hid (Cr.toV V y m p q cl F l = if Cr.toE V y m p q cl F l = 0 then Cr.tot F l else 0) := Lib.hid rfl
  generalize Cr.toV V y m p q cl F l = tv at *
  generalize Cr.toE V y m p q cl F l = te at *
  generalize Cr.vE V y m p q cl l = ve at *
  generalize Cr.bg V y m p q = bg at *
  cases hx : (ve != 0)
  · have hve : ve = 0 := by simpa using hx
    rw [HBG.out hve] at HFE
    rw [hve, if_pos rfl] at HE
    have HBD := Lib.hid (Cr.tot_bd F l (HNA.out hve))
    have HNA2 := Lib.hid (HNA.out hve)
    clear hve
    go_enter Try.func35, Try.ntmps35
    go_wp2_with (first
      | (refine wpList_load_blk 29 (.tmp 3) rfl (w.heap.size) rfl (by kernel_rfl) (HB).out Try.underlying29 hgi ?_)
      | (go_at_call 61; refine (K1.out _ (H.out.step hb) (Rd.now HR.out hb)).mono ?_; rintro e w2 ⟨rfl, hb9⟩; replace hb := bel hb hb9; have HB2 := Lib.hid (HB.out.step hb9); clear hb9))
    go_loopw [9, 10] (fun s t wr => ∃ k : Nat, k ≤ l.length ∧ s = .int .i64 (Cr.tot F (l.take k)) ∧ t = .int .i64 k ∧ Below w2.heap.size w2 wr) (fun _ t _ => l.length - (intOf t).toNat)
    case atStart => exact ⟨0, by omega, rfl, rfl, Below.refl _ _⟩
    case round =>
      obtain ⟨k, hk, rfl, rfl, hbr⟩ := hrel
      have hbw := bel hb hbr
      have hbd := HBD.out k hk
      by_cases hlt : k < l.length
      · obtain ⟨b, o, hA, hbo, f0, f1, f2⟩ := DatR.at_ (Rd.now HR.out hbw) hlt
        subst hA
        have HTT := Lib.hid (Cr.tot_take F l k hlt)
        have ham : -1000000000000 ≤ l[k].amount ∧ l[k].amount ≤ 1000000000000 := by
          have h2 := List.any_eq_false.1 HNA2.out l[k] (List.getElem_mem hlt)
          unfold Cr.notAm at h2
          exact amV_is (by simpa using h2)
        generalize hx : l[k] = x at *
        clear hx
        obtain ⟨xa, xd, xm⟩ := x
        dsimp only at *
        have HBr := Lib.hid (HB2.out.step hbr)
        have K2 := Lib.hid (fun W h => rshown_any gcs cur y m p cl cA cc ro el _ ec W xa xd q HG h hn)
        have HFX : Hid (F ⟨xa, xd, xm⟩ = Cr.isRes cl ro (Cal.beV y m p q) ⟨xa, xd, xm⟩) := Lib.hid (by rw [HFE.out])
        generalize F ⟨xa, xd, xm⟩ = fx at *
        have q0 : ∀ d : Later wr, d.now.cell? ⟨b, o + k * 3, none⟩ = some (.int .i64 xa) := fun d => d.cell hbo f0
        have q1 : ∀ d : Later wr, d.now.cell? ⟨b, o + k * 3 + 1, none⟩ = some (.int .i64 xd) := fun d => d.cell hbo f1
        have K3 := Lib.hid (fun W h => rresult_any gcs cur y m p cl cA cc ro el _ ec W (Cr.sh cl ro xa xd (Cal.beV y m p q)) HG h hn)
        have HRB : Hid (resB cl (Cr.sh cl ro xa xd (Cal.beV y m p q)) = fx) := Lib.hid HFX.out.symm
        rw [HRB.out] at K3
        generalize Cr.sh cl ro xa xd (Cal.beV y m p q) = pl at *
        go_wp2_with fail
        refine wp_region_later (by kernel_rfl) (by kernel_rfl) ?_
        (repeat (go_big_quiet_step ((fail)))); refine quiet_load_blk 29 (.tmp 3) rfl (w.heap.size) rfl (by kernel_rfl) (HBr).out Try.underlying29 hgi ?_; (try simp only [Act.put, List.setIfInBounds_toArray, List.set_cons_zero, List.set_cons_succ])
        (repeat (go_big_quiet_step ((fail)))); refine quiet_load_blk 29 (.tmp 3) rfl (w.heap.size) rfl (by kernel_rfl) (HBr).out Try.underlying29 hgi ?_; (try simp only [Act.put, List.setIfInBounds_toArray, List.set_cons_zero, List.set_cons_succ])
        (repeat (go_big_quiet_step ((fail)))); go_big_quiet_step ((go_at_call 58; exact Later.call _ (K2.out _ (H.out.step (bel hbw (Later.below _))))))
        (repeat (go_big_quiet_step ((fail)))); go_big_quiet_step ((go_at_call 26; exact Later.call _ (K3.out _ (H.out.step (bel hbw (Later.below _))))))
        (repeat (go_big_quiet_step ((fail)))); refine wpQuiet_nil ?_; rintro _ ⟨dq, rfl⟩
        have hbe := bel hbr dq.below
        have r2 : dq.now.cell? ⟨b, o + k * 3 + 2, none⟩ = some (.int .i64 xm) := dq.cell hbo f2
        generalize Cr.tot F (l.take k) = s at *
        clear q0 q1 f0 f1 f2
        cases fx
        · go_wp2_with fail
          go_roundw
          case rel => exact ⟨k + 1, by omega, by rw [HTT.out]; simp, by go_num, hbe⟩
          case measure => simp [intOf]; omega
        · go_wp2_with fail
          go_roundw
          case rel => exact ⟨k + 1, by omega, by rw [HTT.out]; simp, by go_num, hbe⟩
          case measure => simp [intOf]; omega
      · have HT : Hid (Cr.tot F (l.take k) = Cr.tot F l) := Lib.hid (by rw [List.take_of_length_le (by omega)])
        rw [HT.out] at hbd ⊢
        generalize Cr.tot F l = s at *
        cases ha : amV s
        · have HE2 : Hid (te = 2) := Lib.hid (by rw [HE.out, ha]; rfl)
          have HV2 : Hid (tv = 0) := Lib.hid (by rw [HV.out, HE2.out]; rfl)
          have HA := Lib.hid ha
          clear ha
          go_wp2_with (go_at_call 62; refine (cramount_any _ _).mono ?_; rintro e w2 ⟨rfl, rfl⟩; rw [HA.out])
          go_ret2
          exact ⟨by rw [HE2.out, HV2.out]; rfl, hbw⟩
        · have HE2 : Hid (te = 0) := Lib.hid (by rw [HE.out, ha]; rfl)
          have HV2 : Hid (tv = s) := Lib.hid (by rw [HV.out, HE2.out]; rfl)
          have HA := Lib.hid ha
          clear ha
          go_wp2_with (go_at_call 62; refine (cramount_any _ _).mono ?_; rintro e w2 ⟨rfl, rfl⟩; rw [HA.out])
          go_ret2
          exact ⟨by rw [HE2.out, HV2.out]; rfl, hbw⟩
  · have hne : ve ≠ 0 := by simpa using hx
    have HE2 : Hid (te = ve) := Lib.hid (by rw [HE.out, if_neg hne])
    have HV2 : Hid (tv = 0) := Lib.hid (by rw [HV.out, HE2.out, if_neg hne])
    clear hne
    go_enter Try.func35, Try.ntmps35
    go_wp2_with (first
      | (refine wpList_load_blk 29 (.tmp 3) rfl (w.heap.size) rfl (by kernel_rfl) (HB).out Try.underlying29 hgi ?_)
      | (go_at_call 61; refine (K1.out _ (H.out.step hb) (Rd.now HR.out hb)).mono ?_; rintro e w2 ⟨rfl, hb9⟩; replace hb := bel hb hb9; clear hb9))
    go_ret2
    exact ⟨by rw [HE2.out, HV2.out]; rfl, hb⟩
set_option maxRecDepth 100000 in
set_option maxHeartbeats 8000000 in
theorem crret_any (l : List DatR) (A : Option Addr) (lc : Nat) (q : Int) (HG : Hid (gcs = #[.string cur, .int .i64 y, .int .i64 m, .int .i64 p, .slice cA cl.length cc, .int .i64 ro.investment, .int .i64 ro.goodwill, .int .i64 ro.associates, .int .i64 ro.inventory, .int .i64 ro.reserve, .int .i64 ro.minority, .int .i64 ro.retained, .int .i64 ro.acquired, .int .i64 ro.owners, .int .i64 ro.disposal, .int .i64 ro.associateProfit, .int .i64 ro.dividends, .int .i64 ro.minorityProfit, .int .i64 ro.difference, .int .i64 ro.margin, .slice eA el.length ec])) (h : GIn w cl cA el eA) (hF : FewOk cur cl el) (hr : Rd w w.heap.size 3 A l.length (cellsOf DatR.cells l)) (hl : l.length ≤ 1000) :
    Calls Try.prog 37 #[.agg gcs, .slice A l.length lc, .int .i64 q] w (RTwo (Cr.isRet cl ro) (Gr.gv cur cl ro el (Cal.ok y m p)) y m p q cl l w) := by
  have hn : cl.length ≤ 100000 := by have := hF.ch; omega
  have H := Lib.hid h
  have HR := Lib.hid hr
  have hgi : (Try.prog.info? 29).map (·.size) = some gcs.size := by rw [HG.out]; exact grp_size
  have hb : Below w.heap.size w (w.alloc (.cells gcs 29)) := (Below.refl _ _).alloc (Nat.le_refl _) _
  have HB := Lib.hid (Blk.new w 29 gcs)
  have K1 := Lib.hid (fun W h h2 => rdvalid_any gcs cur y m p cl cA cc ro el eA ec W l A lc q HG h hF h2 hl)
  clear h hF hr
  unfold RTwo
  generalize Gr.gv cur cl ro el (Cal.ok y m p) = V at *
  have HNA := Lib.hid (Cr.vE_zero (V := V) (Y := y) (M := m) (P := p) (q := q) (cl := cl) (l := l))
  have HBG := Lib.hid (bg_is (V := V) (Y := y) (M := m) (P := p) (q := q) (cl := cl) (l := l))
  obtain ⟨F, hFe⟩ : ∃ F, F = Cr.isRet cl ro (Cr.bg V y m p q) := ⟨_, rfl⟩
  rw [← hFe]
  have HFE := Lib.hid hFe
  clear hFe
  have HE : Hid (Cr.toE V y m p q cl F l = if Cr.vE V y m p q cl l = 0 then (if amV (Cr.tot F l) then 0 else 2) else Cr.vE V y m p q cl l) := Lib.hid rfl
  have HV : Hid (Cr.toV V y m p q cl F l = if Cr.toE V y m p q cl F l = 0 then Cr.tot F l else 0) := Lib.hid rfl
  generalize Cr.toV V y m p q cl F l = tv at *
  generalize Cr.toE V y m p q cl F l = te at *
  generalize Cr.vE V y m p q cl l = ve at *
  generalize Cr.bg V y m p q = bg at *
  cases hx : (ve != 0)
  · have hve : ve = 0 := by simpa using hx
    rw [HBG.out hve] at HFE
    rw [hve, if_pos rfl] at HE
    have HBD := Lib.hid (Cr.tot_bd F l (HNA.out hve))
    have HNA2 := Lib.hid (HNA.out hve)
    clear hve
    go_enter Try.func37, Try.ntmps37
    go_wp2_with (first
      | (refine wpList_load_blk 29 (.tmp 3) rfl (w.heap.size) rfl (by kernel_rfl) (HB).out Try.underlying29 hgi ?_)
      | (go_at_call 61; refine (K1.out _ (H.out.step hb) (Rd.now HR.out hb)).mono ?_; rintro e w2 ⟨rfl, hb9⟩; replace hb := bel hb hb9; have HB2 := Lib.hid (HB.out.step hb9); clear hb9))
    go_loopw [9, 10] (fun s t wr => ∃ k : Nat, k ≤ l.length ∧ s = .int .i64 (Cr.tot F (l.take k)) ∧ t = .int .i64 k ∧ Below w2.heap.size w2 wr) (fun _ t _ => l.length - (intOf t).toNat)
    case atStart => exact ⟨0, by omega, rfl, rfl, Below.refl _ _⟩
    case round =>
      obtain ⟨k, hk, rfl, rfl, hbr⟩ := hrel
      have hbw := bel hb hbr
      have hbd := HBD.out k hk
      by_cases hlt : k < l.length
      · obtain ⟨b, o, hA, hbo, f0, f1, f2⟩ := DatR.at_ (Rd.now HR.out hbw) hlt
        subst hA
        have HTT := Lib.hid (Cr.tot_take F l k hlt)
        have ham : -1000000000000 ≤ l[k].amount ∧ l[k].amount ≤ 1000000000000 := by
          have h2 := List.any_eq_false.1 HNA2.out l[k] (List.getElem_mem hlt)
          unfold Cr.notAm at h2
          exact amV_is (by simpa using h2)
        generalize hx : l[k] = x at *
        clear hx
        obtain ⟨xa, xd, xm⟩ := x
        dsimp only at *
        have HBr := Lib.hid (HB2.out.step hbr)
        have K2 := Lib.hid (fun W h => rshown_any gcs cur y m p cl cA cc ro el _ ec W xa xd q HG h hn)
        have HFX : Hid (F ⟨xa, xd, xm⟩ = Cr.isRet cl ro (Cal.beV y m p q) ⟨xa, xd, xm⟩) := Lib.hid (by rw [HFE.out])
        generalize F ⟨xa, xd, xm⟩ = fx at *
        have q0 : ∀ d : Later wr, d.now.cell? ⟨b, o + k * 3, none⟩ = some (.int .i64 xa) := fun d => d.cell hbo f0
        have q1 : ∀ d : Later wr, d.now.cell? ⟨b, o + k * 3 + 1, none⟩ = some (.int .i64 xd) := fun d => d.cell hbo f1
        have hfx : (Cr.sh cl ro xa xd (Cal.beV y m p q) != xa) = fx := by rw [HFX.out]; exact Cr.ret_flip cl ro (Cal.beV y m p q) ⟨xa, xd, xm⟩
        generalize Cr.sh cl ro xa xd (Cal.beV y m p q) = pl at *
        have HFX2 := Lib.hid hfx
        clear hfx HFX
        cases fx
        all_goals
          have hfx := HFX2.out
          go_wp2_with fail
          refine wp_region_later (by kernel_rfl) (by kernel_rfl) ?_
          (repeat (go_big_quiet_step ((fail)))); refine quiet_load_blk 29 (.tmp 3) rfl (w.heap.size) rfl (by kernel_rfl) (HBr).out Try.underlying29 hgi ?_; (try simp only [Act.put, List.setIfInBounds_toArray, List.set_cons_zero, List.set_cons_succ])
          (repeat (go_big_quiet_step ((fail)))); go_big_quiet_step ((go_at_call 58; exact Later.call _ (K2.out _ (H.out.step (bel hbw (Later.below _))))))
          (repeat (go_big_quiet_step ((fail)))); refine wpQuiet_nil ?_; rintro _ ⟨dq, rfl⟩
          clear hfx
          have hbe := bel hbr dq.below
          have r2 : dq.now.cell? ⟨b, o + k * 3 + 2, none⟩ = some (.int .i64 xm) := dq.cell hbo f2
          generalize Cr.tot F (l.take k) = s at *
          clear q0 q1 f0 f1 f2
          go_wp2_with fail
          go_roundw
          case rel => exact ⟨k + 1, by omega, by rw [HTT.out]; simp, by go_num, hbe⟩
          case measure => simp [intOf]; omega
      · have HT : Hid (Cr.tot F (l.take k) = Cr.tot F l) := Lib.hid (by rw [List.take_of_length_le (by omega)])
        rw [HT.out] at hbd ⊢
        generalize Cr.tot F l = s at *
        cases ha : amV s
        · have HE2 : Hid (te = 2) := Lib.hid (by rw [HE.out, ha]; rfl)
          have HV2 : Hid (tv = 0) := Lib.hid (by rw [HV.out, HE2.out]; rfl)
          have HA := Lib.hid ha
          clear ha
          go_wp2_with (go_at_call 62; refine (cramount_any _ _).mono ?_; rintro e w2 ⟨rfl, rfl⟩; rw [HA.out])
          go_ret2
          exact ⟨by rw [HE2.out, HV2.out]; rfl, hbw⟩
        · have HE2 : Hid (te = 0) := Lib.hid (by rw [HE.out, ha]; rfl)
          have HV2 : Hid (tv = s) := Lib.hid (by rw [HV.out, HE2.out]; rfl)
          have HA := Lib.hid ha
          clear ha
          go_wp2_with (go_at_call 62; refine (cramount_any _ _).mono ?_; rintro e w2 ⟨rfl, rfl⟩; rw [HA.out])
          go_ret2
          exact ⟨by rw [HE2.out, HV2.out]; rfl, hbw⟩
  · have hne : ve ≠ 0 := by simpa using hx
    have HE2 : Hid (te = ve) := Lib.hid (by rw [HE.out, if_neg hne])
    have HV2 : Hid (tv = 0) := Lib.hid (by rw [HV.out, HE2.out, if_neg hne])
    clear hne
    go_enter Try.func37, Try.ntmps37
    go_wp2_with (first
      | (refine wpList_load_blk 29 (.tmp 3) rfl (w.heap.size) rfl (by kernel_rfl) (HB).out Try.underlying29 hgi ?_)
      | (go_at_call 61; refine (K1.out _ (H.out.step hb) (Rd.now HR.out hb)).mono ?_; rintro e w2 ⟨rfl, hb9⟩; replace hb := bel hb hb9; clear hb9))
    go_ret2
    exact ⟨by rw [HE2.out, HV2.out]; rfl, hb⟩
end
end Go.Proofs.Ytpklnlpeedkmdaa
/- The walk of CarryResult. -/
namespace Go.Proofs.Ytpklnlpeedkmdaa
set_option linter.unusedVariables false
set_option linter.unusedSimpArgs false
open Go.RowKit

theorem dat_mk (r : List Int) (h : r.length = 3) : ∃ a : DatR, DatR.cells a = r.map (Value.int .i64) := by
  match r, h with
  | [a, b, c], _ => exact ⟨⟨a, b, c⟩, rfl⟩
theorem dat_info : (Try.prog.info? 96).map (fun i => (i.zero, i.size, i.bytes)) = some (some (.agg #[.int .i64 0, .int .i64 0, .int .i64 0]), 3, 24) := by kernel_rfl
def OwnDats (l : List DatR) (w : World) (e : Ending) (w' : World) : Prop := ∃ v, e = .returned v ∧ w'.ownsRow w.heap.size 96 3 v l.length (cellsOf DatR.cells l) ∧ Below w.heap.size w w'
set_option maxHeartbeats 4000000 in
theorem to_any (l : List DatR) (A : Option Addr) (lc : Nat) (w : World) (hr : Rd w w.heap.size 3 A l.length (cellsOf DatR.cells l)) (hl : l.length ≤ 1000) :
    Calls Try.prog 34 #[.slice A l.length lc] w (OwnDats l w) := by
  obtain ⟨i0, hi, hz0, hz1, hz2⟩ := info_parts dat_info
  have hb := Below.refl w.heap.size w
  have HR := Lib.hid hr
  clear hr
  go_enter Try.func34, Try.ntmps34
  go_wp2_with fail
  go_loopw [3, 8] (fun v t wr => ∃ k : Nat, k ≤ l.length ∧ t = .int .i64 k ∧ wr.ownsRow w.heap.size 96 3 v (l.take k).length (cellsOf DatR.cells (l.take k)) ∧ Below w.heap.size w wr) (fun _ t _ => l.length - (intOf t).toNat)
  case atStart => exact ⟨0, by omega, rfl, World.ownsRow_nil _ _ _ _, hb⟩
  case round =>
    clear hb
    obtain ⟨k, hk, rfl, ho, hb⟩ := hrel
    have hz := hb.size
    by_cases hlt : k < l.length
    · obtain ⟨b, o, hA, hbo, f0, f1, f2⟩ := DatR.at_ (HR.out.below hb (Nat.le_refl _)) hlt
      subst hA
      have HSN : Hid (l.take k ++ [l[k]] = l.take (k + 1)) := Lib.hid (List.take_succ_eq_append_getElem hlt).symm
      have hln : (l.take k).length ≤ 1000 := by rw [List.length_take]; omega
      have HO := Lib.hid ho
      clear ho
      generalize hx : l[k] = x at *
      clear hx
      obtain ⟨xa, xd, xm⟩ := x
      dsimp only at *
      have hb1 := (hb.alloc hz (.cells #[.int .i64 xa, .int .i64 xd, .int .i64 xm] 69)).alloc (hb.alloc hz (.cells #[.int .i64 xa, .int .i64 xd, .int .i64 xm] 69)).size (.cells #[.int .i64 xa, .int .i64 xd, .int .i64 xm] 96)
      have ho1 := (HO.out.alloc (.cells #[.int .i64 xa, .int .i64 xd, .int .i64 xm] 69)).alloc (.cells #[.int .i64 xa, .int .i64 xd, .int .i64 xm] 96)
      have HN := Lib.hid (Blk.newAt (w := wr.alloc (.cells #[.int .i64 xa, .int .i64 xd, .int .i64 xm] 69)) (g := wr.heap.size + 1) (t := 96) (cs := #[.int .i64 xa, .int .i64 xd, .int .i64 xm]) (by simp))
      go_wp2_with (at_builtin; refine wpList_append_rec DatR.cells 3 DatR.len DatR.one rfl (.tmp 12) (.tmp 14) 61 rfl w.heap.size 96 i0 (.agg #[.int .i64 0, .int .i64 0, .int .i64 0]) 24 Try.underlying61 hi hz0 hz1 hz2 rfl (by decide) _ (l.take k) rfl ho1 (wr.heap.size + 1) 1 ⟨xa, xd, xm⟩ _ rfl HN.out rfl (by simp only [maxLen]; omega) (by omega) hb1.size ?_; intro v4 w4 ho4 hg4)
      have hb4 := bel_own hb1 hb1.size ho1 hg4
      clear hg4 ho1 hb1
      go_wp2_with fail
      go_roundw
      case rel => exact ⟨k + 1, by omega, by go_num, own_cast ho4 HSN.out, hb4⟩
      case measure => simp [intOf]; omega
    · have HE : Hid (l.take k = l) := Lib.hid (List.take_of_length_le (by omega))
      rw [HE.out] at ho
      go_wp2_with fail
      go_ret
      exact ⟨_, rfl, ho, hb⟩
section
variable (cur : ByteArray) (y m p : Int) (cl : List Acc) (cA : Option Addr) (cc : Nat) (ro : RolesR) (el : List EntR) (eA : Option Addr) (ec : Nat) (w : World)
set_option maxRecDepth 100000 in
set_option maxHeartbeats 16000000 in
theorem law_CarryResult (l : List DatR) (A : Option Addr) (lc : Nat) (q : Int) (h : GIn w cl cA el eA) (hc : cur.size ≤ maxLen) (hcl : cl.length ≤ maxLen) (hel : el.length ≤ maxLen) (hr : Rd w w.heap.size 3 A l.length (cellsOf DatR.cells l)) (hl : l.length ≤ maxLen) :
    Calls Try.prog 10 #[.agg #[.string cur, .int .i64 y, .int .i64 m, .int .i64 p, .slice cA cl.length cc, .int .i64 ro.investment, .int .i64 ro.goodwill, .int .i64 ro.associates, .int .i64 ro.inventory, .int .i64 ro.reserve, .int .i64 ro.minority, .int .i64 ro.retained, .int .i64 ro.acquired, .int .i64 ro.owners, .int .i64 ro.disposal, .int .i64 ro.associateProfit, .int .i64 ro.dividends, .int .i64 ro.minorityProfit, .int .i64 ro.difference, .int .i64 ro.margin, .slice eA el.length ec], .slice A l.length lc, .int .i64 q] w fun e w' => e = .returned (.bool true) ∧ Below w.heap.size w w' := by
  have H := Lib.hid h
  have HR := Lib.hid hr
  unfold maxLen at hl
  clear h hr
  obtain ⟨gcs, hgc⟩ : ∃ x : Array Value, x = #[.string cur, .int .i64 y, .int .i64 m, .int .i64 p, .slice cA cl.length cc, .int .i64 ro.investment, .int .i64 ro.goodwill, .int .i64 ro.associates, .int .i64 ro.inventory, .int .i64 ro.reserve, .int .i64 ro.minority, .int .i64 ro.retained, .int .i64 ro.acquired, .int .i64 ro.owners, .int .i64 ro.disposal, .int .i64 ro.associateProfit, .int .i64 ro.dividends, .int .i64 ro.minorityProfit, .int .i64 ro.difference, .int .i64 ro.margin, .slice eA el.length ec] := ⟨_, rfl⟩
  have hgi : (Try.prog.info? 29).map (·.size) = some gcs.size := by rw [hgc]; exact grp_size
  have HG := Lib.hid hgc
  rw [← hgc]
  clear hgc
  have K0 := Lib.hid (fun W h => HG.out.symm ▸ few_any cur y m p cl cA cc ro el eA ec W h hc hcl hel)
  clear hcl hel
  have hb : Below w.heap.size w (w.alloc (.cells gcs 29)) := (Below.refl _ _).alloc (Nat.le_refl _) _
  have HB := Lib.hid (Blk.new w 29 gcs)
  go_enter Try.func10, Try.ntmps10
  go_wp2_with (first
    | (refine wpList_load_blk 29 (.tmp 3) rfl (w.heap.size) rfl (by kernel_rfl) (HB).out Try.underlying29 hgi ?_)
    | (go_at_call 30; refine (car_awake _).mono ?_; rintro e w2 ⟨rfl, hb9⟩; replace hb := bel hb hb9; replace HB := Lib.hid (HB.out.step hb9); clear hb9))
  refine (K0.out _ (H.out.step hb)).mono ?_
  rintro e w3 ⟨b, rfl, hb9, hok⟩
  replace hb := bel hb hb9
  replace HB := Lib.hid (HB.out.step hb9)
  clear hb9 K0
  cases b
  · clear hok
    go_wp2_with (go_at_call 30; refine (car_awake _).mono ?_; rintro e w4 ⟨rfl, hb9⟩; replace hb := bel hb hb9; clear hb9)
    go_ret
    exact ⟨rfl, hb⟩
  · have OK := Lib.hid (hok rfl)
    clear hok
    by_cases h60 : l.length ≤ 60
    · have KT := Lib.hid (fun W A lc h => to_any l A lc W h (by omega))
      have K1 := Lib.hid (fun W A lc h h2 => cres_any gcs cur y m p cl cA cc ro el eA ec W l A lc q HG h OK.out h2 (by omega))
      have K2 := Lib.hid (fun W A lc h h2 => crres_any gcs cur y m p cl cA cc ro el eA ec W l A lc q HG h OK.out h2 (by omega))
      have K3 := Lib.hid (fun W A lc h h2 => cret_any gcs cur y m p cl cA cc ro el eA ec W l A lc q HG h OK.out h2 (by omega))
      have K4 := Lib.hid (fun W A lc h h2 => crret_any gcs cur y m p cl cA cc ro el eA ec W l A lc q HG h OK.out h2 (by omega))
      unfold RTwo at K1 K2 K3 K4
      generalize Gr.gv cur cl ro el (Cal.ok y m p) = V at *
      generalize Cr.toV V y m p q cl (Cr.isRes cl ro (Cr.bg V y m p q)) l = v1 at *
      generalize Cr.toE V y m p q cl (Cr.isRes cl ro (Cr.bg V y m p q)) l = e1 at *
      generalize Cr.toV V y m p q cl (Cr.isRet cl ro (Cr.bg V y m p q)) l = v2 at *
      generalize Cr.toE V y m p q cl (Cr.isRet cl ro (Cr.bg V y m p q)) l = e2 at *
      have b1 : (v1 == v1) = true := by simp
      have b2 : (e1 == e1) = true := by simp
      have b3 : (v2 == v2) = true := by simp
      have b4 : (e2 == e2) = true := by simp
      go_wp2_with fail
      refine rel_begin (n := 10) (w3) (by kernel_rfl) rfl ?_; have hC := Near.drew (w3)
      refine rel_load_blk (i := 0) rfl 29 (.tmp 3) rfl (w.heap.size) rfl (by kernel_rfl) (by kernel_rfl) (by kernel_rfl) rfl (fun _ _ _ _ h => h) hC (HB).out Try.underlying29 hgi ?_; (try simp only [Act.put, List.setIfInBounds_toArray, List.set_cons_zero, List.set_cons_succ])
      (first | (refine rel_want (i := 1) rfl rfl (by kernel_rfl) (by kernel_rfl) (by kernel_rfl) rfl (fun _ _ _ _ h => h) hC ?_; intro K hK; go_big_quiet_op; go_big_quiet_on) | (refine rel_skip (i := 1) rfl (by kernel_rfl) (by kernel_rfl) (by kernel_rfl) rfl (fun _ _ _ _ h => h) hC ?_; simp only [Act.put, List.setIfInBounds_toArray, List.set_cons_zero, List.set_cons_succ])); (first | (refine rel_want (i := 3) rfl rfl (by kernel_rfl) (by kernel_rfl) (by kernel_rfl) rfl (fun _ _ _ _ h => h) hC ?_; intro K hK; go_big_quiet_op; go_big_quiet_on) | (refine rel_skip (i := 3) rfl (by kernel_rfl) (by kernel_rfl) (by kernel_rfl) rfl (fun _ _ _ _ h => h) hC ?_; simp only [Act.put, List.setIfInBounds_toArray, List.set_cons_zero, List.set_cons_succ]))
      refine rel_call (i := 2) (by kernel_rfl) rfl rfl ?_; intro K hK; go_simp; go_at_call 34; refine (KT.out _ _ _ (Rd.now HR.out (bel hb hC.below))).mono ?_; rintro e w2 ⟨v, rfl, ho, hb2⟩; obtain ⟨A5, c5, rfl, hr5⟩ := Rd.of_own ho; have HR5 := Lib.hid hr5; clear hr5 ho; (try go_wp2_with fail); replace hC := hC.on hb2; refine hK _ _ hC (fun _ => ?_); clear hK K; (try simp only [Act.put, List.setIfInBounds_toArray, List.set_cons_zero, List.set_cons_succ])
      refine rel_call (i := 4) (by kernel_rfl) rfl rfl ?_; intro K hK; go_simp; go_at_call 33; refine (K1.out _ _ _ (H.out.step (bel hb hC.below)) HR5.out).mono ?_; rintro e w2 ⟨rfl, hb2⟩; (try go_wp2_with fail); replace hC := hC.on hb2; refine hK _ _ hC (fun _ => ?_); clear hK K; (try simp only [Act.put, List.setIfInBounds_toArray, List.set_cons_zero, List.set_cons_succ])
      (first | (refine rel_want (i := 5) rfl rfl (by kernel_rfl) (by kernel_rfl) (by kernel_rfl) rfl (fun _ _ _ _ h => h) hC ?_; intro K hK; go_big_quiet_op; go_big_quiet_on) | (refine rel_skip (i := 5) rfl (by kernel_rfl) (by kernel_rfl) (by kernel_rfl) rfl (fun _ _ _ _ h => h) hC ?_; simp only [Act.put, List.setIfInBounds_toArray, List.set_cons_zero, List.set_cons_succ])); (first | (refine rel_want (i := 6) rfl rfl (by kernel_rfl) (by kernel_rfl) (by kernel_rfl) rfl (fun _ _ _ _ h => h) hC ?_; intro K hK; go_big_quiet_op; go_big_quiet_on) | (refine rel_skip (i := 6) rfl (by kernel_rfl) (by kernel_rfl) (by kernel_rfl) rfl (fun _ _ _ _ h => h) hC ?_; simp only [Act.put, List.setIfInBounds_toArray, List.set_cons_zero, List.set_cons_succ])); (first | (refine rel_want (i := 7) rfl rfl (by kernel_rfl) (by kernel_rfl) (by kernel_rfl) rfl (fun _ _ _ _ h => h) hC ?_; intro K hK; go_big_quiet_op; go_big_quiet_on) | (refine rel_skip (i := 7) rfl (by kernel_rfl) (by kernel_rfl) (by kernel_rfl) rfl (fun _ _ _ _ h => h) hC ?_; simp only [Act.put, List.setIfInBounds_toArray, List.set_cons_zero, List.set_cons_succ])); (first | (refine rel_want (i := 8) rfl rfl (by kernel_rfl) (by kernel_rfl) (by kernel_rfl) rfl (fun _ _ _ _ h => h) hC ?_; intro K hK; go_big_quiet_op; go_big_quiet_on) | (refine rel_skip (i := 8) rfl (by kernel_rfl) (by kernel_rfl) (by kernel_rfl) rfl (fun _ _ _ _ h => h) hC ?_; simp only [Act.put, List.setIfInBounds_toArray, List.set_cons_zero, List.set_cons_succ])); (first | (refine rel_want (i := 9) rfl rfl (by kernel_rfl) (by kernel_rfl) (by kernel_rfl) rfl (fun _ _ _ _ h => h) hC ?_; intro K hK; go_big_quiet_op; go_big_quiet_on) | (refine rel_skip (i := 9) rfl (by kernel_rfl) (by kernel_rfl) (by kernel_rfl) rfl (fun _ _ _ _ h => h) hC ?_; simp only [Act.put, List.setIfInBounds_toArray, List.set_cons_zero, List.set_cons_succ]))
      refine wpAnyH_done (by kernel_rfl) ?_ _
      have hb5 := bel hb hC.below
      have HB5 := Lib.hid (HB.out.step hC.below)
      clear HR5 hC K1
      go_wp2_with (first
        | (refine wpList_load_blk 29 (.tmp 3) rfl (w.heap.size) rfl (by kernel_rfl) (HB5).out Try.underlying29 hgi ?_)
        | (go_at_call 35; refine (K2.out _ _ _ (H.out.step hb5) (Rd.now HR.out hb5)).mono ?_; rintro e w6 ⟨rfl, hb9⟩; have hb6 := bel hb5 hb9; have HB6 := Lib.hid (HB5.out.step hb9); clear hb9))
      refine rel_begin (n := 10) (w6) (by kernel_rfl) rfl ?_; have hC := Near.drew (w6)
      refine rel_load_blk (i := 0) rfl 29 (.tmp 3) rfl (w.heap.size) rfl (by kernel_rfl) (by kernel_rfl) (by kernel_rfl) rfl (fun _ _ _ _ h => h) hC (HB6).out Try.underlying29 hgi ?_; (try simp only [Act.put, List.setIfInBounds_toArray, List.set_cons_zero, List.set_cons_succ])
      (first | (refine rel_want (i := 1) rfl rfl (by kernel_rfl) (by kernel_rfl) (by kernel_rfl) rfl (fun _ _ _ _ h => h) hC ?_; intro K hK; go_big_quiet_op; go_big_quiet_on) | (refine rel_skip (i := 1) rfl (by kernel_rfl) (by kernel_rfl) (by kernel_rfl) rfl (fun _ _ _ _ h => h) hC ?_; simp only [Act.put, List.setIfInBounds_toArray, List.set_cons_zero, List.set_cons_succ])); (first | (refine rel_want (i := 3) rfl rfl (by kernel_rfl) (by kernel_rfl) (by kernel_rfl) rfl (fun _ _ _ _ h => h) hC ?_; intro K hK; go_big_quiet_op; go_big_quiet_on) | (refine rel_skip (i := 3) rfl (by kernel_rfl) (by kernel_rfl) (by kernel_rfl) rfl (fun _ _ _ _ h => h) hC ?_; simp only [Act.put, List.setIfInBounds_toArray, List.set_cons_zero, List.set_cons_succ]))
      refine rel_call (i := 2) (by kernel_rfl) rfl rfl ?_; intro K hK; go_simp; go_at_call 34; refine (KT.out _ _ _ (Rd.now HR.out (bel hb6 hC.below))).mono ?_; rintro e w2 ⟨v, rfl, ho, hb2⟩; obtain ⟨A7, c7, rfl, hr7⟩ := Rd.of_own ho; have HR7 := Lib.hid hr7; clear hr7 ho; (try go_wp2_with fail); replace hC := hC.on hb2; refine hK _ _ hC (fun _ => ?_); clear hK K; (try simp only [Act.put, List.setIfInBounds_toArray, List.set_cons_zero, List.set_cons_succ])
      refine rel_call (i := 4) (by kernel_rfl) rfl rfl ?_; intro K hK; go_simp; go_at_call 36; refine (K3.out _ _ _ (H.out.step (bel hb6 hC.below)) HR7.out).mono ?_; rintro e w2 ⟨rfl, hb2⟩; (try go_wp2_with fail); replace hC := hC.on hb2; refine hK _ _ hC (fun _ => ?_); clear hK K; (try simp only [Act.put, List.setIfInBounds_toArray, List.set_cons_zero, List.set_cons_succ])
      (first | (refine rel_want (i := 5) rfl rfl (by kernel_rfl) (by kernel_rfl) (by kernel_rfl) rfl (fun _ _ _ _ h => h) hC ?_; intro K hK; go_big_quiet_op; go_big_quiet_on) | (refine rel_skip (i := 5) rfl (by kernel_rfl) (by kernel_rfl) (by kernel_rfl) rfl (fun _ _ _ _ h => h) hC ?_; simp only [Act.put, List.setIfInBounds_toArray, List.set_cons_zero, List.set_cons_succ])); (first | (refine rel_want (i := 6) rfl rfl (by kernel_rfl) (by kernel_rfl) (by kernel_rfl) rfl (fun _ _ _ _ h => h) hC ?_; intro K hK; go_big_quiet_op; go_big_quiet_on) | (refine rel_skip (i := 6) rfl (by kernel_rfl) (by kernel_rfl) (by kernel_rfl) rfl (fun _ _ _ _ h => h) hC ?_; simp only [Act.put, List.setIfInBounds_toArray, List.set_cons_zero, List.set_cons_succ])); (first | (refine rel_want (i := 7) rfl rfl (by kernel_rfl) (by kernel_rfl) (by kernel_rfl) rfl (fun _ _ _ _ h => h) hC ?_; intro K hK; go_big_quiet_op; go_big_quiet_on) | (refine rel_skip (i := 7) rfl (by kernel_rfl) (by kernel_rfl) (by kernel_rfl) rfl (fun _ _ _ _ h => h) hC ?_; simp only [Act.put, List.setIfInBounds_toArray, List.set_cons_zero, List.set_cons_succ])); (first | (refine rel_want (i := 8) rfl rfl (by kernel_rfl) (by kernel_rfl) (by kernel_rfl) rfl (fun _ _ _ _ h => h) hC ?_; intro K hK; go_big_quiet_op; go_big_quiet_on) | (refine rel_skip (i := 8) rfl (by kernel_rfl) (by kernel_rfl) (by kernel_rfl) rfl (fun _ _ _ _ h => h) hC ?_; simp only [Act.put, List.setIfInBounds_toArray, List.set_cons_zero, List.set_cons_succ])); (first | (refine rel_want (i := 9) rfl rfl (by kernel_rfl) (by kernel_rfl) (by kernel_rfl) rfl (fun _ _ _ _ h => h) hC ?_; intro K hK; go_big_quiet_op; go_big_quiet_on) | (refine rel_skip (i := 9) rfl (by kernel_rfl) (by kernel_rfl) (by kernel_rfl) rfl (fun _ _ _ _ h => h) hC ?_; simp only [Act.put, List.setIfInBounds_toArray, List.set_cons_zero, List.set_cons_succ]))
      refine wpAnyH_done (by kernel_rfl) ?_ _
      have hb8 := bel hb6 hC.below
      have HB8 := Lib.hid (HB6.out.step hC.below)
      clear HR7 hC K3
      go_wp2_with (first
        | (refine wpList_load_blk 29 (.tmp 3) rfl (w.heap.size) rfl (by kernel_rfl) (HB8).out Try.underlying29 hgi ?_)
        | (go_at_call 37; refine (K4.out _ _ _ (H.out.step hb8) (Rd.now HR.out hb8)).mono ?_; rintro e w9 ⟨rfl, hb9⟩; have hbA := bel hb8 hb9; clear hb9))
      go_ret
      exact ⟨rfl, hbA⟩
    · have h61 : 60 < l.length := by omega
      go_wp2_with (go_at_call 30; refine (car_awake _).mono ?_; rintro e w4 ⟨rfl, hb9⟩; replace hb := bel hb hb9; clear hb9)
      go_ret
      exact ⟨rfl, hb⟩
end
end Go.Proofs.Ytpklnlpeedkmdaa
