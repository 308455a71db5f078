/- Texts of this claim, put together. -/
import Derived.Test.YthfbpbbepogllaaGreatJBG
import Derived.Test.YthfbpbbepogllaaGreatJAA
import Derived.Test.YthfbpbbepogllaaGreatJBA
import Derived.Test.YthfbpbbepogllaaGreatJAH
import Derived.Test.YthfbpbbepogllaaGreatGrpWalksOZ
import Derived.Test.YthfbpbbepogllaaGreatJAE
import Derived.Shelf.SlIterI.Sorted
import Derived.Shelf.SlIterI.Keys
import Derived.Ground.GgzProg
import Derived.Test.YthfbpbbepogllaaGreatProg
import Derived.Test.YthfbpbbepogllaaGreatJAY
import Derived.Lib.SlKeysI
/- The walks of carry.total, Result and Retained. -/
namespace Go.Proofs.YthfbpbbepogllaaGreat
set_option linter.unusedVariables false
set_option linter.unusedSimpArgs false
open Go.RowKit

theorem res1_any (gcs : Array Value) (cur : ByteArray) (y m p : Int) (cl : List Acc) (cA : Option Addr) (cc : Nat) (ro : RolesR) (el : List EntR) (eA : Option Addr) (ec : Nat) (w : World) (a c : Int) (g : Nat) (HG : Hid (gcs = #[.string cur, .int .i64 y, .int .i64 m, .int .i64 p, .slice cA cl.length cc, .int .i64 ro.investment, .int .i64 ro.goodwill, .int .i64 ro.associates, .int .i64 ro.inventory, .int .i64 ro.reserve, .int .i64 ro.minority, .int .i64 ro.retained, .int .i64 ro.acquired, .int .i64 ro.owners, .int .i64 ro.disposal, .int .i64 ro.associateProfit, .int .i64 ro.dividends, .int .i64 ro.minorityProfit, .int .i64 ro.difference, .int .i64 ro.margin, .slice eA el.length ec])) (h : GIn w cl cA el eA) (hn : cl.length ≤ 300000) (hB : Blk w g 29 gcs) :
    Calls Tryz.prog 68 #[.int .i64 a, .int .i64 c, .pointer (some ⟨g, 0, none⟩)] w (BoolPost (resB cl c) w) := by
  have hgi : (Tryz.prog.info? 29).map (·.size) = some gcs.size := by rw [HG.out]; exact grp_size
  have HB := Lib.hid hB
  have K := Lib.hid (result_any gcs cur y m p cl cA cc ro el eA ec w c HG h hn)
  clear hB h
  go_enter Tryz.func68, Tryz.ntmps68
  go_wp2_with (first
    | (refine wpList_load_blk 29 (.tmp 2) rfl (g) rfl (by kernel_rfl) (HB).out Tryz.underlying29 hgi ?_)
    | (go_at_call 69; refine K.out.mono ?_; rintro e w2 ⟨rfl, hb⟩))
  go_ret
  exact ⟨rfl, hb⟩
theorem ret1_any (a c : Int) (w : World) : Calls Tryz.prog 67 #[.int .i64 a, .int .i64 c] w (BoolPost (a != c) w) := by
  have hb := Below.refl w.heap.size w
  obtain ⟨v, hv⟩ : ∃ v, (a != c) = v := ⟨_, rfl⟩
  rw [hv]
  go_enter Tryz.func67, Tryz.ntmps67
  go_wp2_with fail
  go_ret
  exact ⟨rfl, hb⟩
section
variable (gcs : Array Value) (cur : ByteArray) (y m p : Int) (cl : List Acc) (cA : Option Addr) (cc : Nat) (ro : RolesR) (el : List EntR) (eA : Option Addr) (ec : Nat) (w : World)
set_option maxRecDepth 100000 in
set_option maxHeartbeats 8000000 in
theorem totalRes_any (F : DatR → Bool) (l : List DatR) (A : Option Addr) (lc : Nat) (q : Int) (g : Nat) (HG : Hid (gcs = #[.string cur, .int .i64 y, .int .i64 m, .int .i64 p, .slice cA cl.length cc, .int .i64 ro.investment, .int .i64 ro.goodwill, .int .i64 ro.associates, .int .i64 ro.inventory, .int .i64 ro.reserve, .int .i64 ro.minority, .int .i64 ro.retained, .int .i64 ro.acquired, .int .i64 ro.owners, .int .i64 ro.disposal, .int .i64 ro.associateProfit, .int .i64 ro.dividends, .int .i64 ro.minorityProfit, .int .i64 ro.difference, .int .i64 ro.margin, .slice eA el.length ec])) (h : GIn w cl cA el eA) (hF : FewOk cur cl el) (hr : Rd w w.heap.size 3 A l.length (cellsOf DatR.cells l)) (hl : l.length ≤ 1000)
    (hc : ∀ x ∈ l, ∀ W, Below w.heap.size w W → Calls Tryz.prog 68 #[.int .i64 x.account, .int .i64 (Cr.sh cl ro x.account x.date (Cr.bg (Gr.gv cur cl ro el (Cal.ok y m p)) y m p q)), .pointer (some ⟨g, 0, none⟩)] W (BoolPost (F x) W)) :
    Calls Tryz.prog 66 #[.agg gcs, .slice A l.length lc, .int .i64 q, .func (.func 68) #[] #[.pointer (some ⟨g, 0, none⟩)]] w (Two (Cr.toV (Gr.gv cur cl ro el (Cal.ok y m p)) y m p q cl F l) (Cr.toE (Gr.gv cur cl ro el (Cal.ok y m p)) y m p q cl F l) w) := by
  have hn : cl.length ≤ 300000 := by have := hF.ch; omega
  have H := Lib.hid h
  have HR := Lib.hid hr
  have HC := Lib.hid hc
  have hgi : (Tryz.prog.info? 29).map (·.size) = some gcs.size := by rw [HG.out]; exact grp_size
  have hb : Below w.heap.size w (w.alloc (.cells gcs 29)) := (Below.refl _ _).alloc (Nat.le_refl _) _
  have HB := Lib.hid (Blk.new w 29 gcs)
  have K1 := Lib.hid (fun W h h2 => amounts_any gcs cur y m p cl cA cc ro el eA ec W l A lc q HG h hF h2 hl)
  clear h hF hr hc
  generalize Gr.gv cur cl ro el (Cal.ok y m p) = V at *
  have HNA := Lib.hid (Cr.vE_zero (V := V) (Y := y) (M := m) (P := p) (q := q) (cl := cl) (l := l))
  have HE : Hid (Cr.toE V y m p q cl F l = if Cr.vE V y m p q cl l = 0 then (if amV (Cr.tot F l) then 0 else 2) else Cr.vE V y m p q cl l) := Lib.hid rfl
  have HV : Hid (Cr.toV V y m p q cl F l = if Cr.toE V y m p q cl F l = 0 then Cr.tot F l else 0) := Lib.hid rfl
  have HVB : Hid (Cr.vB V y m p q cl l = if Cr.vE V y m p q cl l = 0 then Cr.bg V y m p q else 0) := Lib.hid rfl
  generalize Cr.toV V y m p q cl F l = tv at *
  generalize Cr.toE V y m p q cl F l = te at *
  generalize Cr.vB V y m p q cl l = vb at *
  generalize Cr.vE V y m p q cl l = ve at *
  generalize Cr.bg V y m p q = bg at *
  cases hx : (ve != 0)
  · have hve : ve = 0 := by simpa using hx
    rw [hve, if_pos rfl] at HE HVB
    have HBD := Lib.hid (Cr.tot_bd F l (HNA.out hve))
    have HNA2 := Lib.hid (HNA.out hve)
    clear hve
    go_enter Tryz.func66, Tryz.ntmps66
    go_wp2_with (first
      | (refine wpList_load_blk 29 (.tmp 4) rfl (w.heap.size) rfl (by kernel_rfl) (HB).out Tryz.underlying29 hgi ?_)
      | (go_at_call 54; refine (K1.out _ (H.out.step hb) (Rd.now HR.out hb)).mono ?_; rintro e w2 ⟨rfl, hb9⟩; replace hb := bel hb hb9; have HB2 := Lib.hid (HB.out.step hb9); clear hb9))
    go_loopw [12, 27] (fun s t wr => ∃ k : Nat, k ≤ l.length ∧ s = .int .i64 (Cr.tot F (l.take k)) ∧ t = .int .i64 k ∧ Below w2.heap.size w2 wr) (fun _ t _ => l.length - (intOf t).toNat)
    case atStart => exact ⟨0, by omega, rfl, rfl, Below.refl _ _⟩
    case round =>
      obtain ⟨k, hk, rfl, rfl, hbr⟩ := hrel
      have hbw := bel hb hbr
      have hz := hbr.size
      have hbd := HBD.out k hk
      by_cases hlt : k < l.length
      · obtain ⟨b, o, hA, hbo, f0, f1, f2⟩ := DatR.at_ (Rd.now HR.out hbw) hlt
        subst hA
        have HTT := Lib.hid (Cr.tot_take F l k hlt)
        have hmem := List.getElem_mem hlt
        have ham : -1000000000000 ≤ l[k].amount ∧ l[k].amount ≤ 1000000000000 := by
          have h2 := List.any_eq_false.1 HNA2.out l[k] hmem
          unfold Cr.notAm at h2
          exact amV_is (by simpa using h2)
        have HMEM := Lib.hid hmem
        clear hmem
        generalize hx : l[k] = x at *
        clear hx
        obtain ⟨xa, xd, xm⟩ := x
        dsimp only at *
        have hbr1 := hbr.alloc hz (.cells #[.int .i64 xa, .int .i64 xd, .int .i64 xm] 120)
        have hbw1 := bel hb hbr1
        have HBr := Lib.hid ((HB2.out.step hbr).alloc (.cells #[.int .i64 xa, .int .i64 xd, .int .i64 xm] 120))
        have HX := Lib.hid (Blk.new wr 120 #[.int .i64 xa, .int .i64 xd, .int .i64 xm])
        have K2 := Lib.hid (fun W h => shown_any gcs cur y m p cl cA cc ro el _ ec W xa xd vb HG h hn)
        have K3 := Lib.hid (fun W h => HC.out ⟨xa, xd, xm⟩ HMEM.out W h)
        rw [← HVB.out] at K3
        dsimp only at K3
        generalize Cr.sh cl ro xa xd vb = pl at *
        generalize F ⟨xa, xd, xm⟩ = fx at *
        generalize Cr.tot F (l.take k) = s at *
        have q0 : ∀ d : Later (wr.alloc (.cells #[.int .i64 xa, .int .i64 xd, .int .i64 xm] 120)), d.now.cell? ⟨wr.heap.size, 0, none⟩ = some (.int .i64 xa) := fun d => d.cell HX.out.lt (HX.out.cell 0)
        have q1 : ∀ d : Later (wr.alloc (.cells #[.int .i64 xa, .int .i64 xd, .int .i64 xm] 120)), d.now.cell? ⟨wr.heap.size, 1, none⟩ = some (.int .i64 xd) := fun d => d.cell HX.out.lt (HX.out.cell 1)
        go_wp2_with fail
        refine wp_region_later (by kernel_rfl) (by kernel_rfl) ?_
        (repeat (go_big_quiet_step ((fail)))); refine quiet_load_blk 29 (.tmp 4) rfl (w.heap.size) rfl (by kernel_rfl) (HBr).out Tryz.underlying29 hgi ?_; (try simp only [Act.put, List.setIfInBounds_toArray, List.set_cons_zero, List.set_cons_succ])
        (repeat (go_big_quiet_step ((fail)))); go_big_quiet_step ((go_at_call 55; exact Later.call _ (K2.out _ (H.out.step (bel hbw1 (Later.below _))))))
        (repeat (go_big_quiet_step ((fail)))); go_big_quiet_step ((go_at_call 68; exact Later.call _ (K3.out _ (bel hbw1 (Later.below _)))))
        (repeat (go_big_quiet_step ((fail)))); refine wpQuiet_nil ?_; rintro _ ⟨dq, rfl⟩
        have hbe := bel hbr1 dq.below
        have r2 := (HX.out.step dq.below).cell 2
        clear q0 q1 f0 f1 f2
        cases fx
        · go_wp2_with fail
          go_roundw
          case rel => exact ⟨k + 1, by omega, by rw [HTT.out]; simp, by go_num, hbe⟩
          case measure => simp [intOf]; omega
        · go_wp2_with fail
          go_roundw
          case rel => exact ⟨k + 1, by omega, by rw [HTT.out]; simp, by go_num, hbe⟩
          case measure => simp [intOf]; omega
      · have HT : Hid (Cr.tot F (l.take k) = Cr.tot F l) := Lib.hid (by rw [List.take_of_length_le (by omega)])
        rw [HT.out] at hbd ⊢
        generalize Cr.tot F l = s at *
        cases ha : amV s
        · have HE2 : Hid (te = 2) := Lib.hid (by rw [HE.out, ha]; rfl)
          have HV2 : Hid (tv = 0) := Lib.hid (by rw [HV.out, HE2.out]; rfl)
          have HA := Lib.hid ha
          clear ha
          go_wp2_with (go_at_call 58; refine (camount_any _ _).mono ?_; rintro e w2 ⟨rfl, rfl⟩; rw [HA.out])
          go_ret2
          exact ⟨by rw [HE2.out, HV2.out]; rfl, hbw⟩
        · have HE2 : Hid (te = 0) := Lib.hid (by rw [HE.out, ha]; rfl)
          have HV2 : Hid (tv = s) := Lib.hid (by rw [HV.out, HE2.out]; rfl)
          have HA := Lib.hid ha
          clear ha
          go_wp2_with (go_at_call 58; refine (camount_any _ _).mono ?_; rintro e w2 ⟨rfl, rfl⟩; rw [HA.out])
          go_ret2
          exact ⟨by rw [HE2.out, HV2.out]; rfl, hbw⟩
  · have hne : ve ≠ 0 := by simpa using hx
    have HE2 : Hid (te = ve) := Lib.hid (by rw [HE.out, if_neg hne])
    have HV2 : Hid (tv = 0) := Lib.hid (by rw [HV.out, HE2.out, if_neg hne])
    clear hne
    go_enter Tryz.func66, Tryz.ntmps66
    go_wp2_with (first
      | (refine wpList_load_blk 29 (.tmp 4) rfl (w.heap.size) rfl (by kernel_rfl) (HB).out Tryz.underlying29 hgi ?_)
      | (go_at_call 54; refine (K1.out _ (H.out.step hb) (Rd.now HR.out hb)).mono ?_; rintro e w2 ⟨rfl, hb9⟩; replace hb := bel hb hb9; clear hb9))
    go_ret2
    exact ⟨by rw [HE2.out, HV2.out]; rfl, hb⟩
set_option maxRecDepth 100000 in
set_option maxHeartbeats 8000000 in
theorem totalRet_any (F : DatR → Bool) (l : List DatR) (A : Option Addr) (lc : Nat) (q : Int)  (HG : Hid (gcs = #[.string cur, .int .i64 y, .int .i64 m, .int .i64 p, .slice cA cl.length cc, .int .i64 ro.investment, .int .i64 ro.goodwill, .int .i64 ro.associates, .int .i64 ro.inventory, .int .i64 ro.reserve, .int .i64 ro.minority, .int .i64 ro.retained, .int .i64 ro.acquired, .int .i64 ro.owners, .int .i64 ro.disposal, .int .i64 ro.associateProfit, .int .i64 ro.dividends, .int .i64 ro.minorityProfit, .int .i64 ro.difference, .int .i64 ro.margin, .slice eA el.length ec])) (h : GIn w cl cA el eA) (hF : FewOk cur cl el) (hr : Rd w w.heap.size 3 A l.length (cellsOf DatR.cells l)) (hl : l.length ≤ 1000)
    (hc : ∀ x ∈ l, ∀ W, Below w.heap.size w W → Calls Tryz.prog 67 #[.int .i64 x.account, .int .i64 (Cr.sh cl ro x.account x.date (Cr.bg (Gr.gv cur cl ro el (Cal.ok y m p)) y m p q))] W (BoolPost (F x) W)) :
    Calls Tryz.prog 66 #[.agg gcs, .slice A l.length lc, .int .i64 q, .func (.func 67) #[] #[]] w (Two (Cr.toV (Gr.gv cur cl ro el (Cal.ok y m p)) y m p q cl F l) (Cr.toE (Gr.gv cur cl ro el (Cal.ok y m p)) y m p q cl F l) w) := by
  have hn : cl.length ≤ 300000 := by have := hF.ch; omega
  have H := Lib.hid h
  have HR := Lib.hid hr
  have HC := Lib.hid hc
  have hgi : (Tryz.prog.info? 29).map (·.size) = some gcs.size := by rw [HG.out]; exact grp_size
  have hb : Below w.heap.size w (w.alloc (.cells gcs 29)) := (Below.refl _ _).alloc (Nat.le_refl _) _
  have HB := Lib.hid (Blk.new w 29 gcs)
  have K1 := Lib.hid (fun W h h2 => amounts_any gcs cur y m p cl cA cc ro el eA ec W l A lc q HG h hF h2 hl)
  clear h hF hr hc
  generalize Gr.gv cur cl ro el (Cal.ok y m p) = V at *
  have HNA := Lib.hid (Cr.vE_zero (V := V) (Y := y) (M := m) (P := p) (q := q) (cl := cl) (l := l))
  have HE : Hid (Cr.toE V y m p q cl F l = if Cr.vE V y m p q cl l = 0 then (if amV (Cr.tot F l) then 0 else 2) else Cr.vE V y m p q cl l) := Lib.hid rfl
  have HV : Hid (Cr.toV V y m p q cl F l = if Cr.toE V y m p q cl F l = 0 then Cr.tot F l else 0) := Lib.hid rfl
  have HVB : Hid (Cr.vB V y m p q cl l = if Cr.vE V y m p q cl l = 0 then Cr.bg V y m p q else 0) := Lib.hid rfl
  generalize Cr.toV V y m p q cl F l = tv at *
  generalize Cr.toE V y m p q cl F l = te at *
  generalize Cr.vB V y m p q cl l = vb at *
  generalize Cr.vE V y m p q cl l = ve at *
  generalize Cr.bg V y m p q = bg at *
  cases hx : (ve != 0)
  · have hve : ve = 0 := by simpa using hx
    rw [hve, if_pos rfl] at HE HVB
    have HBD := Lib.hid (Cr.tot_bd F l (HNA.out hve))
    have HNA2 := Lib.hid (HNA.out hve)
    clear hve
    go_enter Tryz.func66, Tryz.ntmps66
    go_wp2_with (first
      | (refine wpList_load_blk 29 (.tmp 4) rfl (w.heap.size) rfl (by kernel_rfl) (HB).out Tryz.underlying29 hgi ?_)
      | (go_at_call 54; refine (K1.out _ (H.out.step hb) (Rd.now HR.out hb)).mono ?_; rintro e w2 ⟨rfl, hb9⟩; replace hb := bel hb hb9; have HB2 := Lib.hid (HB.out.step hb9); clear hb9))
    go_loopw [12, 27] (fun s t wr => ∃ k : Nat, k ≤ l.length ∧ s = .int .i64 (Cr.tot F (l.take k)) ∧ t = .int .i64 k ∧ Below w2.heap.size w2 wr) (fun _ t _ => l.length - (intOf t).toNat)
    case atStart => exact ⟨0, by omega, rfl, rfl, Below.refl _ _⟩
    case round =>
      obtain ⟨k, hk, rfl, rfl, hbr⟩ := hrel
      have hbw := bel hb hbr
      have hz := hbr.size
      have hbd := HBD.out k hk
      by_cases hlt : k < l.length
      · obtain ⟨b, o, hA, hbo, f0, f1, f2⟩ := DatR.at_ (Rd.now HR.out hbw) hlt
        subst hA
        have HTT := Lib.hid (Cr.tot_take F l k hlt)
        have hmem := List.getElem_mem hlt
        have ham : -1000000000000 ≤ l[k].amount ∧ l[k].amount ≤ 1000000000000 := by
          have h2 := List.any_eq_false.1 HNA2.out l[k] hmem
          unfold Cr.notAm at h2
          exact amV_is (by simpa using h2)
        have HMEM := Lib.hid hmem
        clear hmem
        generalize hx : l[k] = x at *
        clear hx
        obtain ⟨xa, xd, xm⟩ := x
        dsimp only at *
        have hbr1 := hbr.alloc hz (.cells #[.int .i64 xa, .int .i64 xd, .int .i64 xm] 120)
        have hbw1 := bel hb hbr1
        have HBr := Lib.hid ((HB2.out.step hbr).alloc (.cells #[.int .i64 xa, .int .i64 xd, .int .i64 xm] 120))
        have HX := Lib.hid (Blk.new wr 120 #[.int .i64 xa, .int .i64 xd, .int .i64 xm])
        have K2 := Lib.hid (fun W h => shown_any gcs cur y m p cl cA cc ro el _ ec W xa xd vb HG h hn)
        have K3 := Lib.hid (fun W h => HC.out ⟨xa, xd, xm⟩ HMEM.out W h)
        rw [← HVB.out] at K3
        dsimp only at K3
        generalize Cr.sh cl ro xa xd vb = pl at *
        generalize F ⟨xa, xd, xm⟩ = fx at *
        generalize Cr.tot F (l.take k) = s at *
        have q0 : ∀ d : Later (wr.alloc (.cells #[.int .i64 xa, .int .i64 xd, .int .i64 xm] 120)), d.now.cell? ⟨wr.heap.size, 0, none⟩ = some (.int .i64 xa) := fun d => d.cell HX.out.lt (HX.out.cell 0)
        have q1 : ∀ d : Later (wr.alloc (.cells #[.int .i64 xa, .int .i64 xd, .int .i64 xm] 120)), d.now.cell? ⟨wr.heap.size, 1, none⟩ = some (.int .i64 xd) := fun d => d.cell HX.out.lt (HX.out.cell 1)
        go_wp2_with fail
        refine wp_region_later (by kernel_rfl) (by kernel_rfl) ?_
        (repeat (go_big_quiet_step ((fail)))); refine quiet_load_blk 29 (.tmp 4) rfl (w.heap.size) rfl (by kernel_rfl) (HBr).out Tryz.underlying29 hgi ?_; (try simp only [Act.put, List.setIfInBounds_toArray, List.set_cons_zero, List.set_cons_succ])
        (repeat (go_big_quiet_step ((fail)))); go_big_quiet_step ((go_at_call 55; exact Later.call _ (K2.out _ (H.out.step (bel hbw1 (Later.below _))))))
        (repeat (go_big_quiet_step ((fail)))); go_big_quiet_step ((go_at_call 67; exact Later.call _ (K3.out _ (bel hbw1 (Later.below _)))))
        (repeat (go_big_quiet_step ((fail)))); refine wpQuiet_nil ?_; rintro _ ⟨dq, rfl⟩
        have hbe := bel hbr1 dq.below
        have r2 := (HX.out.step dq.below).cell 2
        clear q0 q1 f0 f1 f2
        cases fx
        · go_wp2_with fail
          go_roundw
          case rel => exact ⟨k + 1, by omega, by rw [HTT.out]; simp, by go_num, hbe⟩
          case measure => simp [intOf]; omega
        · go_wp2_with fail
          go_roundw
          case rel => exact ⟨k + 1, by omega, by rw [HTT.out]; simp, by go_num, hbe⟩
          case measure => simp [intOf]; omega
      · have HT : Hid (Cr.tot F (l.take k) = Cr.tot F l) := Lib.hid (by rw [List.take_of_length_le (by omega)])
        rw [HT.out] at hbd ⊢
        generalize Cr.tot F l = s at *
        cases ha : amV s
        · have HE2 : Hid (te = 2) := Lib.hid (by rw [HE.out, ha]; rfl)
          have HV2 : Hid (tv = 0) := Lib.hid (by rw [HV.out, HE2.out]; rfl)
          have HA := Lib.hid ha
          clear ha
          go_wp2_with (go_at_call 58; refine (camount_any _ _).mono ?_; rintro e w2 ⟨rfl, rfl⟩; rw [HA.out])
          go_ret2
          exact ⟨by rw [HE2.out, HV2.out]; rfl, hbw⟩
        · have HE2 : Hid (te = 0) := Lib.hid (by rw [HE.out, ha]; rfl)
          have HV2 : Hid (tv = s) := Lib.hid (by rw [HV.out, HE2.out]; rfl)
          have HA := Lib.hid ha
          clear ha
          go_wp2_with (go_at_call 58; refine (camount_any _ _).mono ?_; rintro e w2 ⟨rfl, rfl⟩; rw [HA.out])
          go_ret2
          exact ⟨by rw [HE2.out, HV2.out]; rfl, hbw⟩
  · have hne : ve ≠ 0 := by simpa using hx
    have HE2 : Hid (te = ve) := Lib.hid (by rw [HE.out, if_neg hne])
    have HV2 : Hid (tv = 0) := Lib.hid (by rw [HV.out, HE2.out, if_neg hne])
    clear hne
    go_enter Tryz.func66, Tryz.ntmps66
    go_wp2_with (first
      | (refine wpList_load_blk 29 (.tmp 4) rfl (w.heap.size) rfl (by kernel_rfl) (HB).out Tryz.underlying29 hgi ?_)
      | (go_at_call 54; refine (K1.out _ (H.out.step hb) (Rd.now HR.out hb)).mono ?_; rintro e w2 ⟨rfl, hb9⟩; replace hb := bel hb hb9; clear hb9))
    go_ret2
    exact ⟨by rw [HE2.out, HV2.out]; rfl, hb⟩
end
end Go.Proofs.YthfbpbbepogllaaGreat
/- The walks of carry.Result and Retained, and of their references. -/
namespace Go.Proofs.YthfbpbbepogllaaGreat
set_option linter.unusedVariables false
set_option linter.unusedSimpArgs false
open Go.RowKit

theorem bg_is {V : Bool} {Y M P q : Int} {cl : List Acc} {l : List DatR} (h : Cr.vE V Y M P q cl l = 0) : Cr.bg V Y M P q = Cal.beV Y M P q := by
  unfold Cr.vE at h
  split at h
  · rename_i h1
    unfold Cr.ckE at h1
    unfold Cr.bg
    cases V
    · simp at h1
    · rfl
  · rename_i h1
    exact absurd h h1
section
variable (gcs : Array Value) (cur : ByteArray) (y m p : Int) (cl : List Acc) (cA : Option Addr) (cc : Nat) (ro : RolesR) (el : List EntR) (eA : Option Addr) (ec : Nat) (w : World)
def RTwo (F : Int → DatR → Bool) (V : Bool) (y m p q : Int) (cl : List Acc) (l : List DatR) (w : World) : Ending → World → Prop := Two (Cr.toV V y m p q cl (F (Cr.bg V y m p q)) l) (Cr.toE V y m p q cl (F (Cr.bg V y m p q)) l) w
set_option maxRecDepth 100000 in
set_option maxHeartbeats 4000000 in
theorem cres_any (l : List DatR) (A : Option Addr) (lc : Nat) (q : Int) (HG : Hid (gcs = #[.string cur, .int .i64 y, .int .i64 m, .int .i64 p, .slice cA cl.length cc, .int .i64 ro.investment, .int .i64 ro.goodwill, .int .i64 ro.associates, .int .i64 ro.inventory, .int .i64 ro.reserve, .int .i64 ro.minority, .int .i64 ro.retained, .int .i64 ro.acquired, .int .i64 ro.owners, .int .i64 ro.disposal, .int .i64 ro.associateProfit, .int .i64 ro.dividends, .int .i64 ro.minorityProfit, .int .i64 ro.difference, .int .i64 ro.margin, .slice eA el.length ec])) (h : GIn w cl cA el eA) (hF : FewOk cur cl el) (hr : Rd w w.heap.size 3 A l.length (cellsOf DatR.cells l)) (hl : l.length ≤ 1000) :
    Calls Tryz.prog 33 #[.agg gcs, .slice A l.length lc, .int .i64 q] w (RTwo (Cr.isRes cl ro) (Gr.gv cur cl ro el (Cal.ok y m p)) y m p q cl l w) := by
  have hn : cl.length ≤ 300000 := by have := hF.ch; omega
  have hgi : (Tryz.prog.info? 29).map (·.size) = some gcs.size := by rw [HG.out]; exact grp_size
  have hb : Below w.heap.size w (w.alloc (.cells gcs 29)) := (Below.refl _ _).alloc (Nat.le_refl _) _
  have HB := Lib.hid (Blk.new w 29 gcs)
  have K1 := Lib.hid (totalRes_any gcs cur y m p cl cA cc ro el eA ec (w.alloc (.cells gcs 29)) (Cr.isRes cl ro (Cr.bg (Gr.gv cur cl ro el (Cal.ok y m p)) y m p q)) l A lc q w.heap.size HG (h.step hb) hF (Rd.now hr hb) hl (fun x _ W hW => res1_any gcs cur y m p cl cA cc ro el eA ec W _ _ w.heap.size HG (h.step (bel hb hW)) hn (HB.out.step hW)))
  clear h hF hr
  unfold RTwo
  generalize Gr.gv cur cl ro el (Cal.ok y m p) = V at *
  generalize Cr.toV V y m p q cl (Cr.isRes cl ro (Cr.bg V y m p q)) l = tv at *
  generalize Cr.toE V y m p q cl (Cr.isRes cl ro (Cr.bg V y m p q)) l = te at *
  go_enter Tryz.func33, Tryz.ntmps33
  go_wp2_with (first
    | (refine wpList_load_blk 29 (.tmp 3) rfl (w.heap.size) rfl (by kernel_rfl) (HB).out Tryz.underlying29 hgi ?_)
    | (go_at_call 66; refine K1.out.mono ?_; rintro e w2 ⟨rfl, hb9⟩; replace hb := bel hb hb9; clear hb9))
  go_ret2
  exact ⟨rfl, hb⟩
set_option maxRecDepth 100000 in
set_option maxHeartbeats 4000000 in
theorem cret_any (l : List DatR) (A : Option Addr) (lc : Nat) (q : Int) (HG : Hid (gcs = #[.string cur, .int .i64 y, .int .i64 m, .int .i64 p, .slice cA cl.length cc, .int .i64 ro.investment, .int .i64 ro.goodwill, .int .i64 ro.associates, .int .i64 ro.inventory, .int .i64 ro.reserve, .int .i64 ro.minority, .int .i64 ro.retained, .int .i64 ro.acquired, .int .i64 ro.owners, .int .i64 ro.disposal, .int .i64 ro.associateProfit, .int .i64 ro.dividends, .int .i64 ro.minorityProfit, .int .i64 ro.difference, .int .i64 ro.margin, .slice eA el.length ec])) (h : GIn w cl cA el eA) (hF : FewOk cur cl el) (hr : Rd w w.heap.size 3 A l.length (cellsOf DatR.cells l)) (hl : l.length ≤ 1000) :
    Calls Tryz.prog 32 #[.agg gcs, .slice A l.length lc, .int .i64 q] w (RTwo (Cr.isRet cl ro) (Gr.gv cur cl ro el (Cal.ok y m p)) y m p q cl l w) := by
  have hn : cl.length ≤ 300000 := by have := hF.ch; omega
  have hgi : (Tryz.prog.info? 29).map (·.size) = some gcs.size := by rw [HG.out]; exact grp_size
  have hb : Below w.heap.size w (w.alloc (.cells gcs 29)) := (Below.refl _ _).alloc (Nat.le_refl _) _
  have HB := Lib.hid (Blk.new w 29 gcs)
  have K1 := Lib.hid (totalRet_any gcs cur y m p cl cA cc ro el eA ec (w.alloc (.cells gcs 29)) (Cr.isRet cl ro (Cr.bg (Gr.gv cur cl ro el (Cal.ok y m p)) y m p q)) l A lc q HG (h.step hb) hF (Rd.now hr hb) hl (fun x _ W hW => ret1_any _ _ W))
  clear h hF hr
  unfold RTwo
  generalize Gr.gv cur cl ro el (Cal.ok y m p) = V at *
  generalize Cr.toV V y m p q cl (Cr.isRet cl ro (Cr.bg V y m p q)) l = tv at *
  generalize Cr.toE V y m p q cl (Cr.isRet cl ro (Cr.bg V y m p q)) l = te at *
  go_enter Tryz.func32, Tryz.ntmps32
  go_wp2_with (first
    | (refine wpList_load_blk 29 (.tmp 3) rfl (w.heap.size) rfl (by kernel_rfl) (HB).out Tryz.underlying29 hgi ?_)
    | (go_at_call 66; refine K1.out.mono ?_; rintro e w2 ⟨rfl, hb9⟩; replace hb := bel hb hb9; clear hb9))
  go_ret2
  exact ⟨rfl, hb⟩
end
end Go.Proofs.YthfbpbbepogllaaGreat
/- The walks of carry.Place, of its reference, of the law's own 'awake'. -/
namespace Go.Proofs.YthfbpbbepogllaaGreat
set_option linter.unusedVariables false
set_option linter.unusedSimpArgs false
open Go.RowKit

section
variable (gcs : Array Value) (cur : ByteArray) (y m p : Int) (cl : List Acc) (cA : Option Addr) (cc : Nat) (ro : RolesR) (el : List EntR) (eA : Option Addr) (ec : Nat) (w : World)
set_option maxRecDepth 100000 in
set_option maxHeartbeats 4000000 in
theorem cplace_any (c d q : Int) (HG : Hid (gcs = #[.string cur, .int .i64 y, .int .i64 m, .int .i64 p, .slice cA cl.length cc, .int .i64 ro.investment, .int .i64 ro.goodwill, .int .i64 ro.associates, .int .i64 ro.inventory, .int .i64 ro.reserve, .int .i64 ro.minority, .int .i64 ro.retained, .int .i64 ro.acquired, .int .i64 ro.owners, .int .i64 ro.disposal, .int .i64 ro.associateProfit, .int .i64 ro.dividends, .int .i64 ro.minorityProfit, .int .i64 ro.difference, .int .i64 ro.margin, .slice eA el.length ec])) (h : GIn w cl cA el eA) (hF : FewOk cur cl el) :
    Calls Tryz.prog 53 #[.agg gcs, .int .i64 c, .int .i64 d, .int .i64 q] w (Two (Cr.plV (Gr.gv cur cl ro el (Cal.ok y m p)) y m p q cl ro c d) (Cr.plE (Gr.gv cur cl ro el (Cal.ok y m p)) y m p q cl c) w) := by
  have hn : cl.length ≤ 300000 := by have := hF.ch; omega
  have H := Lib.hid h
  have hgi : (Tryz.prog.info? 29).map (·.size) = some gcs.size := by rw [HG.out]; exact grp_size
  have hb : Below w.heap.size w (w.alloc (.cells gcs 29)) := (Below.refl _ _).alloc (Nat.le_refl _) _
  have HB := Lib.hid (Blk.new w 29 gcs)
  have K1 := Lib.hid (fun W h => ccheck_any gcs cur y m p cl cA cc ro el eA ec W q HG h hF)
  have K2 := Lib.hid (fun W h => account_any gcs cur y m p cl cA cc ro el eA ec W c HG h hn)
  have HBG : Hid (Cr.ckE (Gr.gv cur cl ro el (Cal.ok y m p)) y m p q = 0 → Cr.bg (Gr.gv cur cl ro el (Cal.ok y m p)) y m p q = Cal.beV y m p q) := Lib.hid (fun h => by
    unfold Cr.ckE at h
    unfold Cr.bg
    cases hv : Gr.gv cur cl ro el (Cal.ok y m p) <;> rw [hv] at h <;> simp_all)
  clear h hF
  generalize Gr.gv cur cl ro el (Cal.ok y m p) = V at *
  have HV : Hid (Cr.plV V y m p q cl ro c d = if Cr.plE V y m p q cl c = 0 then Cr.sh cl ro c d (Cr.bg V y m p q) else 0) := Lib.hid rfl
  have HE : Hid (Cr.plE V y m p q cl c = if Cr.ckE V y m p q = 0 then (if Ch.fnB cl c then 0 else 8) else Cr.ckE V y m p q) := Lib.hid rfl
  generalize Cr.plE V y m p q cl c = pe at *
  generalize Cr.plV V y m p q cl ro c d = pv at *
  generalize Cr.ckE V y m p q = ck at *
  have K3 := Lib.hid (fun W h => shown_any gcs cur y m p cl cA cc ro el eA ec W c d (Cr.bg V y m p q) HG h hn)
  unfold AccPost at K2
  generalize Cr.bg V y m p q = b at *
  generalize Ch.fnV cl c = a at *
  generalize Ch.fnB cl c = fb at *
  cases hx : (ck != 0)
  · have hck : ck = 0 := by simpa using hx
    have HBB := Lib.hid (HBG.out hck)
    rw [hck, if_pos rfl] at HE
    clear hck HBG
    cases fb
    · have HE2 : Hid (pe = 8) := Lib.hid (by rw [HE.out]; rfl)
      have HV2 : Hid (pv = 0) := Lib.hid (by rw [HV.out, HE2.out]; rfl)
      go_enter Tryz.func53, Tryz.ntmps53
      go_wp2_with (first
        | (refine wpList_load_blk 29 (.tmp 4) rfl (w.heap.size) rfl (by kernel_rfl) (HB).out Tryz.underlying29 hgi ?_)
        | (go_at_call 84; refine (K1.out _ (H.out.step hb)).mono ?_; rintro e w2 ⟨rfl, hb9⟩; replace hb := bel hb hb9; have HB2 := Lib.hid (HB.out.step hb9); clear hb9)
        | (refine wpList_load_blk 29 (.tmp 4) rfl (w.heap.size) rfl (by kernel_rfl) (HB2).out Tryz.underlying29 hgi ?_)
        | (go_at_call 85; refine (K2.out _ (H.out.step hb)).mono ?_; rintro e w3 ⟨rfl, hb9⟩; have hb3 := (bel hb hb9).alloc (bel hb hb9).size (.cells #[.int .i64 a.code, .int .i64 a.kind, .int .i64 a.basis, .int .i64 a.parent] 129); have HB3 := Lib.hid ((HB2.out.step hb9).alloc (.cells #[.int .i64 a.code, .int .i64 a.kind, .int .i64 a.basis, .int .i64 a.parent] 129)); clear hb9))
      go_ret2
      exact ⟨by rw [HE2.out, HV2.out]; rfl, hb3⟩
    · have HE2 : Hid (pe = 0) := Lib.hid (by rw [HE.out]; rfl)
      have HV2 : Hid (pv = Cr.sh cl ro c d b) := Lib.hid (by rw [HV.out, HE2.out]; rfl)
      go_enter Tryz.func53, Tryz.ntmps53
      go_wp2_with (first
        | (refine wpList_load_blk 29 (.tmp 4) rfl (w.heap.size) rfl (by kernel_rfl) (HB).out Tryz.underlying29 hgi ?_)
        | (go_at_call 84; refine (K1.out _ (H.out.step hb)).mono ?_; rintro e w2 ⟨rfl, hb9⟩; replace hb := bel hb hb9; have HB2 := Lib.hid (HB.out.step hb9); clear hb9)
        | (refine wpList_load_blk 29 (.tmp 4) rfl (w.heap.size) rfl (by kernel_rfl) (HB2).out Tryz.underlying29 hgi ?_)
        | (go_at_call 85; refine (K2.out _ (H.out.step hb)).mono ?_; rintro e w3 ⟨rfl, hb9⟩; have hb3 := (bel hb hb9).alloc (bel hb hb9).size (.cells #[.int .i64 a.code, .int .i64 a.kind, .int .i64 a.basis, .int .i64 a.parent] 129); have HB3 := Lib.hid ((HB2.out.step hb9).alloc (.cells #[.int .i64 a.code, .int .i64 a.kind, .int .i64 a.basis, .int .i64 a.parent] 129)); clear hb9)
        | (refine wpList_load_blk 29 (.tmp 4) rfl (w.heap.size) rfl (by kernel_rfl) (HB3).out Tryz.underlying29 hgi ?_)
        | (go_at_call 55; refine (K3.out _ (H.out.step hb3)).mono ?_; rintro e w4 ⟨rfl, hb9⟩; have hb4 := bel hb3 hb9; clear hb9))
      go_ret2
      exact ⟨by rw [HE2.out, HV2.out, HBB.out]; rfl, hb4⟩
  · have HE2 : Hid (pe = ck) := Lib.hid (by rw [HE.out, if_neg (by simpa using hx)])
    have HV2 : Hid (pv = 0) := Lib.hid (by rw [HV.out, HE2.out, if_neg (by simpa using hx)])
    go_enter Tryz.func53, Tryz.ntmps53
    go_wp2_with (first
      | (refine wpList_load_blk 29 (.tmp 4) rfl (w.heap.size) rfl (by kernel_rfl) (HB).out Tryz.underlying29 hgi ?_)
      | (go_at_call 84; refine (K1.out _ (H.out.step hb)).mono ?_; rintro e w2 ⟨rfl, hb9⟩; replace hb := bel hb hb9; clear hb9))
    go_ret2
    exact ⟨by rw [HE2.out, HV2.out]; rfl, hb⟩
end
end Go.Proofs.YthfbpbbepogllaaGreat
/- The law's own 'awake', and the walks of CarryPlace and CarryOwn. -/
namespace Go.Proofs.YthfbpbbepogllaaGreat
set_option linter.unusedVariables false
set_option linter.unusedSimpArgs false
open Go.RowKit

theorem samplace_any (c d q pv pe : Int) (gcs : Array Value) (cA : Option Addr) (cc : Nat) (s1 s2 s3 s4 : Sl Acc) (r1 r2 r3 r4 : Sl LinkR) (eA : Option Addr) (ec : Nat) (w : World) (hg : gcs = gcells Sam.eur 2026 1 36 Sam.chart cA cc Sam.ro (Sam.ents s1 s2 s3 s4 r1 r2 r3 r4) eA ec)
    (hG : GIn w Sam.chart cA (Sam.ents s1 s2 s3 s4 r1 r2 r3 r4) eA) (h1 : Cr.plV true 2026 1 36 q Sam.chart Sam.ro c d = pv) (h2 : Cr.plE true 2026 1 36 q Sam.chart c = pe) :
    Calls Tryz.prog 53 #[.agg gcs, .int .i64 c, .int .i64 d, .int .i64 q] w (Two pv pe w) := by
  have := cplace_any gcs Sam.eur 2026 1 36 Sam.chart cA cc Sam.ro (Sam.ents s1 s2 s3 s4 r1 r2 r3 r4) eA ec w c d q (Lib.hid hg) hG (Sam.small s1 s2 s3 s4 r1 r2 r3 r4)
  rw [Sam.good, h1, h2] at this
  exact this
set_option maxRecDepth 100000 in
set_option maxHeartbeats 4000000 in
theorem car_awake (w : World) : Calls Tryz.prog 24 #[] w (BoolPost true w) := by
  have hb := Below.refl w.heap.size w
  go_enter Tryz.func24, Tryz.ntmps24
  go_wp2_with fail
  refine (sample_any w).mono ?_
  rintro e w2 ⟨gcs, cA, cc, s1, s2, s3, s4, r1, r2, r3, r4, eA, ec, rfl, hg, hG, hb2⟩
  replace hb := bel hb hb2
  have K := Lib.hid (samplace_any 4000 20818 11 4000 0 gcs cA cc s1 s2 s3 s4 r1 r2 r3 r4 eA ec w2 hg hG (by kernel_rfl) (by kernel_rfl))
  clear hg hG hb2
  go_wp2_with (go_at_call 53; refine K.out.mono ?_; rintro e w3 ⟨rfl, hb3⟩; replace hb := bel hb hb3; clear hb3)
  refine (sample_any w3).mono ?_
  rintro e w4 ⟨gcs, cA, cc, s1, s2, s3, s4, r1, r2, r3, r4, eA, ec, rfl, hg, hG, hb2⟩
  replace hb := bel hb hb2
  clear K
  have K := Lib.hid (samplace_any 4000 20818 12 3300 0 gcs cA cc s1 s2 s3 s4 r1 r2 r3 r4 eA ec w4 hg hG (by kernel_rfl) (by kernel_rfl))
  clear hg hG hb2
  go_wp2_with (go_at_call 53; refine K.out.mono ?_; rintro e w5 ⟨rfl, hb3⟩; replace hb := bel hb hb3; clear hb3)
  go_ret
  exact ⟨rfl, hb⟩
section
variable (cur : ByteArray) (y m p : Int) (cl : List Acc) (cA : Option Addr) (cc : Nat) (ro : RolesR) (el : List EntR) (eA : Option Addr) (ec : Nat) (w : World)
end
theorem found_code {cl : List Acc} {c : Int} (h : Ch.fnB cl c = true) : (Ch.fnV cl c).code = c := by
  unfold Ch.fnB at h
  rw [Option.isSome_iff_exists] at h
  obtain ⟨a, ha⟩ := h
  unfold Ch.fnV
  rw [ha]
  exact (Ch.find_some cl c a ha).2
theorem own_place {y m p q c d : Int} {cl : List Acc} {ro : RolesR} (hV : Cal.ok y m p = true) (h0 : 0 ≤ q) (h1 : q < p) (hf : Ch.fnB cl c = true) (hr : resB cl c = false) : Cr.plV true y m p q cl ro c d = c ∧ Cr.plE true y m p q cl c = 0 := by
  have hk : Cr.ckE true y m p q = 0 := by
    unfold Cr.ckE Cal.ckE
    rw [if_pos rfl, if_pos hV, if_pos ⟨h0, h1⟩]
  have he : Cr.plE true y m p q cl c = 0 := by
    unfold Cr.plE
    rw [if_pos hk, if_pos hf]
  refine ⟨?_, he⟩
  unfold Cr.plV Cr.sh
  rw [if_pos he, hr]
  simp
section
variable (cur : ByteArray) (y m p : Int) (cl : List Acc) (cA : Option Addr) (cc : Nat) (ro : RolesR) (el : List EntR) (eA : Option Addr) (ec : Nat) (w : World)
end
end Go.Proofs.YthfbpbbepogllaaGreat
/- The walk of CarryResult. -/
namespace Go.Proofs.YthfbpbbepogllaaGreat
set_option linter.unusedVariables false
set_option linter.unusedSimpArgs false
open Go.RowKit

theorem dat_mk (r : List Int) (h : r.length = 3) : ∃ a : DatR, DatR.cells a = r.map (Value.int .i64) := by
  match r, h with
  | [a, b, c], _ => exact ⟨⟨a, b, c⟩, rfl⟩
theorem dat_info : (Tryz.prog.info? 120).map (fun i => (i.zero, i.size, i.bytes)) = some (some (.agg #[.int .i64 0, .int .i64 0, .int .i64 0]), 3, 24) := by kernel_rfl
def OwnDats (l : List DatR) (w : World) (e : Ending) (w' : World) : Prop := ∃ v, e = .returned v ∧ w'.ownsRow w.heap.size 120 3 v l.length (cellsOf DatR.cells l) ∧ Below w.heap.size w w'
set_option maxHeartbeats 4000000 in
theorem to_any (l : List DatR) (A : Option Addr) (lc : Nat) (w : World) (hr : Rd w w.heap.size 3 A l.length (cellsOf DatR.cells l)) (hl : l.length ≤ 1000) :
    Calls Tryz.prog 27 #[.slice A l.length lc] w (OwnDats l w) := by
  obtain ⟨i0, hi, hz0, hz1, hz2⟩ := info_parts dat_info
  have hb := Below.refl w.heap.size w
  have HR := Lib.hid hr
  clear hr
  go_enter Tryz.func27, Tryz.ntmps27
  go_wp2_with fail
  go_loopw [3, 8] (fun v t wr => ∃ k : Nat, k ≤ l.length ∧ t = .int .i64 k ∧ wr.ownsRow w.heap.size 120 3 v (l.take k).length (cellsOf DatR.cells (l.take k)) ∧ Below w.heap.size w wr) (fun _ t _ => l.length - (intOf t).toNat)
  case atStart => exact ⟨0, by omega, rfl, World.ownsRow_nil _ _ _ _, hb⟩
  case round =>
    clear hb
    obtain ⟨k, hk, rfl, ho, hb⟩ := hrel
    have hz := hb.size
    by_cases hlt : k < l.length
    · obtain ⟨b, o, hA, hbo, f0, f1, f2⟩ := DatR.at_ (HR.out.below hb (Nat.le_refl _)) hlt
      subst hA
      have HSN : Hid (l.take k ++ [l[k]] = l.take (k + 1)) := Lib.hid (List.take_succ_eq_append_getElem hlt).symm
      have hln : (l.take k).length ≤ 1000 := by rw [List.length_take]; omega
      have HO := Lib.hid ho
      clear ho
      generalize hx : l[k] = x at *
      clear hx
      obtain ⟨xa, xd, xm⟩ := x
      dsimp only at *
      have hb1 := (hb.alloc hz (.cells #[.int .i64 xa, .int .i64 xd, .int .i64 xm] 82)).alloc (hb.alloc hz (.cells #[.int .i64 xa, .int .i64 xd, .int .i64 xm] 82)).size (.cells #[.int .i64 xa, .int .i64 xd, .int .i64 xm] 120)
      have ho1 := (HO.out.alloc (.cells #[.int .i64 xa, .int .i64 xd, .int .i64 xm] 82)).alloc (.cells #[.int .i64 xa, .int .i64 xd, .int .i64 xm] 120)
      have HN := Lib.hid (Blk.newAt (w := wr.alloc (.cells #[.int .i64 xa, .int .i64 xd, .int .i64 xm] 82)) (g := wr.heap.size + 1) (t := 120) (cs := #[.int .i64 xa, .int .i64 xd, .int .i64 xm]) (by simp))
      go_wp2_with (at_builtin; refine wpList_append_rec DatR.cells 3 DatR.len DatR.one rfl (.tmp 12) (.tmp 14) 75 rfl w.heap.size 120 i0 (.agg #[.int .i64 0, .int .i64 0, .int .i64 0]) 24 Tryz.underlying75 hi hz0 hz1 hz2 rfl (by decide) _ (l.take k) rfl ho1 (wr.heap.size + 1) 1 ⟨xa, xd, xm⟩ _ rfl HN.out rfl (by simp only [maxLen]; omega) (by omega) hb1.size ?_; intro v4 w4 ho4 hg4)
      have hb4 := bel_own hb1 hb1.size ho1 hg4
      clear hg4 ho1 hb1
      go_wp2_with fail
      go_roundw
      case rel => exact ⟨k + 1, by omega, by go_num, own_cast ho4 HSN.out, hb4⟩
      case measure => simp [intOf]; omega
    · have HE : Hid (l.take k = l) := Lib.hid (List.take_of_length_le (by omega))
      rw [HE.out] at ho
      go_wp2_with fail
      go_ret
      exact ⟨_, rfl, ho, hb⟩
section
variable (cur : ByteArray) (y m p : Int) (cl : List Acc) (cA : Option Addr) (cc : Nat) (ro : RolesR) (el : List EntR) (eA : Option Addr) (ec : Nat) (w : World)
end
end Go.Proofs.YthfbpbbepogllaaGreat
/- What Carry shows: a sum for every account, in the order of the accounts. No walk. -/
namespace Go.Proofs.YthfbpbbepogllaaGreat
set_option linter.unusedVariables false
set_option linter.unusedSimpArgs false
open Go.RowKit

namespace Cr
/-- the sum that is shown on an account -/
def sumAt (F : DatR → Int) (l : List DatR) (c : Int) : Int := tot (fun x => F x == c) l
def row (f : Int → Int) (c : Int) : Option Bal := if f c = 0 then none else some ⟨c, f c⟩
def caL (f : Int → Int) (cs : List Int) : List Bal := cs.filterMap (row f)
def caE (f : Int → Int) (cs : List Int) : Int := if cs.all (fun c => amV (f c)) = true then 0 else 2
def Up (l : List Int) : Prop := l.Pairwise (· < ·)
theorem up_ext : ∀ {l m : List Int}, Up l → Up m → (∀ x, x ∈ l ↔ x ∈ m) → l = m
  | [], [], _, _, _ => rfl
  | [], b :: m, _, _, h => by have := (h b).2 (by simp); cases this
  | a :: l, [], _, _, h => by have := (h a).1 (by simp); cases this
  | a :: l, b :: m, hl, hm, h => by
    rw [Up, List.pairwise_cons] at hl hm
    have hab : a = b := by
      have h1 := (h a).1 (by simp)
      have h2 := (h b).2 (by simp)
      rcases List.mem_cons.1 h1 with h1 | h1
      · exact h1
      rcases List.mem_cons.1 h2 with h2 | h2
      · exact h2.symm
      have := hm.1 _ h1
      have := hl.1 _ h2
      omega
    subst hab
    rw [up_ext hl.2 hm.2 (fun x => ?_)]
    constructor
    · intro hx
      rcases List.mem_cons.1 ((h x).1 (by simp [hx])) with e | e
      · subst e; exact absurd (hl.1 _ hx) (by omega)
      · exact e
    · intro hx
      rcases List.mem_cons.1 ((h x).2 (by simp [hx])) with e | e
      · subst e; exact absurd (hm.1 _ hx) (by omega)
      · exact e
theorem up_filter {l : List Int} (q : Int → Bool) (h : Up l) : Up (l.filter q) := List.Pairwise.filter q h
theorem caL_filter {f : Int → Int} {q : Int → Bool} : ∀ {cs : List Int}, (∀ c ∈ cs, q c = false → f c = 0) → caL f (cs.filter q) = caL f cs
  | [], _ => rfl
  | c :: r, h => by
    have ih := caL_filter (f := f) (q := q) (cs := r) (fun x hx => h x (by simp [hx]))
    unfold caL at *
    rw [List.filter_cons]
    split
    · rw [List.filterMap_cons, List.filterMap_cons, ih]
    · rename_i hq
      have : row f c = none := by unfold row; rw [if_pos (h c (by simp) (by simpa using hq))]
      rw [List.filterMap_cons, this, ih]
theorem caE_filter {f : Int → Int} {q : Int → Bool} {cs : List Int} (h : ∀ c ∈ cs, q c = false → f c = 0) : caE f (cs.filter q) = caE f cs := by
  unfold caE
  congr 2
  rw [Bool.eq_iff_iff, List.all_eq_true, List.all_eq_true]
  constructor
  · intro H x hx
    cases hq : q x
    · rw [h x hx hq]; decide
    · exact H x (List.mem_filter.2 ⟨hx, hq⟩)
  · intro H x hx
    exact H x (List.mem_filter.1 hx).1
theorem sumAt_no {F : DatR → Int} {l : List DatR} {c : Int} (h : ∀ x ∈ l, F x ≠ c) : sumAt F l c = 0 := by
  unfold sumAt tot
  induction l with
  | nil => rfl
  | cons a r ih =>
    rw [List.map_cons, List.sum_cons, ih (fun x hx => h x (by simp [hx]))]
    have : (F a == c) = false := by simpa using h a (by simp)
    simp [this]
/-- the keys of the sums, in order, are those of the chart that count -/
theorem keys_are {F : DatR → Int} {l : List DatR} {cs ss : List Int} (hc : Up cs) (hs : Up ss) (hm : ∀ x, x ∈ ss ↔ ∃ d ∈ l, F d = x) (hin : ∀ d ∈ l, F d ∈ cs) : caL (sumAt F l) ss = caL (sumAt F l) cs ∧ caE (sumAt F l) ss = caE (sumAt F l) cs := by
  have hz : ∀ c ∈ cs, decide (c ∈ ss) = false → sumAt F l c = 0 := fun c _ hq => sumAt_no (fun x hx e => by
    have : c ∈ ss := (hm c).2 ⟨x, hx, e⟩
    simp [this] at hq)
  have he : ss = cs.filter (fun c => decide (c ∈ ss)) := up_ext hs (up_filter _ hc) (fun x => by
    rw [List.mem_filter]
    constructor
    · intro hx
      obtain ⟨d, hd, rfl⟩ := (hm x).1 hx
      exact ⟨hin d hd, by simpa using hx⟩
    · intro hx
      simpa using hx.2)
  have h1 := caL_filter hz
  have h2 := caE_filter hz
  rw [← he] at h1 h2
  exact ⟨h1, h2⟩
theorem caL_take {f : Int → Int} {cs : List Int} {k : Nat} (hk : k < cs.length) : caL f (cs.take (k + 1)) = if f cs[k] = 0 then caL f (cs.take k) else caL f (cs.take k) ++ [⟨cs[k], f cs[k]⟩] := by
  unfold caL
  rw [List.take_succ_eq_append_getElem hk, List.filterMap_append]
  by_cases h : f cs[k] = 0
  · simp [row, h]
  · simp [row, h]
theorem caL_len {f : Int → Int} {cs : List Int} : (caL f cs).length ≤ cs.length := List.length_filterMap_le _ _
theorem caE_no {f : Int → Int} {cs : List Int} {k : Nat} (hk : k < cs.length) (h : amV (f cs[k]) = false) : caE f cs = 2 := by
  unfold caE
  rw [if_neg]
  intro H
  have := List.all_eq_true.1 H _ (List.getElem_mem hk)
  rw [h] at this
  cases this
theorem caE_yes {f : Int → Int} {cs : List Int} (h : ∀ j (hj : j < cs.length), amV (f cs[j]) = true) : caE f cs = 0 := by
  unfold caE
  rw [if_pos]
  rw [List.all_eq_true]
  intro x hx
  obtain ⟨j, hj, rfl⟩ := List.mem_iff_getElem.1 hx
  exact h j hj
theorem sumAt_take {F : DatR → Int} {l : List DatR} {k : Nat} (h : k < l.length) (c : Int) : sumAt F (l.take (k + 1)) c = sumAt F (l.take k) c + if F l[k] = c then l[k].amount else 0 := by
  unfold sumAt
  rw [tot_take _ l k h]
  by_cases e : F l[k] = c
  · simp [e]
  · simp [e]
theorem codes_up {cl : List Acc} (h : Ch.validV cl true = true) : Up (cl.map Acc.code) := by
  unfold Ch.validV at h
  simp only [Bool.and_eq_true, List.all_eq_true, List.mem_range] at h
  have hs : ∀ j (hj : j + 1 < cl.length), cl[j].code < cl[j + 1].code := fun j hj => by
    have := h.1 (j + 1) hj
    unfold Ch.okAt at this
    simp only [Bool.and_eq_true, Bool.or_eq_true, decide_eq_true_eq] at this
    have h2 := this.1
    have hjl : j < cl.length := by omega
    simp only [Nat.add_sub_cancel, Ch.getD_at _ _ hj, Ch.getD_at _ j hjl] at h2
    rcases h2 with h2 | h2
    · simp at h2
    · exact h2
  have hp : ∀ (d j : Nat) (hj : j + d + 1 < cl.length), cl[j].code < cl[j + d + 1].code := by
    intro d
    induction d with
    | zero => intro j hj; exact hs j hj
    | succ d ih =>
      intro j hj
      have h1 := ih j (by omega)
      have h2 := hs (j + d + 1) (by omega)
      exact Int.lt_trans h1 h2
  unfold Up
  rw [List.pairwise_iff_getElem]
  intro i j hi hj hij
  rw [List.getElem_map, List.getElem_map]
  obtain ⟨d, rfl⟩ : ∃ d, j = i + d + 1 := ⟨j - i - 1, by omega⟩
  exact hp d i (by simpa using hj)
theorem fnB_mem {cl : List Acc} {c : Int} (h : Ch.fnB cl c = true) : c ∈ cl.map Acc.code := by
  unfold Ch.fnB at h
  obtain ⟨a, ha⟩ := Option.isSome_iff_exists.1 h
  exact Ch.find_mem cl c a ha
theorem sh_mem {cur : ByteArray} {cl : List Acc} {ro : RolesR} {el : List EntR} {cal : Bool} (h : Gr.gv cur cl ro el cal = true) {c d b : Int} (hc : Ch.fnB cl c = true) : sh cl ro c d b ∈ cl.map Acc.code := by
  unfold sh
  split
  · have h0 : Gr.rolesOk cl (Gr.roles ro) = true := by
      unfold Gr.gv Gr.accsV at h
      simp only [Bool.and_eq_true] at h
      exact h.2.2.1.2.2
    have := allAt_at h0 (show 6 < (Gr.roles ro).length by rw [Gr.roles_len]; omega)
    unfold Gr.roleOk at this
    simp only [Bool.and_eq_true] at this
    exact fnB_mem this.1
  · exact fnB_mem hc
theorem gv_up {cur : ByteArray} {cl : List Acc} {ro : RolesR} {el : List EntR} {cal : Bool} (h : Gr.gv cur cl ro el cal = true) : Up (cl.map Acc.code) := by
  unfold Gr.gv Gr.accsV at h
  simp only [Bool.and_eq_true] at h
  exact codes_up h.2.2.1.1
theorem vE_all {V : Bool} {Y M P q : Int} {cl : List Acc} {l : List DatR} (h : vE V Y M P q cl l = 0) : V = true ∧ (∀ x ∈ l, Ch.fnB cl x.account = true) := by
  unfold vE at h
  split at h
  · rename_i h0
    split at h
    · rename_i h1
      refine ⟨?_, fun x hx => List.all_eq_true.1 h1 x hx⟩
      unfold ckE at h0
      cases V
      · simp at h0
      · rfl
    · cases h
  · rename_i h1
    exact absurd h h1
/-- what is shown: the account of a dated amount -/
def at_ (cl : List Acc) (ro : RolesR) (b : Int) (x : DatR) : Int := sh cl ro x.account x.date b
def sumF (V : Bool) (Y M P q : Int) (cl : List Acc) (ro : RolesR) (l : List DatR) : Int → Int := sumAt (at_ cl ro (bg V Y M P q)) l
def cE (V : Bool) (Y M P q : Int) (cl : List Acc) (ro : RolesR) (l : List DatR) : Int := if vE V Y M P q cl l = 0 then caE (sumF V Y M P q cl ro l) (cl.map Acc.code) else vE V Y M P q cl l
def cL (V : Bool) (Y M P q : Int) (cl : List Acc) (ro : RolesR) (l : List DatR) : List Bal := if cE V Y M P q cl ro l = 0 then caL (sumF V Y M P q cl ro l) (cl.map Acc.code) else []
theorem keys_cl {cur : ByteArray} {y m p q : Int} {cl : List Acc} {ro : RolesR} {el : List EntR} {l : List DatR} {ss : List Int} (h0 : vE (Gr.gv cur cl ro el (Cal.ok y m p)) y m p q cl l = 0) (hs : Up ss)
    (hm : ∀ x, x ∈ ss ↔ x ∈ l.map (at_ cl ro (bg (Gr.gv cur cl ro el (Cal.ok y m p)) y m p q))) :
    caL (sumF (Gr.gv cur cl ro el (Cal.ok y m p)) y m p q cl ro l) ss = caL (sumF (Gr.gv cur cl ro el (Cal.ok y m p)) y m p q cl ro l) (cl.map Acc.code) ∧ caE (sumF (Gr.gv cur cl ro el (Cal.ok y m p)) y m p q cl ro l) ss = caE (sumF (Gr.gv cur cl ro el (Cal.ok y m p)) y m p q cl ro l) (cl.map Acc.code) := by
  obtain ⟨hV, ha⟩ := vE_all h0
  exact keys_are (gv_up hV) hs (fun x => (hm x).trans List.mem_map) (fun d hd => sh_mem hV (ha d hd))
end Cr
end Go.Proofs.YthfbpbbepogllaaGreat
/- The sums that are shown add up to the amounts. No walk. -/
namespace Go.Proofs.YthfbpbbepogllaaGreat
set_option linter.unusedVariables false
set_option linter.unusedSimpArgs false
open Go.RowKit

namespace Cr
theorem sm_caL (f : Int → Int) (p : Int → Bool) : ∀ cs : List Int, sm (caL f cs) (fun x => if p x.account = true then x.amount else 0) = sm cs (fun c => if p c = true then f c else 0)
  | [] => rfl
  | c :: cs => by
    have ih := sm_caL f p cs
    unfold caL at *
    rw [List.filterMap_cons, sm_cons]
    by_cases h : f c = 0
    · simp only [row, if_pos h]
      rw [ih, h]
      split <;> omega
    · simp only [row, if_neg h]
      rw [sm_cons, ih]
theorem sumAt_cons (F : DatR → Int) (x : DatR) (l : List DatR) (c : Int) : sumAt F (x :: l) c = (if F x = c then x.amount else 0) + sumAt F l c := by
  unfold sumAt tot
  rw [List.map_cons, List.sum_cons]
  congr 1
  by_cases h : F x = c
  · simp [h]
  · simp [h]
theorem keeps_all (F : DatR → Int) (p : Int → Bool) {cs : List Int} (hd : cs.Nodup) : ∀ l : List DatR, (∀ x ∈ l, F x ∈ cs) → sm cs (fun c => if p c = true then sumAt F l c else 0) = tot (fun x => p (F x)) l
  | [], _ => by
    rw [sm_zero (fun c _ => by unfold sumAt tot; simp)]
    rfl
  | x :: l, h => by
    have ih := keeps_all F p hd l (fun y hy => h y (List.mem_cons_of_mem _ hy))
    have h1 : sm cs (fun c => if p c = true then sumAt F (x :: l) c else 0) = sm cs (fun c => (if F x = c then (if p (F x) = true then x.amount else 0) else 0) + (if p c = true then sumAt F l c else 0)) := sm_congr (fun c _ => by
      rw [sumAt_cons]
      by_cases e : F x = c
      · subst e
        simp only [if_true]
        split <;> omega
      · rw [if_neg e, if_neg e]
        split <;> omega)
    rw [h1, sm_add, sm_single hd (h x (List.mem_cons_self ..)), ih]
    unfold tot
    rw [List.map_cons, List.sum_cons]
theorem keeps {F : DatR → Int} {cs : List Int} {l : List DatR} (p : Int → Bool) (hu : Up cs) (h : ∀ x ∈ l, F x ∈ cs) : sm (caL (sumAt F l) cs) (fun x => if p x.account = true then x.amount else 0) = tot (fun x => p (F x)) l := by
  rw [sm_caL, keeps_all F p (List.Pairwise.imp (fun {a b} hab => by omega) hu) l h]
theorem caL_am {f : Int → Int} {cs : List Int} (h : caE f cs = 0) : ∀ x ∈ caL f cs, -1000000000000 ≤ x.amount ∧ x.amount ≤ 1000000000000 := by
  intro x hx
  unfold caL at hx
  obtain ⟨c, hc, hr⟩ := List.mem_filterMap.1 hx
  unfold row at hr
  split at hr
  · cases hr
  · injection hr with hr
    subst hr
    unfold caE at h
    split at h
    · rename_i ha
      exact amV_is (List.all_eq_true.1 ha c hc)
    · cases h
/-- what the law asks -/
theorem keep_law {cur : ByteArray} {y m p q : Int} {cl : List Acc} {ro : RolesR} {el : List EntR} {l : List DatR} (hE : cE (Gr.gv cur cl ro el (Cal.ok y m p)) y m p q cl ro l = 0) :
    vE (Gr.gv cur cl ro el (Cal.ok y m p)) y m p q cl l = 0 ∧ (∀ w : Int → Bool, sm (cL (Gr.gv cur cl ro el (Cal.ok y m p)) y m p q cl ro l) (fun x => if w x.account = true then x.amount else 0) = tot (fun x => w (at_ cl ro (bg (Gr.gv cur cl ro el (Cal.ok y m p)) y m p q) x)) l) ∧
      (∀ x ∈ cL (Gr.gv cur cl ro el (Cal.ok y m p)) y m p q cl ro l, -1000000000000 ≤ x.amount ∧ x.amount ≤ 1000000000000) := by
  unfold cL
  rw [if_pos hE]
  unfold cE at hE
  split at hE
  · rename_i h0
    obtain ⟨hV, ha⟩ := vE_all h0
    exact ⟨h0, fun w => keeps w (gv_up hV) (fun x hx => sh_mem hV (ha x hx)), caL_am hE⟩
  · rename_i h0
    exact absurd hE h0
theorem cL_len {V : Bool} {Y M P q : Int} {cl : List Acc} {ro : RolesR} {l : List DatR} : (cL V Y M P q cl ro l).length ≤ cl.length := by
  unfold cL
  split
  · have := caL_len (f := sumF V Y M P q cl ro l) (cs := cl.map Acc.code)
    rwa [List.length_map] at this
  · exact Nat.zero_le _
end Cr
end Go.Proofs.YthfbpbbepogllaaGreat
/-
  DERIVED: THE SHELF's CONTRACTS AT THIS DUMP, IN PLAIN WORDS (tools/lay-plain.mjs out of 'TryzShelf.lean', which tools/lay-shelf.mjs wrote): THE SAME DECLARATIONS UNDER THE SAME NAMES: 'import', 'namespace', 'open', 'def', 'theorem' AND NOTHING ELSE: no command of the shelf's: FOR A HAND-IN. Each laying: the table of numbers ('.._ren') and one theorem, a field a fact of the dump's own or the kernel's comparison; each contract: ONE APPLICATION.
-/
namespace Go.Proofs
open Go.Shelf
def Tryz.keysI_ren : Go.Shelf.Ren := ⟨fun | 7 => 57 | 10 => 90 | n => n, fun | 23 => 119 | 26 => 3 | 3 => 3 | 28 => 124 | 0 => 0 | 27 => 123 | 33 => 111 | 4 => 4 | n => n, fun | n => n⟩
theorem Tryz.keysI : Go.Proofs.SlLaysZI.n7 Tryz.prog Tryz.keysI_ren := {
  mixed := by kernel_rfl
  f7 := ⟨Tryz.f57.name, by decide, Tryz.func57.trans (congrArg some (by kernel_rfl))⟩
  f10 := ⟨Tryz.f90.name, by decide, Tryz.func90.trans (congrArg some (by kernel_rfl))⟩
  t0 := Tryz.underlying0
  a0 := Tryz.isAgg0
  z0 := Tryz.sizeOf0
  v0 := Tryz.zeroValue0
  t4 := Tryz.underlying4
  a4 := Tryz.isAgg4
  z4 := Tryz.sizeOf4
  v4 := Tryz.zeroValue4
  t23 := Tryz.underlying119
  a23 := Tryz.isAgg119
  z23 := Tryz.sizeOf119
  v23 := Tryz.zeroValue119
  t26 := Tryz.underlying3
  a26 := Tryz.isAgg3
  z26 := Tryz.sizeOf3
  v26 := Tryz.zeroValue3
  t27 := Tryz.underlying123
  a27 := Tryz.isAgg123
  z27 := Tryz.sizeOf123
  v27 := Tryz.zeroValue123
  t28 := Tryz.underlying124
  a28 := Tryz.isAgg124
  z28 := Tryz.sizeOf124
  v28 := Tryz.zeroValue124
  t33 := Tryz.underlying111
  a33 := Tryz.isAgg111
  z33 := Tryz.sizeOf111
  v33 := Tryz.zeroValue111 }
def Tryz.sortedI_ren : Go.Shelf.Ren := ⟨fun | 6 => 56 | 8 => 88 | 9 => 89 | 11 => 123 | 13 => 125 | 12 => 124 | 23 => 152 | 24 => 153 | 14 => 143 | 15 => 144 | 16 => 145 | 17 => 146 | 18 => 147 | 19 => 148 | 20 => 149 | 21 => 150 | 22 => 151 | 25 => 166 | 26 => 167 | 27 => 168 | 28 => 169 | 29 => 170 | 30 => 171 | 31 => 173 | n => n, fun | 26 => 3 | 28 => 124 | 24 => 37 | 0 => 0 | 3 => 3 | 37 => 181 | 48 => 207 | 50 => 209 | 4 => 4 | 40 => 201 | 39 => 200 | 45 => 130 | 5 => 5 | 9 => 9 | 51 => 212 | 55 => 216 | 57 => 218 | 58 => 219 | 33 => 111 | n => n, fun | n => n⟩
theorem Tryz.sortedI : Go.Proofs.SlLaysZI.n6 Tryz.prog Tryz.sortedI_ren := {
  mixed := by kernel_rfl
  f6 := ⟨Tryz.f56.name, by decide, Tryz.func56.trans (congrArg some (by kernel_rfl))⟩
  f8 := ⟨Tryz.f88.name, by decide, Tryz.func88.trans (congrArg some (by kernel_rfl))⟩
  f11 := ⟨Tryz.f123.name, by decide, Tryz.func123.trans (congrArg some (by kernel_rfl))⟩
  t0 := Tryz.underlying0
  a0 := Tryz.isAgg0
  z0 := Tryz.sizeOf0
  v0 := Tryz.zeroValue0
  t24 := Tryz.underlying37
  a24 := Tryz.isAgg37
  z24 := Tryz.sizeOf37
  v24 := Tryz.zeroValue37
  t26 := Tryz.underlying3
  a26 := Tryz.isAgg3
  z26 := Tryz.sizeOf3
  v26 := Tryz.zeroValue3
  t28 := Tryz.underlying124
  a28 := Tryz.isAgg124
  z28 := Tryz.sizeOf124
  v28 := Tryz.zeroValue124
  i26 := by kernel_rfl }
end Go.Proofs
/- Sums by number in a map of the call's own, with the numbers that stand in it. Over any program. -/
namespace Go.Proofs.YthfbpbbepogllaaGreat
set_option linter.unusedVariables false
set_option linter.unusedSimpArgs false
open Go.RowKit Go.WideElems
open Go.Maps (Keyed)

/-- Block b is a map of at most n entries that says f; its numbers are those of S. -/
def SumK (P : Program) (k e : TypeId) (w : World) (b n : Nat) (S : List Int) (f : Int → Int) : Prop :=
  ∃ D : DataW Unit, w.ownsMap P k (plainElem P e) b n D ∧ Maps.IsMap D ∧ (∀ c, D.atKey (.int .i64 c) (.lit (.int .i64 0)) = .lit (.int .i64 (f c))) ∧ ∀ c, Maps.has D (.int .i64 c) = decide (c ∈ S)
section
variable {P : Program} {k e t : TypeId} {w w' : World} {b n : Nat} {S : List Int} {f g : Int → Int}
theorem SumK.made (w : World) : SumK P k e (w.alloc (.map #[] 0)) w.heap.size 0 [] (fun _ => 0) := ⟨.map [], World.ownsMap_made _ _ _ _, Maps.isMap_empty, fun _ => by simp [DataW.atKey], fun _ => by simp [Maps.has_eq]⟩
theorem SumK.sum (h : SumK P k e w b n S f) : SumW P k e w b n f := by obtain ⟨D, h1, h2, h3, _⟩ := h; exact ⟨D, h1, h2, h3⟩
theorem SumK.lt (h : SumK P k e w b n S f) : b < w.heap.size := h.sum.lt
theorem SumK.kept {row : Option Nat} (h : SumK P k e w b n S f) (hg : w.grownBy w' row) (hne : some b ≠ row) : SumK P k e w' b n S f := by obtain ⟨D, h, r⟩ := h; exact ⟨D, h.kept hg hne, r⟩
theorem SumK.step (h : SumK P k e w b n S f) (hb : Below w.heap.size w w') : SumK P k e w' b n S f := h.kept (grown_below hb none) (by simp)
theorem SumK.same (h : SumK P k e w b n S f) (hb : w'.heap[b]? = w.heap[b]?) : SumK P k e w' b n S f := by
  obtain ⟨D, ⟨es, cl, h1, h2⟩, r⟩ := h
  exact ⟨D, ⟨es, cl, hb.trans h1, h2⟩, r⟩
/-- 'm[c] = y' -/
theorem SumK.put (h : SumK P k e w b n S f) (hk : P.underlying k = some (.int .i64)) (he : P.underlying e = some (.int .i64)) (ht : P.underlying t = some (.map k e)) (hn : n < maxLen) {c y : Int} (hc : (Lit.int .i64 c).wf = true) (hy : (Lit.int .i64 y).wf = true)
    (hg : g c = y) (hgo : ∀ d, d ≠ c → g d = f d) : ∃ w2, (Instr.mapUpdate t (.map (some b)) (.int .i64 c) (.int .i64 y)).run P w = .ok () w2 ∧ SumK P k e w2 b (n + 1) (S ++ [c]) g ∧ w.grownBy w2 (some b) := by
  obtain ⟨D, h1, hM, hD, hh⟩ := h
  obtain ⟨w2, r1, r2, r3⟩ := h1.update (Maps.int_keyed hk) ht hn (Maps.keyOf_int_mk hk hc) (plainElem_int he hy)
  refine ⟨w2, r1, ⟨_, r2, hM.put _ _, fun d => ?_, fun d => ?_⟩, r3⟩
  · by_cases hd : d = c
    · subst hd
      rw [Maps.atKey_put_same hM (show WideAt.IsKeyLit (.int .i64 d) from trivial), hg]
    · rw [Maps.atKey_put_other (int_ne hd), hD d, hgo d hd]
  · by_cases hd : d = c
    · subst hd
      rw [Maps.has_put_same hM (show WideAt.IsKeyLit (.int .i64 d) from trivial)]
      simp
    · rw [Maps.has_put_other (int_ne hd), hh d]
      simp [hd]
theorem SumK.keys {D : DataW Unit} (h : w.ownsMap P k (plainElem P e) b n D) (hk : P.underlying k = some (.int .i64)) (hh : ∀ x : Int, Maps.has D (.int .i64 x) = decide (x ∈ S)) {ss : List Int} (hp : ss.Perm (intKeys D)) : ss.Nodup ∧ ∀ x, x ∈ ss ↔ x ∈ S := by
  obtain ⟨es, hD, hpw, _⟩ := h.entries (Maps.int_keyed hk)
  obtain ⟨es', hD', hko⟩ := h.keysOf
  obtain rfl : es = es' := by rw [hD] at hD'; simpa using hD'
  subst hD
  have hs : ∀ p ∈ es, ∃ x, p.1 = .int .i64 x := fun p hp => by obtain ⟨v, hv⟩ := hko p hp; obtain ⟨x, _, hx, _⟩ := Maps.keyOf_i64 hk hv; exact ⟨x, hx⟩
  constructor
  · refine hp.nodup_iff.2 ?_
    show (es.map fun p => Go.intOf p.1).Nodup
    refine List.pairwise_map.2 (hpw.imp_of_mem fun {p q} hp' hq' hne e => hne ?_)
    obtain ⟨a, ha⟩ := hs p hp'
    obtain ⟨b, hb⟩ := hs q hq'
    rw [ha, hb] at e ⊢
    exact congrArg _ e
  · intro x
    rw [hp.mem_iff]
    have h1 := hh x
    rw [Maps.has_eq] at h1
    have h2 : (es.any fun p => p.1.sameKey (.int .i64 x)) = true ↔ x ∈ S := by rw [h1]; simp
    rw [← h2, List.any_eq_true]
    show x ∈ es.map (fun p => Go.intOf p.1) ↔ _
    rw [List.mem_map]
    constructor
    · rintro ⟨p, hp', rfl⟩
      obtain ⟨a, ha⟩ := hs p hp'
      exact ⟨p, hp', by rw [ha]; simp [Lit.sameKey, Go.intOf]⟩
    · rintro ⟨p, hp', hs'⟩
      obtain ⟨a, ha⟩ := hs p hp'
      rw [ha] at hs'
      exact ⟨p, hp', by rw [ha]; simpa [Lit.sameKey, Go.intOf] using hs'⟩
end
end Go.Proofs.YthfbpbbepogllaaGreat
