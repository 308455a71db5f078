/- Texts of this claim, put together. -/
import Derived.Test.YtnddoehhcpejjaaGreatJrnRefZ
import Derived.Test.YtnddoehhcpejjaaGreatJAO
import Derived.Test.YtnddoehhcpejjaaGreatJAT
/- The walks of the reference's InCalendar and of its check of an entry. -/
namespace Go.Proofs.YtnddoehhcpejjaaGreat
set_option linter.unusedVariables false
set_option linter.unusedSimpArgs false
open Go.RowKit

theorem inCal_dB {Y M P : Int} (h : Cal.ok Y M P = true) (d : Int) : Jn.inCal Y M P d = Jn.dB Y M P d := by
  rw [Bool.eq_iff_iff, Jn.inCal_is Y M P d h]
  unfold Jn.dB
  simp
set_option maxHeartbeats 2000000 in
theorem inCal_any (y m p d : Int) (w : World) (hp : 1 ≤ p) (hp2 : p ≤ 1000) : Calls Tryz.prog 107 #[.agg #[.int .i64 y, .int .i64 m, .int .i64 p], .int .i64 d] w (BoolPost (Jn.inCal y m p d) w) := by
  have hb : Below w.heap.size w (w.alloc (.cells #[.int .i64 y, .int .i64 m, .int .i64 p] 23)) := (Below.refl _ _).alloc (Nat.le_refl _) _
  have HB := Lib.hid (Blk.new w 23 #[.int .i64 y, .int .i64 m, .int .i64 p])
  have K1 := Lib.hid (fun W => rcal_First y m p 0 W)
  have K2 := Lib.hid (fun W => rcal_Last y m p (p - 1) W)
  have HD : Hid (Jn.inCal y m p d = (decide (Cal.fiV y m p 0 ≤ d) && decide (d ≤ Cal.laV y m p (p - 1)))) := Lib.hid rfl
  generalize Jn.inCal y m p d = X at *
  generalize Cal.fiV y m p 0 = a at *
  generalize Cal.laV y m p (p - 1) = b at *
  generalize Cal.ckE y m p 0 = e1 at *
  generalize Cal.ckE y m p (p - 1) = e2 at *
  have hw : IntKind.i64.wrap (p - 1) = p - 1 := IntWalk.i64_in _ (by omega)
  go_enter Tryz.func107, Tryz.ntmps107
  go_upto_region 1 with fail
  generalize w.alloc (.cells #[.int .i64 y, .int .i64 m, .int .i64 p] 23) = W at *
  have k0 : W.cell? ⟨w.heap.size, 0, none⟩ = some (.int .i64 y) := HB.out.cell 0
  have k1 : W.cell? ⟨w.heap.size, 1, none⟩ = some (.int .i64 m) := HB.out.cell 1
  have k2 : W.cell? ⟨w.heap.size, 2, none⟩ = some (.int .i64 p) := HB.out.cell 2
  go_upto_region 2 with (go_at_call 31; refine (K1.out _).mono ?_; rintro e w3 ⟨rfl, hb9⟩; have hb3 := bel hb hb9; have HB3 := Lib.hid (HB.out.step hb9); clear hb9)
  have x0 : w3.cell? ⟨w.heap.size, 0, none⟩ = some (.int .i64 y) := HB3.out.cell 0
  have x1 : w3.cell? ⟨w.heap.size, 1, none⟩ = some (.int .i64 m) := HB3.out.cell 1
  have x2 : w3.cell? ⟨w.heap.size, 2, none⟩ = some (.int .i64 p) := HB3.out.cell 2
  clear k0 k1 k2
  by_cases h1 : a ≤ d
  · by_cases h2 : d ≤ b
    · have HE : Hid (X = true) := Lib.hid (by rw [HD.out]; simp [h1, h2])
      go_wp2_with (go_at_call 19; refine (K2.out _).mono ?_; rintro e w4 ⟨rfl, hb9⟩; have hb4 := bel hb3 hb9; clear hb9)
      go_ret
      exact ⟨by rw [HE.out]; rfl, hb4⟩
    · have HE : Hid (X = false) := Lib.hid (by rw [HD.out]; simp [h2])
      go_wp2_with (go_at_call 19; refine (K2.out _).mono ?_; rintro e w4 ⟨rfl, hb9⟩; have hb4 := bel hb3 hb9; clear hb9)
      go_ret
      exact ⟨ret_bool (by rw [HE.out]; first | rfl | (simp; omega)), hb4⟩
  · have HE : Hid (X = false) := Lib.hid (by rw [HD.out]; simp [h1])
    go_wp2_with (go_at_call 19; refine (K2.out _).mono ?_; rintro e w4 ⟨rfl, hb9⟩; have hb4 := bel hb3 hb9; clear hb9)
    go_ret
    exact ⟨by rw [HE.out]; rfl, hb4⟩
section
variable (gcs : Array Value) (cur : ByteArray) (y m p : Int) (cl : List Acc) (cA : Option Addr) (cc : Nat) (ro : RolesR) (el : List EntR) (eA : Option Addr) (ec : Nat) (w : World) (id en da kd fo : Int) (tx : ByteArray) (ll : List LineR) (lA : Option Addr) (lc : Nat)
set_option maxRecDepth 100000 in
set_option maxHeartbeats 16000000 in
theorem rcheck_any (HG : Hid (gcs = #[.string cur, .int .i64 y, .int .i64 m, .int .i64 p, .slice cA cl.length cc, .int .i64 ro.investment, .int .i64 ro.goodwill, .int .i64 ro.associates, .int .i64 ro.inventory, .int .i64 ro.reserve, .int .i64 ro.minority, .int .i64 ro.retained, .int .i64 ro.acquired, .int .i64 ro.owners, .int .i64 ro.disposal, .int .i64 ro.associateProfit, .int .i64 ro.dividends, .int .i64 ro.minorityProfit, .int .i64 ro.difference, .int .i64 ro.margin, .slice eA el.length ec])) (h : GIn w cl cA el eA) (hF : FewOk cur cl el) (htx : tx.size ≤ maxLen) (hr : Rd w w.heap.size 3 lA ll.length (cellsOf LineR.cells ll)) (hn : ll.length ≤ 1000) :
    Calls Tryz.prog 74 #[.agg gcs, .agg #[.int .i64 id, .int .i64 en, .int .i64 da, .int .i64 kd, .int .i64 fo, .string tx, .slice lA ll.length lc]] w (IntPost (Jn.ckE (Gr.gv cur cl ro el (Cal.ok y m p)) el.length (Jn.kB el) (Jn.dB y m p) ⟨id, en, da, kd, fo, tx, ⟨ll, lA, lc⟩⟩) w) := by
  have H := Lib.hid h
  have HR := Lib.hid hr
  have hgi : (Tryz.prog.info? 29).map (·.size) = some gcs.size := by rw [HG.out]; exact grp_size
  have KS := Lib.hid (fun W h hr => shape_any gcs cur y m p cl cA cc ro el eA ec W id en da kd fo tx ll lA lc HG h hF htx hr hn)
  have HFW := Lib.hid hF
  have HX : Hid (Jn.ckE (Gr.gv cur cl ro el (Cal.ok y m p)) el.length (Jn.kB el) (Jn.dB y m p) ⟨id, en, da, kd, fo, tx, ⟨ll, lA, lc⟩⟩ = if Jn.formB (Gr.gv cur cl ro el (Cal.ok y m p)) el.length ⟨id, en, da, kd, fo, tx, ⟨ll, lA, lc⟩⟩ then (if ll.all (fun l => Jn.kB el en l.account) then (if Jn.dB y m p da then (if Jn.sumL ll = 0 then 0 else 11) else 2) else 17) else 1) := Lib.hid rfl
  have HOK := Lib.hid (fun (hh : Jn.formB (Gr.gv cur cl ro el (Cal.ok y m p)) el.length ⟨id, en, da, kd, fo, tx, ⟨ll, lA, lc⟩⟩ = true) => Jn.fm_ok (V := Gr.gv cur cl ro el (Cal.ok y m p)) (n := el.length) (x := ⟨id, en, da, kd, fo, tx, ⟨ll, lA, lc⟩⟩) (by unfold Jn.fmE; rw [hh]; rfl))
  have HCO : Hid (Gr.gv cur cl ro el (Cal.ok y m p) = true → Cal.ok y m p = true) := Lib.hid (fun hh => by unfold Gr.gv at hh; simp only [Bool.and_eq_true] at hh; exact hh.2.1)
  clear h hr hF
  have hb : Below w.heap.size w ((w.alloc (.cells gcs 29)).alloc (.cells #[.int .i64 id, .int .i64 en, .int .i64 da, .int .i64 kd, .int .i64 fo, .string tx, .slice lA ll.length lc] 67)) := ((Below.refl _ _).alloc (Nat.le_refl _) _).alloc (by simp) _
  have HB := Lib.hid ((Blk.new w 29 gcs).alloc (.cells #[.int .i64 id, .int .i64 en, .int .i64 da, .int .i64 kd, .int .i64 fo, .string tx, .slice lA ll.length lc] 67))
  have HP := Lib.hid (blk_new2 w (.cells gcs 29) 67 #[.int .i64 id, .int .i64 en, .int .i64 da, .int .i64 kd, .int .i64 fo, .string tx, .slice lA ll.length lc])
  generalize Gr.gv cur cl ro el (Cal.ok y m p) = V at *
  generalize Jn.ckE V el.length (Jn.kB el) (Jn.dB y m p) ⟨id, en, da, kd, fo, tx, ⟨ll, lA, lc⟩⟩ = X at *
  generalize hfm : Jn.formB V el.length ⟨id, en, da, kd, fo, tx, ⟨ll, lA, lc⟩⟩ = fm at *
  clear hfm
  go_enter Tryz.func74, Tryz.ntmps74
  go_upto_region 1 with fail
  generalize (w.alloc (.cells gcs 29)).alloc (.cells #[.int .i64 id, .int .i64 en, .int .i64 da, .int .i64 kd, .int .i64 fo, .string tx, .slice lA ll.length lc] 67) = W at *
  cases fm
  · have HE : Hid (X = 1) := Lib.hid HX.out
    go_wp2_with (first
      | (refine wpList_load_blk 29 (.tmp 2) rfl (w.heap.size) rfl (by kernel_rfl) (HB).out Tryz.underlying29 hgi ?_)
      | (refine wpList_load_blk 67 (.tmp 3) rfl (w.heap.size + 1) rfl (by kernel_rfl) HP.out Tryz.underlying67 entry_size ?_)
      | (go_at_call 105; refine (KS.out _ (H.out.step hb) (Rd.now HR.out hb)).mono ?_; rintro e w3 ⟨rfl, hb9⟩; have hb3 := bel hb hb9; clear hb9))
    go_ret
    exact ⟨by rw [HE.out]; rfl, hb3⟩
  · have HX2 : Hid (X = if ll.all (fun l => Jn.kB el en l.account) then (if Jn.dB y m p da then (if Jn.sumL ll = 0 then 0 else 11) else 2) else 17) := Lib.hid HX.out
    obtain ⟨hh, hlb⟩ := HOK.out rfl
    have hcok := HCO.out hh.v
    have e0 := hh.e0
    have e1 := hh.e1
    dsimp only at e0 e1
    have hlm : ∀ l ∈ ll, -1000000000000 ≤ l.amount ∧ l.amount ≤ 1000000000000 := fun l hl => by
      have := hlb l hl
      unfold Jn.lineB at this
      simp only [Bool.and_eq_true] at this
      exact amV_is this.1.2
    have KSU := Lib.hid (fun W h => rlsum_any ll lA lc W h hn hlm)
    have hpp := ((Cal.ok_iff y m p).1 hcok).2.2
    have KIN := Lib.hid (fun W => inCal_any y m p da W hpp.1 (by have := hpp.2.1; omega))
    rw [inCal_dB hcok da] at KIN
    obtain ⟨i, rfl⟩ : ∃ i : Nat, en = i := ⟨en.toNat, by omega⟩
    have hil : i < el.length := by omega
    clear hh hlb hlm hcok hpp e0 e1 HOK HX HCO
    go_upto_region 3 with (first
      | (refine wpList_load_blk 29 (.tmp 2) rfl (w.heap.size) rfl (by kernel_rfl) (HB).out Tryz.underlying29 hgi ?_)
      | (refine wpList_load_blk 67 (.tmp 3) rfl (w.heap.size + 1) rfl (by kernel_rfl) HP.out Tryz.underlying67 entry_size ?_)
      | (go_at_call 105; refine (KS.out _ (H.out.step hb) (Rd.now HR.out hb)).mono ?_; rintro e w3 ⟨rfl, hb9⟩; have hb3 := bel hb hb9; have HB3 := Lib.hid (HB.out.step hb9); have HP3 := Lib.hid (HP.out.step hb9); clear hb9))
    clear hb HB HP
    have hch := (HFW.out.ents i hil).1
    obtain ⟨b1, o1, hA1, hbo1, -, -, g2, -, -⟩ := EntR.at_ H.out.en hil
    have hok := H.out.ok _ (List.getElem_mem hil)
    have HKB := Lib.hid (fun a => Jn.kB_at hil a)
    generalize el[i] = x at *
    obtain ⟨xn, xu, ⟨l1, A1, c1⟩, ⟨l2, A2, c2⟩, xj⟩ := x
    dsimp only [Sl.val] at *
    have hl1 : Rd w w.heap.size 4 A1 l1.length (Ch.cells l1) := by have := hok.2.2.1.1.1; rwa [acc_gen] at this
    have HL1 := Lib.hid hl1
    have HG2 := Lib.hid g2
    subst hA1
    clear hok hl1 g2
    go_wp2_with fail
    go_loopw [5] (fun t wr => ∃ k : Nat, k ≤ ll.length ∧ (∀ j (h : j < k) (h2 : j < ll.length), Jn.kB el i (ll[j]'h2).account = true) ∧ t = .int .i64 k ∧ Blk wr w.heap.size 29 gcs ∧ Blk wr (w.heap.size + 1) 67 #[.int .i64 id, .int .i64 (i : Int), .int .i64 da, .int .i64 kd, .int .i64 fo, .string tx, .slice lA ll.length lc] ∧ Below w.heap.size w wr) (fun t _ => ll.length - (intOf t).toNat)
    case atStart => exact ⟨0, by omega, fun j h => by omega, rfl, HB3.out, HP3.out, hb3⟩
    case round =>
      clear hb3 HB3 HP3
      obtain ⟨k, hk, hno, rfl, hB, hP, hb⟩ := hrel
      have HN := Lib.hid hno
      have HBr := Lib.hid hB
      have HPr := Lib.hid hP
      have hz := hb.size
      clear hno hB hP
      have k6 : wr.cell? ⟨w.heap.size + 1, 6, none⟩ = some (.slice lA ll.length lc) := HPr.out.cell 6
      by_cases hlt : k < ll.length
      · obtain ⟨b, o, hA, hbo, f0, f1, f2⟩ := LineR.at_ (Rd.now HR.out hb) hlt
        subst hA
        have HKK := Lib.hid (HKB.out ll[k].account)
        have HST : Hid (Jn.kB el i ll[k].account = true → ∀ j (h : j < k + 1) (h2 : j < ll.length), Jn.kB el i (ll[j]'h2).account = true) := Lib.hid (fun hq j h h1 => by
          by_cases e : j = k
          · subst e; exact hq
          · exact HN.out j (by omega) h1)
        have HNO := Lib.hid (fun (h : Jn.kB el i ll[k].account = false) => Jn.ch_no (K := Jn.kB el) (x := ⟨id, i, da, kd, fo, tx, ⟨ll, some ⟨b, o, none⟩, lc⟩⟩) (k := k) hlt h)
        generalize ll[k] = u at *
        obtain ⟨la, lm, lp⟩ := u
        dsimp only at f0 f1 f2 HKK HST HNO
        go_upto_region 6 with fail
        obtain ⟨wo, rfl⟩ : ∃ wo : World, wo = wr := ⟨_, rfl⟩
        have q0 : ∀ d : Later wo, d.now.cell? ⟨w.heap.size, 20, none⟩ = some (.slice (some ⟨b1, o1, none⟩) el.length ec) := fun d => d.cell HBr.out.lt ((HBr.out.cell 20).trans (by rw [HG.out]; rfl))
        have q1 : ∀ d : Later wo, d.now.cell? ⟨w.heap.size + 1, 1, none⟩ = some (.int .i64 (i : Int)) := fun d => d.cell HPr.out.lt (HPr.out.cell 1)
        have q2 : ∀ d : Later wo, d.now.cell? ⟨b1, o1 + i * 5 + 2, none⟩ = some (.slice A1 l1.length c1) := fun d => ((bel hb d.below).cell (p := ⟨b1, o1 + i * 5 + 2, none⟩) hbo1).trans HG2.out
        have q3 : ∀ d : Later wo, d.now.cell? ⟨b, o + k * 3, none⟩ = some (.int .i64 la) := fun d => d.cell hbo f0
        have q6 : ∀ d : Later wo, d.now.cell? ⟨w.heap.size + 1, 6, none⟩ = some (.slice (some ⟨b, o, none⟩) ll.length lc) := fun d => d.cell HPr.out.lt (HPr.out.cell 6)
        have K2 := Lib.hid (fun W h => rfind_any l1 la A1 c1 W h hch)
        unfold FindPost Ch.val at K2
        rw [← HKK.out] at K2
        generalize Ch.fnV l1 la = a at *
        generalize Jn.kB el i la = fb at *
        clear f0 f1 f2 k6
        go_cut [6, 7] (fun s6 s7 wx => ∃ g : Nat, s6 = .pointer (some ⟨g, 0, none⟩) ∧ s7 = .bool fb ∧ Blk wx g 121 #[.int .i64 a.code, .int .i64 a.kind, .int .i64 a.basis, .int .i64 a.parent] ∧ Below wo.heap.size wo wx)
        case first =>
          refine rel_begin (n := 20) (wo) (by kernel_rfl) rfl ?_; have hC := Near.drew (wo)
          (first | (refine rel_want (i := 0) rfl rfl (by kernel_rfl) (by kernel_rfl) (by kernel_rfl) rfl (fun _ _ _ _ h => h) hC ?_; intro K hK; go_big_quiet_op; go_big_quiet_on) | (refine rel_skip (i := 0) rfl (by kernel_rfl) (by kernel_rfl) (by kernel_rfl) rfl (fun _ _ _ _ h => h) hC ?_; simp only [Act.put, List.setIfInBounds_toArray, List.set_cons_zero, List.set_cons_succ])); (first | (refine rel_want (i := 1) rfl rfl (by kernel_rfl) (by kernel_rfl) (by kernel_rfl) rfl (fun _ _ _ _ h => h) hC ?_; intro K hK; go_big_quiet_op; go_big_quiet_on) | (refine rel_skip (i := 1) rfl (by kernel_rfl) (by kernel_rfl) (by kernel_rfl) rfl (fun _ _ _ _ h => h) hC ?_; simp only [Act.put, List.setIfInBounds_toArray, List.set_cons_zero, List.set_cons_succ])); (first | (refine rel_want (i := 2) rfl rfl (by kernel_rfl) (by kernel_rfl) (by kernel_rfl) rfl (fun _ _ _ _ h => h) hC ?_; intro K hK; go_big_quiet_op; go_big_quiet_on) | (refine rel_skip (i := 2) rfl (by kernel_rfl) (by kernel_rfl) (by kernel_rfl) rfl (fun _ _ _ _ h => h) hC ?_; simp only [Act.put, List.setIfInBounds_toArray, List.set_cons_zero, List.set_cons_succ])); (first | (refine rel_want (i := 3) rfl rfl (by kernel_rfl) (by kernel_rfl) (by kernel_rfl) rfl (fun _ _ _ _ h => h) hC ?_; intro K hK; go_big_quiet_op; go_big_quiet_on) | (refine rel_skip (i := 3) rfl (by kernel_rfl) (by kernel_rfl) (by kernel_rfl) rfl (fun _ _ _ _ h => h) hC ?_; simp only [Act.put, List.setIfInBounds_toArray, List.set_cons_zero, List.set_cons_succ])); (first | (refine rel_want (i := 4) rfl rfl (by kernel_rfl) (by kernel_rfl) (by kernel_rfl) rfl (fun _ _ _ _ h => h) hC ?_; intro K hK; go_big_quiet_op; go_big_quiet_on) | (refine rel_skip (i := 4) rfl (by kernel_rfl) (by kernel_rfl) (by kernel_rfl) rfl (fun _ _ _ _ h => h) hC ?_; simp only [Act.put, List.setIfInBounds_toArray, List.set_cons_zero, List.set_cons_succ])); (first | (refine rel_want (i := 5) rfl rfl (by kernel_rfl) (by kernel_rfl) (by kernel_rfl) rfl (fun _ _ _ _ h => h) hC ?_; intro K hK; go_big_quiet_op; go_big_quiet_on) | (refine rel_skip (i := 5) rfl (by kernel_rfl) (by kernel_rfl) (by kernel_rfl) rfl (fun _ _ _ _ h => h) hC ?_; simp only [Act.put, List.setIfInBounds_toArray, List.set_cons_zero, List.set_cons_succ])); (first | (refine rel_want (i := 6) rfl rfl (by kernel_rfl) (by kernel_rfl) (by kernel_rfl) rfl (fun _ _ _ _ h => h) hC ?_; intro K hK; go_big_quiet_op; go_big_quiet_on) | (refine rel_skip (i := 6) rfl (by kernel_rfl) (by kernel_rfl) (by kernel_rfl) rfl (fun _ _ _ _ h => h) hC ?_; simp only [Act.put, List.setIfInBounds_toArray, List.set_cons_zero, List.set_cons_succ])); (first | (refine rel_want (i := 7) rfl rfl (by kernel_rfl) (by kernel_rfl) (by kernel_rfl) rfl (fun _ _ _ _ h => h) hC ?_; intro K hK; go_big_quiet_op; go_big_quiet_on) | (refine rel_skip (i := 7) rfl (by kernel_rfl) (by kernel_rfl) (by kernel_rfl) rfl (fun _ _ _ _ h => h) hC ?_; simp only [Act.put, List.setIfInBounds_toArray, List.set_cons_zero, List.set_cons_succ])); (first | (refine rel_want (i := 8) rfl rfl (by kernel_rfl) (by kernel_rfl) (by kernel_rfl) rfl (fun _ _ _ _ h => h) hC ?_; intro K hK; go_big_quiet_op; go_big_quiet_on) | (refine rel_skip (i := 8) rfl (by kernel_rfl) (by kernel_rfl) (by kernel_rfl) rfl (fun _ _ _ _ h => h) hC ?_; simp only [Act.put, List.setIfInBounds_toArray, List.set_cons_zero, List.set_cons_succ])); (first | (refine rel_want (i := 9) rfl rfl (by kernel_rfl) (by kernel_rfl) (by kernel_rfl) rfl (fun _ _ _ _ h => h) hC ?_; intro K hK; go_big_quiet_op; go_big_quiet_on) | (refine rel_skip (i := 9) rfl (by kernel_rfl) (by kernel_rfl) (by kernel_rfl) rfl (fun _ _ _ _ h => h) hC ?_; simp only [Act.put, List.setIfInBounds_toArray, List.set_cons_zero, List.set_cons_succ])); (first | (refine rel_want (i := 10) rfl rfl (by kernel_rfl) (by kernel_rfl) (by kernel_rfl) rfl (fun _ _ _ _ h => h) hC ?_; intro K hK; go_big_quiet_op; go_big_quiet_on) | (refine rel_skip (i := 10) rfl (by kernel_rfl) (by kernel_rfl) (by kernel_rfl) rfl (fun _ _ _ _ h => h) hC ?_; simp only [Act.put, List.setIfInBounds_toArray, List.set_cons_zero, List.set_cons_succ])); (first | (refine rel_want (i := 11) rfl rfl (by kernel_rfl) (by kernel_rfl) (by kernel_rfl) rfl (fun _ _ _ _ h => h) hC ?_; intro K hK; go_big_quiet_op; go_big_quiet_on) | (refine rel_skip (i := 11) rfl (by kernel_rfl) (by kernel_rfl) (by kernel_rfl) rfl (fun _ _ _ _ h => h) hC ?_; simp only [Act.put, List.setIfInBounds_toArray, List.set_cons_zero, List.set_cons_succ])); (first | (refine rel_want (i := 12) rfl rfl (by kernel_rfl) (by kernel_rfl) (by kernel_rfl) rfl (fun _ _ _ _ h => h) hC ?_; intro K hK; go_big_quiet_op; go_big_quiet_on) | (refine rel_skip (i := 12) rfl (by kernel_rfl) (by kernel_rfl) (by kernel_rfl) rfl (fun _ _ _ _ h => h) hC ?_; simp only [Act.put, List.setIfInBounds_toArray, List.set_cons_zero, List.set_cons_succ]))
          refine rel_calls (is := [13, 17]) (by kernel_rfl) (by simp) ?_
          intro j hj
          simp only [List.mem_cons, List.not_mem_nil, or_false] at hj
          rcases hj with rfl | rfl
          · refine ⟨_, rfl, rfl, ?_⟩
            intro K hK
            go_simp
            go_at_call 106
            refine (K2.out _ (Rd.now HL1.out (bel hb hC.below))).mono ?_
            rintro e w5 ⟨rfl, hb5⟩
            (try go_wp2_with fail)
            replace hC := hC.on hb5
            refine hK _ _ hC (fun _ => ?_)
            clear hK K
            (try simp only [Act.put, List.setIfInBounds_toArray, List.set_cons_zero, List.set_cons_succ])
            (first | (refine rel_want (i := 14) rfl rfl (by kernel_rfl) (by kernel_rfl) (by kernel_rfl) rfl (fun _ _ _ _ h => h) hC ?_; intro K hK; go_big_quiet_op; go_big_quiet_on) | (refine rel_skip (i := 14) rfl (by kernel_rfl) (by kernel_rfl) (by kernel_rfl) rfl (fun _ _ _ _ h => h) hC ?_; simp only [Act.put, List.setIfInBounds_toArray, List.set_cons_zero, List.set_cons_succ])); (first | (refine rel_want (i := 15) rfl rfl (by kernel_rfl) (by kernel_rfl) (by kernel_rfl) rfl (fun _ _ _ _ h => h) hC ?_; intro K hK; go_big_quiet_op; go_big_quiet_on) | (refine rel_skip (i := 15) rfl (by kernel_rfl) (by kernel_rfl) (by kernel_rfl) rfl (fun _ _ _ _ h => h) hC ?_; simp only [Act.put, List.setIfInBounds_toArray, List.set_cons_zero, List.set_cons_succ])); (first | (refine rel_want (i := 16) rfl rfl (by kernel_rfl) (by kernel_rfl) (by kernel_rfl) rfl (fun _ _ _ _ h => h) hC ?_; intro K hK; go_big_quiet_op; go_big_quiet_on) | (refine rel_skip (i := 16) rfl (by kernel_rfl) (by kernel_rfl) (by kernel_rfl) rfl (fun _ _ _ _ h => h) hC ?_; simp only [Act.put, List.setIfInBounds_toArray, List.set_cons_zero, List.set_cons_succ]))
            have hC5 := hC.below
            refine rel_call (i := 17) (by kernel_rfl) rfl rfl ?_; intro K hK; go_simp; have hC2 := hC.below; refine hK _ _ (Near.of (by repeat (first | exact hC2 | refine Below.alloc ?_ (by have hbs := hC2.size; first | omega | (simp; done) | (simp at hbs ⊢; omega)) _ | refine Below.drew ?_ | refine below_drewN_ ?_ _))) ?_; clear hK K hC hC2; intro hC; (try simp only [Act.put, List.setIfInBounds_toArray, List.set_cons_zero, List.set_cons_succ])
            refine rel_call (i := 18) (by kernel_rfl) rfl rfl ?_
            intro K hK
            go_simp
            refine hK _ _ (Near.of (hC5.alloc hC5.size _)) ?_
            clear hK K hC
            intro hC
            (try simp only [Act.put, List.setIfInBounds_toArray, List.set_cons_zero, List.set_cons_succ])
            (first | (refine rel_want (i := 19) rfl rfl (by kernel_rfl) (by kernel_rfl) (by kernel_rfl) rfl (fun _ _ _ _ h => h) hC ?_; intro K hK; go_big_quiet_op; go_big_quiet_on) | (refine rel_skip (i := 19) rfl (by kernel_rfl) (by kernel_rfl) (by kernel_rfl) rfl (fun _ _ _ _ h => h) hC ?_; simp only [Act.put, List.setIfInBounds_toArray, List.set_cons_zero, List.set_cons_succ]))
            refine wpAnyH_done (by kernel_rfl) ?_ _
            go_wp2_with fail
            go_meet
            exact ⟨w5.heap.size, rfl, rfl, Blk.new w5 _ _, hC5.alloc hC5.size _⟩
          · refine ⟨_, rfl, rfl, ?_⟩
            intro K hK
            go_simp
            have hC4 : Below (wo).heap.size (wo) ((wo).alloc (.cells #[.int .i64 0, .int .i64 0, .int .i64 0, .int .i64 0] 121)).drew := ((Below.refl _ _).alloc (Nat.le_refl _) _).drew
            have hX := (Blk.new (wo) 121 #[.int .i64 0, .int .i64 0, .int .i64 0, .int .i64 0]).drew
            refine hK _ _ (Near.of hC4) (fun hC => ?_)
            clear hK K
            generalize ((wo).alloc (.cells #[.int .i64 0, .int .i64 0, .int .i64 0, .int .i64 0] 121)).drew = w4 at *
            (try simp only [Act.put, List.setIfInBounds_toArray, List.set_cons_zero, List.set_cons_succ])
            refine rel_call (i := 13) (by kernel_rfl) rfl rfl ?_
            intro K hK
            go_simp
            go_at_call 106
            refine (K2.out _ (Rd.now HL1.out (bel hb hC.below))).mono ?_
            rintro e w5 ⟨rfl, hb5⟩
            (try go_wp2_with fail)
            replace hC := hC.on hb5
            replace hX := hX.step hb5
            refine hK _ _ hC (fun _ => ?_)
            clear hK K
            (try simp only [Act.put, List.setIfInBounds_toArray, List.set_cons_zero, List.set_cons_succ])
            (first | (refine rel_want (i := 14) rfl rfl (by kernel_rfl) (by kernel_rfl) (by kernel_rfl) rfl (fun _ _ _ _ h => h) hC ?_; intro K hK; go_big_quiet_op; go_big_quiet_on) | (refine rel_skip (i := 14) rfl (by kernel_rfl) (by kernel_rfl) (by kernel_rfl) rfl (fun _ _ _ _ h => h) hC ?_; simp only [Act.put, List.setIfInBounds_toArray, List.set_cons_zero, List.set_cons_succ])); (first | (refine rel_want (i := 15) rfl rfl (by kernel_rfl) (by kernel_rfl) (by kernel_rfl) rfl (fun _ _ _ _ h => h) hC ?_; intro K hK; go_big_quiet_op; go_big_quiet_on) | (refine rel_skip (i := 15) rfl (by kernel_rfl) (by kernel_rfl) (by kernel_rfl) rfl (fun _ _ _ _ h => h) hC ?_; simp only [Act.put, List.setIfInBounds_toArray, List.set_cons_zero, List.set_cons_succ])); (first | (refine rel_want (i := 16) rfl rfl (by kernel_rfl) (by kernel_rfl) (by kernel_rfl) rfl (fun _ _ _ _ h => h) hC ?_; intro K hK; go_big_quiet_op; go_big_quiet_on) | (refine rel_skip (i := 16) rfl (by kernel_rfl) (by kernel_rfl) (by kernel_rfl) rfl (fun _ _ _ _ h => h) hC ?_; simp only [Act.put, List.setIfInBounds_toArray, List.set_cons_zero, List.set_cons_succ]))
            refine rel_call (i := 18) (by kernel_rfl) rfl rfl ?_
            intro K hK
            have g0 : w5.cell? ⟨(wo).heap.size, 0, none⟩ = some (.int .i64 0) := hX.cell 0
            have g1 : w5.cell? ⟨(wo).heap.size, 1, none⟩ = some (.int .i64 0) := hX.cell 1
            have g2 : w5.cell? ⟨(wo).heap.size, 2, none⟩ = some (.int .i64 0) := hX.cell 2
            have g3 : w5.cell? ⟨(wo).heap.size, 3, none⟩ = some (.int .i64 0) := hX.cell 3
            have h0 : w5.frozen? ⟨(wo).heap.size, 0, none⟩ = false := hX.frozen 0
            have h1 : w5.frozen? ⟨(wo).heap.size, 1, none⟩ = false := hX.frozen 1
            have h2 : w5.frozen? ⟨(wo).heap.size, 2, none⟩ = false := hX.frozen 2
            have h3 : w5.frozen? ⟨(wo).heap.size, 3, none⟩ = false := hX.frozen 3
            go_simp
            have hZ : Below (wo).heap.size (wo) ((((w5.setCell ⟨(wo).heap.size, 0, none⟩ (.int .i64 a.code)).setCell ⟨(wo).heap.size, 1, none⟩ (.int .i64 a.kind)).setCell ⟨(wo).heap.size, 2, none⟩ (.int .i64 a.basis)).setCell ⟨(wo).heap.size, 3, none⟩ (.int .i64 a.parent)) :=
              (((hC.below.setCell (by simp) _).setCell (by simp) _).setCell (by simp) _).setCell (by simp) _
            have hY := (((hX.set_ 0 (.int .i64 a.code)).set_ 1 (.int .i64 a.kind)).set_ 2 (.int .i64 a.basis)).set_ 3 (.int .i64 a.parent)
            refine hK _ _ (Near.of hZ) ?_
            clear hC
            intro hC
            clear hK K g0 g1 g2 g3 h0 h1 h2 h3
            generalize ((((w5.setCell ⟨(wo).heap.size, 0, none⟩ (.int .i64 a.code)).setCell ⟨(wo).heap.size, 1, none⟩ (.int .i64 a.kind)).setCell ⟨(wo).heap.size, 2, none⟩ (.int .i64 a.basis)).setCell ⟨(wo).heap.size, 3, none⟩ (.int .i64 a.parent)) = w6 at *
            (try simp only [Act.put, List.setIfInBounds_toArray, List.set_cons_zero, List.set_cons_succ])
            (first | (refine rel_want (i := 19) rfl rfl (by kernel_rfl) (by kernel_rfl) (by kernel_rfl) rfl (fun _ _ _ _ h => h) hC ?_; intro K hK; go_big_quiet_op; go_big_quiet_on) | (refine rel_skip (i := 19) rfl (by kernel_rfl) (by kernel_rfl) (by kernel_rfl) rfl (fun _ _ _ _ h => h) hC ?_; simp only [Act.put, List.setIfInBounds_toArray, List.set_cons_zero, List.set_cons_succ]))
            refine wpAnyH_done (by kernel_rfl) ?_ _
            go_wp2_with fail
            go_meet
            exact ⟨(wo).heap.size, rfl, rfl, hY, hZ⟩
        case rest =>
          obtain ⟨g, rfl, rfl, hAc, hb9⟩ := hcut
          have hbx := bel hb hb9
          have HBx := Lib.hid (HBr.out.step hb9)
          have HPx := Lib.hid (HPr.out.step hb9)
          clear q0 q1 q2 q3 q6 hAc
          cases fb
          · have HE : Hid (X = 17) := Lib.hid (by
              have := HNO.out rfl
              unfold Jn.chE at this
              dsimp only at this
              rw [HX2.out]
              cases hal : ll.all (fun l => Jn.kB el (i : Int) l.account)
              · rfl
              · rw [hal] at this; simp at this)
            go_wp2_with fail
            go_ret
            exact ⟨by rw [HE.out]; rfl, hbx⟩
          · have HE := Lib.hid (HST.out rfl)
            go_wp2_with fail
            go_roundw
            case rel => exact ⟨k + 1, by omega, HE.out, by go_num, HBx.out, HPx.out, hbx⟩
            case measure => simp [intOf]; omega
      · have HX3 : Hid (X = if Jn.dB y m p da then (if Jn.sumL ll = 0 then 0 else 11) else 2) := Lib.hid (by
          rw [HX2.out, if_pos]
          rw [List.all_eq_true]
          intro l hl
          obtain ⟨j, hj, rfl⟩ := List.mem_iff_getElem.1 hl
          exact HN.out j (by omega) hj)
        have k2 : wr.cell? ⟨w.heap.size + 1, 2, none⟩ = some (.int .i64 da) := HPr.out.cell 2
        have g1 : wr.cell? ⟨w.heap.size, 1, none⟩ = some (.int .i64 y) := (HBr.out.cell 1).trans (by rw [HG.out]; rfl)
        have g2 : wr.cell? ⟨w.heap.size, 2, none⟩ = some (.int .i64 m) := (HBr.out.cell 2).trans (by rw [HG.out]; rfl)
        have g3 : wr.cell? ⟨w.heap.size, 3, none⟩ = some (.int .i64 p) := (HBr.out.cell 3).trans (by rw [HG.out]; rfl)
        cases hdb : Jn.dB y m p da
        · have HE : Hid (X = 2) := Lib.hid (by rw [HX3.out, hdb]; rfl)
          rw [hdb] at KIN
          clear hdb
          go_wp2_with (go_at_call 107; refine (KIN.out _).mono ?_; rintro e w5 ⟨rfl, hb9⟩; have hb5 := bel hb hb9; clear hb9)
          go_ret
          exact ⟨by rw [HE.out]; rfl, hb5⟩
        · have HX4 : Hid (X = if Jn.sumL ll = 0 then 0 else 11) := Lib.hid (by rw [HX3.out, hdb]; rfl)
          rw [hdb] at KIN
          clear hdb
          generalize Jn.sumL ll = sm at *
          cases hx : (sm != 0)
          · have h0 : sm = 0 := by simpa using hx
            have HE : Hid (X = 0) := Lib.hid (by rw [HX4.out, if_pos h0])
            clear h0
            go_wp2_with (first
              | (go_at_call 107; refine (KIN.out _).mono ?_; rintro e w5 ⟨rfl, hb9⟩; have hb5 := bel hb hb9; have HP5 := Lib.hid (HPr.out.step hb9); clear hb9; have x6 : w5.cell? ⟨w.heap.size + 1, 6, none⟩ = some (.slice lA ll.length lc) := HP5.out.cell 6)
              | (go_at_call 108; refine (KSU.out _ (Rd.now HR.out hb5)).mono ?_; rintro e w6 ⟨rfl, hb9⟩; have hb6 := bel hb5 hb9; clear hb9))
            go_ret
            exact ⟨by rw [HE.out]; rfl, hb6⟩
          · have h0 : sm ≠ 0 := by simpa using hx
            have HE : Hid (X = 11) := Lib.hid (by rw [HX4.out, if_neg h0])
            clear h0
            go_wp2_with (first
              | (go_at_call 107; refine (KIN.out _).mono ?_; rintro e w5 ⟨rfl, hb9⟩; have hb5 := bel hb hb9; have HP5 := Lib.hid (HPr.out.step hb9); clear hb9; have x6 : w5.cell? ⟨w.heap.size + 1, 6, none⟩ = some (.slice lA ll.length lc) := HP5.out.cell 6)
              | (go_at_call 108; refine (KSU.out _ (Rd.now HR.out hb5)).mono ?_; rintro e w6 ⟨rfl, hb9⟩; have hb6 := bel hb5 hb9; clear hb9))
            go_ret
            exact ⟨by rw [HE.out]; rfl, hb6⟩
end
end Go.Proofs.YtnddoehhcpejjaaGreat
