/- Texts of this claim, put together. -/
import Derived.Test.YthfbpbbepogllaaGreatJBD
/- The walk of InventoryPostings. -/
namespace Go.Proofs.YthfbpbbepogllaaGreat
set_option linter.unusedVariables false
set_option linter.unusedSimpArgs false
open Go.RowKit

section
variable (cur : ByteArray) (y m p : Int) (cl : List Acc) (cA : Option Addr) (cc : Nat) (ro : RolesR) (el : List EntR) (eA : Option Addr) (ec : Nat) (w : World)
set_option maxRecDepth 100000 in
set_option maxHeartbeats 16000000 in
theorem law_InventoryPostings (bcs gcs : Array Value) (l : List StkR) (sA : Option Addr) (sc : Nat) (ms : List Int) (mA : Option Addr) (mc : Nat) (q : Int) (HG0 : gcs = #[.string cur, .int .i64 y, .int .i64 m, .int .i64 p, .slice cA cl.length cc, .int .i64 ro.investment, .int .i64 ro.goodwill, .int .i64 ro.associates, .int .i64 ro.inventory, .int .i64 ro.reserve, .int .i64 ro.minority, .int .i64 ro.retained, .int .i64 ro.acquired, .int .i64 ro.owners, .int .i64 ro.disposal, .int .i64 ro.associateProfit, .int .i64 ro.dividends, .int .i64 ro.minorityProfit, .int .i64 ro.difference, .int .i64 ro.margin, .slice eA el.length ec]) (hBK : BkSt bcs gcs (.slice sA l.length sc)) (h : GIn w cl cA el eA) (hc : cur.size ≤ maxLen) (hcl : cl.length ≤ maxLen) (hel : el.length ≤ maxLen)
    (hr : Rd w w.heap.size 5 sA l.length (cellsOf StkR.cells l)) (hl : l.length ≤ maxLen) (hm : Rd w w.heap.size 1 mA ms.length (cellsOf icellM ms)) (hml : ms.length ≤ maxLen) (hw1 : Wf ro.inventory) (hw2 : Wf ro.retained) (hw3 : Wf ro.margin) :
    Calls Tryz.prog 7 #[.agg bcs, .slice mA ms.length mc, .int .i64 q] w fun e w' => e = .returned (.bool true) ∧ Below w.heap.size w w' := by
  have H := Lib.hid h
  have HR := Lib.hid hr
  have HM := Lib.hid hm
  have HG := Lib.hid HG0
  have HBK := Lib.hid hBK
  have hbz : (Tryz.prog.info? 36).map (·.size) = some bcs.size := by rw [hBK.size]; exact bk_size
  have K0 := Lib.hid (fun W h => ifew_any gcs bcs cur y m p cl cA cc ro el eA ec W sA mA l.length sc ms.length mc HG HBK.out h hc hcl hel hl hml)
  clear h hr hm HG0 hBK hcl hel hc
  have hb : Below w.heap.size w (w.alloc (.cells bcs 36)) := (Below.refl _ _).alloc (Nat.le_refl _) _
  have HB := Lib.hid (Blk.new w 36 bcs)
  go_enter Tryz.func7, Tryz.ntmps7
  go_wp2_with fail
  generalize w.alloc (.cells bcs 36) = W at *
  refine (inv_awake _).mono ?_
  rintro e w2 ⟨rfl, hb9⟩
  replace hb := bel hb hb9
  replace HB := Lib.hid (HB.out.step hb9)
  clear hb9
  go_wp2_with (refine wpList_load_blk 36 (.tmp 3) rfl w.heap.size rfl (by kernel_rfl) HB.out Tryz.underlying36 hbz ?_)
  refine (K0.out _ (H.out.step hb)).mono ?_
  rintro e w3 ⟨b, rfl, hb9, hok⟩
  replace hb := bel hb hb9
  replace HB := Lib.hid (HB.out.step hb9)
  clear hb9 K0
  cases b
  · clear hok
    go_wp2_with (go_at_call 10; refine (inv_awake _).mono ?_; rintro e w4 ⟨rfl, hb9⟩; replace hb := bel hb hb9; clear hb9)
    go_ret
    exact ⟨rfl, hb⟩
  · have OK := Lib.hid (hok rfl)
    clear hok
    have hln := OK.out.2.1
    have hmn := OK.out.2.2
    have hen := OK.out.1.en
    have HS : Hid (∀ W, Below w.heap.size w W → SIn W l sA) := Lib.hid (fun W hW => ⟨Rd.now HR.out hW, by omega⟩)
    have KB := Lib.hid (iboth_any ms mA mc w3 (Rd.now HM.out hb) (by omega))
    have KP := Lib.hid (fun W A c h hS hC => ipostings_any gcs cur y m p cl cA cc ro el eA ec W bcs l sA sc (conM ms) q A c HG HBK.out h OK.out.1 hS hC hw1 hw2 hw3)
    have KQ := Lib.hid (fun W A c h hS hC => ripostings_any gcs cur y m p cl cA cc ro el eA ec W bcs l sA sc (conM ms) q A c HG HBK.out h OK.out.1 hS hC)
    have HPD := Lib.hid (ipsD_len (V := Gr.gv cur cl ro el (Cal.ok y m p)) (q := q) (p := p) (n := el.length) (ro := ro) (l := l) (c := conM ms))
    have HPP := Lib.hid (fun L => ips_is (V := Gr.gv cur cl ro el (Cal.ok y m p)) (q := q) (p := p) (n := el.length) (ro := ro) (l := l) (c := conM ms) (L := L))
    have hcl := conM_len ms
    have HICN := Lib.hid (fun W B T v h => icon_in (w := W) (base := B) (T := T) (v := v) (ms := ms) h (by omega))
    unfold IBoth at KB
    unfold PsPost at KP KQ
    generalize conM ms = cs at *
    generalize Iv.psD (Gr.gv cur cl ro el (Cal.ok y m p)) q p el.length ro l cs = D at *
    generalize Iv.psE (Gr.gv cur cl ro el (Cal.ok y m p)) q p el.length ro l cs = E at *
    generalize Iv.pL (Gr.gv cur cl ro el (Cal.ok y m p)) q p el.length ro l cs = g at *
    clear hln hmn hl hml hcl
    have hE : (E == E) = true := by simp
    go_upto_region 4 with (go_at_call 12; refine KB.out.mono ?_; rintro e w4 ⟨v, u, rfl, hv, hu, hb9⟩; obtain ⟨A2, c2, rfl, hC⟩ := HICN.out _ _ _ _ hv; obtain ⟨A3, c3, rfl, hD⟩ := HICN.out _ _ _ _ hu; have HC := Lib.hid hC; have HD := Lib.hid hD; replace hb := bel hb hb9; replace HB := Lib.hid (HB.out.step hb9); clear hb9 hv hu hC hD)
    go_upto_region 5 with (first
      | (refine wpList_load_blk 36 (.tmp 3) rfl w.heap.size rfl (by kernel_rfl) HB.out Tryz.underlying36 hbz ?_)
      | (go_at_call 22; refine (KP.out _ _ _ (H.out.step hb) (HS.out _ hb) HC.out).mono ?_; rintro e w5 ⟨v, L, rfl, hOP, hIS, hb9⟩; have hb5 := bel hb hb9; have HB5 := Lib.hid (HB.out.step hb9); have HD5 := Lib.hid (HD.out.step hb9); obtain ⟨A5, n5, c5, hv⟩ := own_shape hOP.own; subst hv; have hLL := Ps.is_len hIS HPD.out hen; have hPP := HPP.out _ hIS; obtain ⟨hn5, hPI⟩ := ips_pin hOP hLL (fun x hx => (hPP x hx).2.2.2.1); subst hn5; have HPI := Lib.hid hPI; have HIS := Lib.hid hIS; have HTW := Lib.hid hPP; clear hb9 hOP hPI hIS hPP))
    go_upto_region 6 with (first
      | (refine wpList_load_blk 36 (.tmp 3) rfl w.heap.size rfl (by kernel_rfl) HB5.out Tryz.underlying36 hbz ?_)
      | (go_at_call 23; refine (KQ.out _ _ _ (H.out.step hb5) (HS.out _ hb5) HD5.out).mono ?_; rintro e w6 ⟨v, M, rfl, hOP, hIS, hb9⟩; have hb6 := bel hb5 hb9; replace HPI := Lib.hid (HPI.out.step hb9); obtain ⟨A6, n6, c6, hv⟩ := own_shape hOP.own; subst hv; have hMM := Ps.is_len hIS HPD.out hen; have hPP := HPP.out _ hIS; obtain ⟨hn6, hPI⟩ := ips_pin hOP hMM (fun x hx => (hPP x hx).2.2.2.1); subst hn6; have HPJ := Lib.hid hPI; have HIT := Lib.hid hIS; clear hb9 hOP hPI hIS hPP))
    have HSA := Lib.hid (Ps.same HIS.out HIT.out (fun a b => isP_same a b))
    clear hb5 HB5 HD5
    go_wp2_with fail
    go_loopw [48] (fun t wr => ∃ k : Nat, k ≤ L.length ∧ t = .int .i64 k ∧ Below w6.heap.size w6 wr) (fun t _ => L.length - (intOf t).toNat)
    case atStart => exact ⟨0, by omega, rfl, Below.refl _ _⟩
    case round =>
      obtain ⟨k, hk, rfl, hbr⟩ := hrel
      have hbw := bel hb6 hbr
      by_cases hlt : k < L.length
      · obtain ⟨b, o, hA, hbo, hx⟩ := rd_at (f := PostR.cells) (sz := 5) (fun _ => rfl) (Rd.now HPI.out.rd hbr) hlt
        subst hA
        have HX := Lib.hid hx
        have HR := Lib.hid (Rd.now (HPI.out.pt _ (List.getElem_mem hlt)) hbr)
        have HTK := Lib.hid (HTW.out _ (List.getElem_mem hlt))
        clear hx
        generalize L[k] = x at *
        obtain ⟨xk, xe, xo, xr, ⟨xl, xA, xc⟩⟩ := x
        dsimp only at *
        have f0 : wr.cell? ⟨b, o + k * 5, none⟩ = some (.int .i64 xk) := HX.out 0 _ rfl
        have f1 : wr.cell? ⟨b, o + k * 5 + 1, none⟩ = some (.int .i64 xe) := HX.out 1 _ rfl
        have f2 : wr.cell? ⟨b, o + k * 5 + 2, none⟩ = some (.int .i64 xo) := HX.out 2 _ rfl
        have f3 : wr.cell? ⟨b, o + k * 5 + 3, none⟩ = some (.int .i64 xr) := HX.out 3 _ rfl
        have f4 : wr.cell? ⟨b, o + k * 5 + 4, none⟩ = some (.slice xA xl.length xc) := HX.out 4 _ rfl
        have hst := (Below.refl wr.heap.size wr).alloc (Nat.le_refl _) (.cells #[.int .i64 xk, .int .i64 xe, .int .i64 xo, .int .i64 xr, .slice xA xl.length xc] 48)
        have HN := Lib.hid (Blk.new wr 48 #[.int .i64 xk, .int .i64 xe, .int .i64 xo, .int .i64 xr, .slice xA xl.length xc])
        have HR8 := Lib.hid (Rd.now HR.out hst)
        have hxl := HTK.out.2.2.2.1
        have hb8 := bel hbr hst
        obtain ⟨wo, rfl⟩ : ∃ x : World, x = wr := ⟨_, rfl⟩
        go_upto_region 9 with fail
        clear f0 f1 f2 f3 f4 hst
        generalize hw8 : wo.alloc (.cells #[.int .i64 xk, .int .i64 xe, .int .i64 xo, .int .i64 xr, .slice xA xl.length xc] 48) = w8 at *
        clear hw8
        have c4 : w8.cell? ⟨wo.heap.size, 4, none⟩ = some (.slice xA xl.length xc) := HN.out.cell 4
        go_wp2_with fail
        clear c4
        go_loopw [15, 55] (fun s t wr => ∃ j : Nat, j ≤ xl.length ∧ s = .int .i64 (sumV (xl.take j)) ∧ t = .int .i64 j ∧ Below w8.heap.size w8 wr) (fun _ t _ => xl.length - (intOf t).toNat)
        case atStart => exact ⟨0, by omega, rfl, rfl, Below.refl _ _⟩
        case round =>
          clear hbr hbw
          obtain ⟨j, hj, rfl, rfl, hbj⟩ := hrel
          by_cases hjl : j < xl.length
          · obtain ⟨b2, o2, hA2, hbo2, g0, g1⟩ := Bal.at_ (Rd.now HR8.out hbj) hjl
            subst hA2
            have HST := Lib.hid (sumV_take hjl)
            have HBD := Lib.hid (sumV_bd HTK.out.2.1 j)
            have HAM := Lib.hid (HTK.out.2.1 _ (List.getElem_mem hjl))
            have hjt : (xl.take j).length ≤ 3 := by rw [List.length_take]; omega
            generalize sumV (xl.take j) = s0 at *
            generalize xl[j] = pt at *
            obtain ⟨pc, pa⟩ := pt
            dsimp only at *
            obtain ⟨d0, d1⟩ := HBD.out
            obtain ⟨d2, d3⟩ := HAM.out
            have hjt2 : ((xl.take j).length : Int) ≤ 3 := by omega
            have hwr : IntKind.i64.wrap (s0 + pa) = s0 + pa := IntWalk.i64_in _ (by omega)
            have hbj2 := hbj.alloc hbj.size (.cells #[.int .i64 pc, .int .i64 pa] 68)
            clear d0 d1 d2 d3 hjt hjt2
            go_wp2_with fail
            go_roundw
            case rel => exact ⟨j + 1, by omega, by rw [HST.out], by go_num, hbj2⟩
            case measure => simp [intOf]; omega
          · have HE : Hid (sumV (xl.take j) = 0) := Lib.hid (by rw [List.take_of_length_le (by omega)]; exact HTK.out.1)
            rw [HE.out]
            have hle : ((xl.length : Int) == 0) = false := by have := HTK.out.2.2.1; simpa using this
            have hee : (xe == xo) = false := by have := HTK.out.2.2.2.2; simpa using this
            have hbf := bel hb8 hbj
            have HN9 := Lib.hid (HN.out.step hbj)
            have c1 : wr.cell? ⟨wo.heap.size, 1, none⟩ = some (.int .i64 xe) := HN9.out.cell 1
            have c2 : wr.cell? ⟨wo.heap.size, 2, none⟩ = some (.int .i64 xo) := HN9.out.cell 2
            have c4 : wr.cell? ⟨wo.heap.size, 4, none⟩ = some (.slice xA xl.length xc) := HN9.out.cell 4
            go_wp2_with fail
            clear c1 c2 c4
            go_roundw
            case rel => exact ⟨k + 1, by omega, by go_num, hbf⟩
            case measure => simp [intOf]; omega
      · go_wp2_with (go_at_call 15; refine (samep_yes L M A5 A6 c5 c6 wr (HPI.out.step hbr) (HPJ.out.step hbr) HSA.out.1 (fun j a b => HSA.out.2 j a b)).mono ?_; rintro en w9 ⟨rfl, hb9⟩; replace hbw := bel hbw hb9; clear hb9)
        go_ret
        exact ⟨rfl, hbw⟩
end
end Go.Proofs.YthfbpbbepogllaaGreat
