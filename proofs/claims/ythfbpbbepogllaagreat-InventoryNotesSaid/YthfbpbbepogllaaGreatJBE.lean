/- Texts of this claim, put together. -/
import Derived.Test.YthfbpbbepogllaaGreatJBD
import Derived.Test.YthfbpbbepogllaaGreatInvLawsZ
import Derived.Test.YthfbpbbepogllaaGreatJBC
/- The walk of the reference's Amount. -/
namespace Go.Proofs.YthfbpbbepogllaaGreat
set_option linter.unusedVariables false
set_option linter.unusedSimpArgs false
open Go.RowKit

theorem amt_hit {L : List Bal} {a : Int} {k : Nat} (hk : k < L.length) (hn : ∀ j (h : j < k), (L[j]'(by omega)).account ≠ a) (h : L[k].account = a) : Iv.amt L a = L[k].amount := by
  unfold Iv.amt
  rw [List.find?_eq_some_iff_getElem.2 ⟨by simpa using h, k, hk, rfl, fun j hj => by simpa using hn j hj⟩]
  rfl
theorem amt_no {L : List Bal} {a : Int} (h : ∀ j (hj : j < L.length), L[j].account ≠ a) : Iv.amt L a = 0 := by
  unfold Iv.amt
  rw [List.find?_eq_none.2 (fun x hx => by obtain ⟨j, hj, rfl⟩ := List.mem_iff_getElem.1 hx; simpa using h j hj)]
  rfl
set_option maxHeartbeats 1000000 in
theorem amount_any (xk xe xo xr : Int) (L : List Bal) (A : Option Addr) (c : Nat) (a : Int) (w : World) (hr : Rd w w.heap.size 2 A L.length (cellsOf Bal.cells L)) (hn : L.length ≤ 1000) :
    Calls Tryz.prog 17 #[.agg #[.int .i64 xk, .int .i64 xe, .int .i64 xo, .int .i64 xr, .slice A L.length c], .int .i64 a] w (IntPost (Iv.amt L a) w) := by
  unfold IntPost
  have HR := Lib.hid hr
  have HB := Lib.hid (Blk.new w 48 #[.int .i64 xk, .int .i64 xe, .int .i64 xo, .int .i64 xr, .slice A L.length c])
  have hb : Below w.heap.size w (w.alloc (.cells #[.int .i64 xk, .int .i64 xe, .int .i64 xo, .int .i64 xr, .slice A L.length c] 48)) := (Below.refl _ _).alloc (Nat.le_refl _) _
  clear hr
  go_enter Tryz.func17, Tryz.ntmps17
  go_wp2_with fail
  generalize w.alloc (.cells #[.int .i64 xk, .int .i64 xe, .int .i64 xo, .int .i64 xr, .slice A L.length c] 48) = W at *
  have c4 : W.cell? ⟨w.heap.size, 4, none⟩ = some (.slice A L.length c) := HB.out.cell 4
  go_loopw [5] (fun t wr => ∃ k : Nat, k ≤ L.length ∧ t = .int .i64 k ∧ (∀ j (h : j < k) (h1 : j < L.length), (L[j]'h1).account ≠ a) ∧ W = wr) (fun t _ => L.length - (intOf t).toNat)
  case atStart => exact ⟨0, by omega, rfl, fun j h => by omega, rfl⟩
  case round =>
    obtain ⟨k, hk, rfl, hno, rfl⟩ := hrel
    have HN := Lib.hid hno
    clear hno
    by_cases hlt : k < L.length
    · obtain ⟨b2, o2, hA2, hbo2, g0, g1⟩ := Bal.at_ (Rd.now HR.out hb) hlt
      subst hA2
      have HH : Hid (L[k].account = a → Iv.amt L a = L[k].amount) := Lib.hid (fun h => amt_hit hlt (fun j hj => HN.out j hj (by omega)) h)
      have HS : Hid (L[k].account ≠ a → ∀ j (h : j < k + 1) (h1 : j < L.length), (L[j]'h1).account ≠ a) := Lib.hid (fun h j h1 h2 => by
        by_cases e : j = k
        · subst e; exact h
        · exact HN.out j (by omega) h2)
      generalize L[k] = x at *
      obtain ⟨pc, pa⟩ := x
      dsimp only at *
      cases hpa : (pc == a)
      · have hne : pc ≠ a := by simpa using hpa
        have HS2 := Lib.hid (HS.out hne)
        clear hne
        go_wp2_with fail
        go_roundw
        case rel => exact ⟨k + 1, by omega, by go_num, HS2.out, trivial⟩
        case measure => simp [intOf]; omega
      · have HE : Hid (Iv.amt L a = pa) := Lib.hid (HH.out (by simpa using hpa))
        go_wp2_with fail
        go_ret
        exact ⟨by rw [HE.out]; rfl, hb⟩
    · have HE : Hid (Iv.amt L a = 0) := Lib.hid (amt_no (fun j hj => HN.out j (by omega) hj))
      go_wp2_with fail
      go_ret
      exact ⟨by rw [HE.out]; rfl, hb⟩
end Go.Proofs.YthfbpbbepogllaaGreat
/- The walk of InventoryYears. -/
namespace Go.Proofs.YthfbpbbepogllaaGreat
set_option linter.unusedVariables false
set_option linter.unusedSimpArgs false
open Go.RowKit

theorem wpList_load_arrG {P : Program} {ops : Array Oper} {w : World} {o : Oper} {rest : List Oper} {a : Act} {fs : Array Field} {Q : Exit → Act → World → Prop} (hw : Region.wanted o (yielded ops a.tmps) = true) (ty : TypeId) (x : Operand) (ho : o.op = .load ty x) (b off : Nat) (hx : a.eval x = .pointer (some ⟨b, off, none⟩)) (arr : Array Value) (hc : w.rangeAt b off arr.toList)
    (hu : P.underlying ty = some (.struct fs)) (n : Nat) (hi : (P.info? ty).map (·.size) = some n) (hn : arr.size = n)
    (h : wpList P ops Q rest (a.put o.dst (.agg arr)) w) : wpList P ops Q (o :: rest) a w :=
  BigFrame.wpList_want hw fun _ hh => wp_load_mid ty x ho b off hx arr.toList _ hc hu rfl (by rw [hi, Array.length_toList, hn]) (hh _ _ (by simpa using h))
def roArr (ro : RolesR) : Array Value := #[.int .i64 ro.investment, .int .i64 ro.goodwill, .int .i64 ro.associates, .int .i64 ro.inventory, .int .i64 ro.reserve, .int .i64 ro.minority, .int .i64 ro.retained, .int .i64 ro.acquired, .int .i64 ro.owners, .int .i64 ro.disposal, .int .i64 ro.associateProfit, .int .i64 ro.dividends, .int .i64 ro.minorityProfit, .int .i64 ro.difference, .int .i64 ro.margin]
theorem ro_size : (Tryz.prog.info? 26).map (·.size) = some 15 := by kernel_rfl
theorem ro_one (ro : RolesR) : (roArr ro).all (·.oneCell') = true := by simp [roArr, Value.oneCell']
theorem ro_range {w : World} {b : Nat} {t : TypeId} {bcs gcs : Array Value} {cur : ByteArray} {y m p : Int} {cl : List Acc} {cA : Option Addr} {cc : Nat} {ro : RolesR} {el : List EntR} {eA : Option Addr} {ec : Nat} (HG : gcs = #[.string cur, .int .i64 y, .int .i64 m, .int .i64 p, .slice cA cl.length cc, .int .i64 ro.investment, .int .i64 ro.goodwill, .int .i64 ro.associates, .int .i64 ro.inventory, .int .i64 ro.reserve, .int .i64 ro.minority, .int .i64 ro.retained, .int .i64 ro.acquired, .int .i64 ro.owners, .int .i64 ro.disposal, .int .i64 ro.associateProfit, .int .i64 ro.dividends, .int .i64 ro.minorityProfit, .int .i64 ro.difference, .int .i64 ro.margin, .slice eA el.length ec]) (hB : Blk w b t bcs) (h : BkIs bcs gcs) : w.rangeAt b 5 (roArr ro).toList := by
  have h1 := bk_range hB h
  have e : gcs.toList = [.string cur, .int .i64 y, .int .i64 m, .int .i64 p, .slice cA cl.length cc] ++ ((roArr ro).toList ++ [.slice eA el.length ec]) := by rw [HG]; rfl
  intro j v hv
  have hj : j < (roArr ro).toList.length := (List.getElem?_eq_some_iff.1 hv).1
  have h2 := h1 (5 + j) v (by
    rw [e, List.getElem?_append_right (by show 5 ≤ 5 + j; omega)]
    show ((roArr ro).toList ++ [.slice eA el.length ec])[5 + j - 5]? = some v
    rw [show 5 + j - 5 = j by omega, List.getElem?_append_left hj]
    exact hv)
  rw [Nat.zero_add] at h2
  exact h2
theorem iv_year {V : Bool} {Q p : Int} {n : Nat} {ro : RolesR} {l : List StkR} {c : List ConR} {a b : Int} (hok : l.all (Iv.ok p n) = true) (hn : l.length ≤ 200) (hd : ro.inventory ≠ ro.retained ∧ ro.inventory ≠ ro.margin ∧ ro.retained ≠ ro.margin) (h0 : 0 ≤ Q) (h : Iv.pE V Q p n ro l c a b = 0) (h2 : Iv.pE V (Q - Q % 12) p n ro l c a b = 0) :
    Iv.amt (Iv.pL V Q p n ro l c a b) ro.retained = Iv.amt (Iv.pL V (Q - Q % 12) p n ro l c a b) ro.retained := by
  rw [(Iv.amts h hok hn hd.1 hd.2.1 hd.2.2).2.1, (Iv.amts h2 hok hn hd.1 hd.2.1 hd.2.2).2.1, Iv.bef_year Q l a b h0]
theorem iv_idle {V : Bool} {Q p : Int} {n : Nat} {ro : RolesR} {l : List StkR} {c : List ConR} {a b : Int} (hok : l.all (Iv.ok p n) = true) (hn : l.length ≤ 200) (hd : ro.inventory ≠ ro.retained ∧ ro.inventory ≠ ro.margin ∧ ro.retained ≠ ro.margin) (h : Iv.pE V Q p n ro l c a b = 0)
    (hno : ∀ j (hj : j < l.length), Iv.hit a b Q l[j] = false) :
    Iv.amt (Iv.pL V Q p n ro l c a b) ro.inventory = 0 ∧ Iv.amt (Iv.pL V Q p n ro l c a b) ro.margin = -(Iv.amt (Iv.pL V Q p n ro l c a b) ro.retained) ∧ (Q < 12 → Iv.pL V Q p n ro l c a b = []) := by
  obtain ⟨a1, a2, a3, a4⟩ := Iv.amts h hok hn hd.1 hd.2.1 hd.2.2
  have hs := Iv.sum_none hno
  rw [a1, a2, a3, hs]
  refine ⟨by split <;> rfl, by split <;> omega, fun hq => a4 hs (by unfold Iv.bef; rw [if_pos hq])⟩
theorem iv_ambd {V : Bool} {Q p : Int} {n : Nat} {ro : RolesR} {l : List StkR} {c : List ConR} {a b : Int} (hok : l.all (Iv.ok p n) = true) (hn : l.length ≤ 200) (hd : ro.inventory ≠ ro.retained ∧ ro.inventory ≠ ro.margin ∧ ro.retained ≠ ro.margin) (h : Iv.pE V Q p n ro l c a b = 0) :
    0 ≤ Iv.amt (Iv.pL V Q p n ro l c a b) ro.retained ∧ Iv.amt (Iv.pL V Q p n ro l c a b) ro.retained ≤ 200000000000000 := by
  rw [(Iv.amts h hok hn hd.1 hd.2.1 hd.2.2).2.1]
  obtain ⟨b0, b1⟩ := Iv.bef_in Q l a b hok
  split <;> omega
theorem iv_val {V : Bool} {p : Int} {n : Nat} {l : List StkR} (h : Iv.val V p n l = true) : V = true ∧ l.length ≤ 200 ∧ l.all (Iv.ok p n) = true := by
  unfold Iv.val at h
  simp only [Bool.and_eq_true, decide_eq_true_eq] at h
  exact h
section
variable (cur : ByteArray) (y m p : Int) (cl : List Acc) (cA : Option Addr) (cc : Nat) (ro : RolesR) (el : List EntR) (eA : Option Addr) (ec : Nat) (w : World)
set_option maxRecDepth 100000 in
set_option maxHeartbeats 16000000 in
theorem law_InventoryYears (bcs gcs : Array Value) (l : List StkR) (sA : Option Addr) (sc : Nat) (ms : List Int) (mA : Option Addr) (mc : Nat) (i k q : Int) (HG0 : gcs = #[.string cur, .int .i64 y, .int .i64 m, .int .i64 p, .slice cA cl.length cc, .int .i64 ro.investment, .int .i64 ro.goodwill, .int .i64 ro.associates, .int .i64 ro.inventory, .int .i64 ro.reserve, .int .i64 ro.minority, .int .i64 ro.retained, .int .i64 ro.acquired, .int .i64 ro.owners, .int .i64 ro.disposal, .int .i64 ro.associateProfit, .int .i64 ro.dividends, .int .i64 ro.minorityProfit, .int .i64 ro.difference, .int .i64 ro.margin, .slice eA el.length ec]) (hBK : BkSt bcs gcs (.slice sA l.length sc)) (h : GIn w cl cA el eA) (hc : cur.size ≤ maxLen) (hcl : cl.length ≤ maxLen) (hel : el.length ≤ maxLen)
    (hr : Rd w w.heap.size 5 sA l.length (cellsOf StkR.cells l)) (hl : l.length ≤ maxLen) (hm : Rd w w.heap.size 1 mA ms.length (cellsOf icellM ms)) (hml : ms.length ≤ maxLen) (hwq : Wf q) (hw1 : Wf ro.inventory) (hw2 : Wf ro.retained) (hw3 : Wf ro.margin) :
    Calls Tryz.prog 4 #[.agg bcs, .slice mA ms.length mc, .agg #[.int .i64 i, .int .i64 k, .int .i64 q]] w fun e w' => e = .returned (.bool true) ∧ Below w.heap.size w w' := by
  have H := Lib.hid h
  have HR := Lib.hid hr
  have HM := Lib.hid hm
  have HG := Lib.hid HG0
  have HBK := Lib.hid hBK
  have hbq := bounds_i64 hwq
  have hbz : (Tryz.prog.info? 36).map (·.size) = some bcs.size := by rw [hBK.size]; exact bk_size
  have hg21 : (Tryz.prog.info? 29).map (·.size) = some 21 := grp_size
  have K0 := Lib.hid (fun W h => ifew_any gcs bcs cur y m p cl cA cc ro el eA ec W sA mA l.length sc ms.length mc HG HBK.out h hc hcl hel hl hml)
  clear h hr hm HG0 hBK hcl hel hc hwq
  have hb : Below w.heap.size w ((w.alloc (.cells bcs 36)).alloc (.cells #[.int .i64 i, .int .i64 k, .int .i64 q] 39)) := ((Below.refl _ _).alloc (Nat.le_refl _) _).alloc (by simp) _
  have HB := Lib.hid ((Blk.new w 36 bcs).alloc (.cells #[.int .i64 i, .int .i64 k, .int .i64 q] 39))
  have HT := Lib.hid (blk_new2 w (.cells bcs 36) 39 #[.int .i64 i, .int .i64 k, .int .i64 q])
  go_enter Tryz.func4, Tryz.ntmps4
  go_wp2_with fail
  generalize (w.alloc (.cells bcs 36)).alloc (.cells #[.int .i64 i, .int .i64 k, .int .i64 q] 39) = W at *
  refine (inv_awake _).mono ?_
  rintro e w2 ⟨rfl, hb9⟩
  replace hb := bel hb hb9
  replace HB := Lib.hid (HB.out.step hb9)
  replace HT := Lib.hid (HT.out.step hb9)
  clear hb9
  go_wp2_with (refine wpList_load_blk 36 (.tmp 3) rfl w.heap.size rfl (by kernel_rfl) HB.out Tryz.underlying36 hbz ?_)
  refine (K0.out _ (H.out.step hb)).mono ?_
  rintro e w3 ⟨b, rfl, hb9, hok⟩
  replace hb := bel hb hb9
  replace HB := Lib.hid (HB.out.step hb9)
  replace HT := Lib.hid (HT.out.step hb9)
  clear hb9 K0
  cases b
  · clear hok
    go_wp2_with (go_at_call 10; refine (inv_awake _).mono ?_; rintro e w4 ⟨rfl, hb9⟩; replace hb := bel hb hb9; clear hb9)
    go_ret
    exact ⟨rfl, hb⟩
  · have OK := Lib.hid (hok rfl)
    clear hok
    have hln := OK.out.2.1
    have hmn := OK.out.2.2
    have HS : Hid (∀ W, Below w.heap.size w W → SIn W l sA) := Lib.hid (fun W hW => ⟨Rd.now HR.out hW, by omega⟩)
    have KX := Lib.hid (fun W h hS => rivalid_any gcs cur y m p cl cA cc ro el eA ec W l sA sc HG h OK.out.1 hS)
    have HVL := Lib.hid (iv_val (V := Gr.gv cur cl ro el (Cal.ok y m p)) (p := p) (n := el.length) (l := l))
    unfold BoolPost at KX
    generalize hval : Iv.val (Gr.gv cur cl ro el (Cal.ok y m p)) p el.length l = val at *
    have HVAL := Lib.hid hval
    clear hval
    have k25 : w3.cell? ⟨w.heap.size, 25, none⟩ = some (.slice sA l.length sc) := (HB.out.cell 25).trans HBK.out.st
    cases val
    · go_wp2_with (first
        | (refine wpList_load_arrG (by kernel_rfl) 29 (.tmp 28) rfl w.heap.size 0 rfl gcs (bk_range HB.out HBK.out.toBkIs) Tryz.underlying29 21 hg21 HBK.out.gsz ?_)
        | (go_at_call 16; refine (KX.out _ (H.out.step hb) (HS.out _ hb)).mono ?_; rintro e w4 ⟨rfl, hb9⟩; replace hb := bel hb hb9; clear hb9 k25)
        | (go_at_call 10; refine (inv_awake _).mono ?_; rintro e w5 ⟨rfl, hb9⟩; replace hb := bel hb hb9; clear hb9))
      go_ret
      exact ⟨rfl, hb⟩
    · obtain ⟨hV, hln2, hall⟩ := HVL.out rfl
      have hcal := gv_cal hV
      have hap := ro_apart hV
      have hokp := (Cal.ok_iff y m p).1 hcal
      have hp1 : 1 ≤ p ∧ p ≤ 120 := ⟨hokp.2.2.1, hokp.2.2.2.1⟩
      obtain ⟨hp1, hp2⟩ := hp1
      obtain ⟨Q, hQ⟩ : ∃ Q : Int, Q = max 0 q % p := ⟨_, rfl⟩
      have hQ0 : 0 ≤ Q := by rw [hQ]; exact Int.emod_nonneg _ (by omega)
      have hQ1 : Q < p := by rw [hQ]; exact Int.emod_lt_of_pos _ (by omega)
      have HQ := Lib.hid hQ
      clear hQ hokp
      have HCK : Hid (Cal.ckE y m p Q = 0) := Lib.hid (by unfold Cal.ckE; rw [if_pos hcal, if_pos ⟨hQ0, hQ1⟩])
      have KCB := Lib.hid (fun W => rcal_Before y m p Q W)
      have KB := Lib.hid (iboth_any ms mA mc)
      have KP := Lib.hid (fun W A c h hS hC => iposting_any gcs cur y m p cl cA cc ro el eA ec W bcs l sA sc (conM ms) i k Q A c HG HBK.out h OK.out.1 hS hC hw1 hw2 hw3)
      have KQ := Lib.hid (fun W A c h hS hC => iposting_any gcs cur y m p cl cA cc ro el eA ec W bcs l sA sc (conM ms) i k (Q - Q % 12) A c HG HBK.out h OK.out.1 hS hC hw1 hw2 hw3)
      have HLN := Lib.hid (ipL_len (V := Gr.gv cur cl ro el (Cal.ok y m p)) (q := Q) (p := p) (n := el.length) (ro := ro) (l := l) (c := conM ms) (a := i) (b := k))
      have HLN1 := Lib.hid (ipL_len (V := Gr.gv cur cl ro el (Cal.ok y m p)) (q := Q - Q % 12) (p := p) (n := el.length) (ro := ro) (l := l) (c := conM ms) (a := i) (b := k))
      have HYR := Lib.hid (iv_year (V := Gr.gv cur cl ro el (Cal.ok y m p)) (Q := Q) (c := conM ms) (a := i) (b := k) hall hln2 hap hQ0)
      have HID := Lib.hid (iv_idle (V := Gr.gv cur cl ro el (Cal.ok y m p)) (Q := Q) (c := conM ms) (a := i) (b := k) hall hln2 hap)
      have HBD := Lib.hid (iv_ambd (V := Gr.gv cur cl ro el (Cal.ok y m p)) (Q := Q) (c := conM ms) (a := i) (b := k) hall hln2 hap)
      have hcl := conM_len ms
      have HICN := Lib.hid (fun W B T v h => icon_in (w := W) (base := B) (T := T) (v := v) (ms := ms) h (by omega))
      unfold IBoth at KB
      generalize conM ms = cs at *
      generalize Iv.pL (Gr.gv cur cl ro el (Cal.ok y m p)) Q p el.length ro l cs i k = L at *
      generalize Iv.pE (Gr.gv cur cl ro el (Cal.ok y m p)) Q p el.length ro l cs i k = E at *
      generalize Iv.pL (Gr.gv cur cl ro el (Cal.ok y m p)) (Q - Q % 12) p el.length ro l cs i k = L1 at *
      generalize Iv.pE (Gr.gv cur cl ro el (Cal.ok y m p)) (Q - Q % 12) p el.length ro l cs i k = E1 at *
      have hms : ms.length ≤ 1000 := by omega
      clear hln hmn hl hml hcl hV hcal hap hall HVL HVAL
      go_upto_region 4 with (first
        | (refine wpList_load_arrG (by kernel_rfl) 29 (.tmp 28) rfl w.heap.size 0 rfl gcs (bk_range HB.out HBK.out.toBkIs) Tryz.underlying29 21 hg21 HBK.out.gsz ?_)
        | (go_at_call 16; refine (KX.out _ (H.out.step hb) (HS.out _ hb)).mono ?_; rintro e w4 ⟨rfl, hb9⟩; have hb4 := bel hb hb9; have HB4 := Lib.hid (HB.out.step hb9); have HT4 := Lib.hid (HT.out.step hb9); clear hb9 k25)
        | (go_at_call 12; refine (KB.out _ (Rd.now HM.out hb4) hms).mono ?_; rintro e w5 ⟨v, u, rfl, hv, hu, hb9⟩; obtain ⟨A2, c2, rfl, hC⟩ := HICN.out _ _ _ _ hv; obtain ⟨A3, c3, rfl, hD⟩ := HICN.out _ _ _ _ hu; have HC := Lib.hid hC; have hb5 := bel hb4 hb9; have HB5 := Lib.hid (HB4.out.step hb9); have HT5 := Lib.hid (HT4.out.step hb9); clear hb9 hv hu hC hD))
      clear hb hb4 HB HB4 HT HT4 KX KB HICN hms
      have t2 : w5.cell? ⟨w.heap.size + 1, 2, none⟩ = some (.int .i64 q) := HT5.out.cell 2
      have k3 : w5.cell? ⟨w.heap.size, 3, none⟩ = some (.int .i64 p) := (bk_cell HB5.out HBK.out.toBkIs 3 (by omega)).trans (by rw [HG.out]; rfl)
      have hqq : (max 0 q).tmod p = Q := by rw [HQ.out]; exact Int.tmod_eq_emod_of_nonneg (by omega)
      have hqq2 : IntKind.i64.wrap ((max 0 q).tmod p) = Q := by rw [hqq]; exact IntWalk.i64_in _ (by omega)
      have ro15 := ro_size
      go_upto_region 6 with (first
        | (refine wpList_load_arr rfl 26 (.tmp 50) rfl w.heap.size 5 rfl (roArr ro) (ro_range HG.out HB5.out HBK.out.toBkIs) Tryz.underlying26 15 ro15 rfl ?_)
        | (refine wpList_alloc_put rfl 26 (.tmp 10) (.tmp 51) rfl rfl (roArr ro) _ rfl rfl 15 ro15 rfl rfl (ro_one ro) ?_))
      clear t2 k3 hqq hqq2 ro15
      have HRO := Lib.hid (Blk.new w5 26 (roArr ro))
      have hst := (Below.refl w5.heap.size w5).alloc (Nat.le_refl _) (.cells (roArr ro) 26)
      have hb := bel hb5 hst
      have HB := Lib.hid (HB5.out.step hst)
      have HT := Lib.hid (HT5.out.step hst)
      replace HC := Lib.hid (HC.out.step hst)
      clear hst hb5 HB5 HT5
      generalize hgr : w5.heap.size = gr at *
      have HGR := Lib.hid hgr
      clear hgr
      generalize w5.alloc (.cells (roArr ro) 26) = w6 at *
      have t0 : w6.cell? ⟨w.heap.size + 1, 0, none⟩ = some (.int .i64 i) := HT.out.cell 0
      have t1 : w6.cell? ⟨w.heap.size + 1, 1, none⟩ = some (.int .i64 k) := HT.out.cell 1
      go_upto_region 7 with (first
        | (refine wpList_load_blk 36 (.tmp 3) rfl w.heap.size rfl (by kernel_rfl) HB.out Tryz.underlying36 hbz ?_)
        | (go_at_call 13; refine (KP.out _ _ _ (H.out.step hb) (HS.out _ hb) HC.out).mono ?_; rintro e w7 ⟨x, rfl, hI, hOw, hb9⟩; have hb7 := bel hb hb9; have HB7 := Lib.hid (HB.out.step hb9); have HT7 := Lib.hid (HT.out.step hb9); have HRO7 := Lib.hid (HRO.out.step hb9); have HC7 := Lib.hid (HC.out.step hb9); have HI := Lib.hid hI; have HX := Lib.hid hOw; clear hb9 hI hOw t0 t1; obtain ⟨xk, xe, xo, xr, ⟨xl, xA, xc⟩⟩ := x; simp only [PostR.arr, Sl.val]))
      have HNX := Lib.hid (Blk.new w7 48 #[.int .i64 xk, .int .i64 xe, .int .i64 xo, .int .i64 xr, .slice xA xl.length xc])
      have hst := (Below.refl w7.heap.size w7).alloc (Nat.le_refl _) (.cells #[.int .i64 xk, .int .i64 xe, .int .i64 xo, .int .i64 xr, .slice xA xl.length xc] 48)
      replace hb7 := bel hb7 hst
      replace HB7 := Lib.hid (HB7.out.step hst)
      replace HT7 := Lib.hid (HT7.out.step hst)
      replace HRO7 := Lib.hid (HRO7.out.step hst)
      replace HC7 := Lib.hid (HC7.out.step hst)
      have HXR := Lib.hid (Rd.now (own_rd HX.out) hst)
      clear hst HX HC HB HT HRO hb
      generalize hg7 : w7.heap.size = g7 at *
      have HG7 := Lib.hid hg7
      clear hg7
      generalize w7.alloc (.cells #[.int .i64 xk, .int .i64 xe, .int .i64 xo, .int .i64 xr, .slice xA xl.length xc] 48) = w8 at *
      have t0 : w8.cell? ⟨w.heap.size + 1, 0, none⟩ = some (.int .i64 i) := HT7.out.cell 0
      have t1 : w8.cell? ⟨w.heap.size + 1, 1, none⟩ = some (.int .i64 k) := HT7.out.cell 1
      go_upto_region 8 with (first
        | (refine wpList_load_blk 36 (.tmp 3) rfl w.heap.size rfl (by kernel_rfl) HB7.out Tryz.underlying36 hbz ?_)
        | (go_at_call 13; refine (KQ.out _ _ _ (H.out.step hb7) (HS.out _ hb7) HC7.out).mono ?_; rintro e w9 ⟨z, rfl, hI, hOw, hb9⟩; have hb8 := bel hb7 hb9; have HB8 := Lib.hid (HB7.out.step hb9); have HT8 := Lib.hid (HT7.out.step hb9); have HRO8 := Lib.hid (HRO7.out.step hb9); have HJ := Lib.hid hI; have HZ := Lib.hid hOw; have HXR8 := Lib.hid (Rd.now HXR.out hb9); have HNX8 := Lib.hid (HNX.out.step hb9); clear hb9 hI hOw t0 t1; obtain ⟨zk, ze, zo, zr, ⟨zl, zA, zc⟩⟩ := z; simp only [PostR.arr, Sl.val]))
      have HNZ := Lib.hid (Blk.new w9 48 #[.int .i64 zk, .int .i64 ze, .int .i64 zo, .int .i64 zr, .slice zA zl.length zc])
      have hst := (Below.refl w9.heap.size w9).alloc (Nat.le_refl _) (.cells #[.int .i64 zk, .int .i64 ze, .int .i64 zo, .int .i64 zr, .slice zA zl.length zc] 48)
      replace hb8 := bel hb8 hst
      replace HB8 := Lib.hid (HB8.out.step hst)
      replace HT8 := Lib.hid (HT8.out.step hst)
      replace HRO8 := Lib.hid (HRO8.out.step hst)
      have HZR := Lib.hid (Rd.now (own_rd HZ.out) hst)
      replace HXR8 := Lib.hid (Rd.now HXR8.out hst)
      replace HNX8 := Lib.hid (HNX8.out.step hst)
      clear hst HZ HXR HNX HB7 HT7 HRO7 HC7 hb7
      generalize hg9 : w9.heap.size = g9 at *
      have HG9 := Lib.hid hg9
      clear hg9
      generalize w9.alloc (.cells #[.int .i64 zk, .int .i64 ze, .int .i64 zo, .int .i64 zr, .slice zA zl.length zc] 48) = wa at *
      have hxl : xl = L := HI.out.1
      have hzl : zl = L1 := HJ.out.1
      subst hxl hzl
      have hx3 := HLN.out
      have hz3 := HLN1.out
      clear HLN HLN1 HI HJ KP KQ
      have HEE : Hid (E = 0 → E1 = 0 → True) := Lib.hid (fun _ _ => trivial)
      cases hE : (E != 0)
      · cases hE1 : (E1 != 0)
        · have hE0 : E = 0 := by simpa using hE
          have hE10 : E1 = 0 := by simpa using hE1
          have HYR2 := Lib.hid (HYR.out hE0 hE10)
          have HID2 := Lib.hid (HID.out hE0)
          have HBD2 := Lib.hid (HBD.out hE0)
          subst hE0 hE10
          clear HYR HID HBD
          have KAr := Lib.hid (fun W h => amount_any xk xe xo xr xl xA xc ro.retained W h (by omega))
          have KAf := Lib.hid (fun W h => amount_any zk ze zo zr zl zA zc ro.retained W h (by omega))
          have KAi := Lib.hid (fun W h => amount_any xk xe xo xr xl xA xc ro.inventory W h (by omega))
          have KAm := Lib.hid (fun W h => amount_any xk xe xo xr xl xA xc ro.margin W h (by omega))
          unfold IntPost at KAr KAf KAi KAm
          generalize Iv.amt xl ro.retained = ar at *
          generalize Iv.amt zl ro.retained = fr at *
          generalize Iv.amt xl ro.inventory = ai at *
          generalize Iv.amt xl ro.margin = am at *
          have hyr : (ar != fr) = false := by rw [HYR2.out]; simp
          have a0 : ∀ d : Later wa, d.now.cell? ⟨g7, 0, none⟩ = some (.int .i64 xk) := fun d => d.cell HNX8.out.lt (HNX8.out.cell 0)
          have a1 : ∀ d : Later wa, d.now.cell? ⟨g7, 1, none⟩ = some (.int .i64 xe) := fun d => d.cell HNX8.out.lt (HNX8.out.cell 1)
          have a2 : ∀ d : Later wa, d.now.cell? ⟨g7, 2, none⟩ = some (.int .i64 xo) := fun d => d.cell HNX8.out.lt (HNX8.out.cell 2)
          have a3 : ∀ d : Later wa, d.now.cell? ⟨g7, 3, none⟩ = some (.int .i64 xr) := fun d => d.cell HNX8.out.lt (HNX8.out.cell 3)
          have a4 : ∀ d : Later wa, d.now.cell? ⟨g7, 4, none⟩ = some (.slice xA xl.length xc) := fun d => d.cell HNX8.out.lt (HNX8.out.cell 4)
          have b0 : ∀ d : Later wa, d.now.cell? ⟨g9, 0, none⟩ = some (.int .i64 zk) := fun d => d.cell HNZ.out.lt (HNZ.out.cell 0)
          have b1 : ∀ d : Later wa, d.now.cell? ⟨g9, 1, none⟩ = some (.int .i64 ze) := fun d => d.cell HNZ.out.lt (HNZ.out.cell 1)
          have b2 : ∀ d : Later wa, d.now.cell? ⟨g9, 2, none⟩ = some (.int .i64 zo) := fun d => d.cell HNZ.out.lt (HNZ.out.cell 2)
          have b3 : ∀ d : Later wa, d.now.cell? ⟨g9, 3, none⟩ = some (.int .i64 zr) := fun d => d.cell HNZ.out.lt (HNZ.out.cell 3)
          have b4 : ∀ d : Later wa, d.now.cell? ⟨g9, 4, none⟩ = some (.slice zA zl.length zc) := fun d => d.cell HNZ.out.lt (HNZ.out.cell 4)
          have r6 : ∀ d : Later wa, d.now.cell? ⟨gr, 6, none⟩ = some (.int .i64 ro.retained) := fun d => d.cell HRO8.out.lt (HRO8.out.cell 6)
          go_upto_region 10 with fail
          refine wp_region_later (by kernel_rfl) (by kernel_rfl) ?_
          (repeat (go_big_quiet_step ((fail)))); go_big_quiet_step ((go_at_call 17; exact Later.call _ (KAr.out _ (Rd.now HXR8.out (Later.below _)))))
          (repeat (go_big_quiet_step ((fail)))); go_big_quiet_step ((go_at_call 17; exact Later.call _ (KAf.out _ (Rd.now HZR.out (Later.below _)))))
          (repeat (go_big_quiet_step ((fail)))); refine wpQuiet_nil ?_; rintro _ ⟨dq, rfl⟩
          clear a0 a1 a2 a3 a4 b0 b1 b2 b3 b4 r6 hyr KAf HZR
          have hst := dq.below
          have hb10 := bel hb8 hst
          have HB10 := Lib.hid (HB8.out.step hst)
          have HT10 := Lib.hid (HT8.out.step hst)
          have HRO10 := Lib.hid (HRO8.out.step hst)
          have HNX10 := Lib.hid (HNX8.out.step hst)
          have HXR10 := Lib.hid (Rd.now HXR8.out hst)
          clear hst HB8 HT8 HRO8 HNX8 HXR8 HNZ hb8
          generalize dq.now = wb at *
          have k25 : wb.cell? ⟨w.heap.size, 25, none⟩ = some (.slice sA l.length sc) := (HB10.out.cell 25).trans HBK.out.st
          go_wp2_with fail
          clear k25
          go_loopw [95] (fun t wr => ∃ j : Nat, j ≤ l.length ∧ t = .int .i64 j ∧ (∀ u (h : u < j) (h1 : u < l.length), Iv.hit i k Q (l[u]'h1) = false) ∧ Below wb.heap.size wb wr) (fun t _ => l.length - (intOf t).toNat)
          case atStart => exact ⟨0, by omega, rfl, (fun u h => by omega), Below.refl _ _⟩
          case round =>
            obtain ⟨j, hj, rfl, hno, hbr⟩ := hrel
            have HN := Lib.hid hno
            clear hno
            have hbw := bel hb10 hbr
            by_cases hlt : j < l.length
            · obtain ⟨b0, o, hA, hbo, f0, f1, f2, f3, f4⟩ := StkR.at_ (Rd.now HR.out hbw) hlt
              subst hA
              have HH : Hid (Iv.hit i k Q l[j] = (l[j].period == Q && (l[j].seller == i && l[j].buyer == k))) := Lib.hid rfl
              have HNX : Hid (Iv.hit i k Q l[j] = false → ∀ u (h : u < j + 1) (h1 : u < l.length), Iv.hit i k Q (l[u]'h1) = false) := Lib.hid (fun h u h1 h2 => by
                by_cases e : u = j
                · subst e; exact h
                · exact HN.out u (by omega) h2)
              generalize l[j] = x at *
              obtain ⟨se, ss, sb, sam, smg⟩ := x
              dsimp only at *
              have hst := (Below.refl wr.heap.size wr).alloc (Nat.le_refl _) (.cells #[.int .i64 se, .int .i64 ss, .int .i64 sb, .int .i64 sam, .int .i64 smg] 59)
              have HT11 := Lib.hid ((HT10.out.step hbr).step hst)
              have hbx := bel hbr hst
              have hbz2 := bel hbw hst
              clear hst
              cases c1 : (se == Q)
              · have HF : Hid (Iv.hit i k Q ⟨se, ss, sb, sam, smg⟩ = false) := Lib.hid (by rw [HH.out, c1]; rfl)
                go_wp2_with fail
                go_roundw
                case rel => exact ⟨j + 1, by omega, by go_num, HNX.out HF.out, hbx⟩
                case measure => simp [intOf]; omega
              have t0 : (wr.alloc (.cells #[.int .i64 se, .int .i64 ss, .int .i64 sb, .int .i64 sam, .int .i64 smg] 59)).cell? ⟨w.heap.size + 1, 0, none⟩ = some (.int .i64 i) := HT11.out.cell 0
              cases c2 : (ss == i)
              · have HF : Hid (Iv.hit i k Q ⟨se, ss, sb, sam, smg⟩ = false) := Lib.hid (by rw [HH.out, c2]; simp)
                go_wp2_with fail
                go_roundw
                case rel => exact ⟨j + 1, by omega, by go_num, HNX.out HF.out, hbx⟩
                case measure => simp [intOf]; omega
              have t1 : (wr.alloc (.cells #[.int .i64 se, .int .i64 ss, .int .i64 sb, .int .i64 sam, .int .i64 smg] 59)).cell? ⟨w.heap.size + 1, 1, none⟩ = some (.int .i64 k) := HT11.out.cell 1
              cases c3 : (sb == k)
              · have HF : Hid (Iv.hit i k Q ⟨se, ss, sb, sam, smg⟩ = false) := Lib.hid (by rw [HH.out, c3]; simp)
                go_wp2_with fail
                go_roundw
                case rel => exact ⟨j + 1, by omega, by go_num, HNX.out HF.out, hbx⟩
                case measure => simp [intOf]; omega
              · go_wp2_with fail
                go_ret
                exact ⟨rfl, hbz2⟩
            · have hno2 : ∀ u (hu : u < l.length), Iv.hit i k Q l[u] = false := fun u hu => HN.out u (by omega) hu
              obtain ⟨ha1, ha2, ha3⟩ := HID2.out hno2
              have HA3 := Lib.hid ha3
              obtain ⟨d0, d1⟩ := HBD2.out
              clear hno2 ha3
              have hai : (ai == 0) = true := by rw [ha1]; rfl
              have hneg : IntKind.i64.wrap (-ar) = -ar := IntWalk.i64_in _ (by omega)
              have hamr : (am == -ar) = true := by rw [ha2]; simp
              clear ha1 ha2 d0 d1
              have HBr := Lib.hid (HB10.out.step hbr)
              have z1 : wr.cell? ⟨w.heap.size, 1, none⟩ = some (.int .i64 y) := (bk_cell HBr.out HBK.out.toBkIs 1 (by omega)).trans (by rw [HG.out]; rfl)
              have z2 : wr.cell? ⟨w.heap.size, 2, none⟩ = some (.int .i64 m) := (bk_cell HBr.out HBK.out.toBkIs 2 (by omega)).trans (by rw [HG.out]; rfl)
              have z3 : wr.cell? ⟨w.heap.size, 3, none⟩ = some (.int .i64 p) := (bk_cell HBr.out HBK.out.toBkIs 3 (by omega)).trans (by rw [HG.out]; rfl)
              by_cases h12 : Q < 12
              · have HVE : Hid (Cal.bfV y m p Q = 0 ∧ Cal.bfE y m p Q = 8) := Lib.hid ⟨by unfold Cal.bfV; rw [if_pos HCK.out, if_pos h12], by unfold Cal.bfE; rw [if_pos HCK.out, if_pos h12]⟩
                rw [HVE.out.1, HVE.out.2] at KCB
                have hxe := HA3.out h12
                have hl0 : ((xl.length : Int) == 0) = true := by rw [hxe]; rfl
                clear hxe h12
                go_upto_region 19 with (go_at_call 18; refine (KCB.out _).mono ?_; rintro e wc ⟨rfl, hb9⟩; have hbc := bel hbw hb9; have hbd := bel hbr hb9; clear hb9)
                clear z1 z2 z3
                have HRO11 := Lib.hid (HRO10.out.step hbd)
                have HNX11 := Lib.hid (HNX10.out.step hbd)
                have HXR11 := Lib.hid (Rd.now HXR10.out hbd)
                have a0 : ∀ d : Later wc, d.now.cell? ⟨g7, 0, none⟩ = some (.int .i64 xk) := fun d => d.cell HNX11.out.lt (HNX11.out.cell 0)
                have a1 : ∀ d : Later wc, d.now.cell? ⟨g7, 1, none⟩ = some (.int .i64 xe) := fun d => d.cell HNX11.out.lt (HNX11.out.cell 1)
                have a2 : ∀ d : Later wc, d.now.cell? ⟨g7, 2, none⟩ = some (.int .i64 xo) := fun d => d.cell HNX11.out.lt (HNX11.out.cell 2)
                have a3 : ∀ d : Later wc, d.now.cell? ⟨g7, 3, none⟩ = some (.int .i64 xr) := fun d => d.cell HNX11.out.lt (HNX11.out.cell 3)
                have a4 : ∀ d : Later wc, d.now.cell? ⟨g7, 4, none⟩ = some (.slice xA xl.length xc) := fun d => d.cell HNX11.out.lt (HNX11.out.cell 4)
                have r6 : ∀ d : Later wc, d.now.cell? ⟨gr, 6, none⟩ = some (.int .i64 ro.retained) := fun d => d.cell HRO11.out.lt (HRO11.out.cell 6)
                have r3 : ∀ d : Later wc, d.now.cell? ⟨gr, 3, none⟩ = some (.int .i64 ro.inventory) := fun d => d.cell HRO11.out.lt (HRO11.out.cell 3)
                have r14 : ∀ d : Later wc, d.now.cell? ⟨gr, 14, none⟩ = some (.int .i64 ro.margin) := fun d => d.cell HRO11.out.lt (HRO11.out.cell 14)
                refine wp_region_later (by kernel_rfl) (by kernel_rfl) ?_
                (repeat (go_big_quiet_step ((fail)))); go_big_quiet_step ((go_at_call 17; exact Later.call _ (KAi.out _ (Rd.now HXR11.out (Later.below _)))))
                (repeat (go_big_quiet_step ((fail)))); go_big_quiet_step ((go_at_call 17; exact Later.call _ (KAm.out _ (Rd.now HXR11.out (Later.below _)))))
                (repeat (go_big_quiet_step ((fail)))); go_big_quiet_step ((go_at_call 17; exact Later.call _ (KAr.out _ (Rd.now HXR11.out (Later.below _)))))
                (repeat (go_big_quiet_step ((fail)))); refine wpQuiet_nil ?_; rintro _ ⟨dq, rfl⟩
                have hbe := bel hbc dq.below
                clear a0 a1 a2 a3 a4 r3 r6 r14
                go_wp2_with fail
                go_ret
                exact ⟨rfl, hbe⟩
              · have HVE : Hid (Cal.bfV y m p Q = Q - Q % 12 - 1 ∧ Cal.bfE y m p Q = 0) := Lib.hid ⟨by unfold Cal.bfV; rw [if_pos HCK.out, if_neg h12], by unfold Cal.bfE; rw [if_pos HCK.out, if_neg h12]⟩
                rw [HVE.out.1, HVE.out.2] at KCB
                clear h12
                go_upto_region 19 with (go_at_call 18; refine (KCB.out _).mono ?_; rintro e wc ⟨rfl, hb9⟩; have hbc := bel hbw hb9; have hbd := bel hbr hb9; clear hb9)
                clear z1 z2 z3
                have HRO11 := Lib.hid (HRO10.out.step hbd)
                have HNX11 := Lib.hid (HNX10.out.step hbd)
                have HXR11 := Lib.hid (Rd.now HXR10.out hbd)
                have a0 : ∀ d : Later wc, d.now.cell? ⟨g7, 0, none⟩ = some (.int .i64 xk) := fun d => d.cell HNX11.out.lt (HNX11.out.cell 0)
                have a1 : ∀ d : Later wc, d.now.cell? ⟨g7, 1, none⟩ = some (.int .i64 xe) := fun d => d.cell HNX11.out.lt (HNX11.out.cell 1)
                have a2 : ∀ d : Later wc, d.now.cell? ⟨g7, 2, none⟩ = some (.int .i64 xo) := fun d => d.cell HNX11.out.lt (HNX11.out.cell 2)
                have a3 : ∀ d : Later wc, d.now.cell? ⟨g7, 3, none⟩ = some (.int .i64 xr) := fun d => d.cell HNX11.out.lt (HNX11.out.cell 3)
                have a4 : ∀ d : Later wc, d.now.cell? ⟨g7, 4, none⟩ = some (.slice xA xl.length xc) := fun d => d.cell HNX11.out.lt (HNX11.out.cell 4)
                have r6 : ∀ d : Later wc, d.now.cell? ⟨gr, 6, none⟩ = some (.int .i64 ro.retained) := fun d => d.cell HRO11.out.lt (HRO11.out.cell 6)
                have r3 : ∀ d : Later wc, d.now.cell? ⟨gr, 3, none⟩ = some (.int .i64 ro.inventory) := fun d => d.cell HRO11.out.lt (HRO11.out.cell 3)
                have r14 : ∀ d : Later wc, d.now.cell? ⟨gr, 14, none⟩ = some (.int .i64 ro.margin) := fun d => d.cell HRO11.out.lt (HRO11.out.cell 14)
                refine wp_region_later (by kernel_rfl) (by kernel_rfl) ?_
                (repeat (go_big_quiet_step ((fail)))); go_big_quiet_step ((go_at_call 17; exact Later.call _ (KAi.out _ (Rd.now HXR11.out (Later.below _)))))
                (repeat (go_big_quiet_step ((fail)))); go_big_quiet_step ((go_at_call 17; exact Later.call _ (KAm.out _ (Rd.now HXR11.out (Later.below _)))))
                (repeat (go_big_quiet_step ((fail)))); go_big_quiet_step ((go_at_call 17; exact Later.call _ (KAr.out _ (Rd.now HXR11.out (Later.below _)))))
                (repeat (go_big_quiet_step ((fail)))); refine wpQuiet_nil ?_; rintro _ ⟨dq, rfl⟩
                have hbe := bel hbc dq.below
                clear a0 a1 a2 a3 a4 r3 r6 r14
                go_wp2_with fail
                go_ret
                exact ⟨rfl, hbe⟩
        · go_wp2_with fail
          go_ret
          exact ⟨rfl, hb8⟩
      · go_wp2_with fail
        go_ret
        exact ⟨rfl, hb8⟩
end
end Go.Proofs.YthfbpbbepogllaaGreat
