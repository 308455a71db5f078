/- Texts of this claim, put together. -/
import Derived.Test.YthfbpbbepogllaaGreatJBF
import Derived.Test.YthfbpbbepogllaaGreatJBE
import Derived.Test.YthfbpbbepogllaaGreatJAX
/- The walk of InventoryNotes. -/
namespace Go.Proofs.YthfbpbbepogllaaGreat
set_option linter.unusedVariables false
set_option linter.unusedSimpArgs false
open Go.RowKit

def zeroBk : Array Value := #[.string ⟨#[]⟩, .int .i64 0, .int .i64 0, .int .i64 0, .slice none 0 0, .int .i64 0, .int .i64 0, .int .i64 0, .int .i64 0, .int .i64 0, .int .i64 0, .int .i64 0, .int .i64 0, .int .i64 0, .int .i64 0, .int .i64 0, .int .i64 0, .int .i64 0, .int .i64 0, .int .i64 0, .slice none 0 0, .slice none 0 0, .slice none 0 0, .slice none 0 0, .slice none 0 0, .slice none 0 0, .string ⟨#[]⟩]
/-- books with other notes -/
def bkV (bcs : Array Value) (v : Value) : Array Value := bcs.setIfInBounds 25 v
theorem bkV_st {bcs gcs : Array Value} {u v : Value} (h : BkSt bcs gcs u) : BkSt (bkV bcs v) gcs v := by
  refine ⟨⟨by simp [bkV, h.size], h.gsz, fun j hj => ?_⟩, ?_⟩
  · unfold bkV
    rw [Array.getElem?_setIfInBounds_ne (by omega)]
    exact h.grp j hj
  · unfold bkV
    rw [Array.getElem?_setIfInBounds_self_of_lt (by rw [h.size]; omega)]
theorem bkV_set (bcs : Array Value) (u v : Value) : (bkV bcs u).setIfInBounds 25 v = bkV bcs v := by unfold bkV; simp
theorem bkV_size (bcs : Array Value) (v : Value) : (bkV bcs v).size = bcs.size := by unfold bkV; simp
theorem nbv_cell {w : World} {g : Nat} {bcs gcs : Array Value} {T : TypeId} {u v : Value} (h : Blk w g T (bkV bcs v)) (hB : BkSt bcs gcs u) : w.cell? ⟨g, 25, none⟩ = some v := (h.cell 25).trans (bkV_st hB).st
theorem own_off {w : World} {base : Nat} {e : TypeId} {sz n : Nat} {v : Value} {xs : List Value} (h : w.ownsRow base e sz v n xs) {g : Nat} (hg : g < base) : some g ≠ v.ownBlock := fun e => by
  have := (h.lt g e.symm).1
  omega
theorem own_far {w : World} {base : Nat} {e : TypeId} {sz n : Nat} {v : Value} {xs : List Value} (h : w.ownsRow base e sz v n xs) {g : Nat} (hg : g < base) (i : Nat) (u : Value) : (w.setCell ⟨g, i, none⟩ u).ownsRow base e sz v n xs :=
  h.kept ⟨rfl, rfl, rfl, by simp [World.setCell], fun k _ hk => Below.heap_setCell w ⟨g, i, none⟩ u k (fun e => hk (by rw [e]))⟩ (.inr (own_off h hg).symm)
def pair2 (x z : Array Value) : Array Value := x ++ z
theorem pin_two3 {w : World} {g : Nat} {x z : PostR} {T : TypeId} {cs : Array Value} (h : Blk w g T cs) (hcs : cs.toList = x.cells ++ z.cells) (hr : Rd w w.heap.size 2 x.parts.A x.parts.l.length (cellsOf Bal.cells x.parts.l)) (hr2 : Rd w w.heap.size 2 z.parts.A z.parts.l.length (cellsOf Bal.cells z.parts.l)) (hl : x.parts.l.length ≤ 3) (hl2 : z.parts.l.length ≤ 3) : PIn w [x, z] (some ⟨g, 0, none⟩) := by
  refine ⟨Rd.of_blk h (by rw [hcs]; simp [cellsOf]) rfl, fun y hy => ?_, fun y hy => ?_, by show 2 ≤ 1000000; omega⟩
  · simp only [List.mem_cons, List.not_mem_nil, or_false] at hy
    rcases hy with rfl | rfl
    · exact hr
    · exact hr2
  · simp only [List.mem_cons, List.not_mem_nil, or_false] at hy
    rcases hy with rfl | rfl
    · omega
    · omega
theorem two_same {x y z : PostR} (h1 : SameP x y) (h2 : SameP x z) : ∀ k (a : k < [x, x].length) (b : k < [y, z].length), SameP [x, x][k] [y, z][k] := by
  intro k a b
  have : k = 0 ∨ k = 1 := by simp at a; omega
  rcases this with rfl | rfl
  · exact h1
  · exact h2
def zeroSk : Value := .agg #[.int .i64 0, .int .i64 0, .int .i64 0, .int .i64 0, .int .i64 0]
section
variable (cur : ByteArray) (y m p : Int) (cl : List Acc) (cA : Option Addr) (cc : Nat) (ro : RolesR) (el : List EntR) (eA : Option Addr) (ec : Nat) (w : World)
set_option maxRecDepth 100000 in
set_option maxHeartbeats 16000000 in
theorem law_InventoryNotes (bcs gcs : Array Value) (l : List StkR) (sA : Option Addr) (sc : Nat) (ms : List Int) (mA : Option Addr) (mc : Nat) (i k q : Int) (HG0 : gcs = #[.string cur, .int .i64 y, .int .i64 m, .int .i64 p, .slice cA cl.length cc, .int .i64 ro.investment, .int .i64 ro.goodwill, .int .i64 ro.associates, .int .i64 ro.inventory, .int .i64 ro.reserve, .int .i64 ro.minority, .int .i64 ro.retained, .int .i64 ro.acquired, .int .i64 ro.owners, .int .i64 ro.disposal, .int .i64 ro.associateProfit, .int .i64 ro.dividends, .int .i64 ro.minorityProfit, .int .i64 ro.difference, .int .i64 ro.margin, .slice eA el.length ec]) (hBK : BkSt bcs gcs (.slice sA l.length sc)) (h : GIn w cl cA el eA) (hc : cur.size ≤ maxLen) (hcl : cl.length ≤ maxLen) (hel : el.length ≤ maxLen)
    (hr : Rd w w.heap.size 5 sA l.length (cellsOf StkR.cells l)) (hl : l.length ≤ maxLen) (hm : Rd w w.heap.size 1 mA ms.length (cellsOf icellM ms)) (hml : ms.length ≤ maxLen) (hw1 : Wf ro.inventory) (hw2 : Wf ro.retained) (hw3 : Wf ro.margin) (hb1 : bcs.all (·.oneCell') = true) :
    Calls Tryz.prog 5 #[.agg bcs, .slice mA ms.length mc, .agg #[.int .i64 i, .int .i64 k, .int .i64 q]] w fun e w' => e = .returned (.bool true) ∧ Below w.heap.size w w' := by
  have H := Lib.hid h
  have HR := Lib.hid hr
  have HM := Lib.hid hm
  have HG := Lib.hid HG0
  have HBK := Lib.hid hBK
  have hbz : (Tryz.prog.info? 36).map (·.size) = some bcs.size := by rw [hBK.size]; exact bk_size
  have hg21 : (Tryz.prog.info? 29).map (·.size) = some 21 := grp_size
  have K0 := Lib.hid (fun W h => ifew_any gcs bcs cur y m p cl cA cc ro el eA ec W sA mA l.length sc ms.length mc HG HBK.out h hc hcl hel hl hml)
  clear h hr hm HG0 hBK hcl hel hc
  have hb : Below w.heap.size w ((w.alloc (.cells bcs 36)).alloc (.cells #[.int .i64 i, .int .i64 k, .int .i64 q] 39)) := ((Below.refl _ _).alloc (Nat.le_refl _) _).alloc (by simp) _
  have HB := Lib.hid ((Blk.new w 36 bcs).alloc (.cells #[.int .i64 i, .int .i64 k, .int .i64 q] 39))
  have HT := Lib.hid (blk_new2 w (.cells bcs 36) 39 #[.int .i64 i, .int .i64 k, .int .i64 q])
  go_enter Tryz.func5, Tryz.ntmps5
  go_wp2_with fail
  generalize (w.alloc (.cells bcs 36)).alloc (.cells #[.int .i64 i, .int .i64 k, .int .i64 q] 39) = W at *
  refine (inv_awake _).mono ?_
  rintro e w2 ⟨rfl, hb9⟩
  replace hb := bel hb hb9
  replace HB := Lib.hid (HB.out.step hb9)
  replace HT := Lib.hid (HT.out.step hb9)
  clear hb9
  go_wp2_with (refine wpList_load_blk 36 (.tmp 3) rfl w.heap.size rfl (by kernel_rfl) HB.out Tryz.underlying36 hbz ?_)
  refine (K0.out _ (H.out.step hb)).mono ?_
  rintro e w3 ⟨b, rfl, hb9, hok⟩
  replace hb := bel hb hb9
  replace HB := Lib.hid (HB.out.step hb9)
  replace HT := Lib.hid (HT.out.step hb9)
  clear hb9 K0
  cases b
  · clear hok
    go_wp2_with (go_at_call 10; refine (inv_awake _).mono ?_; rintro e w4 ⟨rfl, hb9⟩; replace hb := bel hb hb9; clear hb9)
    go_ret
    exact ⟨rfl, hb⟩
  · have OK := Lib.hid (hok rfl)
    clear hok
    have hln := OK.out.2.1
    have hmn := OK.out.2.2
    have HS : Hid (∀ W, Below w.heap.size w W → SIn W l sA) := Lib.hid (fun W hW => ⟨Rd.now HR.out hW, by omega⟩)
    have KX := Lib.hid (fun W h hS => rivalid_any gcs cur y m p cl cA cc ro el eA ec W l sA sc HG h OK.out.1 hS)
    have HVL := Lib.hid (iv_val (V := Gr.gv cur cl ro el (Cal.ok y m p)) (p := p) (n := el.length) (l := l))
    unfold BoolPost at KX
    generalize hval : Iv.val (Gr.gv cur cl ro el (Cal.ok y m p)) p el.length l = val at *
    have HVAL := Lib.hid hval
    clear hval
    have k25 : w3.cell? ⟨w.heap.size, 25, none⟩ = some (.slice sA l.length sc) := (HB.out.cell 25).trans HBK.out.st
    cases val
    · go_wp2_with (first
        | (refine wpList_load_arrG (by kernel_rfl) 29 (.tmp 30) rfl w.heap.size 0 rfl gcs (bk_range HB.out HBK.out.toBkIs) Tryz.underlying29 21 hg21 HBK.out.gsz ?_)
        | (go_at_call 16; refine (KX.out _ (H.out.step hb) (HS.out _ hb)).mono ?_; rintro e w4 ⟨rfl, hb9⟩; replace hb := bel hb hb9; clear hb9 k25)
        | (go_at_call 10; refine (inv_awake _).mono ?_; rintro e w5 ⟨rfl, hb9⟩; replace hb := bel hb hb9; clear hb9))
      go_ret
      exact ⟨rfl, hb⟩
    · obtain ⟨hV, hln2, hall⟩ := HVL.out rfl
      have hcal := gv_cal hV
      have HCKE : Hid (Cal.ckE y m p q = 0 ↔ 0 ≤ q ∧ q < p) := Lib.hid (by
        rw [Cal.ck_zero]
        exact ⟨fun e => e.2, fun e => ⟨(Cal.ok_iff y m p).1 hcal, e⟩⟩)
      have KCB := Lib.hid (fun W => rcal_Before y m p q W)
      have KB := Lib.hid (iboth_any ms mA mc)
      have hcl := conM_len ms
      have HICN := Lib.hid (fun W B T v h => icon_in (w := W) (base := B) (T := T) (v := v) (ms := ms) h (by omega))
      unfold IBoth at KB
      have HVT : Hid (Iv.val (Gr.gv cur cl ro el (Cal.ok y m p)) p el.length l = true) := HVAL
      have HR1 : Hid (∀ r : Int, r = (if Cal.bfE y m p q = 0 then Cal.bfV y m p q else q) → 0 ≤ q → q < p → ¬ q < 12 → r = q - q % 12 - 1) := Lib.hid (fun r hr h0 h1 h2 => by
        have hc := HCKE.out.2 ⟨h0, h1⟩
        rw [hr]
        unfold Cal.bfE Cal.bfV
        rw [if_pos hc, if_neg h2, if_pos rfl, if_pos hc, if_neg h2])
      generalize hcs : conM ms = cs at *
      generalize Cal.bfV y m p q = bv at *
      generalize Cal.bfE y m p q = be at *
      have hms : ms.length ≤ 1000 := by omega
      clear hmn hl hml hcl hV hcal hall HVL HVAL hcs
      have hbzz : zeroBk.size = bcs.size := by rw [HBK.out.size]; rfl
      go_upto_region 3 with (first
        | (refine wpList_load_arrG (by kernel_rfl) 29 (.tmp 30) rfl w.heap.size 0 rfl gcs (bk_range HB.out HBK.out.toBkIs) Tryz.underlying29 21 hg21 HBK.out.gsz ?_)
        | (go_at_call 16; refine (KX.out _ (H.out.step hb) (HS.out _ hb)).mono ?_; rintro e w4 ⟨rfl, hb9⟩; have hb4 := bel hb hb9; have HB4 := Lib.hid (HB.out.step hb9); have HT4 := Lib.hid (HT.out.step hb9); clear hb9 k25))
      clear hb HB HT KX
      have z1 : w4.cell? ⟨w.heap.size, 1, none⟩ = some (.int .i64 y) := (bk_cell HB4.out HBK.out.toBkIs 1 (by omega)).trans (by rw [HG.out]; rfl)
      have z2 : w4.cell? ⟨w.heap.size, 2, none⟩ = some (.int .i64 m) := (bk_cell HB4.out HBK.out.toBkIs 2 (by omega)).trans (by rw [HG.out]; rfl)
      have z3 : w4.cell? ⟨w.heap.size, 3, none⟩ = some (.int .i64 p) := (bk_cell HB4.out HBK.out.toBkIs 3 (by omega)).trans (by rw [HG.out]; rfl)
      have t2 : w4.cell? ⟨w.heap.size + 1, 2, none⟩ = some (.int .i64 q) := HT4.out.cell 2
      go_upto_region 4 with (go_at_call 18; refine (KCB.out _).mono ?_; rintro e w5 ⟨rfl, hb9⟩; have hb5 := bel hb4 hb9; have HB5 := Lib.hid (HB4.out.step hb9); have HT5 := Lib.hid (HT4.out.step hb9); clear hb9)
      clear z1 z2 z3 t2 HB4 HT4 hb4 KCB
      have t2 : w5.cell? ⟨w.heap.size + 1, 2, none⟩ = some (.int .i64 q) := HT5.out.cell 2
      go_cut [48] (fun s wx => s = .bool (be != 0) ∧ wx = w5)
      case first =>
        go_wp2_with fail
        go_meet
        exact ⟨rfl, rfl⟩
      case rest =>
      obtain ⟨rfl, rfl⟩ := hcut
      obtain ⟨w5, rfl⟩ : ∃ x : World, x = wc := ⟨_, rfl⟩
      rename_i hKK
      refine hKK _ _ ?_
      go_cut [7] (fun s wx => s = .int .i64 (if be = 0 then bv else q) ∧ wx = w5)
      case first =>
        cases hbe : (be != 0)
        · have hbe0 : be = 0 := by simpa using hbe
          go_wp2_with fail
          go_meet
          exact ⟨by rw [if_pos hbe0], rfl⟩
        · have hbe0 : be ≠ 0 := by simpa using hbe
          go_wp2_with fail
          go_meet
          exact ⟨by rw [if_neg hbe0], rfl⟩
      case rest =>
        obtain ⟨rfl, rfl⟩ := hcut
        have HSELR := Lib.hid (HR1.out _ rfl)
        generalize (if be = 0 then bv else q) = r at *
        clear t2
        obtain ⟨w5, rfl⟩ : ∃ x : World, x = wc := ⟨_, rfl⟩
        go_upto_region 7 with (go_at_call 12; refine (KB.out _ (Rd.now HM.out hb5) hms).mono ?_; rintro e wh ⟨v, u, rfl, hv, hu, hb9⟩; obtain ⟨A2, c2, rfl, hC⟩ := HICN.out _ _ _ _ hv; obtain ⟨A3, c3, rfl, hD⟩ := HICN.out _ _ _ _ hu; have HC := Lib.hid hC; have hb6 := bel hb5 hb9; have HB6 := Lib.hid (HB5.out.step hb9); have HT6 := Lib.hid (HT5.out.step hb9); clear hb9 hv hu hC hD)
        clear hb5 HB5 HT5 KB HICN hms
        go_cut [11, 12] (fun s1 s2 wx => ∃ g1 g2 : Nat, s1 = .pointer (some ⟨g1, 0, none⟩) ∧ s2 = .pointer (some ⟨g2, 0, none⟩) ∧ g1 ≠ g2 ∧ wh.heap.size ≤ g1 ∧ wh.heap.size ≤ g2 ∧ Blk wx g1 36 bcs ∧ Blk wx g2 36 bcs ∧ Below wh.heap.size wh wx)
        case first =>
          refine rel_begin (n := 6) (wh) (by kernel_rfl) rfl ?_; have hC := Near.drew (wh)
          refine rel_load_blk (i := 0) rfl 36 (.tmp 3) rfl (w.heap.size) rfl (by kernel_rfl) (by kernel_rfl) (by kernel_rfl) rfl (fun _ _ _ _ h => h) hC (HB6).out Tryz.underlying36 hbz ?_
          (try simp only [Act.put, List.setIfInBounds_toArray, List.set_cons_zero, List.set_cons_succ])
          refine rel_load_blk (i := 1) rfl 36 (.tmp 3) rfl (w.heap.size) rfl (by kernel_rfl) (by kernel_rfl) (by kernel_rfl) rfl (fun _ _ _ _ h => h) hC (HB6).out Tryz.underlying36 hbz ?_
          (try simp only [Act.put, List.setIfInBounds_toArray, List.set_cons_zero, List.set_cons_succ])
          refine rel_calls (is := [2, 3]) (by kernel_rfl) (by simp) ?_
          intro j hj
          simp only [List.mem_cons, List.not_mem_nil, or_false] at hj
          rcases hj with rfl | rfl
          · refine ⟨_, rfl, rfl, ?_⟩
            intro K hK
            go_simp
            have hC4 : Below wh.heap.size wh (wh.alloc (.cells #[.string ⟨#[]⟩, .int .i64 0, .int .i64 0, .int .i64 0, .slice none 0 0, .int .i64 0, .int .i64 0, .int .i64 0, .int .i64 0, .int .i64 0, .int .i64 0, .int .i64 0, .int .i64 0, .int .i64 0, .int .i64 0, .int .i64 0, .int .i64 0, .int .i64 0, .int .i64 0, .int .i64 0, .slice none 0 0, .slice none 0 0, .slice none 0 0, .slice none 0 0, .slice none 0 0, .slice none 0 0, .string ⟨#[]⟩] 36)).drew := ((Below.refl _ _).alloc (Nat.le_refl _) _).drew
            have hX0 : Blk (wh.alloc (.cells #[.string ⟨#[]⟩, .int .i64 0, .int .i64 0, .int .i64 0, .slice none 0 0, .int .i64 0, .int .i64 0, .int .i64 0, .int .i64 0, .int .i64 0, .int .i64 0, .int .i64 0, .int .i64 0, .int .i64 0, .int .i64 0, .int .i64 0, .int .i64 0, .int .i64 0, .int .i64 0, .int .i64 0, .slice none 0 0, .slice none 0 0, .slice none 0 0, .slice none 0 0, .slice none 0 0, .slice none 0 0, .string ⟨#[]⟩] 36)).drew wh.heap.size 36 zeroBk := (Blk.new wh _ _).drew
            refine hK _ _ (Near.of hC4) ?_
            clear hK K hC
            generalize (wh.alloc (.cells #[.string ⟨#[]⟩, .int .i64 0, .int .i64 0, .int .i64 0, .slice none 0 0, .int .i64 0, .int .i64 0, .int .i64 0, .int .i64 0, .int .i64 0, .int .i64 0, .int .i64 0, .int .i64 0, .int .i64 0, .int .i64 0, .int .i64 0, .int .i64 0, .int .i64 0, .int .i64 0, .int .i64 0, .slice none 0 0, .slice none 0 0, .slice none 0 0, .slice none 0 0, .slice none 0 0, .slice none 0 0, .string ⟨#[]⟩] 36)).drew = w4 at *
            intro hC
            (try simp only [Act.put, List.setIfInBounds_toArray, List.set_cons_zero, List.set_cons_succ])
            refine rel_call (i := 3) (by kernel_rfl) rfl rfl ?_
            intro K hK
            go_simp
            have hlt4 := hX0.lt
            have hC5 : Below wh.heap.size wh (w4.alloc (.cells #[.string ⟨#[]⟩, .int .i64 0, .int .i64 0, .int .i64 0, .slice none 0 0, .int .i64 0, .int .i64 0, .int .i64 0, .int .i64 0, .int .i64 0, .int .i64 0, .int .i64 0, .int .i64 0, .int .i64 0, .int .i64 0, .int .i64 0, .int .i64 0, .int .i64 0, .int .i64 0, .int .i64 0, .slice none 0 0, .slice none 0 0, .slice none 0 0, .slice none 0 0, .slice none 0 0, .slice none 0 0, .string ⟨#[]⟩] 36)) := hC4.alloc hC4.size _
            have hX1 : Blk (w4.alloc (.cells #[.string ⟨#[]⟩, .int .i64 0, .int .i64 0, .int .i64 0, .slice none 0 0, .int .i64 0, .int .i64 0, .int .i64 0, .int .i64 0, .int .i64 0, .int .i64 0, .int .i64 0, .int .i64 0, .int .i64 0, .int .i64 0, .int .i64 0, .int .i64 0, .int .i64 0, .int .i64 0, .int .i64 0, .slice none 0 0, .slice none 0 0, .slice none 0 0, .slice none 0 0, .slice none 0 0, .slice none 0 0, .string ⟨#[]⟩] 36)) wh.heap.size 36 zeroBk := hX0.alloc _
            have hX2 : Blk (w4.alloc (.cells #[.string ⟨#[]⟩, .int .i64 0, .int .i64 0, .int .i64 0, .slice none 0 0, .int .i64 0, .int .i64 0, .int .i64 0, .int .i64 0, .int .i64 0, .int .i64 0, .int .i64 0, .int .i64 0, .int .i64 0, .int .i64 0, .int .i64 0, .int .i64 0, .int .i64 0, .int .i64 0, .int .i64 0, .slice none 0 0, .slice none 0 0, .slice none 0 0, .slice none 0 0, .slice none 0 0, .slice none 0 0, .string ⟨#[]⟩] 36)) w4.heap.size 36 zeroBk := Blk.new w4 _ _
            refine hK _ _ (Near.of hC5) ?_
            clear hK K hC
            generalize w4.alloc (.cells #[.string ⟨#[]⟩, .int .i64 0, .int .i64 0, .int .i64 0, .slice none 0 0, .int .i64 0, .int .i64 0, .int .i64 0, .int .i64 0, .int .i64 0, .int .i64 0, .int .i64 0, .int .i64 0, .int .i64 0, .int .i64 0, .int .i64 0, .int .i64 0, .int .i64 0, .int .i64 0, .int .i64 0, .slice none 0 0, .slice none 0 0, .slice none 0 0, .slice none 0 0, .slice none 0 0, .slice none 0 0, .string ⟨#[]⟩] 36) = w5 at *
            intro hC
            (try simp only [Act.put, List.setIfInBounds_toArray, List.set_cons_zero, List.set_cons_succ])
            refine rel_call (i := 4) (by kernel_rfl) rfl rfl ?_
            intro K hK
            refine wp_store_row 36 (.tmp 11) (.tmp 56) rfl (wh.heap.size) bcs rfl rfl 36 zeroBk hX1 hbz hbzz hb1 ?_
            have hY1 : Blk (w5.setRow (wh.heap.size) bcs) (wh.heap.size) 36 bcs := setRow_heap _ _ zeroBk _ _ _ hX1
            have hY2 : Blk (w5.setRow (wh.heap.size) bcs) (w4.heap.size) 36 zeroBk := (setRow_other _ _ _ _ (by omega)).trans hX2
            have hC6 := below_row (cs := bcs) (g := wh.heap.size) hC5 (by omega)
            refine hK _ _ (Near.of hC6) ?_
            clear hK K hC hX1 hX2
            generalize w5.setRow (wh.heap.size) bcs = w6 at *
            intro hC
            (try simp only [Act.put, List.setIfInBounds_toArray, List.set_cons_zero, List.set_cons_succ])
            refine rel_call (i := 5) (by kernel_rfl) rfl rfl ?_
            intro K hK
            refine wp_store_row 36 (.tmp 12) (.tmp 57) rfl (w4.heap.size) bcs rfl rfl 36 zeroBk hY2 hbz hbzz hb1 ?_
            have hZ2 : Blk (w6.setRow (w4.heap.size) bcs) (w4.heap.size) 36 bcs := setRow_heap _ _ zeroBk _ _ _ hY2
            have hZ1 : Blk (w6.setRow (w4.heap.size) bcs) (wh.heap.size) 36 bcs := (setRow_other _ _ _ _ (by omega)).trans hY1
            have hC7 := below_row (cs := bcs) (g := w4.heap.size) hC6 (by omega)
            refine hK _ _ (Near.of hC7) ?_
            clear hK K hC hY1 hY2
            generalize w6.setRow (w4.heap.size) bcs = w7 at *
            intro hC
            (try simp only [Act.put, List.setIfInBounds_toArray, List.set_cons_zero, List.set_cons_succ])
            refine wpAnyH_done (by kernel_rfl) ?_ _
            go_wp2_with fail
            go_meet
            exact ⟨wh.heap.size, w4.heap.size, rfl, rfl, by omega, by omega, by omega, hZ1, hZ2, hC7⟩
          · refine ⟨_, rfl, rfl, ?_⟩
            intro K hK
            go_simp
            have hC4 : Below wh.heap.size wh (wh.alloc (.cells #[.string ⟨#[]⟩, .int .i64 0, .int .i64 0, .int .i64 0, .slice none 0 0, .int .i64 0, .int .i64 0, .int .i64 0, .int .i64 0, .int .i64 0, .int .i64 0, .int .i64 0, .int .i64 0, .int .i64 0, .int .i64 0, .int .i64 0, .int .i64 0, .int .i64 0, .int .i64 0, .int .i64 0, .slice none 0 0, .slice none 0 0, .slice none 0 0, .slice none 0 0, .slice none 0 0, .slice none 0 0, .string ⟨#[]⟩] 36)).drew := ((Below.refl _ _).alloc (Nat.le_refl _) _).drew
            have hX0 : Blk (wh.alloc (.cells #[.string ⟨#[]⟩, .int .i64 0, .int .i64 0, .int .i64 0, .slice none 0 0, .int .i64 0, .int .i64 0, .int .i64 0, .int .i64 0, .int .i64 0, .int .i64 0, .int .i64 0, .int .i64 0, .int .i64 0, .int .i64 0, .int .i64 0, .int .i64 0, .int .i64 0, .int .i64 0, .int .i64 0, .slice none 0 0, .slice none 0 0, .slice none 0 0, .slice none 0 0, .slice none 0 0, .slice none 0 0, .string ⟨#[]⟩] 36)).drew wh.heap.size 36 zeroBk := (Blk.new wh _ _).drew
            refine hK _ _ (Near.of hC4) ?_
            clear hK K hC
            generalize (wh.alloc (.cells #[.string ⟨#[]⟩, .int .i64 0, .int .i64 0, .int .i64 0, .slice none 0 0, .int .i64 0, .int .i64 0, .int .i64 0, .int .i64 0, .int .i64 0, .int .i64 0, .int .i64 0, .int .i64 0, .int .i64 0, .int .i64 0, .int .i64 0, .int .i64 0, .int .i64 0, .int .i64 0, .int .i64 0, .slice none 0 0, .slice none 0 0, .slice none 0 0, .slice none 0 0, .slice none 0 0, .slice none 0 0, .string ⟨#[]⟩] 36)).drew = w4 at *
            intro hC
            (try simp only [Act.put, List.setIfInBounds_toArray, List.set_cons_zero, List.set_cons_succ])
            refine rel_call (i := 2) (by kernel_rfl) rfl rfl ?_
            intro K hK
            go_simp
            have hlt4 := hX0.lt
            have hC5 : Below wh.heap.size wh (w4.alloc (.cells #[.string ⟨#[]⟩, .int .i64 0, .int .i64 0, .int .i64 0, .slice none 0 0, .int .i64 0, .int .i64 0, .int .i64 0, .int .i64 0, .int .i64 0, .int .i64 0, .int .i64 0, .int .i64 0, .int .i64 0, .int .i64 0, .int .i64 0, .int .i64 0, .int .i64 0, .int .i64 0, .int .i64 0, .slice none 0 0, .slice none 0 0, .slice none 0 0, .slice none 0 0, .slice none 0 0, .slice none 0 0, .string ⟨#[]⟩] 36)) := hC4.alloc hC4.size _
            have hX1 : Blk (w4.alloc (.cells #[.string ⟨#[]⟩, .int .i64 0, .int .i64 0, .int .i64 0, .slice none 0 0, .int .i64 0, .int .i64 0, .int .i64 0, .int .i64 0, .int .i64 0, .int .i64 0, .int .i64 0, .int .i64 0, .int .i64 0, .int .i64 0, .int .i64 0, .int .i64 0, .int .i64 0, .int .i64 0, .int .i64 0, .slice none 0 0, .slice none 0 0, .slice none 0 0, .slice none 0 0, .slice none 0 0, .slice none 0 0, .string ⟨#[]⟩] 36)) wh.heap.size 36 zeroBk := hX0.alloc _
            have hX2 : Blk (w4.alloc (.cells #[.string ⟨#[]⟩, .int .i64 0, .int .i64 0, .int .i64 0, .slice none 0 0, .int .i64 0, .int .i64 0, .int .i64 0, .int .i64 0, .int .i64 0, .int .i64 0, .int .i64 0, .int .i64 0, .int .i64 0, .int .i64 0, .int .i64 0, .int .i64 0, .int .i64 0, .int .i64 0, .int .i64 0, .slice none 0 0, .slice none 0 0, .slice none 0 0, .slice none 0 0, .slice none 0 0, .slice none 0 0, .string ⟨#[]⟩] 36)) w4.heap.size 36 zeroBk := Blk.new w4 _ _
            refine hK _ _ (Near.of hC5) ?_
            clear hK K hC
            generalize w4.alloc (.cells #[.string ⟨#[]⟩, .int .i64 0, .int .i64 0, .int .i64 0, .slice none 0 0, .int .i64 0, .int .i64 0, .int .i64 0, .int .i64 0, .int .i64 0, .int .i64 0, .int .i64 0, .int .i64 0, .int .i64 0, .int .i64 0, .int .i64 0, .int .i64 0, .int .i64 0, .int .i64 0, .int .i64 0, .slice none 0 0, .slice none 0 0, .slice none 0 0, .slice none 0 0, .slice none 0 0, .slice none 0 0, .string ⟨#[]⟩] 36) = w5 at *
            intro hC
            (try simp only [Act.put, List.setIfInBounds_toArray, List.set_cons_zero, List.set_cons_succ])
            refine rel_call (i := 4) (by kernel_rfl) rfl rfl ?_
            intro K hK
            refine wp_store_row 36 (.tmp 11) (.tmp 56) rfl (w4.heap.size) bcs rfl rfl 36 zeroBk hX2 hbz hbzz hb1 ?_
            have hY1 : Blk (w5.setRow (w4.heap.size) bcs) (w4.heap.size) 36 bcs := setRow_heap _ _ zeroBk _ _ _ hX2
            have hY2 : Blk (w5.setRow (w4.heap.size) bcs) (wh.heap.size) 36 zeroBk := (setRow_other _ _ _ _ (by omega)).trans hX1
            have hC6 := below_row (cs := bcs) (g := w4.heap.size) hC5 (by omega)
            refine hK _ _ (Near.of hC6) ?_
            clear hK K hC hX1 hX2
            generalize w5.setRow (w4.heap.size) bcs = w6 at *
            intro hC
            (try simp only [Act.put, List.setIfInBounds_toArray, List.set_cons_zero, List.set_cons_succ])
            refine rel_call (i := 5) (by kernel_rfl) rfl rfl ?_
            intro K hK
            refine wp_store_row 36 (.tmp 12) (.tmp 57) rfl (wh.heap.size) bcs rfl rfl 36 zeroBk hY2 hbz hbzz hb1 ?_
            have hZ2 : Blk (w6.setRow (wh.heap.size) bcs) (wh.heap.size) 36 bcs := setRow_heap _ _ zeroBk _ _ _ hY2
            have hZ1 : Blk (w6.setRow (wh.heap.size) bcs) (w4.heap.size) 36 bcs := (setRow_other _ _ _ _ (by omega)).trans hY1
            have hC7 := below_row (cs := bcs) (g := wh.heap.size) hC6 (by omega)
            refine hK _ _ (Near.of hC7) ?_
            clear hK K hC hY1 hY2
            generalize w6.setRow (wh.heap.size) bcs = w7 at *
            intro hC
            (try simp only [Act.put, List.setIfInBounds_toArray, List.set_cons_zero, List.set_cons_succ])
            refine wpAnyH_done (by kernel_rfl) ?_ _
            go_wp2_with fail
            go_meet
            exact ⟨w4.heap.size, wh.heap.size, rfl, rfl, by omega, by omega, by omega, hZ1, hZ2, hC7⟩
        case rest =>
          obtain ⟨g1, g2, rfl, rfl, hne, hg1, hg2, h1, h2, hbc⟩ := hcut
          have H1 := Lib.hid h1
          have H2 := Lib.hid h2
          have HBC := Lib.hid hbc
          clear h1 h2
          obtain ⟨i0, hi0, hz0, hz1, hz2⟩ := info_parts StockR.info
          have x1 : wc.cell? ⟨g1, 25, none⟩ = some (.slice sA l.length sc) := (H1.out.cell 25).trans HBK.out.st
          have y1 : wc.frozen? ⟨g1, 25, none⟩ = false := H1.out.frozen 25
          have x2 : (wc.setCell ⟨g1, 25, none⟩ (.slice none 0 0)).cell? ⟨g2, 25, none⟩ = some (.slice sA l.length sc) := ((H2.out.far (p := ⟨g1, 25, none⟩) (Ne.symm hne) _).cell 25).trans HBK.out.st
          have y2 : (wc.setCell ⟨g1, 25, none⟩ (.slice none 0 0)).frozen? ⟨g2, 25, none⟩ = false := (H2.out.far (p := ⟨g1, 25, none⟩) (Ne.symm hne) _).frozen 25
          have HV1 : Hid (Blk ((wc.setCell ⟨g1, 25, none⟩ (.slice none 0 0)).setCell ⟨g2, 25, none⟩ (.slice none 0 0)) g1 36 (bkV bcs (.slice none 0 0))) := Lib.hid ((H1.out.set_ 25 _).far (p := ⟨g2, 25, none⟩) hne _)
          have HV2 : Hid (Blk ((wc.setCell ⟨g1, 25, none⟩ (.slice none 0 0)).setCell ⟨g2, 25, none⟩ (.slice none 0 0)) g2 36 (bkV bcs (.slice none 0 0))) := Lib.hid ((H2.out.far (p := ⟨g1, 25, none⟩) (Ne.symm hne) _).set_ 25 _)
          have hb7 : Below wh.heap.size wh ((wc.setCell ⟨g1, 25, none⟩ (.slice none 0 0)).setCell ⟨g2, 25, none⟩ (.slice none 0 0)) := (HBC.out.setCell (p := ⟨g1, 25, none⟩) hg1 _).setCell (p := ⟨g2, 25, none⟩) hg2 _
          have k25 : ((wc.setCell ⟨g1, 25, none⟩ (.slice none 0 0)).setCell ⟨g2, 25, none⟩ (.slice none 0 0)).cell? ⟨w.heap.size, 25, none⟩ = some (.slice sA l.length sc) := ((HB6.out.step hb7).cell 25).trans HBK.out.st
          go_upto_region 9 with fail
          clear x1 y1 x2 y2 H1 H2 HBC hbc
          generalize (wc.setCell ⟨g1, 25, none⟩ (.slice none 0 0)).setCell ⟨g2, 25, none⟩ (.slice none 0 0) = w7 at *
          have hg1l := HV1.out.lt
          have hg2l := HV2.out.lt
          go_wp2_with fail
          clear k25
          go_loopw [63] (fun t wr => ∃ (j : Nat) (vo vb : Value), j ≤ l.length ∧ t = .int .i64 j ∧ Blk wr g1 36 (bkV bcs vo) ∧ Blk wr g2 36 (bkV bcs vb) ∧ wr.ownsRow w7.heap.size 59 5 vo ((l.take j).filter (Iv.sel i k q r)).length (cellsOf StkR.cells ((l.take j).filter (Iv.sel i k q r))) ∧ wr.ownsRow w7.heap.size 59 5 vb (l.reverse.take j).length (cellsOf StkR.cells (l.reverse.take j)) ∧ Apart vo vb ∧ Below wh.heap.size wh wr ∧ w7.heap.size ≤ wr.heap.size) (fun t _ => l.length - (intOf t).toNat)
          case atStart => exact ⟨0, _, _, by omega, rfl, HV1.out, HV2.out, World.ownsRow_nil _ _ _ _, World.ownsRow_nil _ _ _ _, apart_nil _, hb7, Nat.le_refl _⟩
          case round =>
            obtain ⟨j, vo, vb, hj, rfl, hv1, hv2, ho1, ho2, hap, hbr, hsz⟩ := hrel
            have HW1 := Lib.hid hv1
            have HW2 := Lib.hid hv2
            have HO1 := Lib.hid ho1
            have HO2 := Lib.hid ho2
            have HAP := Lib.hid hap
            clear hv1 hv2 ho1 ho2 hap
            have hbw := bel hb6 hbr
            by_cases hlt : j < l.length
            · obtain ⟨b0, o, hA, hbo, f0, f1, f2, f3, f4⟩ := StkR.at_ (Rd.now HR.out hbw) hlt
              subst hA
              have HSL := Lib.hid (Iv.sel_take i k q r l j hlt)
              have HRV := Lib.hid (Iv.rev_take l j hlt)
              generalize l[j] = x at *
              obtain ⟨se, ss, sb, sam, smg⟩ := x
              dsimp only at *
              have HSE : Hid (Iv.sel i k q r ⟨se, ss, sb, sam, smg⟩ = (ss == i && (sb == k && ((se == q || se == r) && (decide (0 < sam) && decide (0 < smg)))))) := Lib.hid rfl
              have hst := (Below.refl wr.heap.size wr).alloc (Nat.le_refl _) (.cells #[.int .i64 se, .int .i64 ss, .int .i64 sb, .int .i64 sam, .int .i64 smg] 59)
              have HST := Lib.hid (Blk.new wr 59 #[.int .i64 se, .int .i64 ss, .int .i64 sb, .int .i64 sam, .int .i64 smg])
              replace hbr := hbr.alloc hbr.size (.cells #[.int .i64 se, .int .i64 ss, .int .i64 sb, .int .i64 sam, .int .i64 smg] 59)
              replace hbw := bel hbw hst
              replace HW1 := Lib.hid (HW1.out.step hst)
              replace HW2 := Lib.hid (HW2.out.step hst)
              replace HO1 := Lib.hid (own_step HO1.out hst)
              replace HO2 := Lib.hid (own_step HO2.out hst)
              have hsz2 := Nat.le_trans hsz hst.size
              clear hsz hst
              obtain ⟨wo, rfl⟩ : ∃ x : World, x = wr := ⟨_, rfl⟩
              go_upto_region 12 with fail
              clear f0 f1 f2 f3 f4
              generalize hgs : wo.heap.size = gs at *
              generalize wo.alloc (.cells #[.int .i64 se, .int .i64 ss, .int .i64 sb, .int .i64 sam, .int .i64 smg] 59) = w11 at *
              clear hgs
              have HT11 := Lib.hid (HT6.out.step hbr)
              go_cut [102] (fun s wx => s = .bool (Iv.sel i k q r ⟨se, ss, sb, sam, smg⟩) ∧ wx = w11)
              case first =>
                have e0 : w11.cell? ⟨gs, 0, none⟩ = some (.int .i64 se) := HST.out.cell 0
                have e1 : w11.cell? ⟨gs, 1, none⟩ = some (.int .i64 ss) := HST.out.cell 1
                have e2 : w11.cell? ⟨gs, 2, none⟩ = some (.int .i64 sb) := HST.out.cell 2
                have e3 : w11.cell? ⟨gs, 3, none⟩ = some (.int .i64 sam) := HST.out.cell 3
                have e4 : w11.cell? ⟨gs, 4, none⟩ = some (.int .i64 smg) := HST.out.cell 4
                have t0 : w11.cell? ⟨w.heap.size + 1, 0, none⟩ = some (.int .i64 i) := HT11.out.cell 0
                have t1 : w11.cell? ⟨w.heap.size + 1, 1, none⟩ = some (.int .i64 k) := HT11.out.cell 1
                have t2 : w11.cell? ⟨w.heap.size + 1, 2, none⟩ = some (.int .i64 q) := HT11.out.cell 2
                cases c1 : (ss == i)
                · go_wp2_with fail
                  go_meet
                  exact ⟨by rw [HSE.out, c1]; rfl, rfl⟩
                cases c2 : (sb == k)
                · go_wp2_with fail
                  go_meet
                  exact ⟨by rw [HSE.out, c1, c2]; rfl, rfl⟩
                have h3 : ∀ b3 : Bool, (se == q || se == r) = b3 → True := fun _ _ => trivial
                clear h3
                by_cases c5 : 0 < sam
                · by_cases c6 : 0 < smg
                  · cases c3 : (se == q)
                    · cases c4 : (se == r)
                      · go_wp2_with fail
                        go_meet
                        exact ⟨by rw [HSE.out, c1, c2, c3, c4]; rfl, rfl⟩
                      · go_wp2_with fail
                        go_meet
                        exact ⟨by rw [HSE.out, c1, c2, c3, c4]; simp [c5, c6], rfl⟩
                    · go_wp2_with fail
                      go_meet
                      exact ⟨by rw [HSE.out, c1, c2, c3]; simp [c5, c6], rfl⟩
                  · have c6' : smg ≤ 0 := by omega
                    cases c3 : (se == q)
                    · cases c4 : (se == r)
                      · go_wp2_with fail
                        go_meet
                        exact ⟨by rw [HSE.out, c1, c2, c3, c4]; rfl, rfl⟩
                      · go_wp2_with fail
                        go_meet
                        exact ⟨by rw [HSE.out, c1, c2, c3, c4]; simp; omega, rfl⟩
                    · go_wp2_with fail
                      go_meet
                      exact ⟨by rw [HSE.out, c1, c2, c3]; simp; omega, rfl⟩
                · have c5' : sam ≤ 0 := by omega
                  cases c3 : (se == q)
                  · cases c4 : (se == r)
                    · go_wp2_with fail
                      go_meet
                      exact ⟨by rw [HSE.out, c1, c2, c3, c4]; rfl, rfl⟩
                    · go_wp2_with fail
                      go_meet
                      exact ⟨by rw [HSE.out, c1, c2, c3, c4]; simp; omega, rfl⟩
                  · go_wp2_with fail
                    go_meet
                    exact ⟨by rw [HSE.out, c1, c2, c3]; simp; omega, rfl⟩
              case rest =>
                obtain ⟨rfl, rfl⟩ := hcut
                obtain ⟨w11, rfl⟩ : ∃ x : World, x = wc := ⟨_, rfl⟩
                clear HSE
                rename_i hKK
                refine hKK _ _ ?_
                have hfl1 := List.length_filter_le (Iv.sel i k q r) (l.take j)
                have hfl2 : (l.take j).length ≤ 200 := by rw [List.length_take]; omega
                have hfl : ((l.take j).filter (Iv.sel i k q r)).length ≤ 1000 := by omega
                clear hfl1 hfl2
                go_cut [6] (fun s wx => s = .bool false ∧ ∃ v1 : Value, Blk wx g1 36 (bkV bcs v1) ∧ Blk wx g2 36 (bkV bcs vb) ∧ wx.ownsRow w7.heap.size 59 5 v1 ((l.take (j + 1)).filter (Iv.sel i k q r)).length (cellsOf StkR.cells ((l.take (j + 1)).filter (Iv.sel i k q r))) ∧ wx.ownsRow w7.heap.size 59 5 vb (l.reverse.take j).length (cellsOf StkR.cells (l.reverse.take j)) ∧ Apart v1 vb ∧ Below wh.heap.size wh wx ∧ w7.heap.size ≤ wx.heap.size)
                case first =>
                  generalize Iv.sel i k q r ⟨se, ss, sb, sam, smg⟩ = bs at *
                  cases bs
                  · have HF : Hid ((l.take (j + 1)).filter (Iv.sel i k q r) = (l.take j).filter (Iv.sel i k q r)) := Lib.hid (by rw [HSL.out, if_neg (by decide)])
                    go_wp2_with fail
                    go_meet
                    exact ⟨rfl, vo, HW1.out, HW2.out, by rw [HF.out]; exact HO1.out, HO2.out, HAP.out, hbr, hsz2⟩
                  · have HF : Hid ((l.take (j + 1)).filter (Iv.sel i k q r) = (l.take j).filter (Iv.sel i k q r) ++ [⟨se, ss, sb, sam, smg⟩]) := Lib.hid (by rw [HSL.out, if_pos rfl])
                    clear HSL
                    obtain ⟨Ao, no, co, hvo⟩ := own_shape HO1.out
                    subst hvo
                    have c25 : w11.cell? ⟨g1, 25, none⟩ = some (.slice Ao no co) := nbv_cell HW1.out HBK.out
                    have e0 : w11.cell? ⟨gs, 0, none⟩ = some (.int .i64 se) := HST.out.cell 0
                    have e1 : w11.cell? ⟨gs, 1, none⟩ = some (.int .i64 ss) := HST.out.cell 1
                    have e2 : w11.cell? ⟨gs, 2, none⟩ = some (.int .i64 sb) := HST.out.cell 2
                    have e3 : w11.cell? ⟨gs, 3, none⟩ = some (.int .i64 sam) := HST.out.cell 3
                    have e4 : w11.cell? ⟨gs, 4, none⟩ = some (.int .i64 smg) := HST.out.cell 4
                    go_wp2_with (at_builtin; refine wpList_append_where StkR.cells 5 StkR.len StkR.one (.tmp 104) (.tmp 106) 34 rfl w7.heap.size 59 i0 zeroSk 40 Tryz.underlying34 hi0 hz0 hz1 hz2 rfl (by decide) _ ((l.take j).filter (Iv.sel i k q r)) rfl (HO1.out.alloc _) w11.heap.size 1 ⟨se, ss, sb, sam, smg⟩ #[.int .i64 se, .int .i64 ss, .int .i64 sb, .int .i64 sam, .int .i64 smg] rfl (Blk.new w11 _ _) rfl (by simp only [maxLen]; omega) (by omega) (by simp; omega) rfl ?_)
                    intro v1 w1 ho hg hk
                    have hk2 := fun kk h => (hk kk h).imp id (fun h1 => show w11.heap.size ≤ kk by (try simp at h1); omega)
                    obtain ⟨A1, n1, c1, hv1⟩ := own_shape ho
                    subst hv1
                    have hN1 := (HW1.out.alloc _).grown hg (own_off HO1.out hg1l)
                    have hN2 := (HW2.out.alloc _).grown hg (own_off HO1.out hg2l)
                    have ho2 := (HO2.out.alloc _).kept hg HAP.out.ne
                    have hap1 := HAP.out.step HO2.out hk2
                    have hb1' := bel_own (hbr.alloc hbr.size _) (by have := hbr.size; simp; omega) (own_base (HO1.out.alloc _) hb7.size) hg
                    have hs1 := hg.size
                    have x1 : w1.cell? ⟨g1, 25, none⟩ = some (.slice Ao no co) := nbv_cell hN1 HBK.out
                    have y1 : w1.frozen? ⟨g1, 25, none⟩ = false := hN1.frozen 25
                    have HN1 := Lib.hid hN1
                    have HN2 := Lib.hid hN2
                    have HOA := Lib.hid ho
                    have HOB := Lib.hid ho2
                    have HAA := Lib.hid hap1
                    have HBB := Lib.hid hb1'
                    have HSS : Hid (w7.heap.size ≤ w1.heap.size) := Lib.hid (by simp at hs1; omega)
                    clear hN1 hN2 ho ho2 hap1 hb1' hs1 hg hk hk2 c25 e0 e1 e2 e3 e4
                    go_wp2_with fail
                    go_meet
                    exact ⟨rfl, .slice A1 n1 c1, by rw [← bkV_set bcs (.slice Ao no co)]; exact HN1.out.set_ 25 _, HN2.out.far (p := ⟨g1, 25, none⟩) (Ne.symm hne) _, by rw [HF.out, List.length_append]; exact own_far HOA.out hg1l 25 _, own_far HOB.out hg1l 25 _, HAA.out, HBB.out.setCell (p := ⟨g1, 25, none⟩) hg1 _, by have h := HSS.out; simpa [World.setCell] using h⟩
                case rest =>
                  obtain ⟨rfl, v1, hv1, hv2, ho1, ho2, hap, hbx, hsx⟩ := hcut
                  clear HW1 HW2 HO1 HO2 HAP hbr hsz2 HSL HST HT11
                  obtain ⟨w12, rfl⟩ : ∃ x : World, x = wc := ⟨_, rfl⟩
                  have HN1 := Lib.hid hv1
                  have HN2 := Lib.hid hv2
                  have HO1 := Lib.hid ho1
                  have HO2 := Lib.hid ho2
                  have HAP := Lib.hid hap
                  clear hv1 hv2 ho1 ho2 hap
                  obtain ⟨Ab, nb, cb, hvb⟩ := own_shape HO2.out
                  subst hvb
                  obtain ⟨u, hu⟩ : ∃ u : Nat, u = l.length - 1 - j := ⟨_, rfl⟩
                  have hul : u < l.length := by omega
                  have HRU : Hid (l.reverse.take (j + 1) = l.reverse.take j ++ [l[u]]) := Lib.hid (by subst hu; exact HRV.out)
                  have hbw12 := bel hb6 hbx
                  obtain ⟨b1, o1, hA1, hbo1, f0, f1, f2, f3, f4⟩ := StkR.at_ (HR.out.below hbw12 (Nat.le_refl _)) hul
                  injection hA1 with hA1
                  injection hA1 with hA2 hA3
                  subst hA2 hA3
                  generalize l[u] = z at *
                  obtain ⟨ze, zs, zb, zam, zmg⟩ := z
                  dsimp only at *
                  have hwl : w.heap.size < w7.heap.size := Nat.lt_of_lt_of_le HB6.out.lt hb7.size
                  have p1 : ∀ d : LaterB w7.heap.size w12, d.now.cell? ⟨g2, 25, none⟩ = some (.slice Ab nb cb) := fun d => d.cell hg2l (nbv_cell HN2.out HBK.out)
                  have p2 : ∀ d : LaterB w7.heap.size w12, d.now.cell? ⟨w.heap.size, 25, none⟩ = some (.slice (some ⟨b0, o, none⟩) l.length sc) := fun d => d.cell hwl (((HB6.out.step hbx).cell 25).trans HBK.out.st)
                  have q0 : ∀ d : LaterB w7.heap.size w12, d.now.cell? ⟨b0, o + u * 5, none⟩ = some (.int .i64 ze) := fun d => d.cell (by omega) f0
                  have q1 : ∀ d : LaterB w7.heap.size w12, d.now.cell? ⟨b0, o + u * 5 + 1, none⟩ = some (.int .i64 zs) := fun d => d.cell (by omega) f1
                  have q2 : ∀ d : LaterB w7.heap.size w12, d.now.cell? ⟨b0, o + u * 5 + 2, none⟩ = some (.int .i64 zb) := fun d => d.cell (by omega) f2
                  have q3 : ∀ d : LaterB w7.heap.size w12, d.now.cell? ⟨b0, o + u * 5 + 3, none⟩ = some (.int .i64 zam) := fun d => d.cell (by omega) f3
                  have q4 : ∀ d : LaterB w7.heap.size w12, d.now.cell? ⟨b0, o + u * 5 + 4, none⟩ = some (.int .i64 zmg) := fun d => d.cell (by omega) f4
                  have hi1 : IntKind.i64.wrap ((l.length : Int) - 1) = (l.length : Int) - 1 := IntWalk.i64_in _ (by omega)
                  have hi2 : IntKind.i64.wrap ((l.length : Int) - 1 - (j : Int)) = (u : Int) := by rw [IntWalk.i64_in _ (by omega)]; omega
                  have hrl : (l.reverse.take j).length ≤ 1000 := by rw [List.length_take]; omega
                  clear f0 f1 f2 f3 f4 hu
                  go_wp2_with fail
                  refine relT_begin (n := 16) w7.heap.size 15 w12 (by kernel_rfl) rfl ?_
                  have hC : NearB w7.heap.size w12 w12.drew := NearB.of (Below.refl _ _).drew
                  refine relT_want (i := 0) rfl rfl (by kernel_rfl) (by kernel_rfl) (by kernel_rfl) rfl rfl (by kernel_rfl) (by kernel_rfl) (fun _ _ _ _ h => h) hC ?_
                  intro K hK
                  go_big_quiet_op
                  go_big_quiet_on
                  refine relT_want (i := 1) rfl rfl (by kernel_rfl) (by kernel_rfl) (by kernel_rfl) rfl rfl (by kernel_rfl) (by kernel_rfl) (fun _ _ _ _ h => h) hC ?_
                  intro K hK
                  go_big_quiet_op
                  go_big_quiet_on
                  refine relT_want (i := 2) rfl rfl (by kernel_rfl) (by kernel_rfl) (by kernel_rfl) rfl rfl (by kernel_rfl) (by kernel_rfl) (fun _ _ _ _ h => h) hC ?_
                  intro K hK
                  go_big_quiet_op
                  go_big_quiet_on
                  refine relT_want (i := 3) rfl rfl (by kernel_rfl) (by kernel_rfl) (by kernel_rfl) rfl rfl (by kernel_rfl) (by kernel_rfl) (fun _ _ _ _ h => h) hC ?_
                  intro K hK
                  go_big_quiet_op
                  go_big_quiet_on
                  refine relT_want (i := 4) rfl rfl (by kernel_rfl) (by kernel_rfl) (by kernel_rfl) rfl rfl (by kernel_rfl) (by kernel_rfl) (fun _ _ _ _ h => h) hC ?_
                  intro K hK
                  go_big_quiet_op
                  go_big_quiet_on
                  refine relT_want (i := 5) rfl rfl (by kernel_rfl) (by kernel_rfl) (by kernel_rfl) rfl rfl (by kernel_rfl) (by kernel_rfl) (fun _ _ _ _ h => h) hC ?_
                  intro K hK
                  go_big_quiet_op
                  go_big_quiet_on
                  refine relT_want (i := 6) rfl rfl (by kernel_rfl) (by kernel_rfl) (by kernel_rfl) rfl rfl (by kernel_rfl) (by kernel_rfl) (fun _ _ _ _ h => h) hC ?_
                  intro K hK
                  go_big_quiet_op
                  go_big_quiet_on
                  refine relT_want (i := 7) rfl rfl (by kernel_rfl) (by kernel_rfl) (by kernel_rfl) rfl rfl (by kernel_rfl) (by kernel_rfl) (fun _ _ _ _ h => h) hC ?_
                  intro K hK
                  go_big_quiet_op
                  go_big_quiet_on
                  refine relT_want (i := 8) rfl rfl (by kernel_rfl) (by kernel_rfl) (by kernel_rfl) rfl rfl (by kernel_rfl) (by kernel_rfl) (fun _ _ _ _ h => h) hC ?_
                  intro K hK
                  go_big_quiet_op
                  go_big_quiet_on
                  refine relT_want (i := 9) rfl rfl (by kernel_rfl) (by kernel_rfl) (by kernel_rfl) rfl rfl (by kernel_rfl) (by kernel_rfl) (fun _ _ _ _ h => h) hC ?_
                  intro K hK
                  go_big_quiet_op
                  go_big_quiet_on
                  refine relT_want (i := 10) rfl rfl (by kernel_rfl) (by kernel_rfl) (by kernel_rfl) rfl rfl (by kernel_rfl) (by kernel_rfl) (fun _ _ _ _ h => h) hC ?_
                  intro K hK
                  go_big_quiet_op
                  go_big_quiet_on
                  refine relT_want (i := 11) rfl rfl (by kernel_rfl) (by kernel_rfl) (by kernel_rfl) rfl rfl (by kernel_rfl) (by kernel_rfl) (fun _ _ _ _ h => h) hC ?_
                  intro K hK
                  go_big_quiet_op
                  go_big_quiet_on
                  clear p1 p2 q0 q1 q2 q3 q4 hi1 hi2 hC
                  refine relT_call (i := 12) (by kernel_rfl) rfl rfl ?_
                  intro K hK
                  go_simp
                  have hC2 : Below w7.heap.size w12 (w12.alloc (.cells #[.int .i64 ze, .int .i64 zs, .int .i64 zb, .int .i64 zam, .int .i64 zmg] 59)).drew := ((Below.refl _ _).alloc hsx _).drew
                  refine hK _ _ (.inr (.inr (NearB.of hC2))) ?_
                  clear hK K
                  have HXB := Lib.hid ((Blk.new w12 59 #[.int .i64 ze, .int .i64 zs, .int .i64 zb, .int .i64 zam, .int .i64 zmg]).drew)
                  have HM1 := Lib.hid ((HN1.out.alloc (.cells #[.int .i64 ze, .int .i64 zs, .int .i64 zb, .int .i64 zam, .int .i64 zmg] 59)).drew)
                  have HM2 := Lib.hid ((HN2.out.alloc (.cells #[.int .i64 ze, .int .i64 zs, .int .i64 zb, .int .i64 zam, .int .i64 zmg] 59)).drew)
                  have hst : Below w12.heap.size w12 (w12.alloc (.cells #[.int .i64 ze, .int .i64 zs, .int .i64 zb, .int .i64 zam, .int .i64 zmg] 59)).drew := ((Below.refl _ _).alloc (Nat.le_refl _) _).drew
                  have HP1 := Lib.hid (own_step HO1.out hst)
                  have HP2 := Lib.hid (own_step HO2.out hst)
                  have hbx2 := bel hbx hst
                  have hsy := hst.size
                  clear HN1 HN2 HO1 HO2 hst hbx
                  generalize hgn : w12.heap.size = gn at *
                  generalize (w12.alloc (.cells #[.int .i64 ze, .int .i64 zs, .int .i64 zb, .int .i64 zam, .int .i64 zmg] 59)).drew = w13 at *
                  try simp only [Act.put, List.setIfInBounds_toArray, List.set_cons_zero, List.set_cons_succ]
                  refine relT_call (i := 13) (by kernel_rfl) rfl rfl ?_
                  intro K hK
                  refine wp_append_where StkR.cells 5 StkR.len StkR.one (.tmp 110) (.tmp 121) 34 rfl w7.heap.size 59 i0 zeroSk 40 Tryz.underlying34 hi0 hz0 hz1 hz2 rfl (by decide) _ (l.reverse.take j) rfl HP2.out gn 1 ⟨ze, zs, zb, zam, zmg⟩ #[.int .i64 ze, .int .i64 zs, .int .i64 zb, .int .i64 zam, .int .i64 zmg] rfl HXB.out rfl (by simp only [maxLen]; omega) (by omega) (by omega) ?_
                  intro v2 w2 ho hg hk
                  obtain ⟨A4, n4, c4, hv4⟩ := own_shape ho
                  subst hv4
                  have hC3 : Below w7.heap.size w12 w2 := bel_own hC2 (by omega) HP2.out hg
                  have hq1 := HM1.out.grown hg (own_off HP2.out hg1l)
                  have hq2 := HM2.out.grown hg (own_off HP2.out hg2l)
                  have hp1 := HP1.out.kept hg HAP.out.flip.ne
                  have hap1 := (HAP.out.flip.step HP1.out hk).flip
                  have hbe := bel_own hbx2 (by have := hbx2.size; omega) (own_base HP2.out hb7.size) hg
                  have hs2 := hg.size
                  have x1 : w2.cell? ⟨g2, 25, none⟩ = some (.slice Ab nb cb) := nbv_cell hq2 HBK.out
                  have y1 : w2.frozen? ⟨g2, 25, none⟩ = false := hq2.frozen 25
                  have HQ1 := Lib.hid hq1
                  have HQ2 := Lib.hid hq2
                  have HPA := Lib.hid hp1
                  have HPB := Lib.hid ho
                  have HAA := Lib.hid hap1
                  have HBE := Lib.hid hbe
                  have HSS : Hid (w7.heap.size ≤ w2.heap.size) := Lib.hid (by omega)
                  refine hK _ _ (.inr (.inr (NearB.of hC3))) ?_
                  clear hK K hq1 hq2 hp1 ho hap1 hbe hs2 hg hk hC2
                  try simp only [Act.put, List.setIfInBounds_toArray, List.set_cons_zero, List.set_cons_succ]
                  refine relT_call (i := 14) (by kernel_rfl) rfl rfl ?_
                  intro K hK
                  go_simp
                  refine hK _ _ (.inr (.inr (NearB.of hC3))) ?_
                  clear hK K
                  try simp only [Act.put, List.setIfInBounds_toArray, List.set_cons_zero, List.set_cons_succ]
                  refine relT_call (i := 15) (by kernel_rfl) rfl rfl ?_
                  intro K hK
                  go_simp
                  refine hK _ _ (.inr (.inl rfl)) ?_
                  clear hK K x1 y1 hC3
                  try simp only [Act.put, List.setIfInBounds_toArray, List.set_cons_zero, List.set_cons_succ]
                  refine wpAnyT_done (by kernel_rfl) ?_ _
                  go_wp2_with fail
                  go_roundw
                  case rel => exact ⟨j + 1, v1, .slice A4 n4 c4, by omega, by go_num, HQ1.out.far (p := ⟨g2, 25, none⟩) hne _, by rw [← bkV_set bcs (.slice Ab nb cb)]; exact HQ2.out.set_ 25 _, own_far HPA.out hg2l 25 _, by rw [HRU.out]; exact own_far HPB.out hg2l 25 _, HAA.out, HBE.out.setCell (p := ⟨g2, 25, none⟩) hg2 _, by have h := HSS.out; simpa [World.setCell] using h⟩
                  case measure => simp [intOf]; omega
            · have HF1 : Hid ((l.take j).filter (Iv.sel i k q r) = l.filter (Iv.sel i k q r)) := Lib.hid (by rw [List.take_of_length_le (by omega)])
              have HF2 : Hid (l.reverse.take j = l.reverse) := Lib.hid (List.take_of_length_le (by rw [List.length_reverse]; omega))
              rw [HF1.out] at HO1
              rw [HF2.out] at HO2
              obtain ⟨A4, c4, hv4, hr4⟩ := Rd.of_own HO1.out
              obtain ⟨A5, c5, hv5, hr5⟩ := Rd.of_own HO2.out
              subst hv4 hv5
              have hlf := List.length_filter_le (Iv.sel i k q r) l
              have HS1 : Hid (∀ W, Below wr.heap.size wr W → SIn W l sA) := Lib.hid (fun W hW => HS.out W (bel hbw hW))
              have HS2 : Hid (∀ W, Below wr.heap.size wr W → SIn W (l.filter (Iv.sel i k q r)) A4) := Lib.hid (fun W hW => ⟨Rd.now hr4 hW, by omega⟩)
              have HS3 : Hid (∀ W, Below wr.heap.size wr W → SIn W l.reverse A5) := Lib.hid (fun W hW => ⟨Rd.now hr5 hW, by rw [List.length_reverse]; omega⟩)
              have kp1 := fun W h hS hC => iposting_any gcs cur y m p cl cA cc ro el eA ec W bcs l sA sc cs i k q A2 c2 HG HBK.out h OK.out.1 hS hC hw1 hw2 hw3
              have kp2 := fun W h hS hC => iposting_any gcs cur y m p cl cA cc ro el eA ec W (bkV bcs (.slice A4 (l.filter (Iv.sel i k q r)).length c4)) (l.filter (Iv.sel i k q r)) A4 c4 cs i k q A2 c2 HG (bkV_st HBK.out) h OK.out.1 hS hC hw1 hw2 hw3
              have kp3 := fun W h hS hC => iposting_any gcs cur y m p cl cA cc ro el eA ec W (bkV bcs (.slice A5 l.reverse.length c5)) l.reverse A5 c5 cs i k q A2 c2 HG (bkV_st HBK.out) h OK.out.1 hS hC hw1 hw2 hw3
              obtain ⟨op1, op2⟩ := Iv.own_post (r := r) (ro := ro) (c := cs) (a := i) (b := k) (q := q) HVT.out (fun a b h => HSELR.out a b (by omega))
              obtain ⟨bp1, bp2⟩ := Iv.back_post (q := q) (ro := ro) (c := cs) (a := i) (b := k) HVT.out
              rw [op1, op2] at kp2
              rw [bp1, bp2] at kp3
              have HLN := Lib.hid (ipL_len (V := Gr.gv cur cl ro el (Cal.ok y m p)) (q := q) (p := p) (n := el.length) (ro := ro) (l := l) (c := cs) (a := i) (b := k))
              clear op1 op2 bp1 bp2
              simp only [List.length_reverse] at kp3 HW2
              have KP1 := Lib.hid kp1
              have KP2 := Lib.hid kp2
              have KP3 := Lib.hid kp3
              clear kp1 kp2 kp3 hr4 hr5
              generalize Iv.pL (Gr.gv cur cl ro el (Cal.ok y m p)) q p el.length ro l cs i k = L at *
              generalize Iv.pE (Gr.gv cur cl ro el (Cal.ok y m p)) q p el.length ro l cs i k = E at *
              have hE : (E == E) = true := by simp
              replace HC := Lib.hid (HC.out.step hbr)
              have HBr := Lib.hid (HB6.out.step hbr)
              have HTr := Lib.hid (HT6.out.step hbr)
              have hbz2 : (Tryz.prog.info? 36).map (·.size) = some (bkV bcs (.slice A4 (l.filter (Iv.sel i k q r)).length c4)).size := by rw [bkV_size]; exact hbz
              have hbz3 : (Tryz.prog.info? 36).map (·.size) = some (bkV bcs (.slice A5 l.length c5)).size := by rw [bkV_size]; exact hbz
              have hs1 := Below.refl wr.heap.size wr
              clear HO1 HO2 HAP hbr hsz hb6 hb7 HB6 HT6 hlf
              obtain ⟨wp1, hwp1⟩ : ∃ x : World, x = wr := ⟨_, rfl⟩
              rw [← hwp1]
              rw [← hwp1] at hs1
              have HWP := Lib.hid hwp1
              clear hwp1
              replace hs1 : Below wr.heap.size wr wp1 := by rw [HWP.out]; exact Below.refl _ _
              have t0 : wp1.cell? ⟨w.heap.size + 1, 0, none⟩ = some (.int .i64 i) := (HTr.out.step hs1).cell 0
              have t1 : wp1.cell? ⟨w.heap.size + 1, 1, none⟩ = some (.int .i64 k) := (HTr.out.step hs1).cell 1
              have t2 : wp1.cell? ⟨w.heap.size + 1, 2, none⟩ = some (.int .i64 q) := (HTr.out.step hs1).cell 2
              go_upto_region 17 with (first
                | (refine wpList_load_blk 36 (.tmp 3) rfl (w.heap.size) rfl (by kernel_rfl) (HBr.out.step hs1) Tryz.underlying36 hbz ?_)
                | (go_at_call 13; refine (KP1.out _ (H.out.step (bel hbw hs1)) (HS1.out _ hs1) (HC.out.step hs1)).mono ?_; rintro e wq1 ⟨x, rfl, hI, hOw, hb9⟩; have hsq1 := bel hs1 hb9; have HI1 := Lib.hid hI; have HOw1 := Lib.hid hOw; clear hb9 hI hOw t0 t1 t2; obtain ⟨xk1, xe1, xo1, xr1, ⟨xl1, xA1, xc1⟩⟩ := x; simp only [PostR.arr, Sl.val]))
              have hst := (Below.refl wq1.heap.size wq1).alloc (Nat.le_refl _) (.cells #[.int .i64 xk1, .int .i64 xe1, .int .i64 xo1, .int .i64 xr1, .slice xA1 xl1.length xc1] 48)
              have HX1_1 := Lib.hid (Blk.new wq1 48 #[.int .i64 xk1, .int .i64 xe1, .int .i64 xo1, .int .i64 xr1, .slice xA1 xl1.length xc1])
              have HR1_1 := Lib.hid (Rd.now (own_rd HOw1.out) hst)
              have hs2 := bel hsq1 hst
              clear hst HOw1 hsq1 hs1
              generalize hgx1 : wq1.heap.size = gx1 at *
              have HGX1 := Lib.hid hgx1
              clear hgx1
              generalize wq1.alloc (.cells #[.int .i64 xk1, .int .i64 xe1, .int .i64 xo1, .int .i64 xr1, .slice xA1 xl1.length xc1] 48) = wp2 at *
              have t0 : wp2.cell? ⟨w.heap.size + 1, 0, none⟩ = some (.int .i64 i) := (HTr.out.step hs2).cell 0
              have t1 : wp2.cell? ⟨w.heap.size + 1, 1, none⟩ = some (.int .i64 k) := (HTr.out.step hs2).cell 1
              have t2 : wp2.cell? ⟨w.heap.size + 1, 2, none⟩ = some (.int .i64 q) := (HTr.out.step hs2).cell 2
              go_upto_region 18 with (first
                | (refine wpList_load_blk 36 (.tmp 11) rfl (g1) rfl (by kernel_rfl) (HW1.out.step hs2) Tryz.underlying36 hbz2 ?_)
                | (go_at_call 13; refine (KP2.out _ (H.out.step (bel hbw hs2)) (HS2.out _ hs2) (HC.out.step hs2)).mono ?_; rintro e wq2 ⟨x, rfl, hI, hOw, hb9⟩; have hsq2 := bel hs2 hb9; have HI2 := Lib.hid hI; have HOw2 := Lib.hid hOw; have HXq1_2 := Lib.hid (HX1_1.out.step hb9); have HRq1_2 := Lib.hid (Rd.now HR1_1.out hb9); clear hb9 hI hOw t0 t1 t2; obtain ⟨xk2, xe2, xo2, xr2, ⟨xl2, xA2, xc2⟩⟩ := x; simp only [PostR.arr, Sl.val]))
              have hst := (Below.refl wq2.heap.size wq2).alloc (Nat.le_refl _) (.cells #[.int .i64 xk2, .int .i64 xe2, .int .i64 xo2, .int .i64 xr2, .slice xA2 xl2.length xc2] 48)
              have HX2_2 := Lib.hid (Blk.new wq2 48 #[.int .i64 xk2, .int .i64 xe2, .int .i64 xo2, .int .i64 xr2, .slice xA2 xl2.length xc2])
              have HR2_2 := Lib.hid (Rd.now (own_rd HOw2.out) hst)
              have HX1_2 := Lib.hid (HXq1_2.out.step hst)
              have HR1_2 := Lib.hid (Rd.now HRq1_2.out hst)
              have hs3 := bel hsq2 hst
              clear hst HOw2 hsq2 hs2
              generalize hgx2 : wq2.heap.size = gx2 at *
              have HGX2 := Lib.hid hgx2
              clear hgx2
              generalize wq2.alloc (.cells #[.int .i64 xk2, .int .i64 xe2, .int .i64 xo2, .int .i64 xr2, .slice xA2 xl2.length xc2] 48) = wp3 at *
              have t0 : wp3.cell? ⟨w.heap.size + 1, 0, none⟩ = some (.int .i64 i) := (HTr.out.step hs3).cell 0
              have t1 : wp3.cell? ⟨w.heap.size + 1, 1, none⟩ = some (.int .i64 k) := (HTr.out.step hs3).cell 1
              have t2 : wp3.cell? ⟨w.heap.size + 1, 2, none⟩ = some (.int .i64 q) := (HTr.out.step hs3).cell 2
              go_upto_region 19 with (first
                | (refine wpList_load_blk 36 (.tmp 12) rfl (g2) rfl (by kernel_rfl) (HW2.out.step hs3) Tryz.underlying36 hbz3 ?_)
                | (go_at_call 13; refine (KP3.out _ (H.out.step (bel hbw hs3)) (HS3.out _ hs3) (HC.out.step hs3)).mono ?_; rintro e wq3 ⟨x, rfl, hI, hOw, hb9⟩; have hsq3 := bel hs3 hb9; have HI3 := Lib.hid hI; have HOw3 := Lib.hid hOw; have HXq1_3 := Lib.hid (HX1_2.out.step hb9); have HRq1_3 := Lib.hid (Rd.now HR1_2.out hb9); have HXq2_3 := Lib.hid (HX2_2.out.step hb9); have HRq2_3 := Lib.hid (Rd.now HR2_2.out hb9); clear hb9 hI hOw t0 t1 t2; obtain ⟨xk3, xe3, xo3, xr3, ⟨xl3, xA3, xc3⟩⟩ := x; simp only [PostR.arr, Sl.val]))
              have hst := (Below.refl wq3.heap.size wq3).alloc (Nat.le_refl _) (.cells #[.int .i64 xk3, .int .i64 xe3, .int .i64 xo3, .int .i64 xr3, .slice xA3 xl3.length xc3] 48)
              have HX3_3 := Lib.hid (Blk.new wq3 48 #[.int .i64 xk3, .int .i64 xe3, .int .i64 xo3, .int .i64 xr3, .slice xA3 xl3.length xc3])
              have HR3_3 := Lib.hid (Rd.now (own_rd HOw3.out) hst)
              have HX1_3 := Lib.hid (HXq1_3.out.step hst)
              have HR1_3 := Lib.hid (Rd.now HRq1_3.out hst)
              have HX2_3 := Lib.hid (HXq2_3.out.step hst)
              have HR2_3 := Lib.hid (Rd.now HRq2_3.out hst)
              have hs4 := bel hsq3 hst
              clear hst HOw3 hsq3 hs3
              generalize hgx3 : wq3.heap.size = gx3 at *
              have HGX3 := Lib.hid hgx3
              clear hgx3
              generalize wq3.alloc (.cells #[.int .i64 xk3, .int .i64 xe3, .int .i64 xo3, .int .i64 xr3, .slice xA3 xl3.length xc3] 48) = wp4 at *
              have HSA := Lib.hid (isP_same HI1.out HI2.out)
              have HSB := Lib.hid (isP_same HI1.out HI3.out)
              have hx1 : xl1.length ≤ 3 := by rw [show xl1 = L from HI1.out.1]; exact HLN.out
              have hx2 : xl2.length ≤ 3 := by rw [show xl2 = L from HI2.out.1]; exact HLN.out
              have hx3 : xl3.length ≤ 3 := by rw [show xl3 = L from HI3.out.1]; exact HLN.out
              have hbf := bel hbw hs4
              have hC5 : Below wp4.heap.size wp4 ((wp4.alloc (.cells (pair2 #[.int .i64 xk1, .int .i64 xe1, .int .i64 xo1, .int .i64 xr1, .slice xA1 xl1.length xc1] #[.int .i64 xk1, .int .i64 xe1, .int .i64 xo1, .int .i64 xr1, .slice xA1 xl1.length xc1]) 48)).alloc (.cells (pair2 #[.int .i64 xk2, .int .i64 xe2, .int .i64 xo2, .int .i64 xr2, .slice xA2 xl2.length xc2] #[.int .i64 xk3, .int .i64 xe3, .int .i64 xo3, .int .i64 xr3, .slice xA3 xl3.length xc3]) 48)) := ((Below.refl _ _).alloc (Nat.le_refl _) _).alloc (by simp) _
              have HPX := Lib.hid (pin_two3 (x := ⟨xk1, xe1, xo1, xr1, ⟨xl1, xA1, xc1⟩⟩) (z := ⟨xk1, xe1, xo1, xr1, ⟨xl1, xA1, xc1⟩⟩) ((Blk.new wp4 48 (pair2 #[.int .i64 xk1, .int .i64 xe1, .int .i64 xo1, .int .i64 xr1, .slice xA1 xl1.length xc1] #[.int .i64 xk1, .int .i64 xe1, .int .i64 xo1, .int .i64 xr1, .slice xA1 xl1.length xc1])).alloc (.cells (pair2 #[.int .i64 xk2, .int .i64 xe2, .int .i64 xo2, .int .i64 xr2, .slice xA2 xl2.length xc2] #[.int .i64 xk3, .int .i64 xe3, .int .i64 xo3, .int .i64 xr3, .slice xA3 xl3.length xc3]) 48)) rfl (Rd.now HR1_3.out hC5) (Rd.now HR1_3.out hC5) hx1 hx1)
              have HPZ := Lib.hid (pin_two3 (x := ⟨xk2, xe2, xo2, xr2, ⟨xl2, xA2, xc2⟩⟩) (z := ⟨xk3, xe3, xo3, xr3, ⟨xl3, xA3, xc3⟩⟩) (blk_new2 wp4 (.cells (pair2 #[.int .i64 xk1, .int .i64 xe1, .int .i64 xo1, .int .i64 xr1, .slice xA1 xl1.length xc1] #[.int .i64 xk1, .int .i64 xe1, .int .i64 xo1, .int .i64 xr1, .slice xA1 xl1.length xc1]) 48) 48 (pair2 #[.int .i64 xk2, .int .i64 xe2, .int .i64 xo2, .int .i64 xr2, .slice xA2 xl2.length xc2] #[.int .i64 xk3, .int .i64 xe3, .int .i64 xo3, .int .i64 xr3, .slice xA3 xl3.length xc3])) rfl (Rd.now HR2_3.out hC5) (Rd.now HR3_3.out hC5) hx2 hx3)
              have HSY := Lib.hid (samep_yes [⟨xk1, xe1, xo1, xr1, ⟨xl1, xA1, xc1⟩⟩, ⟨xk1, xe1, xo1, xr1, ⟨xl1, xA1, xc1⟩⟩] [⟨xk2, xe2, xo2, xr2, ⟨xl2, xA2, xc2⟩⟩, ⟨xk3, xe3, xo3, xr3, ⟨xl3, xA3, xc3⟩⟩] (some ⟨wp4.heap.size, 0, none⟩) (some ⟨wp4.heap.size + 1, 0, none⟩) 2 2 _ HPX.out HPZ.out rfl (two_same HSA.out HSB.out))
              unfold BoolPost pair2 at HSY
              replace hbf := bel hbf hC5
              unfold pair2 at hbf
              clear hC5 HPX HPZ hx1 hx2 hx3 hs4
              simp only [List.append_toArray, List.cons_append, List.nil_append] at HSY hbf
              go_wp2_with (first
                | (refine wpList_load_blk 48 (.tmp 15) rfl gx1 rfl (by kernel_rfl) HX1_3.out Tryz.underlying48 post_size ?_)
                | (refine wpList_load_blk 48 (.tmp 17) rfl gx2 rfl (by kernel_rfl) (HX2_3.out.alloc _) Tryz.underlying48 post_size ?_)
                | (refine wpList_load_blk 48 (.tmp 19) rfl gx3 rfl (by kernel_rfl) (HX3_3.out.alloc _) Tryz.underlying48 post_size ?_)
                | (go_at_call 15; refine HSY.out.mono ?_; rintro en wz ⟨rfl, hb9⟩; replace hbf := bel hbf hb9; clear hb9))
              go_ret
              exact ⟨rfl, hbf⟩
end
end Go.Proofs.YthfbpbbepogllaaGreat
