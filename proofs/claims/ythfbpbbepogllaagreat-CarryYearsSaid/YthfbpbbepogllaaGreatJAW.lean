/- Texts of this claim, put together. -/
import Derived.Test.YthfbpbbepogllaaGreatInvWalksZ
/- The walks of Valid of inventory's notes. -/
namespace Go.Proofs.YthfbpbbepogllaaGreat
set_option linter.unusedVariables false
set_option linter.unusedSimpArgs false
open Go.RowKit

section
variable (gcs : Array Value) (cur : ByteArray) (y m p : Int) (cl : List Acc) (cA : Option Addr) (cc : Nat) (ro : RolesR) (el : List EntR) (eA : Option Addr) (ec : Nat) (w : World)
def Iv.bad (p : Int) (n : Nat) (x : StkR) : Bool := !Iv.ok p n x
set_option maxRecDepth 100000 in
set_option maxHeartbeats 4000000 in
theorem ibad_any (e s b am mg : Int) (g : Nat) (HG : Hid (gcs = #[.string cur, .int .i64 y, .int .i64 m, .int .i64 p, .slice cA cl.length cc, .int .i64 ro.investment, .int .i64 ro.goodwill, .int .i64 ro.associates, .int .i64 ro.inventory, .int .i64 ro.reserve, .int .i64 ro.minority, .int .i64 ro.retained, .int .i64 ro.acquired, .int .i64 ro.owners, .int .i64 ro.disposal, .int .i64 ro.associateProfit, .int .i64 ro.dividends, .int .i64 ro.minorityProfit, .int .i64 ro.difference, .int .i64 ro.margin, .slice eA el.length ec])) (hB : Blk w g 29 gcs) :
    Calls Tryz.prog 51 #[.agg #[.int .i64 e, .int .i64 s, .int .i64 b, .int .i64 am, .int .i64 mg], .pointer (some ⟨g, 0, none⟩)] w (BoolPost (Iv.bad p el.length ⟨e, s, b, am, mg⟩) w) := by
  unfold BoolPost
  have hgi : (Tryz.prog.info? 29).map (·.size) = some gcs.size := by rw [HG.out]; exact grp_size
  have hb : Below w.heap.size w (w.alloc (.cells #[.int .i64 e, .int .i64 s, .int .i64 b, .int .i64 am, .int .i64 mg] 59)) := (Below.refl _ _).alloc (Nat.le_refl _) _
  have HB := Lib.hid (hB.alloc (.cells #[.int .i64 e, .int .i64 s, .int .i64 b, .int .i64 am, .int .i64 mg] 59))
  have K := Lib.hid (fun W => iproper_any gcs cur y m p cl cA cc ro el eA ec W e s b am mg HG)
  unfold BoolPost at K
  have HE : Hid (Iv.bad p el.length ⟨e, s, b, am, mg⟩ = !Iv.ok p el.length ⟨e, s, b, am, mg⟩) := Lib.hid rfl
  generalize Iv.bad p el.length ⟨e, s, b, am, mg⟩ = R at *
  generalize Iv.ok p el.length ⟨e, s, b, am, mg⟩ = V at *
  clear hB
  go_enter Tryz.func51, Tryz.ntmps51
  go_wp2_with (first
    | (refine wpList_load_blk 29 (.tmp 1) rfl (g) rfl (by kernel_rfl) (HB).out Tryz.underlying29 hgi ?_)
    | (go_at_call 52; refine (K.out _).mono ?_; rintro en w2 ⟨rfl, hb9⟩; replace hb := bel hb hb9; clear hb9))
  go_ret
  exact ⟨ret_bool HE.out.symm, hb⟩
set_option maxHeartbeats 1000000 in
theorem idxStk_any (l : List StkR) (A : Option Addr) (lc : Nat) (g : Nat) (q : StkR → Bool) (w : World) (hr : Rd w w.heap.size 5 A l.length (cellsOf StkR.cells l)) (hn : l.length ≤ 1000000)
    (hc : ∀ (a : StkR) (W : World), Below w.heap.size w W → Calls Tryz.prog 51 #[.agg #[.int .i64 a.period, .int .i64 a.seller, .int .i64 a.buyer, .int .i64 a.amount, .int .i64 a.margin], .pointer (some ⟨g, 0, none⟩)] W (BoolPost (q a) W)) :
    Calls Tryz.prog 83 #[.slice A l.length lc, .func (.func 51) #[] #[.pointer (some ⟨g, 0, none⟩)]] w (fun e w' => e = .returned (.int .i64 (fidx q l)) ∧ Below w.heap.size w w') := by
  have hb := Below.refl w.heap.size w
  have HR := Lib.hid hr
  have HC := Lib.hid hc
  clear hr hc
  go_enter Tryz.func83, Tryz.ntmps83
  go_wp2_with fail
  go_loopw [5, 8] (fun _ t wr => ∃ k : Nat, k ≤ l.length ∧ (∀ j (h : j < k) (h1 : j < l.length), q (l[j]'h1) = false) ∧ t = .int .i64 k ∧ Below w.heap.size w wr) (fun _ t _ => l.length - (intOf t).toNat)
  case atStart => exact ⟨0, by omega, fun j h => by omega, rfl, hb⟩
  case round =>
    clear hb
    obtain ⟨k, hk, hno, rfl, hb⟩ := hrel
    have HN := Lib.hid hno
    clear hno
    by_cases hlt : k < l.length
    · obtain ⟨b, o, hA, hbo, f0, f1, f2, f3, f4⟩ := StkR.at_ (HR.out.below hb (Nat.le_refl _)) hlt
      subst hA
      cases hq : q l[k]
      · have HQ := Lib.hid hq
        go_wp2_with (go_at_call 51; refine ((HC.out l[k] _ hb)).mono ?_; rintro e w2 ⟨rfl, hb2⟩; replace hb := bel hb hb2; clear hb2)
        go_roundw
        case rel =>
          refine ⟨k + 1, by omega, fun j h h1 => ?_, by go_num, hb⟩
          by_cases e : j = k
          · subst e; exact HQ.out
          · exact HN.out j (by omega) h1
        case measure => simp [intOf]; omega
      · have HE : Hid (fidx q l = k) := Lib.hid (fidx_hit k hlt (fun j hj => HN.out j hj (by omega)) hq)
        go_wp2_with (go_at_call 51; refine ((HC.out l[k] _ hb)).mono ?_; rintro e w2 ⟨rfl, hb2⟩; replace hb := bel hb hb2; clear hb2)
        go_ret
        exact ⟨ret_int HE.out.symm, hb⟩
    · have HE : Hid (fidx q l = -1) := Lib.hid (fidx_miss fun j hj => HN.out j (by omega) hj)
      go_wp2_with fail
      go_ret
      exact ⟨ret_int HE.out.symm, hb⟩
theorem hasStk_any (l : List StkR) (A : Option Addr) (lc : Nat) (g : Nat) (q : StkR → Bool) (w : World) (hr : Rd w w.heap.size 5 A l.length (cellsOf StkR.cells l)) (hn : l.length ≤ 1000000)
    (hc : ∀ (a : StkR) (W : World), Below w.heap.size w W → Calls Tryz.prog 51 #[.agg #[.int .i64 a.period, .int .i64 a.seller, .int .i64 a.buyer, .int .i64 a.amount, .int .i64 a.margin], .pointer (some ⟨g, 0, none⟩)] W (BoolPost (q a) W)) :
    Calls Tryz.prog 50 #[.slice A l.length lc, .func (.func 51) #[] #[.pointer (some ⟨g, 0, none⟩)]] w (BoolPost (l.any q) w) := by
  have HE := Lib.hid (fidx_any q l).symm
  generalize l.any q = v at *
  have K := Lib.hid (idxStk_any l A lc g q w hr hn hc)
  clear hr hc
  generalize fidx q l = i at *
  by_cases h0 : 0 ≤ i
  · go_enter Tryz.func50, Tryz.ntmps50
    go_wp2_with (go_at_call 83; refine K.out.mono ?_; rintro e w2 ⟨rfl, hb2⟩)
    go_ret
    exact ⟨by rw [HE.out]; simp [h0], hb2⟩
  · go_enter Tryz.func50, Tryz.ntmps50
    go_wp2_with (go_at_call 83; refine K.out.mono ?_; rintro e w2 ⟨rfl, hb2⟩)
    go_ret
    exact ⟨by rw [HE.out]; simp [h0], hb2⟩
/-- notes as they lie in a world -/
structure SIn (w : World) (l : List StkR) (A : Option Addr) : Prop where
  rd : Rd w w.heap.size 5 A l.length (cellsOf StkR.cells l)
  len : l.length ≤ 1000000
theorem SIn.step {w w2 : World} {l : List StkR} {A : Option Addr} (h : SIn w l A) (hb : Below w.heap.size w w2) : SIn w2 l A := ⟨Rd.now h.rd hb, h.len⟩
theorem iv_any (p : Int) (n : Nat) (l : List StkR) : (!(l.any (Iv.bad p n))) = l.all (Iv.ok p n) := by
  induction l with
  | nil => rfl
  | cons x r ih => simp only [List.any_cons, List.all_cons, Bool.not_or, ih, Iv.bad, Bool.not_not]
set_option maxRecDepth 100000 in
set_option maxHeartbeats 4000000 in
theorem ivalid_any (l : List StkR) (A : Option Addr) (lc : Nat) (HG : Hid (gcs = #[.string cur, .int .i64 y, .int .i64 m, .int .i64 p, .slice cA cl.length cc, .int .i64 ro.investment, .int .i64 ro.goodwill, .int .i64 ro.associates, .int .i64 ro.inventory, .int .i64 ro.reserve, .int .i64 ro.minority, .int .i64 ro.retained, .int .i64 ro.acquired, .int .i64 ro.owners, .int .i64 ro.disposal, .int .i64 ro.associateProfit, .int .i64 ro.dividends, .int .i64 ro.minorityProfit, .int .i64 ro.difference, .int .i64 ro.margin, .slice eA el.length ec])) (h : GIn w cl cA el eA) (hF : FewOk cur cl el) (hS : SIn w l A) :
    Calls Tryz.prog 21 #[.agg gcs, .slice A l.length lc] w (BoolPost (Iv.val (Gr.gv cur cl ro el (Cal.ok y m p)) p el.length l) w) := by
  unfold BoolPost
  have hgi : (Tryz.prog.info? 29).map (·.size) = some gcs.size := by rw [HG.out]; exact grp_size
  have hb : Below w.heap.size w (w.alloc (.cells gcs 29)) := (Below.refl _ _).alloc (Nat.le_refl _) _
  have HB := Lib.hid (Blk.new w 29 gcs)
  have KV := Lib.hid (gvalid_any gcs cur y m p cl cA cc ro el eA ec (w.alloc (.cells gcs 29)) HG (h.step hb) hF)
  have KA := Lib.hid (fun W (hw : Below w.heap.size w W) (hBW : Blk W w.heap.size 29 gcs) => hasStk_any l A lc w.heap.size (Iv.bad p el.length) W (Rd.now hS.rd hw) hS.len (fun a W2 h2 => ibad_any gcs cur y m p cl cA cc ro el eA ec W2 a.period a.seller a.buyer a.amount a.margin w.heap.size HG (hBW.step h2)))
  unfold BoolPost at KA
  have HL := Lib.hid hS.len
  have HE : Hid (Iv.val (Gr.gv cur cl ro el (Cal.ok y m p)) p el.length l = (Gr.gv cur cl ro el (Cal.ok y m p) && (decide (l.length ≤ 200) && !(l.any (Iv.bad p el.length))))) := Lib.hid (by rw [iv_any]; rfl)
  clear h hF hS
  generalize Iv.val (Gr.gv cur cl ro el (Cal.ok y m p)) p el.length l = R at *
  generalize Gr.gv cur cl ro el (Cal.ok y m p) = V at *
  generalize l.any (Iv.bad p el.length) = Z at *
  cases V
  · have HR : Hid (R = false) := Lib.hid (by rw [HE.out]; rfl)
    go_enter Tryz.func21, Tryz.ntmps21
    go_wp2_with (first
      | (refine wpList_load_blk 29 (.tmp 2) rfl (w.heap.size) rfl (by kernel_rfl) (HB).out Tryz.underlying29 hgi ?_)
      | (go_at_call 49; refine KV.out.mono ?_; rintro en w2 ⟨rfl, hb9⟩; replace hb := bel hb hb9; clear hb9))
    go_ret
    exact ⟨ret_bool HR.out.symm, hb⟩
  · by_cases hc : l.length ≤ 200
    · have HR : Hid (R = !Z) := Lib.hid (by rw [HE.out]; simp [hc])
      have hd : decide ((l.length : Int) ≤ 200) = true := by simp; omega
      go_enter Tryz.func21, Tryz.ntmps21
      go_wp2_with (first
        | (refine wpList_load_blk 29 (.tmp 2) rfl (w.heap.size) rfl (by kernel_rfl) (HB).out Tryz.underlying29 hgi ?_)
        | (go_at_call 49; refine KV.out.mono ?_; rintro en w2 ⟨rfl, hb9⟩; replace hb := bel hb hb9; have HB2 := Lib.hid (HB.out.step hb9); clear hb9)
        | (go_at_call 50; refine (KA.out _ hb HB2.out).mono ?_; rintro en w3 ⟨rfl, hb9⟩; replace hb := bel hb hb9; clear hb9))
      go_ret
      exact ⟨ret_bool HR.out.symm, hb⟩
    · have HR : Hid (R = false) := Lib.hid (by rw [HE.out]; simp [hc])
      have hd : decide ((l.length : Int) ≤ 200) = false := by simp; omega
      go_enter Tryz.func21, Tryz.ntmps21
      go_wp2_with (first
        | (refine wpList_load_blk 29 (.tmp 2) rfl (w.heap.size) rfl (by kernel_rfl) (HB).out Tryz.underlying29 hgi ?_)
        | (go_at_call 49; refine KV.out.mono ?_; rintro en w2 ⟨rfl, hb9⟩; replace hb := bel hb hb9; clear hb9))
      go_ret
      exact ⟨ret_bool HR.out.symm, hb⟩
end
end Go.Proofs.YthfbpbbepogllaaGreat
/- The walks of inventory's check and of the reference's Valid and check. -/
namespace Go.Proofs.YthfbpbbepogllaaGreat
set_option linter.unusedVariables false
set_option linter.unusedSimpArgs false
open Go.RowKit

section
variable (gcs : Array Value) (cur : ByteArray) (y m p : Int) (cl : List Acc) (cA : Option Addr) (cc : Nat) (ro : RolesR) (el : List EntR) (eA : Option Addr) (ec : Nat) (w : World)
theorem iv_false {p : Int} {n : Nat} {l : List StkR} {V R : Bool} {k : Nat} (hlt : k < l.length) (hR : R = (V && (decide (l.length ≤ 200) && l.all (Iv.ok p n)))) {x : StkR} (hx : l[k] = x) (h : ¬ Iv.ok p n x = true) : R = false := by
  have : l.all (Iv.ok p n) = false := by
    rw [List.all_eq_false]
    exact ⟨l[k], List.getElem_mem hlt, by rw [hx]; exact h⟩
  rw [hR, this]
  simp
set_option maxRecDepth 100000 in
set_option maxHeartbeats 16000000 in
theorem rivalid_any (l : List StkR) (A : Option Addr) (lc : Nat) (HG : Hid (gcs = #[.string cur, .int .i64 y, .int .i64 m, .int .i64 p, .slice cA cl.length cc, .int .i64 ro.investment, .int .i64 ro.goodwill, .int .i64 ro.associates, .int .i64 ro.inventory, .int .i64 ro.reserve, .int .i64 ro.minority, .int .i64 ro.retained, .int .i64 ro.acquired, .int .i64 ro.owners, .int .i64 ro.disposal, .int .i64 ro.associateProfit, .int .i64 ro.dividends, .int .i64 ro.minorityProfit, .int .i64 ro.difference, .int .i64 ro.margin, .slice eA el.length ec])) (h : GIn w cl cA el eA) (hF : FewOk cur cl el) (hS : SIn w l A) :
    Calls Tryz.prog 16 #[.agg gcs, .slice A l.length lc] w (BoolPost (Iv.val (Gr.gv cur cl ro el (Cal.ok y m p)) p el.length l) w) := by
  unfold BoolPost
  have hgi : (Tryz.prog.info? 29).map (·.size) = some gcs.size := by rw [HG.out]; exact grp_size
  have hb0 : Below w.heap.size w (w.alloc (.cells gcs 29)) := (Below.refl _ _).alloc (Nat.le_refl _) _
  have HB := Lib.hid (Blk.new w 29 gcs)
  have H := Lib.hid h
  have KV := Lib.hid (fun W h => rgvalid_any gcs cur y m p cl cA cc ro el eA ec W HG h hF)
  have HS := Lib.hid hS
  have hln := hS.len
  have k20 : (w.alloc (.cells gcs 29)).cell? ⟨w.heap.size, 20, none⟩ = some (.slice eA el.length ec) := (HB.out.cell 20).trans (by rw [HG.out]; rfl)
  have k30 : Hid (gcs[3]? = some (.int .i64 p)) := Lib.hid (by rw [HG.out]; rfl)
  have HV : Hid (Iv.val (Gr.gv cur cl ro el (Cal.ok y m p)) p el.length l = (Gr.gv cur cl ro el (Cal.ok y m p) && (decide (l.length ≤ 200) && l.all (Iv.ok p el.length)))) := Lib.hid rfl
  clear h hF hS
  generalize Iv.val (Gr.gv cur cl ro el (Cal.ok y m p)) p el.length l = R at *
  generalize Gr.gv cur cl ro el (Cal.ok y m p) = V at *
  go_enter Tryz.func16, Tryz.ntmps16
  go_wp2_with fail
  clear k20
  generalize w.alloc (.cells gcs 29) = W0 at *
  go_loopw [6] (fun t wr => ∃ k : Nat, k ≤ l.length ∧ (∀ j (h : j < k) (h1 : j < l.length), Iv.ok p el.length (l[j]'h1) = true) ∧ t = .int .i64 k ∧ Below W0.heap.size W0 wr) (fun t _ => l.length - (intOf t).toNat)
  case atStart => exact ⟨0, by omega, fun j h => by omega, rfl, Below.refl _ _⟩
  case round =>
    obtain ⟨k, hk, hno, rfl, hb⟩ := hrel
    have HN := Lib.hid hno
    have HBr := Lib.hid (HB.out.step hb)
    have hbw := bel hb0 hb
    clear hno
    by_cases hlt : k < l.length
    · obtain ⟨b0, o, hA, hbo, f0, f1, f2, f3, f4⟩ := StkR.at_ (Rd.now HS.out.rd hbw) hlt
      subst hA
      generalize hxx : l[k] = x at *
      have HXX := Lib.hid hxx
      have HRF := Lib.hid (iv_false (V := V) hlt HV.out hxx)
      clear hxx
      obtain ⟨e, s, b, am, mg⟩ := x
      dsimp only at f0 f1 f2 f3 f4
      have hiff := iv_ok (p := p) (n := el.length) (x := ⟨e, s, b, am, mg⟩)
      dsimp only at hiff
      have hbn := hbw.alloc hbw.size (.cells #[.int .i64 e, .int .i64 s, .int .i64 b, .int .i64 am, .int .i64 mg] 59)
      have hbm := hb.alloc hb.size (.cells #[.int .i64 e, .int .i64 s, .int .i64 b, .int .i64 am, .int .i64 mg] 59)
      have kp : (wr.alloc (.cells #[.int .i64 e, .int .i64 s, .int .i64 b, .int .i64 am, .int .i64 mg] 59)).cell? ⟨w.heap.size, 3, none⟩ = some (.int .i64 p) := ((HBr.out.alloc _).cell 3).trans (by rw [HG.out]; rfl)
      have hbH := Lib.hid hb
      clear hb hbw
      by_cases c1 : 0 ≤ e
      rotate_left
      · have d1 : decide (e < 0) = true := by simp; omega
        have HE : Hid (R = false) := Lib.hid (HRF.out fun h => by have := hiff.1 h; simp only [iv_ent] at this; omega)
        clear hiff
        go_wp2_with fail
        go_ret
        exact ⟨ret_bool HE.out.symm, hbn⟩
      have d1 : decide (e < 0) = false := by simp; omega
      by_cases c2 : e < p
      rotate_left
      · have d2 : decide (p ≤ e) = true := by simp; omega
        have HE : Hid (R = false) := Lib.hid (HRF.out fun h => by have := hiff.1 h; simp only [iv_ent] at this; omega)
        clear hiff
        go_wp2_with fail
        go_ret
        exact ⟨ret_bool HE.out.symm, hbn⟩
      have d2 : decide (p ≤ e) = false := by simp; omega
      by_cases c3 : 0 ≤ s
      rotate_left
      · have d3 : decide (s < 0) = true := by simp; omega
        have HE : Hid (R = false) := Lib.hid (HRF.out fun h => by have := hiff.1 h; simp only [iv_ent] at this; omega)
        clear hiff
        go_wp2_with fail
        go_ret
        exact ⟨ret_bool HE.out.symm, hbn⟩
      have d3 : decide (s < 0) = false := by simp; omega
      by_cases c4 : s < (el.length : Int)
      rotate_left
      · have d4 : decide ((el.length : Int) ≤ s) = true := by simp; omega
        have HE : Hid (R = false) := Lib.hid (HRF.out fun h => by have := hiff.1 h; simp only [iv_ent] at this; omega)
        clear hiff
        go_wp2_with fail
        go_ret
        exact ⟨ret_bool HE.out.symm, hbn⟩
      have d4 : decide ((el.length : Int) ≤ s) = false := by simp; omega
      by_cases c5 : 0 ≤ b
      rotate_left
      · have d5 : decide (b < 0) = true := by simp; omega
        have HE : Hid (R = false) := Lib.hid (HRF.out fun h => by have := hiff.1 h; simp only [iv_ent] at this; omega)
        clear hiff
        go_wp2_with fail
        go_ret
        exact ⟨ret_bool HE.out.symm, hbn⟩
      have d5 : decide (b < 0) = false := by simp; omega
      by_cases c6 : b < (el.length : Int)
      rotate_left
      · have d6 : decide ((el.length : Int) ≤ b) = true := by simp; omega
        have HE : Hid (R = false) := Lib.hid (HRF.out fun h => by have := hiff.1 h; simp only [iv_ent] at this; omega)
        clear hiff
        go_wp2_with fail
        go_ret
        exact ⟨ret_bool HE.out.symm, hbn⟩
      have d6 : decide ((el.length : Int) ≤ b) = false := by simp; omega
      by_cases c7 : s ≠ b
      rotate_left
      · have d7 : (s == b) = true := by simpa using c7
        have HE : Hid (R = false) := Lib.hid (HRF.out fun h => by have := hiff.1 h; simp only [iv_ent] at this; exact c7 this.2.2.2.2.1)
        clear hiff
        go_wp2_with fail
        go_ret
        exact ⟨ret_bool HE.out.symm, hbn⟩
      have d7 : (s == b) = false := by simpa using c7
      by_cases c8 : 0 ≤ am
      rotate_left
      · have d8 : decide (am < 0) = true := by simp; omega
        have HE : Hid (R = false) := Lib.hid (HRF.out fun h => by have := hiff.1 h; simp only [iv_ent] at this; omega)
        clear hiff
        go_wp2_with fail
        go_ret
        exact ⟨ret_bool HE.out.symm, hbn⟩
      have d8 : decide (am < 0) = false := by simp; omega
      by_cases c9 : am ≤ 1000000000000
      rotate_left
      · have d9 : decide (1000000000000 < am) = true := by simp; omega
        have HE : Hid (R = false) := Lib.hid (HRF.out fun h => by have := hiff.1 h; simp only [iv_ent] at this; omega)
        clear hiff
        go_wp2_with fail
        go_ret
        exact ⟨ret_bool HE.out.symm, hbn⟩
      have d9 : decide (1000000000000 < am) = false := by simp; omega
      by_cases c10 : 0 ≤ mg
      rotate_left
      · have d10 : decide (mg < 0) = true := by simp; omega
        have HE : Hid (R = false) := Lib.hid (HRF.out fun h => by have := hiff.1 h; simp only [iv_ent] at this; omega)
        clear hiff
        go_wp2_with fail
        go_ret
        exact ⟨ret_bool HE.out.symm, hbn⟩
      have d10 : decide (mg < 0) = false := by simp; omega
      by_cases c11 : mg ≤ 10000
      rotate_left
      · have d11 : decide (10000 < mg) = true := by simp; omega
        have HE : Hid (R = false) := Lib.hid (HRF.out fun h => by have := hiff.1 h; simp only [iv_ent] at this; omega)
        clear hiff
        go_wp2_with fail
        go_ret
        exact ⟨ret_bool HE.out.symm, hbn⟩
      have d11 : decide (10000 < mg) = false := by simp; omega
      have HOK : Hid (Iv.ok p el.length ⟨e, s, b, am, mg⟩ = true) := Lib.hid (hiff.2 ⟨c1, c2, iv_ent.2 ⟨c3, c4⟩, iv_ent.2 ⟨c5, c6⟩, c7, c8, c9, c10, c11⟩)
      clear hiff c1 c2 c3 c4 c5 c6 c7 c8 c9 c10 c11
      go_wp2_with fail
      go_roundw
      case rel =>
        refine ⟨k + 1, by omega, fun j h h1 => ?_, by go_num, hbm⟩
        by_cases e1 : j = k
        · subst e1; rw [HXX.out]; exact HOK.out
        · exact HN.out j (by omega) h1
      case measure => simp [intOf]; omega
    · have HA : Hid (l.all (Iv.ok p el.length) = true) := Lib.hid (by
        rw [List.all_eq_true]
        intro x hx
        obtain ⟨j, hj, rfl⟩ := List.mem_iff_getElem.1 hx
        exact HN.out j (by omega) hj)
      rw [HA.out] at HV
      have KR := Lib.hid (KV.out wr (H.out.step hbw))
      unfold BoolPost at KR
      cases V
      · have HR : Hid (R = false) := Lib.hid (by rw [HV.out]; rfl)
        go_wp2_with (first
          | (refine wpList_load_blk 29 (.tmp 2) rfl (w.heap.size) rfl (by kernel_rfl) (HBr).out Tryz.underlying29 hgi ?_)
          | (go_at_call 30; refine KR.out.mono ?_; rintro en w2 ⟨rfl, hb9⟩; replace hbw := bel hbw hb9; clear hb9))
        go_ret
        exact ⟨ret_bool HR.out.symm, hbw⟩
      · by_cases hc : l.length ≤ 200
        · have HR : Hid (R = true) := Lib.hid (by rw [HV.out]; simp [hc])
          have hd : decide ((l.length : Int) ≤ 200) = true := by simp; omega
          go_wp2_with (first
            | (refine wpList_load_blk 29 (.tmp 2) rfl (w.heap.size) rfl (by kernel_rfl) (HBr).out Tryz.underlying29 hgi ?_)
            | (go_at_call 30; refine KR.out.mono ?_; rintro en w2 ⟨rfl, hb9⟩; replace hbw := bel hbw hb9; clear hb9))
          go_ret
          exact ⟨ret_bool HR.out.symm, hbw⟩
        · have HR : Hid (R = false) := Lib.hid (by rw [HV.out]; simp [hc])
          have hd : decide ((l.length : Int) ≤ 200) = false := by simp; omega
          go_wp2_with (first
            | (refine wpList_load_blk 29 (.tmp 2) rfl (w.heap.size) rfl (by kernel_rfl) (HBr).out Tryz.underlying29 hgi ?_)
            | (go_at_call 30; refine KR.out.mono ?_; rintro en w2 ⟨rfl, hb9⟩; replace hbw := bel hbw hb9; clear hb9))
          go_ret
          exact ⟨ret_bool HR.out.symm, hbw⟩
end
end Go.Proofs.YthfbpbbepogllaaGreat
