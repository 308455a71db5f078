/- Texts of this claim, put together. -/
import Derived.Test.YtnddoehhcpejjaaGreatGrpWalksMZ
import Derived.Test.YtnddoehhcpejjaaGreatJAJ
/- The walk of group.entity. -/
namespace Go.Proofs.YtnddoehhcpejjaaGreat
set_option linter.unusedVariables false
set_option linter.unusedSimpArgs false
open Go.RowKit

def closedW (R : List RoleR) (k : Nat) (v : Value) : Bool := match v with
  | .int .i64 c => Gr.closedF (R.take k) c
  | _ => false
theorem closedW_zero (R : List RoleR) : closedW R 0 = fun _ => false := by
  funext v
  unfold closedW
  split <;> rfl
theorem closedW_here (R : List RoleR) (k : Nat) (h : k < R.length) : closedW R (k + 1) (.int .i64 R[k].code) = !R[k].mapped := by
  show Gr.closedF (R.take (k + 1)) R[k].code = _
  rw [Gr.closed_take R k h, if_pos rfl]
theorem closedW_other (R : List RoleR) (k : Nat) (h : k < R.length) (u : Value) (hu : u ≠ .int .i64 R[k].code) : closedW R (k + 1) u = closedW R k u := by
  unfold closedW
  split
  · rename_i c
    rw [Gr.closed_take R k h, if_neg (fun e => hu (by rw [e]))]
  · rfl
theorem key_int {c : Int} (hc : (Lit.int .i64 c).wf = true) : keyOf Tryz.prog 3 (.int .i64 c) = some (.int .i64 c) := Maps.keyOf_int_mk Tryz.underlying3 hc
theorem cls1_any (f t s : Int) (g m n : Nat) (q : Value → Bool) (w : World) (hg : g < w.heap.size) (hs : w.cell? ⟨g, 0, none⟩ = some (.map (some m))) (hS : SaysW Tryz.prog 3 4 w m n q) (hw : (Lit.int .i64 t).wf = true) :
    Calls Tryz.prog 92 #[.agg #[.int .i64 f, .int .i64 t, .int .i64 s], .pointer (some ⟨g, 0, none⟩)] w (BoolPost (q (.int .i64 t)) w) := by
  have hb : Below w.heap.size w (w.alloc (.cells #[.int .i64 f, .int .i64 t, .int .i64 s] 126)) := (Below.refl _ _).alloc (Nat.le_refl _) _
  have hs2 : (w.alloc (.cells #[.int .i64 f, .int .i64 t, .int .i64 s] 126)).cell? ⟨g, 0, none⟩ = some (.map (some m)) := (hb.cell (p := ⟨g, 0, none⟩) hg).trans hs
  have hLL := (hS.alloc (.cells #[.int .i64 f, .int .i64 t, .int .i64 s] 126)).look (t := 140) keyed_int Tryz.underlying4 Tryz.underlying140 (zero_bool _) (key_int hw)
  have HB := Lib.hid hb
  generalize q (.int .i64 t) = v at *
  clear hb hS hs
  go_enter Tryz.func92, Tryz.ntmps92
  go_wp2_with fail
  go_ret
  exact ⟨rfl, HB.out⟩
def toShut (q : Value → Bool) (x : LinkR) : Bool := q (.int .i64 x.to)
set_option maxHeartbeats 1000000 in
theorem idxLnk_any (l : List LinkR) (A : Option Addr) (lc : Nat) (g : Nat) (q : Value → Bool) (w : World) (hr : Rd w w.heap.size 3 A l.length (cellsOf LinkR.cells l)) (hn : l.length ≤ 1000000)
    (hc : ∀ (a : LinkR), a ∈ l → ∀ (W : World), Below w.heap.size w W → Calls Tryz.prog 92 #[.agg #[.int .i64 a.from_, .int .i64 a.to, .int .i64 a.since], .pointer (some ⟨g, 0, none⟩)] W (BoolPost (toShut q a) W)) :
    Calls Tryz.prog 125 #[.slice A l.length lc, .func (.func 92) #[] #[.pointer (some ⟨g, 0, none⟩)]] w (fun e w' => e = .returned (.int .i64 (fidx (toShut q) l)) ∧ Below w.heap.size w w') := by
  have hb := Below.refl w.heap.size w
  have HR := Lib.hid hr
  have HC := Lib.hid hc
  clear hr hc
  go_enter Tryz.func125, Tryz.ntmps125
  go_wp2_with fail
  go_loopw [5, 8] (fun _ t wr => ∃ k : Nat, k ≤ l.length ∧ (∀ j (h : j < k) (h1 : j < l.length), toShut q (l[j]'h1) = false) ∧ t = .int .i64 k ∧ Below w.heap.size w wr) (fun _ t _ => l.length - (intOf t).toNat)
  case atStart => exact ⟨0, by omega, fun j h => by omega, rfl, hb⟩
  case round =>
    clear hb
    obtain ⟨k, hk, hno, rfl, hb⟩ := hrel
    have HN := Lib.hid hno
    clear hno
    by_cases hlt : k < l.length
    · obtain ⟨b, o, hA, hbo, f0, f1, f2⟩ := LinkR.at_ (HR.out.below hb (Nat.le_refl _)) hlt
      subst hA
      cases hq : toShut q l[k]
      · have HQ := Lib.hid hq
        go_wp2_with (go_at_call 92; refine ((HC.out l[k] (List.getElem_mem hlt) _ hb)).mono ?_; rintro e w2 ⟨rfl, hb2⟩; replace hb := bel hb hb2; clear hb2)
        go_roundw
        case rel =>
          refine ⟨k + 1, by omega, fun j h h1 => ?_, by go_num, hb⟩
          by_cases e : j = k
          · subst e; exact HQ.out
          · exact HN.out j (by omega) h1
        case measure => simp [intOf]; omega
      · have HE : Hid (fidx (toShut q) l = k) := Lib.hid (fidx_hit k hlt (fun j hj => HN.out j hj (by omega)) hq)
        go_wp2_with (go_at_call 92; refine ((HC.out l[k] (List.getElem_mem hlt) _ hb)).mono ?_; rintro e w2 ⟨rfl, hb2⟩; replace hb := bel hb hb2; clear hb2)
        go_ret
        exact ⟨ret_int HE.out.symm, hb⟩
    · have HE : Hid (fidx (toShut q) l = -1) := Lib.hid (fidx_miss fun j hj => HN.out j (by omega) hj)
      go_wp2_with fail
      go_ret
      exact ⟨ret_int HE.out.symm, hb⟩
theorem hasShut_any (l : List LinkR) (A : Option Addr) (lc : Nat) (g : Nat) (q : Value → Bool) (w : World) (hr : Rd w w.heap.size 3 A l.length (cellsOf LinkR.cells l)) (hn : l.length ≤ 1000000)
    (hc : ∀ (a : LinkR), a ∈ l → ∀ (W : World), Below w.heap.size w W → Calls Tryz.prog 92 #[.agg #[.int .i64 a.from_, .int .i64 a.to, .int .i64 a.since], .pointer (some ⟨g, 0, none⟩)] W (BoolPost (toShut q a) W)) :
    Calls Tryz.prog 91 #[.slice A l.length lc, .func (.func 92) #[] #[.pointer (some ⟨g, 0, none⟩)]] w (BoolPost (l.any (toShut q)) w) := by
  have HE := Lib.hid (fidx_any (toShut q) l).symm
  generalize l.any (toShut q) = v at *
  have K := Lib.hid (idxLnk_any l A lc g q w hr hn hc)
  clear hr hc
  generalize fidx (toShut q) l = i at *
  by_cases h0 : 0 ≤ i
  · go_enter Tryz.func91, Tryz.ntmps91
    go_wp2_with (go_at_call 125; refine K.out.mono ?_; rintro e w2 ⟨rfl, hb2⟩)
    go_ret
    exact ⟨by rw [HE.out]; simp [h0], hb2⟩
  · go_enter Tryz.func91, Tryz.ntmps91
    go_wp2_with (go_at_call 125; refine K.out.mono ?_; rintro e w2 ⟨rfl, hb2⟩)
    go_ret
    exact ⟨by rw [HE.out]; simp [h0], hb2⟩
theorem openL_any (R : List RoleR) (L : List LinkR) (h : ∀ k, k < R.length → Gr.codeBefore R k = false) : (!(L.any (toShut (closedW R R.length)))) = Gr.openL R L := by
  have e : ∀ x : LinkR, toShut (closedW R R.length) x = Gr.shut R x.to := fun x => by
    show Gr.closedF (R.take R.length) x.to = _
    rw [List.take_length]
    exact Gr.closed_is R h x.to
  have e2 : toShut (closedW R R.length) = fun x => Gr.shut R x.to := funext e
  rw [e2, Bool.eq_iff_iff]
  unfold Gr.openL
  simp only [Bool.not_eq_true', List.any_eq_false, Bool.not_eq_true]
  constructor
  · intro hx
    exact allAt_yes fun j hj => by rw [getD_lt L j default hj, hx _ (List.getElem_mem hj)]; rfl
  · intro ha x hx
    obtain ⟨j, hj, rfl⟩ := List.mem_iff_getElem.1 hx
    have := allAt_at ha hj
    rw [getD_lt L j default hj] at this
    simpa using this
theorem rolesOk_wf {ch : List Acc} {R : List RoleR} (h : Gr.rolesOk ch R = true) (hw : ∀ a ∈ ch, (Lit.int .i64 a.code).wf = true) : ∀ x ∈ R, (Lit.int .i64 x.code).wf = true := by
  intro x hx
  obtain ⟨j, hj, rfl⟩ := List.mem_iff_getElem.1 hx
  have := allAt_at h hj
  unfold Gr.roleOk at this
  rw [getD_lt R j default hj] at this
  simp only [Bool.and_eq_true] at this
  have hf := this.1
  unfold Ch.fnB at hf
  rw [Option.isSome_iff_exists] at hf
  obtain ⟨a, ha⟩ := hf
  obtain ⟨h1, h2⟩ := Ch.find_some ch _ a ha
  rw [← h2]
  exact hw a h1
section
variable (gcs : Array Value) (cur : ByteArray) (y m p : Int) (cl : List Acc) (cA : Option Addr) (cc : Nat) (ro : RolesR) (el : List EntR) (eA : Option Addr) (ec : Nat) (w : World)
set_option maxRecDepth 100000 in
set_option maxHeartbeats 8000000 in
theorem entity_any (xn xc : ByteArray) (l1 : List Acc) (A1 : Option Addr) (c1 : Nat) (l2 : List LinkR) (A2 : Option Addr) (c2 : Nat) (xj : Bool) (HG : Hid (gcs = #[.string cur, .int .i64 y, .int .i64 m, .int .i64 p, .slice cA cl.length cc, .int .i64 ro.investment, .int .i64 ro.goodwill, .int .i64 ro.associates, .int .i64 ro.inventory, .int .i64 ro.reserve, .int .i64 ro.minority, .int .i64 ro.retained, .int .i64 ro.acquired, .int .i64 ro.owners, .int .i64 ro.disposal, .int .i64 ro.associateProfit, .int .i64 ro.dividends, .int .i64 ro.minorityProfit, .int .i64 ro.difference, .int .i64 ro.margin, .slice eA el.length ec])) (h : GIn w cl cA el eA) (hn : cl.length ≤ 300000)
    (hx : EntR.Ok w ⟨xn, xc, ⟨l1, A1, c1⟩, ⟨l2, A2, c2⟩, xj⟩) (hn1 : l1.length ≤ 300000) (hn2 : l2.length ≤ 300000) (hR : Gr.rolesOk cl (Gr.roles ro) = true) :
    Calls Tryz.prog 60 #[.agg gcs, .agg #[.string xn, .string xc, .slice A1 l1.length c1, .slice A2 l2.length c2, .bool xj]] w (BoolPost (Gr.entV cl (Gr.roles ro) ⟨xn, xc, ⟨l1, A1, c1⟩, ⟨l2, A2, c2⟩, xj⟩) w) := by
  have H := Lib.hid h
  have hx1 : xn.size ≤ maxLen := hx.1
  have hx2 : xc.size ≤ maxLen := hx.2.1
  have HO1 : Hid (Rd w w.heap.size 4 A1 l1.length (Ch.cells l1)) := Lib.hid (by rw [← acc_gen]; exact hx.2.2.1.1.1)
  have HO2 : Hid (Rd w w.heap.size 3 A2 l2.length (cellsOf LinkR.cells l2)) := Lib.hid hx.2.2.2.1.1.1
  have HW1 : Hid (∀ a ∈ l1, (Lit.int .i64 a.code).wf = true) := Lib.hid (fun a ha => (hx.2.2.1.2 a ha).1)
  have HW2 : Hid (∀ x ∈ l2, Wf x.from_ ∧ Wf x.to ∧ Wf x.since) := Lib.hid (fun x hx' => hx.2.2.2.1.2 x hx')
  have HAP := Lib.hid (Gr.rolesOk_apart hR)
  have HWR := Lib.hid (rolesOk_wf hR h.wf)
  clear h hx hR
  have hb : Below w.heap.size w ((w.alloc (.cells gcs 29)).alloc (.cells #[.string xn, .string xc, .slice A1 l1.length c1, .slice A2 l2.length c2, .bool xj] 90)) := by
    have hb := Below.refl w.heap.size w
    exact (by repeat (first | exact hb | refine Below.alloc ?_ (by have hbs := hb.size; first | omega | (simp; done) | (simp; omega)) _ | refine Below.drew ?_ | refine below_drewN_ ?_ _ | refine Below.setCell ?_ (by simp) _))
  have HB := Lib.hid ((Blk.new w 29 gcs).alloc (.cells #[.string xn, .string xc, .slice A1 l1.length c1, .slice A2 l2.length c2, .bool xj] 90))
  have HX0 := Blk.new (w.alloc (.cells gcs 29)) 90 #[.string xn, .string xc, .slice A1 l1.length c1, .slice A2 l2.length c2, .bool xj]
  have ez : (w.alloc (.cells gcs 29)).heap.size = w.heap.size + 1 := by simp
  rw [ez] at HX0
  have HX := Lib.hid HX0
  clear ez HX0
  have e4 : ((w.alloc (.cells gcs 29)).alloc (.cells #[.string xn, .string xc, .slice A1 l1.length c1, .slice A2 l2.length c2, .bool xj] 90)).cell? ⟨w.heap.size, 4, none⟩ = some (.slice cA cl.length cc) := (HB.out.cell 4).trans (by rw [HG.out]; rfl)
  have hmm := @run_makeMap Tryz.prog
  have HD : Hid (Gr.entV cl (Gr.roles ro) ⟨xn, xc, ⟨l1, A1, c1⟩, ⟨l2, A2, c2⟩, xj⟩ = (Gr.namV xn && (Gr.curV xc && (Gr.mapV l1 cl l2 && Gr.openL (Gr.roles ro) l2)))) := Lib.hid rfl
  generalize Gr.entV cl (Gr.roles ro) ⟨xn, xc, ⟨l1, A1, c1⟩, ⟨l2, A2, c2⟩, xj⟩ = V at *
  cases hnm : Gr.namV xn
  · have HE : Hid (V = false) := Lib.hid (by rw [HD.out, hnm]; rfl)
    have HNM := Lib.hid hnm
    clear hnm
    go_enter Tryz.func60, Tryz.ntmps60
    go_wp2_with
      (go_at_call 89; refine ((name_any xn _ hx1)).mono ?_; rintro e w2 ⟨rfl, rfl⟩; rw [HNM.out])
    go_ret
    exact ⟨by rw [HE.out]; rfl, hb⟩
  · have HNM := Lib.hid hnm
    cases hcu : Gr.curV xc
    · have HE : Hid (V = false) := Lib.hid (by rw [HD.out, hcu]; simp)
      have HCU := Lib.hid hcu
      clear hcu hnm
      go_enter Tryz.func60, Tryz.ntmps60
      go_wp2_with (first
        | (go_at_call 89; refine ((name_any xn _ hx1)).mono ?_; rintro e w2 ⟨rfl, rfl⟩; rw [HNM.out])
        | (go_at_call 57; refine ((currency_any xc _ hx2)).mono ?_; rintro e w2 ⟨rfl, rfl⟩; rw [HCU.out]))
      go_ret
      exact ⟨by rw [HE.out]; rfl, hb⟩
    · have HCU := Lib.hid hcu
      cases hma : Gr.mapV l1 cl l2
      · have HE : Hid (V = false) := Lib.hid (by rw [HD.out, hma]; simp)
        have HMA := Lib.hid hma
        clear hma hcu hnm
        go_enter Tryz.func60, Tryz.ntmps60
        go_wp2_with (first
          | (go_at_call 89; refine ((name_any xn _ hx1)).mono ?_; rintro e w2 ⟨rfl, rfl⟩; rw [HNM.out])
          | (go_at_call 57; refine ((currency_any xc _ hx2)).mono ?_; rintro e w2 ⟨rfl, rfl⟩; rw [HCU.out])
          | (go_at_call 90; refine (mvalid_any xn xc l1 A1 c1 l2 A2 c2 xj cl cA cc _ (Rd.now HO1.out hb) (H.out.step hb).ch (Rd.now HO2.out hb) hn1 hn HW1.out H.out.wf HW2.out).mono ?_; rintro e w2 ⟨rfl, hb2⟩; rw [HMA.out]; replace hb := bel hb hb2; have HB2 := Lib.hid (((HB.out.step hb2).alloc (.map #[] 0)).alloc (.cells #[.map (some w2.heap.size)] 140)); have HX2 := Lib.hid (((HX.out.step hb2).alloc (.map #[] 0)).alloc (.cells #[.map (some w2.heap.size)] 140)); have g5 : ((w2.alloc (.map #[] 0)).alloc (.cells #[.map (some w2.heap.size)] 140)).cell? ⟨w.heap.size, 5, none⟩ = some (.int .i64 ro.investment) := (HB2.out.cell 5).trans (by rw [HG.out]; rfl); have g6 : ((w2.alloc (.map #[] 0)).alloc (.cells #[.map (some w2.heap.size)] 140)).cell? ⟨w.heap.size, 6, none⟩ = some (.int .i64 ro.goodwill) := (HB2.out.cell 6).trans (by rw [HG.out]; rfl); have g7 : ((w2.alloc (.map #[] 0)).alloc (.cells #[.map (some w2.heap.size)] 140)).cell? ⟨w.heap.size, 7, none⟩ = some (.int .i64 ro.associates) := (HB2.out.cell 7).trans (by rw [HG.out]; rfl); have g8 : ((w2.alloc (.map #[] 0)).alloc (.cells #[.map (some w2.heap.size)] 140)).cell? ⟨w.heap.size, 8, none⟩ = some (.int .i64 ro.inventory) := (HB2.out.cell 8).trans (by rw [HG.out]; rfl); have g9 : ((w2.alloc (.map #[] 0)).alloc (.cells #[.map (some w2.heap.size)] 140)).cell? ⟨w.heap.size, 9, none⟩ = some (.int .i64 ro.reserve) := (HB2.out.cell 9).trans (by rw [HG.out]; rfl); have g10 : ((w2.alloc (.map #[] 0)).alloc (.cells #[.map (some w2.heap.size)] 140)).cell? ⟨w.heap.size, 10, none⟩ = some (.int .i64 ro.minority) := (HB2.out.cell 10).trans (by rw [HG.out]; rfl); have g11 : ((w2.alloc (.map #[] 0)).alloc (.cells #[.map (some w2.heap.size)] 140)).cell? ⟨w.heap.size, 11, none⟩ = some (.int .i64 ro.retained) := (HB2.out.cell 11).trans (by rw [HG.out]; rfl); have g12 : ((w2.alloc (.map #[] 0)).alloc (.cells #[.map (some w2.heap.size)] 140)).cell? ⟨w.heap.size, 12, none⟩ = some (.int .i64 ro.acquired) := (HB2.out.cell 12).trans (by rw [HG.out]; rfl); have g13 : ((w2.alloc (.map #[] 0)).alloc (.cells #[.map (some w2.heap.size)] 140)).cell? ⟨w.heap.size, 13, none⟩ = some (.int .i64 ro.owners) := (HB2.out.cell 13).trans (by rw [HG.out]; rfl); have g14 : ((w2.alloc (.map #[] 0)).alloc (.cells #[.map (some w2.heap.size)] 140)).cell? ⟨w.heap.size, 14, none⟩ = some (.int .i64 ro.disposal) := (HB2.out.cell 14).trans (by rw [HG.out]; rfl); have g15 : ((w2.alloc (.map #[] 0)).alloc (.cells #[.map (some w2.heap.size)] 140)).cell? ⟨w.heap.size, 15, none⟩ = some (.int .i64 ro.associateProfit) := (HB2.out.cell 15).trans (by rw [HG.out]; rfl); have g16 : ((w2.alloc (.map #[] 0)).alloc (.cells #[.map (some w2.heap.size)] 140)).cell? ⟨w.heap.size, 16, none⟩ = some (.int .i64 ro.dividends) := (HB2.out.cell 16).trans (by rw [HG.out]; rfl); have g17 : ((w2.alloc (.map #[] 0)).alloc (.cells #[.map (some w2.heap.size)] 140)).cell? ⟨w.heap.size, 17, none⟩ = some (.int .i64 ro.minorityProfit) := (HB2.out.cell 17).trans (by rw [HG.out]; rfl); have g18 : ((w2.alloc (.map #[] 0)).alloc (.cells #[.map (some w2.heap.size)] 140)).cell? ⟨w.heap.size, 18, none⟩ = some (.int .i64 ro.difference) := (HB2.out.cell 18).trans (by rw [HG.out]; rfl); have g19 : ((w2.alloc (.map #[] 0)).alloc (.cells #[.map (some w2.heap.size)] 140)).cell? ⟨w.heap.size, 19, none⟩ = some (.int .i64 ro.margin) := (HB2.out.cell 19).trans (by rw [HG.out]; rfl)))
        go_ret
        exact ⟨by rw [HE.out]; rfl, hb⟩
      · have HE : Hid (V = !(l2.any (toShut (closedW (Gr.roles ro) (Gr.roles ro).length)))) := Lib.hid (by rw [HD.out, hma, hcu, hnm, openL_any _ _ HAP.out]; rfl)
        have HMA := Lib.hid hma
        clear hma hcu hnm
        go_enter Tryz.func60, Tryz.ntmps60
        go_wp2_with (first
          | (go_at_call 89; refine ((name_any xn _ hx1)).mono ?_; rintro e w2 ⟨rfl, rfl⟩; rw [HNM.out])
          | (go_at_call 57; refine ((currency_any xc _ hx2)).mono ?_; rintro e w2 ⟨rfl, rfl⟩; rw [HCU.out])
          | (go_at_call 90; refine (mvalid_any xn xc l1 A1 c1 l2 A2 c2 xj cl cA cc _ (Rd.now HO1.out hb) (H.out.step hb).ch (Rd.now HO2.out hb) hn1 hn HW1.out H.out.wf HW2.out).mono ?_; rintro e w2 ⟨rfl, hb2⟩; rw [HMA.out]; replace hb := bel hb hb2; have HB2 := Lib.hid (((HB.out.step hb2).alloc (.map #[] 0)).alloc (.cells #[.map (some w2.heap.size)] 140)); have HX2 := Lib.hid (((HX.out.step hb2).alloc (.map #[] 0)).alloc (.cells #[.map (some w2.heap.size)] 140)); have g5 : ((w2.alloc (.map #[] 0)).alloc (.cells #[.map (some w2.heap.size)] 140)).cell? ⟨w.heap.size, 5, none⟩ = some (.int .i64 ro.investment) := (HB2.out.cell 5).trans (by rw [HG.out]; rfl); have g6 : ((w2.alloc (.map #[] 0)).alloc (.cells #[.map (some w2.heap.size)] 140)).cell? ⟨w.heap.size, 6, none⟩ = some (.int .i64 ro.goodwill) := (HB2.out.cell 6).trans (by rw [HG.out]; rfl); have g7 : ((w2.alloc (.map #[] 0)).alloc (.cells #[.map (some w2.heap.size)] 140)).cell? ⟨w.heap.size, 7, none⟩ = some (.int .i64 ro.associates) := (HB2.out.cell 7).trans (by rw [HG.out]; rfl); have g8 : ((w2.alloc (.map #[] 0)).alloc (.cells #[.map (some w2.heap.size)] 140)).cell? ⟨w.heap.size, 8, none⟩ = some (.int .i64 ro.inventory) := (HB2.out.cell 8).trans (by rw [HG.out]; rfl); have g9 : ((w2.alloc (.map #[] 0)).alloc (.cells #[.map (some w2.heap.size)] 140)).cell? ⟨w.heap.size, 9, none⟩ = some (.int .i64 ro.reserve) := (HB2.out.cell 9).trans (by rw [HG.out]; rfl); have g10 : ((w2.alloc (.map #[] 0)).alloc (.cells #[.map (some w2.heap.size)] 140)).cell? ⟨w.heap.size, 10, none⟩ = some (.int .i64 ro.minority) := (HB2.out.cell 10).trans (by rw [HG.out]; rfl); have g11 : ((w2.alloc (.map #[] 0)).alloc (.cells #[.map (some w2.heap.size)] 140)).cell? ⟨w.heap.size, 11, none⟩ = some (.int .i64 ro.retained) := (HB2.out.cell 11).trans (by rw [HG.out]; rfl); have g12 : ((w2.alloc (.map #[] 0)).alloc (.cells #[.map (some w2.heap.size)] 140)).cell? ⟨w.heap.size, 12, none⟩ = some (.int .i64 ro.acquired) := (HB2.out.cell 12).trans (by rw [HG.out]; rfl); have g13 : ((w2.alloc (.map #[] 0)).alloc (.cells #[.map (some w2.heap.size)] 140)).cell? ⟨w.heap.size, 13, none⟩ = some (.int .i64 ro.owners) := (HB2.out.cell 13).trans (by rw [HG.out]; rfl); have g14 : ((w2.alloc (.map #[] 0)).alloc (.cells #[.map (some w2.heap.size)] 140)).cell? ⟨w.heap.size, 14, none⟩ = some (.int .i64 ro.disposal) := (HB2.out.cell 14).trans (by rw [HG.out]; rfl); have g15 : ((w2.alloc (.map #[] 0)).alloc (.cells #[.map (some w2.heap.size)] 140)).cell? ⟨w.heap.size, 15, none⟩ = some (.int .i64 ro.associateProfit) := (HB2.out.cell 15).trans (by rw [HG.out]; rfl); have g16 : ((w2.alloc (.map #[] 0)).alloc (.cells #[.map (some w2.heap.size)] 140)).cell? ⟨w.heap.size, 16, none⟩ = some (.int .i64 ro.dividends) := (HB2.out.cell 16).trans (by rw [HG.out]; rfl); have g17 : ((w2.alloc (.map #[] 0)).alloc (.cells #[.map (some w2.heap.size)] 140)).cell? ⟨w.heap.size, 17, none⟩ = some (.int .i64 ro.minorityProfit) := (HB2.out.cell 17).trans (by rw [HG.out]; rfl); have g18 : ((w2.alloc (.map #[] 0)).alloc (.cells #[.map (some w2.heap.size)] 140)).cell? ⟨w.heap.size, 18, none⟩ = some (.int .i64 ro.difference) := (HB2.out.cell 18).trans (by rw [HG.out]; rfl); have g19 : ((w2.alloc (.map #[] 0)).alloc (.cells #[.map (some w2.heap.size)] 140)).cell? ⟨w.heap.size, 19, none⟩ = some (.int .i64 ro.margin) := (HB2.out.cell 19).trans (by rw [HG.out]; rfl)))
        have hlx := (HX.out.step hb2).lt
        clear e4 g5 g6 g7 g8 g9 g10 g11 g12 g13 g14 g15 g16 g17 g18 g19 HB HX hb2
        have hS3 := (SaysW.made (P := Tryz.prog) (k := 3) (e := 4) w2).alloc (.cells #[.map (some w2.heap.size)] 140)
        have hQ0 := Blk.new (w2.alloc (.map #[] 0)) 140 #[.map (some w2.heap.size)]
        have ez : (w2.alloc (.map #[] 0)).heap.size = w2.heap.size + 1 := by simp
        rw [ez] at hQ0
        have hb4 : Below w.heap.size w ((w2.alloc (.map #[] 0)).alloc (.cells #[.map (some w2.heap.size)] 140)) := (by repeat (first | exact hb | refine Below.alloc ?_ (by have hbs := hb.size; first | omega | (simp; done) | (simp; omega)) _ | refine Below.drew ?_ | refine below_drewN_ ?_ _ | refine Below.setCell ?_ (by simp) _))
        have hz4 : w2.heap.size + 1 < ((w2.alloc (.map #[] 0)).alloc (.cells #[.map (some w2.heap.size)] 140)).heap.size := by simp
        have hwz3 := hb.size
        clear ez
        generalize hgen : (w2.alloc (.map #[] 0)).alloc (.cells #[.map (some w2.heap.size)] 140) = W at *
        clear hgen hb HD
        refine (roles_any ro W).mono ?_
        rintro e w4 ⟨A, lc, rfl, hr, hb9⟩
        have hb := bel hb4 hb9
        have hlR : (Gr.roles ro).length ≤ 15 := Nat.le_of_eq (Gr.roles_len ro)
        generalize Gr.roles ro = R at *
        have HR := Lib.hid hr
        have HX4 := Lib.hid (HX2.out.step hb9)
        have HS4 := Lib.hid (hS3.step hb9)
        have HQ4 := Lib.hid (hQ0.step hb9)
        clear hr hb9 HB2 HX2 hS3 hQ0 hb4 hz4
        go_wp2_with fail
        go_loopw [30] (fun t wr => ∃ k : Nat, k ≤ R.length ∧ t = .int .i64 k ∧ SaysW Tryz.prog 3 4 wr w2.heap.size k (closedW R k) ∧ Blk wr (w2.heap.size + 1) 140 #[.map (some w2.heap.size)] ∧ Blk wr (w.heap.size + 1) 90 #[.string xn, .string xc, .slice A1 l1.length c1, .slice A2 l2.length c2, .bool xj] ∧ Rd wr wr.heap.size 5 A R.length (cellsOf RoleR.cells R) ∧ Below w.heap.size w wr) (fun t _ => R.length - (intOf t).toNat)
        case atStart => exact ⟨0, by omega, rfl, by rw [closedW_zero]; exact HS4.out, HQ4.out, HX4.out, HR.out, hb⟩
        case round =>
          clear HS4 HX4 HQ4 HR hb
          obtain ⟨k, hk, rfl, hS, hQ, hX, hRr, hb⟩ := hrel
          have hz := hb.size
          by_cases hlt : k < R.length
          · obtain ⟨b, o, hA, hbo, f0, f1, f2, f3, f4⟩ := RoleR.at_ hRr hlt
            subst hA
            have HC1 := Lib.hid (closedW_here R k hlt)
            have HC2 := Lib.hid (closedW_other R k hlt)
            have hw := HWR.out _ (List.getElem_mem hlt)
            generalize R[k] = x at *
            obtain ⟨nm, c, kd, bs, mp⟩ := x
            dsimp only at *
            have hQ1 := hQ.alloc (.cells #[.string nm, .int .i64 c, .int .i64 kd, .int .i64 bs, .bool mp] 144)
            have hX1 := hX.alloc (.cells #[.string nm, .int .i64 c, .int .i64 kd, .int .i64 bs, .bool mp] 144)
            have hS1 := hS.alloc (.cells #[.string nm, .int .i64 c, .int .i64 kd, .int .i64 bs, .bool mp] 144)
            have hR1 := Rd.now hRr ((Below.refl wr.heap.size wr).alloc (Nat.le_refl _) (.cells #[.string nm, .int .i64 c, .int .i64 kd, .int .i64 bs, .bool mp] 144))
            have hb1 := hb.alloc hz (.cells #[.string nm, .int .i64 c, .int .i64 kd, .int .i64 bs, .bool mp] 144)
            have e0 := hQ1.cell 0
            have HQ1 := Lib.hid hQ1
            have HX1 := Lib.hid hX1
            have HR1 := Lib.hid hR1
            clear hQ hX hS hRr hQ1 hX1 hR1
            go_wp2_with (at_mapUpdate; refine wpList_says_put (closedW R (k + 1)) rfl _ _ _ 140 rfl keyed_int Tryz.underlying4 Tryz.underlying140 hS1 (by unfold maxLen; omega) (.int .i64 c) (.int .i64 c) (!mp) (key_int hw) rfl rfl rfl HC1.out (fun u lu _ hu => HC2.out u hu) ?_; intro w5 hS5 hg5)
            have hQ5 := HQ1.out.grown hg5 (by simp)
            have hX5 := HX1.out.grown hg5 (by simp; omega)
            have hR5 := (HR1.out.past hg5 hS1.isMap).more hg5.size
            have hb5 : Below w.heap.size w w5 := Below.grown hb1 hg5 hb1.size (fun j hj => by injection hj with hj; omega)
            clear hg5 hS1 e0
            go_wp2_with fail
            go_roundw
            case rel => exact ⟨k + 1, by omega, by go_num, hS5, hQ5, hX5, hR5, hb5⟩
            case measure => simp [intOf]; omega
          · have HKR : Hid (closedW R k = closedW R R.length) := Lib.hid (by rw [show k = R.length from by omega])
            have e3 : wr.cell? ⟨w.heap.size + 1, 3, none⟩ = some (.slice A2 l2.length c2) := hX.cell 3
            have HQ := Lib.hid hQ
            rw [HKR.out] at hS
            have HS := Lib.hid hS
            clear hQ hX hS hRr
            generalize closedW R R.length = q at *
            have K := Lib.hid (hasShut_any l2 A2 c2 (w2.heap.size + 1) q wr (Rd.now HO2.out hb) (by omega) fun a ha W' hb' => by
              have h1 := (HQ.out.step hb').cell 0
              exact cls1_any a.from_ a.to a.since (w2.heap.size + 1) w2.heap.size k q W' (HQ.out.step hb').lt h1 (HS.out.step hb') (HW2.out a ha).2.1)
            generalize l2.any (toShut q) = v at *
            go_wp2_with (go_at_call 91; refine K.out.mono ?_; rintro e w5 ⟨rfl, hb9⟩; replace hb := bel hb hb9)
            go_ret
            exact ⟨by rw [HE.out]; rfl, hb⟩
end
end Go.Proofs.YtnddoehhcpejjaaGreat
/- What the date functions return, as plain functions: values and error numbers; and the law of adding months. No Go and no program. -/
namespace Go.Proofs.YtnddoehhcpejjaaGreat.Dt
set_option linter.unusedVariables false
set_option linter.unusedSimpArgs false

def isD (n : Int) : Bool := decide (-25567 ≤ n) && decide (n ≤ 84005)
theorem isD_iff (n : Int) : isD n = true ↔ -25567 ≤ n ∧ n ≤ 84005 := by unfold isD; simp
theorem isD_not (n : Int) : isD n = false ↔ n < -25567 ∨ 84005 < n := by
  rw [← Bool.not_eq_true, isD_iff]; omega
def ofV (y m d : Int) : Int := if vld y m d then num y m d else 0
def ofE (y m d : Int) : Int := if vld y m d then 0 else 2
def cvY (n : Int) : Int := if isD n then cY n else 0
def cvM (n : Int) : Int := if isD n then cM n else 0
def cvD (n : Int) : Int := if isD n then cD n else 0
def cvE (n : Int) : Int := if isD n then 0 else 2
def wd (n : Int) : Int := (n + 25567) % 7
def wdV (n : Int) : Int := if isD n then wd n else 0
/-- the month, counted from year 0, that lies k months after that of a date -/
def mon (n k : Int) : Int := 12 * cY n + cM n - 1 + k
def addOk (n k : Int) : Bool := isD n && (decide (22800 ≤ mon n k) && decide (mon n k ≤ 26399))
def addN (n k : Int) : Int := num (mon n k / 12) (mon n k % 12 + 1) (min (cD n) (days (mon n k / 12) (mon n k % 12 + 1)))
def addV (n k : Int) : Int := if addOk n k then addN n k else 0
def addE (n k : Int) : Int := if addOk n k then 0 else 2

theorem ofE_01 (y m d : Int) : ofE y m d = 0 ∨ ofE y m d = 2 := by unfold ofE; split <;> simp
theorem addE_01 (n k : Int) : addE n k = 0 ∨ addE n k = 2 := by unfold addE; split <;> simp
theorem of_civ (n : Int) (h : isD n = true) : vld (cY n) (cM n) (cD n) = true ∧ num (cY n) (cM n) (cD n) = n := by
  rw [isD_iff] at h; exact civ_ok n h.1 h.2
theorem isD_num (y m d : Int) (h : vld y m d = true) : isD (num y m d) = true := by
  rw [isD_iff]; exact num_range y m d h
theorem cY_bd (n : Int) (h : isD n = true) : 1900 ≤ cY n ∧ cY n ≤ 2199 ∧ 1 ≤ cM n ∧ cM n ≤ 12 ∧ 1 ≤ cD n ∧ cD n ≤ days (cY n) (cM n) ∧ cD n ≤ 31 := by
  have k := vld_pos _ _ _ (of_civ n h).1
  have := (vld_iff _ _ _).1 (of_civ n h).1
  omega
theorem add_vld (n k : Int) (h : addOk n k = true) : vld (mon n k / 12) (mon n k % 12 + 1) (min (cD n) (days (mon n k / 12) (mon n k % 12 + 1))) = true := by
  unfold addOk at h
  simp only [Bool.and_eq_true, decide_eq_true_eq] at h
  have c := cY_bd n h.1
  have d0 : 0 < days (mon n k / 12) (mon n k % 12 + 1) := by
    rw [days_in _ _ (by omega) (by omega) (by omega) (by omega)]
    have l := lp_01 (mon n k / 12)
    have := mlen_bd (lp (mon n k / 12)) (mon n k % 12 + 1) (by omega) (by omega) (by omega) (by omega)
    omega
  rw [vld_iff]
  omega
/-- the civil day of the sum -/
theorem add_civ (n k : Int) (h : addOk n k = true) :
    isD (addN n k) = true ∧ cY (addN n k) = mon n k / 12 ∧ cM (addN n k) = mon n k % 12 + 1 ∧ cD (addN n k) = min (cD n) (days (mon n k / 12) (mon n k % 12 + 1)) := by
  have v := add_vld n k h
  exact ⟨isD_num _ _ _ v, civ_eq _ _ _ _ v rfl⟩
theorem add_zero_ (n : Int) (h : isD n = true) : addOk n 0 = true ∧ addN n 0 = n := by
  have c := cY_bd n h
  have m0 : mon n 0 = 12 * cY n + (cM n - 1) := by unfold mon; omega
  have e1 : mon n 0 / 12 = cY n := by omega
  have e2 : mon n 0 % 12 + 1 = cM n := by omega
  refine ⟨by unfold addOk; simp only [Bool.and_eq_true, decide_eq_true_eq]; exact ⟨h, by omega, by omega⟩, ?_⟩
  unfold addN
  rw [e1, e2, show min (cD n) (days (cY n) (cM n)) = cD n from by omega]
  exact (of_civ n h).2
/-- days up to 28 stand in every month -/
theorem add_day (n k : Int) (h : addOk n k = true) (hd : cD n ≤ 28) : cD (addN n k) = cD n := by
  rw [(add_civ n k h).2.2.2]
  have v := add_vld n k h
  rw [vld_iff] at v
  have := days_lo (mon n k / 12) (mon n k % 12 + 1) (by omega)
  omega
theorem mon_add (n k j : Int) (h : addOk n k = true) : mon (addN n k) j = mon n (k + j) := by
  obtain ⟨_, h2, h3, _⟩ := add_civ n k h
  have : mon (addN n k) j = 12 * (mon n k / 12) + (mon n k % 12 + 1) - 1 + j := by unfold mon at h2 h3 ⊢; rw [h2, h3]
  rw [this]
  unfold mon
  omega
theorem add_add (n k j : Int) (h : addOk n k = true) (hd : cD n ≤ 28) : addOk (addN n k) j = addOk n (k + j) ∧ addN (addN n k) j = addN n (k + j) := by
  have hm := mon_add n k j h
  have h0 := (add_civ n k h).1
  have hd' := add_day n k h hd
  have hn : isD n = true := by unfold addOk at h; simp only [Bool.and_eq_true] at h; exact h.1
  refine ⟨by unfold addOk; rw [hm, h0, hn], ?_⟩
  unfold addN at hd' ⊢
  rw [show mon (num (mon n k / 12) (mon n k % 12 + 1) (min (cD n) (days (mon n k / 12) (mon n k % 12 + 1)))) j = mon n (k + j) from hm, hd']
theorem add_back (n k : Int) (h : addOk n k = true) (hd : cD n ≤ 28) : addOk (addN n k) (-k) = true ∧ addN (addN n k) (-k) = n := by
  obtain ⟨a, b⟩ := add_add n k (-k) h hd
  have hn : isD n = true := by unfold addOk at h; simp only [Bool.and_eq_true] at h; exact h.1
  rw [a, b, show k + -k = 0 from by omega]
  exact add_zero_ n hn
theorem add_year (n : Int) (h : isD n = true) (hd : cD n ≤ 28) : addV n 12 = ofV (cY n + 1) (cM n) (cD n) ∧ addE n 12 = ofE (cY n + 1) (cM n) (cD n) := by
  have c := cY_bd n h
  have e1 : mon n 12 / 12 = cY n + 1 := by unfold mon; omega
  have e2 : mon n 12 % 12 + 1 = cM n := by unfold mon; omega
  by_cases hy : cY n + 1 ≤ 2199
  · have hk : addOk n 12 = true := by
      unfold addOk; simp only [Bool.and_eq_true, decide_eq_true_eq]; exact ⟨h, by unfold mon; omega, by unfold mon; omega⟩
    have v := add_vld n 12 hk
    have hmin : min (cD n) (days (mon n 12 / 12) (mon n 12 % 12 + 1)) = cD n := by
      rw [vld_iff] at v
      have := days_lo (mon n 12 / 12) (mon n 12 % 12 + 1) (by omega)
      omega
    rw [hmin, e1, e2] at v
    unfold addV addE ofV ofE
    rw [if_pos hk, if_pos hk, if_pos v, if_pos v]
    unfold addN
    rw [hmin, e1, e2]
    exact ⟨rfl, rfl⟩
  · have hk : addOk n 12 = false := by
      rw [← Bool.not_eq_true]; unfold addOk; simp only [Bool.and_eq_true, decide_eq_true_eq]; unfold mon; omega
    have v : vld (cY n + 1) (cM n) (cD n) = false := by
      rw [← Bool.not_eq_true, vld_iff]
      unfold days; rw [if_pos (by omega)]; omega
    unfold addV addE ofV ofE
    rw [hk, v]
    exact ⟨rfl, rfl⟩
/-- the next day -/
theorem next_day (n : Int) (h : -25567 ≤ n) (h2 : n < 84005) :
    (cD n + 1 ≤ days (cY n) (cM n) ∧ cY (n + 1) = cY n ∧ cM (n + 1) = cM n ∧ cD (n + 1) = cD n + 1) ∨
    (days (cY n) (cM n) < cD n + 1 ∧ cM n + 1 ≤ 12 ∧ cY (n + 1) = cY n ∧ cM (n + 1) = cM n + 1 ∧ cD (n + 1) = 1) ∨
    (days (cY n) (cM n) < cD n + 1 ∧ 12 < cM n + 1 ∧ cY (n + 1) = cY n + 1 ∧ cM (n + 1) = 1 ∧ cD (n + 1) = 1) := by
  have hD : isD n = true := (isD_iff n).2 ⟨h, by omega⟩
  have c := cY_bd n hD
  have hv := (of_civ n hD).1
  have hn := (of_civ n hD).2
  by_cases h3 : cD n + 1 ≤ days (cY n) (cM n)
  · exact Or.inl ⟨h3, civ_eq (n + 1) (cY n) (cM n) (cD n + 1) (by rw [vld_iff]; omega) (by unfold num at hn ⊢; omega)⟩
  · have hds : cD n = days (cY n) (cM n) := by omega
    rw [days_in _ _ (by omega) (by omega) (by omega) (by omega)] at hds
    have hms := mcum_succ (lp (cY n)) (cM n) (by omega) (by omega)
    by_cases h4 : cM n + 1 ≤ 12
    · refine Or.inr (Or.inl ⟨by omega, h4, civ_eq (n + 1) (cY n) (cM n + 1) 1 ?_ (by unfold num at hn ⊢; omega)⟩)
      rw [vld_iff, days_in _ _ (by omega) (by omega) (by omega) (by omega)]
      have l := lp_01 (cY n)
      have := mlen_bd (lp (cY n)) (cM n + 1) (by omega) (by omega) (by omega) (by omega)
      omega
    · have h12 : cM n = 12 := by omega
      have hd := dby_succ (cY n)
      rw [h12] at hms hds hn
      have h13 : mcum (lp (cY n)) 13 = 365 + lp (cY n) := mcum_13 _
      rw [show (12 : Int) + 1 = 13 from rfl] at hms
      have e : n + 1 = dby (cY n + 1) := by unfold num at hn; omega
      have hy : cY n + 1 ≤ 2199 := by
        rcases Int.lt_or_le 2199 (cY n + 1) with q | q
        · have := dby_mono 2200 (cY n + 1) (by omega)
          rw [dby_2200] at this
          omega
        · exact q
      refine Or.inr (Or.inr ⟨by omega, by omega, civ_eq (n + 1) (cY n + 1) 1 1 ?_ (by unfold num; rw [mcum_1]; omega)⟩)
      rw [vld_iff, days_in _ _ (by omega) (by omega) (by omega) (by omega)]
      simp [mlen]
theorem wd_next (n : Int) : wd (n + 1) = (wd n + 1) % 7 := by unfold wd; omega
theorem wd_bd (n : Int) : 0 ≤ wd n ∧ wd n ≤ 6 := by unfold wd; omega
end Go.Proofs.YtnddoehhcpejjaaGreat.Dt
