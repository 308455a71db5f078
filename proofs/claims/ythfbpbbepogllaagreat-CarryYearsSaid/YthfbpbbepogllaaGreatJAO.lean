/- Texts of this claim, put together. -/
import Derived.Test.YthfbpbbepogllaaGreatJAJ
import Derived.Test.YthfbpbbepogllaaGreatJAK
import Derived.Test.YthfbpbbepogllaaGreatChartWalksHZ
/- The walks of Role, Account, Result, Equity, and of their references. -/
namespace Go.Proofs.YthfbpbbepogllaaGreat
set_option linter.unusedVariables false
set_option linter.unusedSimpArgs false
open Go.RowKit

theorem cfind_gen (l : List Acc) (c : Int) (A : Option Addr) (cap : Nat) (w : World) (hr : Rd w w.heap.size 4 A l.length (Ch.cells l)) (hn : l.length ≤ 300000) :
    Calls Tryz.prog 126 #[.slice A l.length cap, .int .i64 c] w (fun e w' => e = .returned (.tuple #[.agg #[.int .i64 (Ch.fnV l c).code, .int .i64 (Ch.fnV l c).kind, .int .i64 (Ch.fnV l c).basis, .int .i64 (Ch.fnV l c).parent], .bool (Ch.fnB l c)]) ∧ Below w.heap.size w w') :=
  (rfind_any l c A cap w hr hn).mono (fun _ _ h => h)
def codeIs (c : Int) (a : Acc) : Bool := a.code == c
theorem acc1_any (a : Acc) (g : Nat) (c : Int) (w : World) (hg : g < w.heap.size) (hs : w.cell? ⟨g, 0, none⟩ = some (.int .i64 c)) :
    Calls Tryz.prog 121 #[.agg #[.int .i64 a.code, .int .i64 a.kind, .int .i64 a.basis, .int .i64 a.parent], .pointer (some ⟨g, 0, none⟩)] w (BoolPost (codeIs c a) w) := by
  have hb : Below w.heap.size w (w.alloc (.cells #[.int .i64 a.code, .int .i64 a.kind, .int .i64 a.basis, .int .i64 a.parent] 129)) := (Below.refl _ _).alloc (Nat.le_refl _) _
  have hs2 : (w.alloc (.cells #[.int .i64 a.code, .int .i64 a.kind, .int .i64 a.basis, .int .i64 a.parent] 129)).cell? ⟨g, 0, none⟩ = some (.int .i64 c) := (hb.cell (p := ⟨g, 0, none⟩) hg).trans hs
  have HB := Lib.hid hb
  clear hb
  cases he : (a.code == c)
  · have HE : Hid (codeIs c a = false) := Lib.hid he
    go_enter Tryz.func121, Tryz.ntmps121
    go_wp2_with fail
    go_ret
    exact ⟨by rw [HE.out]; rfl, HB.out⟩
  · have HE : Hid (codeIs c a = true) := Lib.hid he
    go_enter Tryz.func121, Tryz.ntmps121
    go_wp2_with fail
    go_ret
    exact ⟨by rw [HE.out]; rfl, HB.out⟩
set_option maxHeartbeats 1000000 in
theorem idxAcc_any (l : List Acc) (A : Option Addr) (lc : Nat) (g : Nat) (c : Int) (w : World) (hr : Rd w w.heap.size 4 A l.length (Ch.cells l)) (hn : l.length ≤ 1000000)
    (hc : ∀ (a : Acc) (W : World), Below w.heap.size w W → Calls Tryz.prog 121 #[.agg #[.int .i64 a.code, .int .i64 a.kind, .int .i64 a.basis, .int .i64 a.parent], .pointer (some ⟨g, 0, none⟩)] W (BoolPost (codeIs c a) W)) :
    Calls Tryz.prog 120 #[.slice A l.length lc, .func (.func 121) #[] #[.pointer (some ⟨g, 0, none⟩)]] w (fun e w' => e = .returned (.int .i64 (fidx (codeIs c) l)) ∧ Below w.heap.size w w') := by
  have hb := Below.refl w.heap.size w
  have HR := Lib.hid hr
  have HC := Lib.hid hc
  clear hr hc
  go_enter Tryz.func120, Tryz.ntmps120
  go_wp2_with fail
  go_loopw [5, 8] (fun _ t wr => ∃ k : Nat, k ≤ l.length ∧ (∀ j (h : j < k) (h1 : j < l.length), codeIs c (l[j]'h1) = false) ∧ t = .int .i64 k ∧ Below w.heap.size w wr) (fun _ t _ => l.length - (intOf t).toNat)
  case atStart => exact ⟨0, by omega, fun j h => by omega, rfl, hb⟩
  case round =>
    clear hb
    obtain ⟨k, hk, hno, rfl, hb⟩ := hrel
    have HN := Lib.hid hno
    clear hno
    by_cases hlt : k < l.length
    · obtain ⟨b, o, hA, hbo, f0, f1, f2, f3⟩ := Ch.at_ (HR.out.below hb (Nat.le_refl _)) hlt
      subst hA
      cases hq : codeIs c l[k]
      · have HQ := Lib.hid hq
        go_wp2_with (go_at_call 121; refine ((HC.out l[k] _ hb)).mono ?_; rintro e w2 ⟨rfl, hb2⟩; replace hb := bel hb hb2; clear hb2)
        go_roundw
        case rel =>
          refine ⟨k + 1, by omega, fun j h h1 => ?_, by go_num, hb⟩
          by_cases e : j = k
          · subst e; exact HQ.out
          · exact HN.out j (by omega) h1
        case measure => simp [intOf]; omega
      · have HE : Hid (fidx (codeIs c) l = k) := Lib.hid (fidx_hit k hlt (fun j hj => HN.out j hj (by omega)) hq)
        go_wp2_with (go_at_call 121; refine ((HC.out l[k] _ hb)).mono ?_; rintro e w2 ⟨rfl, hb2⟩; replace hb := bel hb hb2; clear hb2)
        go_ret
        exact ⟨ret_int HE.out.symm, hb⟩
    · have HE : Hid (fidx (codeIs c) l = -1) := Lib.hid (fidx_miss fun j hj => HN.out j (by omega) hj)
      go_wp2_with fail
      go_ret
      exact ⟨ret_int HE.out.symm, hb⟩
theorem fidx_code (l : List Acc) (c : Int) : (fidx (codeIs c) l = -1 ∧ Ch.find l c = none) ∨ ∃ (k : Nat) (h : k < l.length), fidx (codeIs c) l = k ∧ Ch.find l c = some l[k] := by
  unfold fidx
  cases hf : l.findIdx? (codeIs c) with
  | none =>
    refine .inl ⟨rfl, Ch.find_none l c fun j h => ?_⟩
    rw [List.findIdx?_eq_none_iff] at hf
    have := hf l[j] (List.getElem_mem h)
    simpa [codeIs] using this
  | some k =>
    rw [List.findIdx?_eq_some_iff_getElem] at hf
    obtain ⟨hk, h1, h2⟩ := hf
    refine .inr ⟨k, hk, rfl, Ch.find_at l c k hk (by simpa [codeIs] using h1) fun j hj => ?_⟩
    have := h2 j hj
    simpa [codeIs] using this
def AccPost (l : List Acc) (c : Int) (w : World) (e : Ending) (w' : World) : Prop :=
  e = .returned (.tuple #[.agg #[.int .i64 (Ch.fnV l c).code, .int .i64 (Ch.fnV l c).kind, .int .i64 (Ch.fnV l c).basis, .int .i64 (Ch.fnV l c).parent], .bool (Ch.fnB l c)]) ∧ Below w.heap.size w w'
section
variable (gcs : Array Value) (cur : ByteArray) (y m p : Int) (cl : List Acc) (cA : Option Addr) (cc : Nat) (ro : RolesR) (el : List EntR) (eA : Option Addr) (ec : Nat) (w : World)
set_option maxRecDepth 100000 in
set_option maxHeartbeats 2000000 in
theorem account_any (c : Int) (HG : Hid (gcs = #[.string cur, .int .i64 y, .int .i64 m, .int .i64 p, .slice cA cl.length cc, .int .i64 ro.investment, .int .i64 ro.goodwill, .int .i64 ro.associates, .int .i64 ro.inventory, .int .i64 ro.reserve, .int .i64 ro.minority, .int .i64 ro.retained, .int .i64 ro.acquired, .int .i64 ro.owners, .int .i64 ro.disposal, .int .i64 ro.associateProfit, .int .i64 ro.dividends, .int .i64 ro.minorityProfit, .int .i64 ro.difference, .int .i64 ro.margin, .slice eA el.length ec])) (h : GIn w cl cA el eA) (hn : cl.length ≤ 300000) :
    Calls Tryz.prog 85 #[.agg gcs, .int .i64 c] w (AccPost cl c w) := by
  have hgi : (Tryz.prog.info? 29).map (·.size) = some gcs.size := by rw [HG.out]; exact grp_size
  have H := Lib.hid h
  clear h
  have hb : Below w.heap.size w (((w.alloc (.cells gcs 29)).alloc (.cells #[.int .i64 c] 3)).alloc (.cells #[.int .i64 0, .int .i64 0, .int .i64 0, .int .i64 0] 129)) := by
    have hb := Below.refl w.heap.size w
    exact (by repeat (first | exact hb | refine Below.alloc ?_ (by have hbs := hb.size; first | omega | (simp; done) | (simp; omega)) _ | refine Below.drew ?_ | refine below_drewN_ ?_ _ | refine Below.setCell ?_ (by simp) _))
  have HB := Lib.hid (((Blk.new w 29 gcs).alloc (.cells #[.int .i64 c] 3)).alloc (.cells #[.int .i64 0, .int .i64 0, .int .i64 0, .int .i64 0] 129))
  have hC0 := (Blk.new (w.alloc (.cells gcs 29)) 3 #[.int .i64 c]).alloc (.cells #[.int .i64 0, .int .i64 0, .int .i64 0, .int .i64 0] 129)
  have hD0 := Blk.new ((w.alloc (.cells gcs 29)).alloc (.cells #[.int .i64 c] 3)) 129 #[.int .i64 0, .int .i64 0, .int .i64 0, .int .i64 0]
  have e1 : (w.alloc (.cells gcs 29)).heap.size = w.heap.size + 1 := by simp
  have e2 : ((w.alloc (.cells gcs 29)).alloc (.cells #[.int .i64 c] 3)).heap.size = w.heap.size + 1 + 1 := by simp
  rw [e1] at hC0
  rw [e2] at hD0
  clear e1 e2
  have HC := Lib.hid hC0
  have HD := Lib.hid hD0
  clear hC0 hD0
  have e4 : (((w.alloc (.cells gcs 29)).alloc (.cells #[.int .i64 c] 3)).alloc (.cells #[.int .i64 0, .int .i64 0, .int .i64 0, .int .i64 0] 129)).cell? ⟨w.heap.size, 4, none⟩ = some (.slice cA cl.length cc) := (HB.out.cell 4).trans (by rw [HG.out]; rfl)
  go_enter Tryz.func85, Tryz.ntmps85
  go_wp2_with fail
  clear e4
  generalize hgen : ((w.alloc (.cells gcs 29)).alloc (.cells #[.int .i64 c] 3)).alloc (.cells #[.int .i64 0, .int .i64 0, .int .i64 0, .int .i64 0] 129) = W at *
  clear hgen
  have hgW : w.heap.size + 1 < W.heap.size := HC.out.lt
  refine (idxAcc_any cl cA cc (w.heap.size + 1) c W (Rd.now H.out.ch hb) (by omega) (fun a W' hb' => acc1_any a _ c W' (by have := hb'.size; omega) ((hb'.cell (p := ⟨w.heap.size + 1, 0, none⟩) hgW).trans (HC.out.cell 0)))).mono ?_
  rintro e w2 ⟨rfl, hb9⟩
  replace hb := bel hb hb9
  replace HB := Lib.hid (HB.out.step hb9)
  have hD := HD.out.step hb9
  clear hb9 HC HD hgW
  have q0 : w2.cell? ⟨w.heap.size + 1 + 1, 0, none⟩ = some (.int .i64 0) := hD.cell 0
  have q1 : w2.cell? ⟨w.heap.size + 1 + 1, 1, none⟩ = some (.int .i64 0) := hD.cell 1
  have q2 : w2.cell? ⟨w.heap.size + 1 + 1, 2, none⟩ = some (.int .i64 0) := hD.cell 2
  have q3 : w2.cell? ⟨w.heap.size + 1 + 1, 3, none⟩ = some (.int .i64 0) := hD.cell 3
  have z0 := hD.frozen 0
  have z1 := hD.frozen 1
  have z2 := hD.frozen 2
  have z3 := hD.frozen 3
  have hDS := Lib.hid hD
  clear hD
  rcases fidx_code cl c with ⟨e1, hf⟩ | ⟨k, hk, e1, hf⟩
  · rw [e1]
    have HF := Lib.hid hf
    clear e1 hf
    go_wp2_with fail
    have hB2 := (((hDS.out.set_ 0 (.int .i64 0)).set_ 1 (.int .i64 0)).set_ 2 (.int .i64 0)).set_ 3 (.int .i64 0)
    have p0 := hB2.cell 0
    have p1 := hB2.cell 1
    have p2 := hB2.cell 2
    have p3 := hB2.cell 3
    simp only [Array.setIfInBounds] at p0 p1 p2 p3
    refine bodyPost_ret (v := .tuple #[.agg #[.int .i64 0, .int .i64 0, .int .i64 0, .int .i64 0], .bool false]) (by simp [results, Tryz.results85, go_sem, p0, p1, p2, p3]) rfl ?_
    refine ⟨by rw [show Ch.fnV cl c = Ch.zero from by unfold Ch.fnV; rw [HF.out]; rfl, show Ch.fnB cl c = false from by unfold Ch.fnB; rw [HF.out]; rfl]; rfl, ?_⟩
    exact (((hb.setCell (by simp; omega) _).setCell (by simp; omega) _).setCell (by simp; omega) _).setCell (by simp; omega) _
  · rw [e1]
    have HF := Lib.hid hf
    clear e1 hf
    have e4 : w2.cell? ⟨w.heap.size, 4, none⟩ = some (.slice cA cl.length cc) := (HB.out.cell 4).trans (by rw [HG.out]; rfl)
    obtain ⟨b, o, hA, hbo, f0, f1, f2, f3⟩ := Ch.at_ (Rd.now H.out.ch hb) hk
    subst hA
    go_wp2_with fail
    have hB2 := (((hDS.out.set_ 0 (.int .i64 cl[k].code)).set_ 1 (.int .i64 cl[k].kind)).set_ 2 (.int .i64 cl[k].basis)).set_ 3 (.int .i64 cl[k].parent)
    have p0 := hB2.cell 0
    have p1 := hB2.cell 1
    have p2 := hB2.cell 2
    have p3 := hB2.cell 3
    simp only [Array.setIfInBounds] at p0 p1 p2 p3
    refine bodyPost_ret (v := .tuple #[.agg #[.int .i64 cl[k].code, .int .i64 cl[k].kind, .int .i64 cl[k].basis, .int .i64 cl[k].parent], .bool true]) (by simp [results, Tryz.results85, go_sem, p0, p1, p2, p3]) rfl ?_
    refine ⟨by rw [show Ch.fnV cl c = cl[k] from by unfold Ch.fnV; rw [HF.out]; rfl, show Ch.fnB cl c = true from by unfold Ch.fnB; rw [HF.out]; rfl], ?_⟩
    exact (((hb.setCell (by simp; omega) _).setCell (by simp; omega) _).setCell (by simp; omega) _).setCell (by simp; omega) _
end
end Go.Proofs.YthfbpbbepogllaaGreat
/- The walks of Role, Result, Equity, and of the references of these and of Account. -/
namespace Go.Proofs.YthfbpbbepogllaaGreat
set_option linter.unusedVariables false
set_option linter.unusedSimpArgs false
open Go.RowKit

section
variable (gcs : Array Value) (cur : ByteArray) (y m p : Int) (cl : List Acc) (cA : Option Addr) (cc : Nat) (ro : RolesR) (el : List EntR) (eA : Option Addr) (ec : Nat) (w : World)
set_option maxRecDepth 100000 in
set_option maxHeartbeats 2000000 in
theorem raccount_any (c : Int) (HG : Hid (gcs = #[.string cur, .int .i64 y, .int .i64 m, .int .i64 p, .slice cA cl.length cc, .int .i64 ro.investment, .int .i64 ro.goodwill, .int .i64 ro.associates, .int .i64 ro.inventory, .int .i64 ro.reserve, .int .i64 ro.minority, .int .i64 ro.retained, .int .i64 ro.acquired, .int .i64 ro.owners, .int .i64 ro.disposal, .int .i64 ro.associateProfit, .int .i64 ro.dividends, .int .i64 ro.minorityProfit, .int .i64 ro.difference, .int .i64 ro.margin, .slice eA el.length ec])) (h : GIn w cl cA el eA) (hn : cl.length ≤ 300000) :
    Calls Tryz.prog 92 #[.agg gcs, .int .i64 c] w (AccPost cl c w) := by
  have H := Lib.hid h
  clear h
  have hb : Below w.heap.size w ((w.alloc (.cells gcs 29)).alloc (.cells #[.int .i64 0, .int .i64 0, .int .i64 0, .int .i64 0] 129)) := by
    have hb := Below.refl w.heap.size w
    exact (by repeat (first | exact hb | refine Below.alloc ?_ (by have hbs := hb.size; first | omega | (simp; done) | (simp; omega)) _ | refine Below.drew ?_ | refine below_drewN_ ?_ _ | refine Below.setCell ?_ (by simp) _))
  have HB := Lib.hid ((Blk.new w 29 gcs).alloc (.cells #[.int .i64 0, .int .i64 0, .int .i64 0, .int .i64 0] 129))
  have hD0 := Blk.new (w.alloc (.cells gcs 29)) 129 #[.int .i64 0, .int .i64 0, .int .i64 0, .int .i64 0]
  have e1 : (w.alloc (.cells gcs 29)).heap.size = w.heap.size + 1 := by simp
  rw [e1] at hD0
  have HD := Lib.hid hD0
  clear hD0 e1
  have e4 : ((w.alloc (.cells gcs 29)).alloc (.cells #[.int .i64 0, .int .i64 0, .int .i64 0, .int .i64 0] 129)).cell? ⟨w.heap.size, 4, none⟩ = some (.slice cA cl.length cc) := (HB.out.cell 4).trans (by rw [HG.out]; rfl)
  go_enter Tryz.func92, Tryz.ntmps92
  go_wp2_with fail
  clear e4
  generalize hgen : (w.alloc (.cells gcs 29)).alloc (.cells #[.int .i64 0, .int .i64 0, .int .i64 0, .int .i64 0] 129) = W at *
  clear hgen
  refine (cfind_gen cl c cA cc W (Rd.now H.out.ch hb) hn).mono ?_
  rintro e w2 ⟨rfl, hb9⟩
  replace hb := bel hb hb9
  have hD := HD.out.step hb9
  clear hb9 HB HD
  have q0 : w2.cell? ⟨w.heap.size + 1, 0, none⟩ = some (.int .i64 0) := hD.cell 0
  have q1 : w2.cell? ⟨w.heap.size + 1, 1, none⟩ = some (.int .i64 0) := hD.cell 1
  have q2 : w2.cell? ⟨w.heap.size + 1, 2, none⟩ = some (.int .i64 0) := hD.cell 2
  have q3 : w2.cell? ⟨w.heap.size + 1, 3, none⟩ = some (.int .i64 0) := hD.cell 3
  have z0 := hD.frozen 0
  have z1 := hD.frozen 1
  have z2 := hD.frozen 2
  have z3 := hD.frozen 3
  have hDS := Lib.hid hD
  clear hD
  go_wp2_with fail
  have hB2 := (((hDS.out.set_ 0 (.int .i64 (Ch.fnV cl c).code)).set_ 1 (.int .i64 (Ch.fnV cl c).kind)).set_ 2 (.int .i64 (Ch.fnV cl c).basis)).set_ 3 (.int .i64 (Ch.fnV cl c).parent)
  have p0 := hB2.cell 0
  have p1 := hB2.cell 1
  have p2 := hB2.cell 2
  have p3 := hB2.cell 3
  simp only [Array.setIfInBounds] at p0 p1 p2 p3
  refine bodyPost_ret (v := .tuple #[.agg #[.int .i64 (Ch.fnV cl c).code, .int .i64 (Ch.fnV cl c).kind, .int .i64 (Ch.fnV cl c).basis, .int .i64 (Ch.fnV cl c).parent], .bool (Ch.fnB cl c)]) (by simp [results, Tryz.results92, go_sem, p0, p1, p2, p3]) rfl ?_
  exact ⟨rfl, (((hb.setCell (by simp) _).setCell (by simp) _).setCell (by simp) _).setCell (by simp) _⟩
def RolePost (R : List RoleR) (c : Int) (w : World) (e : Ending) (w' : World) : Prop := e = .returned (.tuple #[.string (Gr.roleN R c), .bool (Gr.roleB R c)]) ∧ Below w.heap.size w w'
def resB (cl : List Acc) (c : Int) : Bool := (Ch.fnV cl c).kind == 4 || (Ch.fnV cl c).kind == 5
def eqB (cl : List Acc) (c : Int) : Bool := (Ch.fnV cl c).kind == 3
set_option maxRecDepth 100000 in
set_option maxHeartbeats 2000000 in
theorem result_any (c : Int) (HG : Hid (gcs = #[.string cur, .int .i64 y, .int .i64 m, .int .i64 p, .slice cA cl.length cc, .int .i64 ro.investment, .int .i64 ro.goodwill, .int .i64 ro.associates, .int .i64 ro.inventory, .int .i64 ro.reserve, .int .i64 ro.minority, .int .i64 ro.retained, .int .i64 ro.acquired, .int .i64 ro.owners, .int .i64 ro.disposal, .int .i64 ro.associateProfit, .int .i64 ro.dividends, .int .i64 ro.minorityProfit, .int .i64 ro.difference, .int .i64 ro.margin, .slice eA el.length ec])) (h : GIn w cl cA el eA) (hn : cl.length ≤ 300000) :
    Calls Tryz.prog 69 #[.agg gcs, .int .i64 c] w (BoolPost (resB cl c) w) := by
  cases h4 : ((Ch.fnV cl c).kind == 4)
  · cases h5 : ((Ch.fnV cl c).kind == 5)
    · have HE : Hid (resB cl c = false) := Lib.hid (by unfold resB; rw [h4, h5]; rfl)
      have hgi : (Tryz.prog.info? 29).map (·.size) = some gcs.size := by rw [HG.out]; exact grp_size
      have H := Lib.hid h
      clear h
      have hb : Below w.heap.size w (w.alloc (.cells gcs 29)) := (Below.refl _ _).alloc (Nat.le_refl _) _
      have HB := Lib.hid (Blk.new w 29 gcs)
      go_enter Tryz.func69, Tryz.ntmps69
      go_wp2_with (first
        | (refine wpList_load_blk 29 (.tmp 2) rfl (w.heap.size) rfl (by kernel_rfl) (HB).out Tryz.underlying29 hgi ?_)
        | (go_at_call 85; refine (account_any gcs cur y m p cl cA cc ro el eA ec _ c HG (H.out.step hb) hn).mono ?_; rintro e w2 ⟨rfl, hb9⟩; replace hb := bel hb hb9; have hb1 := hb.alloc hb.size (.cells #[.int .i64 (Ch.fnV cl c).code, .int .i64 (Ch.fnV cl c).kind, .int .i64 (Ch.fnV cl c).basis, .int .i64 (Ch.fnV cl c).parent] 129)))
      go_ret
      exact ⟨by rw [HE.out]; rfl, hb1⟩
    · have HE : Hid (resB cl c = true) := Lib.hid (by unfold resB; rw [h4, h5]; rfl)
      have hgi : (Tryz.prog.info? 29).map (·.size) = some gcs.size := by rw [HG.out]; exact grp_size
      have H := Lib.hid h
      clear h
      have hb : Below w.heap.size w (w.alloc (.cells gcs 29)) := (Below.refl _ _).alloc (Nat.le_refl _) _
      have HB := Lib.hid (Blk.new w 29 gcs)
      go_enter Tryz.func69, Tryz.ntmps69
      go_wp2_with (first
        | (refine wpList_load_blk 29 (.tmp 2) rfl (w.heap.size) rfl (by kernel_rfl) (HB).out Tryz.underlying29 hgi ?_)
        | (go_at_call 85; refine (account_any gcs cur y m p cl cA cc ro el eA ec _ c HG (H.out.step hb) hn).mono ?_; rintro e w2 ⟨rfl, hb9⟩; replace hb := bel hb hb9; have hb1 := hb.alloc hb.size (.cells #[.int .i64 (Ch.fnV cl c).code, .int .i64 (Ch.fnV cl c).kind, .int .i64 (Ch.fnV cl c).basis, .int .i64 (Ch.fnV cl c).parent] 129)))
      go_ret
      exact ⟨by rw [HE.out]; rfl, hb1⟩
  · have HE : Hid (resB cl c = true) := Lib.hid (by unfold resB; rw [h4]; rfl)
    have hgi : (Tryz.prog.info? 29).map (·.size) = some gcs.size := by rw [HG.out]; exact grp_size
    have H := Lib.hid h
    clear h
    have hb : Below w.heap.size w (w.alloc (.cells gcs 29)) := (Below.refl _ _).alloc (Nat.le_refl _) _
    have HB := Lib.hid (Blk.new w 29 gcs)
    go_enter Tryz.func69, Tryz.ntmps69
    go_wp2_with (first
      | (refine wpList_load_blk 29 (.tmp 2) rfl (w.heap.size) rfl (by kernel_rfl) (HB).out Tryz.underlying29 hgi ?_)
      | (go_at_call 85; refine (account_any gcs cur y m p cl cA cc ro el eA ec _ c HG (H.out.step hb) hn).mono ?_; rintro e w2 ⟨rfl, hb9⟩; replace hb := bel hb hb9; have hb1 := hb.alloc hb.size (.cells #[.int .i64 (Ch.fnV cl c).code, .int .i64 (Ch.fnV cl c).kind, .int .i64 (Ch.fnV cl c).basis, .int .i64 (Ch.fnV cl c).parent] 129)))
    go_ret
    exact ⟨by rw [HE.out]; rfl, hb1⟩
set_option maxRecDepth 100000 in
set_option maxHeartbeats 2000000 in
theorem rresult_any (c : Int) (HG : Hid (gcs = #[.string cur, .int .i64 y, .int .i64 m, .int .i64 p, .slice cA cl.length cc, .int .i64 ro.investment, .int .i64 ro.goodwill, .int .i64 ro.associates, .int .i64 ro.inventory, .int .i64 ro.reserve, .int .i64 ro.minority, .int .i64 ro.retained, .int .i64 ro.acquired, .int .i64 ro.owners, .int .i64 ro.disposal, .int .i64 ro.associateProfit, .int .i64 ro.dividends, .int .i64 ro.minorityProfit, .int .i64 ro.difference, .int .i64 ro.margin, .slice eA el.length ec])) (h : GIn w cl cA el eA) (hn : cl.length ≤ 300000) :
    Calls Tryz.prog 94 #[.agg gcs, .int .i64 c] w (BoolPost (resB cl c) w) := by
  cases h4 : ((Ch.fnV cl c).kind == 4)
  · cases h5 : ((Ch.fnV cl c).kind == 5)
    · have HE : Hid (resB cl c = false) := Lib.hid (by unfold resB; rw [h4, h5]; rfl)
      have hgi : (Tryz.prog.info? 29).map (·.size) = some gcs.size := by rw [HG.out]; exact grp_size
      have H := Lib.hid h
      clear h
      have hb : Below w.heap.size w (w.alloc (.cells gcs 29)) := (Below.refl _ _).alloc (Nat.le_refl _) _
      have HB := Lib.hid (Blk.new w 29 gcs)
      go_enter Tryz.func94, Tryz.ntmps94
      go_wp2_with (first
        | (refine wpList_load_blk 29 (.tmp 2) rfl (w.heap.size) rfl (by kernel_rfl) (HB).out Tryz.underlying29 hgi ?_)
        | (go_at_call 92; refine (raccount_any gcs cur y m p cl cA cc ro el eA ec _ c HG (H.out.step hb) hn).mono ?_; rintro e w2 ⟨rfl, hb9⟩; replace hb := bel hb hb9; have hb1 := hb.alloc hb.size (.cells #[.int .i64 (Ch.fnV cl c).code, .int .i64 (Ch.fnV cl c).kind, .int .i64 (Ch.fnV cl c).basis, .int .i64 (Ch.fnV cl c).parent] 129)))
      go_ret
      exact ⟨by rw [HE.out]; rfl, hb1⟩
    · have HE : Hid (resB cl c = true) := Lib.hid (by unfold resB; rw [h4, h5]; rfl)
      have hgi : (Tryz.prog.info? 29).map (·.size) = some gcs.size := by rw [HG.out]; exact grp_size
      have H := Lib.hid h
      clear h
      have hb : Below w.heap.size w (w.alloc (.cells gcs 29)) := (Below.refl _ _).alloc (Nat.le_refl _) _
      have HB := Lib.hid (Blk.new w 29 gcs)
      go_enter Tryz.func94, Tryz.ntmps94
      go_wp2_with (first
        | (refine wpList_load_blk 29 (.tmp 2) rfl (w.heap.size) rfl (by kernel_rfl) (HB).out Tryz.underlying29 hgi ?_)
        | (go_at_call 92; refine (raccount_any gcs cur y m p cl cA cc ro el eA ec _ c HG (H.out.step hb) hn).mono ?_; rintro e w2 ⟨rfl, hb9⟩; replace hb := bel hb hb9; have hb1 := hb.alloc hb.size (.cells #[.int .i64 (Ch.fnV cl c).code, .int .i64 (Ch.fnV cl c).kind, .int .i64 (Ch.fnV cl c).basis, .int .i64 (Ch.fnV cl c).parent] 129)))
      go_ret
      exact ⟨by rw [HE.out]; rfl, hb1⟩
  · have HE : Hid (resB cl c = true) := Lib.hid (by unfold resB; rw [h4]; rfl)
    have hgi : (Tryz.prog.info? 29).map (·.size) = some gcs.size := by rw [HG.out]; exact grp_size
    have H := Lib.hid h
    clear h
    have hb : Below w.heap.size w (w.alloc (.cells gcs 29)) := (Below.refl _ _).alloc (Nat.le_refl _) _
    have HB := Lib.hid (Blk.new w 29 gcs)
    go_enter Tryz.func94, Tryz.ntmps94
    go_wp2_with (first
      | (refine wpList_load_blk 29 (.tmp 2) rfl (w.heap.size) rfl (by kernel_rfl) (HB).out Tryz.underlying29 hgi ?_)
      | (go_at_call 92; refine (raccount_any gcs cur y m p cl cA cc ro el eA ec _ c HG (H.out.step hb) hn).mono ?_; rintro e w2 ⟨rfl, hb9⟩; replace hb := bel hb hb9; have hb1 := hb.alloc hb.size (.cells #[.int .i64 (Ch.fnV cl c).code, .int .i64 (Ch.fnV cl c).kind, .int .i64 (Ch.fnV cl c).basis, .int .i64 (Ch.fnV cl c).parent] 129)))
    go_ret
    exact ⟨by rw [HE.out]; rfl, hb1⟩
end
end Go.Proofs.YthfbpbbepogllaaGreat
