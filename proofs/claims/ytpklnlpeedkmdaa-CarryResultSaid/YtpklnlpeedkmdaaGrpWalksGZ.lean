/- Texts of this claim, put together. -/
import Derived.Test.YtpklnlpeedkmdaaGrpWalksFZ
/- The walks of Role, Result, Equity, and of the references of these and of Account. -/
namespace Go.Proofs.Ytpklnlpeedkmdaa
set_option linter.unusedVariables false
set_option linter.unusedSimpArgs false
open Go.RowKit

section
variable (gcs : Array Value) (cur : ByteArray) (y m p : Int) (cl : List Acc) (cA : Option Addr) (cc : Nat) (ro : RolesR) (el : List EntR) (eA : Option Addr) (ec : Nat) (w : World)
set_option maxRecDepth 100000 in
set_option maxHeartbeats 2000000 in
theorem raccount_any (c : Int) (HG : Hid (gcs = #[.string cur, .int .i64 y, .int .i64 m, .int .i64 p, .slice cA cl.length cc, .int .i64 ro.investment, .int .i64 ro.goodwill, .int .i64 ro.associates, .int .i64 ro.inventory, .int .i64 ro.reserve, .int .i64 ro.minority, .int .i64 ro.retained, .int .i64 ro.acquired, .int .i64 ro.owners, .int .i64 ro.disposal, .int .i64 ro.associateProfit, .int .i64 ro.dividends, .int .i64 ro.minorityProfit, .int .i64 ro.difference, .int .i64 ro.margin, .slice eA el.length ec])) (h : GIn w cl cA el eA) (hn : cl.length ≤ 100000) :
    Calls Try.prog 23 #[.agg gcs, .int .i64 c] w (AccPost cl c w) := by
  have H := Lib.hid h
  clear h
  have hb : Below w.heap.size w ((w.alloc (.cells gcs 29)).alloc (.cells #[.int .i64 0, .int .i64 0, .int .i64 0, .int .i64 0] 45)) := by
    have hb := Below.refl w.heap.size w
    exact (by repeat (first | exact hb | refine Below.alloc ?_ (by have hbs := hb.size; first | omega | (simp; done) | (simp; omega)) _ | refine Below.drew ?_ | refine below_drewN_ ?_ _ | refine Below.setCell ?_ (by simp) _))
  have HB := Lib.hid ((Blk.new w 29 gcs).alloc (.cells #[.int .i64 0, .int .i64 0, .int .i64 0, .int .i64 0] 45))
  have hD0 := Blk.new (w.alloc (.cells gcs 29)) 45 #[.int .i64 0, .int .i64 0, .int .i64 0, .int .i64 0]
  have e1 : (w.alloc (.cells gcs 29)).heap.size = w.heap.size + 1 := by simp
  rw [e1] at hD0
  have HD := Lib.hid hD0
  clear hD0 e1
  have e4 : ((w.alloc (.cells gcs 29)).alloc (.cells #[.int .i64 0, .int .i64 0, .int .i64 0, .int .i64 0] 45)).cell? ⟨w.heap.size, 4, none⟩ = some (.slice cA cl.length cc) := (HB.out.cell 4).trans (by rw [HG.out]; rfl)
  go_enter Try.func23, Try.ntmps23
  go_wp2_with fail
  clear e4
  generalize hgen : (w.alloc (.cells gcs 29)).alloc (.cells #[.int .i64 0, .int .i64 0, .int .i64 0, .int .i64 0] 45) = W at *
  clear hgen
  refine (cfind_gen cl c cA cc W (Rd.now H.out.ch hb) hn).mono ?_
  rintro e w2 ⟨rfl, hb9⟩
  replace hb := bel hb hb9
  have hD := HD.out.step hb9
  clear hb9 HB HD
  have q0 : w2.cell? ⟨w.heap.size + 1, 0, none⟩ = some (.int .i64 0) := hD.cell 0
  have q1 : w2.cell? ⟨w.heap.size + 1, 1, none⟩ = some (.int .i64 0) := hD.cell 1
  have q2 : w2.cell? ⟨w.heap.size + 1, 2, none⟩ = some (.int .i64 0) := hD.cell 2
  have q3 : w2.cell? ⟨w.heap.size + 1, 3, none⟩ = some (.int .i64 0) := hD.cell 3
  have z0 := hD.frozen 0
  have z1 := hD.frozen 1
  have z2 := hD.frozen 2
  have z3 := hD.frozen 3
  have hDS := Lib.hid hD
  clear hD
  go_wp2_with fail
  have hB2 := (((hDS.out.set_ 0 (.int .i64 (Ch.fnV cl c).code)).set_ 1 (.int .i64 (Ch.fnV cl c).kind)).set_ 2 (.int .i64 (Ch.fnV cl c).basis)).set_ 3 (.int .i64 (Ch.fnV cl c).parent)
  have p0 := hB2.cell 0
  have p1 := hB2.cell 1
  have p2 := hB2.cell 2
  have p3 := hB2.cell 3
  simp only [Array.setIfInBounds] at p0 p1 p2 p3
  refine bodyPost_ret (v := .tuple #[.agg #[.int .i64 (Ch.fnV cl c).code, .int .i64 (Ch.fnV cl c).kind, .int .i64 (Ch.fnV cl c).basis, .int .i64 (Ch.fnV cl c).parent], .bool (Ch.fnB cl c)]) (by simp [results, Try.results23, go_sem, p0, p1, p2, p3]) rfl ?_
  exact ⟨rfl, (((hb.setCell (by simp) _).setCell (by simp) _).setCell (by simp) _).setCell (by simp) _⟩
def RolePost (R : List RoleR) (c : Int) (w : World) (e : Ending) (w' : World) : Prop := e = .returned (.tuple #[.string (Gr.roleN R c), .bool (Gr.roleB R c)]) ∧ Below w.heap.size w w'
set_option maxRecDepth 100000 in
set_option maxHeartbeats 2000000 in
theorem role_any (c : Int) (HG : Hid (gcs = #[.string cur, .int .i64 y, .int .i64 m, .int .i64 p, .slice cA cl.length cc, .int .i64 ro.investment, .int .i64 ro.goodwill, .int .i64 ro.associates, .int .i64 ro.inventory, .int .i64 ro.reserve, .int .i64 ro.minority, .int .i64 ro.retained, .int .i64 ro.acquired, .int .i64 ro.owners, .int .i64 ro.disposal, .int .i64 ro.associateProfit, .int .i64 ro.dividends, .int .i64 ro.minorityProfit, .int .i64 ro.difference, .int .i64 ro.margin, .slice eA el.length ec])) : Calls Try.prog 21 #[.agg gcs, .int .i64 c] w (RolePost (Gr.roles ro) c w) := by
  have hb : Below w.heap.size w (w.alloc (.cells gcs 29)) := (Below.refl _ _).alloc (Nat.le_refl _) _
  have HB := Lib.hid (Blk.new w 29 gcs)
  have e5 : (w.alloc (.cells gcs 29)).cell? ⟨w.heap.size, 5, none⟩ = some (.int .i64 ro.investment) := (HB.out.cell 5).trans (by rw [HG.out]; rfl); have e6 : (w.alloc (.cells gcs 29)).cell? ⟨w.heap.size, 6, none⟩ = some (.int .i64 ro.goodwill) := (HB.out.cell 6).trans (by rw [HG.out]; rfl); have e7 : (w.alloc (.cells gcs 29)).cell? ⟨w.heap.size, 7, none⟩ = some (.int .i64 ro.associates) := (HB.out.cell 7).trans (by rw [HG.out]; rfl); have e8 : (w.alloc (.cells gcs 29)).cell? ⟨w.heap.size, 8, none⟩ = some (.int .i64 ro.inventory) := (HB.out.cell 8).trans (by rw [HG.out]; rfl); have e9 : (w.alloc (.cells gcs 29)).cell? ⟨w.heap.size, 9, none⟩ = some (.int .i64 ro.reserve) := (HB.out.cell 9).trans (by rw [HG.out]; rfl); have e10 : (w.alloc (.cells gcs 29)).cell? ⟨w.heap.size, 10, none⟩ = some (.int .i64 ro.minority) := (HB.out.cell 10).trans (by rw [HG.out]; rfl); have e11 : (w.alloc (.cells gcs 29)).cell? ⟨w.heap.size, 11, none⟩ = some (.int .i64 ro.retained) := (HB.out.cell 11).trans (by rw [HG.out]; rfl); have e12 : (w.alloc (.cells gcs 29)).cell? ⟨w.heap.size, 12, none⟩ = some (.int .i64 ro.acquired) := (HB.out.cell 12).trans (by rw [HG.out]; rfl); have e13 : (w.alloc (.cells gcs 29)).cell? ⟨w.heap.size, 13, none⟩ = some (.int .i64 ro.owners) := (HB.out.cell 13).trans (by rw [HG.out]; rfl); have e14 : (w.alloc (.cells gcs 29)).cell? ⟨w.heap.size, 14, none⟩ = some (.int .i64 ro.disposal) := (HB.out.cell 14).trans (by rw [HG.out]; rfl); have e15 : (w.alloc (.cells gcs 29)).cell? ⟨w.heap.size, 15, none⟩ = some (.int .i64 ro.associateProfit) := (HB.out.cell 15).trans (by rw [HG.out]; rfl); have e16 : (w.alloc (.cells gcs 29)).cell? ⟨w.heap.size, 16, none⟩ = some (.int .i64 ro.dividends) := (HB.out.cell 16).trans (by rw [HG.out]; rfl); have e17 : (w.alloc (.cells gcs 29)).cell? ⟨w.heap.size, 17, none⟩ = some (.int .i64 ro.minorityProfit) := (HB.out.cell 17).trans (by rw [HG.out]; rfl); have e18 : (w.alloc (.cells gcs 29)).cell? ⟨w.heap.size, 18, none⟩ = some (.int .i64 ro.difference) := (HB.out.cell 18).trans (by rw [HG.out]; rfl); have e19 : (w.alloc (.cells gcs 29)).cell? ⟨w.heap.size, 19, none⟩ = some (.int .i64 ro.margin) := (HB.out.cell 19).trans (by rw [HG.out]; rfl)
  go_enter Try.func21, Try.ntmps21
  go_wp2_with fail
  clear e5 e6 e7 e8 e9 e10 e11 e12 e13 e14 e15 e16 e17 e18 e19
  generalize hgen : w.alloc (.cells gcs 29) = W at *
  clear hgen
  refine (roles_any ro W).mono ?_
  rintro e w2 ⟨A, lc, rfl, hr, hb9⟩
  replace hb := bel hb hb9
  have hlR : (Gr.roles ro).length ≤ 15 := Nat.le_of_eq (Gr.roles_len ro)
  generalize Gr.roles ro = R at *
  have HR := Lib.hid hr
  clear hb9 HB hr
  go_wp2_with fail
  go_loopw [12] (fun t wr => ∃ k : Nat, k ≤ R.length ∧ (∀ j (h : j < k) (h1 : j < R.length), (R[j]'h1).code ≠ c) ∧ t = .int .i64 k ∧ Below w2.heap.size w2 wr) (fun t _ => R.length - (intOf t).toNat)
  case atStart => exact ⟨0, by omega, fun j h => by omega, rfl, Below.refl _ _⟩
  case round =>
    obtain ⟨k, hk, hno, rfl, hbr⟩ := hrel
    have HN := Lib.hid hno
    have hz := hbr.size
    clear hno
    by_cases hlt : k < R.length
    · obtain ⟨b, o, hA, hbo, f0, f1, f2, f3, f4⟩ := RoleR.at_ (Rd.now HR.out hbr) hlt
      subst hA
      have hb1 : Below w2.heap.size w2 (wr.alloc (.cells #[.string R[k].name, .int .i64 R[k].code, .int .i64 R[k].kind, .int .i64 R[k].basis, .bool R[k].mapped] 84)) := hbr.alloc hz _
      cases hq : (R[k].code == c)
      · have HQ : Hid (R[k].code ≠ c) := Lib.hid (by simpa using hq)
        go_wp2_with fail
        go_roundw
        case rel =>
          refine ⟨k + 1, by omega, fun j h h1 => ?_, by go_num, hb1⟩
          by_cases e : j = k
          · subst e; exact HQ.out
          · exact HN.out j (by omega) h1
        case measure => simp [intOf]; omega
      · have HE := Lib.hid (Gr.role_hit R c k hlt (fun j hj => HN.out j hj (by omega)) (by simpa using hq))
        go_wp2_with fail
        go_ret2
        exact ⟨by unfold Gr.roleN Gr.roleB; rw [HE.out]; rfl, bel hb hb1⟩
    · have HE := Lib.hid (Gr.role_miss R c (fun j hj => HN.out j (by omega) hj))
      go_wp2_with fail
      go_ret2
      exact ⟨by unfold Gr.roleN Gr.roleB; rw [HE.out]; rfl, bel hb hbr⟩
set_option maxRecDepth 100000 in
set_option maxHeartbeats 2000000 in
theorem rrole_any (c : Int) (HG : Hid (gcs = #[.string cur, .int .i64 y, .int .i64 m, .int .i64 p, .slice cA cl.length cc, .int .i64 ro.investment, .int .i64 ro.goodwill, .int .i64 ro.associates, .int .i64 ro.inventory, .int .i64 ro.reserve, .int .i64 ro.minority, .int .i64 ro.retained, .int .i64 ro.acquired, .int .i64 ro.owners, .int .i64 ro.disposal, .int .i64 ro.associateProfit, .int .i64 ro.dividends, .int .i64 ro.minorityProfit, .int .i64 ro.difference, .int .i64 ro.margin, .slice eA el.length ec])) : Calls Try.prog 24 #[.agg gcs, .int .i64 c] w (RolePost (Gr.roles ro) c w) := by
  have hb : Below w.heap.size w (w.alloc (.cells gcs 29)) := (Below.refl _ _).alloc (Nat.le_refl _) _
  have HB := Lib.hid (Blk.new w 29 gcs)
  have e5 : (w.alloc (.cells gcs 29)).cell? ⟨w.heap.size, 5, none⟩ = some (.int .i64 ro.investment) := (HB.out.cell 5).trans (by rw [HG.out]; rfl); have e6 : (w.alloc (.cells gcs 29)).cell? ⟨w.heap.size, 6, none⟩ = some (.int .i64 ro.goodwill) := (HB.out.cell 6).trans (by rw [HG.out]; rfl); have e7 : (w.alloc (.cells gcs 29)).cell? ⟨w.heap.size, 7, none⟩ = some (.int .i64 ro.associates) := (HB.out.cell 7).trans (by rw [HG.out]; rfl); have e8 : (w.alloc (.cells gcs 29)).cell? ⟨w.heap.size, 8, none⟩ = some (.int .i64 ro.inventory) := (HB.out.cell 8).trans (by rw [HG.out]; rfl); have e9 : (w.alloc (.cells gcs 29)).cell? ⟨w.heap.size, 9, none⟩ = some (.int .i64 ro.reserve) := (HB.out.cell 9).trans (by rw [HG.out]; rfl); have e10 : (w.alloc (.cells gcs 29)).cell? ⟨w.heap.size, 10, none⟩ = some (.int .i64 ro.minority) := (HB.out.cell 10).trans (by rw [HG.out]; rfl); have e11 : (w.alloc (.cells gcs 29)).cell? ⟨w.heap.size, 11, none⟩ = some (.int .i64 ro.retained) := (HB.out.cell 11).trans (by rw [HG.out]; rfl); have e12 : (w.alloc (.cells gcs 29)).cell? ⟨w.heap.size, 12, none⟩ = some (.int .i64 ro.acquired) := (HB.out.cell 12).trans (by rw [HG.out]; rfl); have e13 : (w.alloc (.cells gcs 29)).cell? ⟨w.heap.size, 13, none⟩ = some (.int .i64 ro.owners) := (HB.out.cell 13).trans (by rw [HG.out]; rfl); have e14 : (w.alloc (.cells gcs 29)).cell? ⟨w.heap.size, 14, none⟩ = some (.int .i64 ro.disposal) := (HB.out.cell 14).trans (by rw [HG.out]; rfl); have e15 : (w.alloc (.cells gcs 29)).cell? ⟨w.heap.size, 15, none⟩ = some (.int .i64 ro.associateProfit) := (HB.out.cell 15).trans (by rw [HG.out]; rfl); have e16 : (w.alloc (.cells gcs 29)).cell? ⟨w.heap.size, 16, none⟩ = some (.int .i64 ro.dividends) := (HB.out.cell 16).trans (by rw [HG.out]; rfl); have e17 : (w.alloc (.cells gcs 29)).cell? ⟨w.heap.size, 17, none⟩ = some (.int .i64 ro.minorityProfit) := (HB.out.cell 17).trans (by rw [HG.out]; rfl); have e18 : (w.alloc (.cells gcs 29)).cell? ⟨w.heap.size, 18, none⟩ = some (.int .i64 ro.difference) := (HB.out.cell 18).trans (by rw [HG.out]; rfl); have e19 : (w.alloc (.cells gcs 29)).cell? ⟨w.heap.size, 19, none⟩ = some (.int .i64 ro.margin) := (HB.out.cell 19).trans (by rw [HG.out]; rfl)
  go_enter Try.func24, Try.ntmps24
  go_wp2_with fail
  clear e5 e6 e7 e8 e9 e10 e11 e12 e13 e14 e15 e16 e17 e18 e19
  generalize hgen : w.alloc (.cells gcs 29) = W at *
  clear hgen
  refine (rroles_any ro W).mono ?_
  rintro e w2 ⟨A, lc, rfl, hr, hb9⟩
  replace hb := bel hb hb9
  have hlR : (Gr.roles ro).length ≤ 15 := Nat.le_of_eq (Gr.roles_len ro)
  generalize Gr.roles ro = R at *
  have HR := Lib.hid hr
  clear hb9 HB hr
  go_wp2_with fail
  go_loopw [7] (fun t wr => ∃ k : Nat, k ≤ R.length ∧ (∀ j (h : j < k) (h1 : j < R.length), (R[j]'h1).code ≠ c) ∧ t = .int .i64 k ∧ w2 = wr) (fun t _ => R.length - (intOf t).toNat)
  case atStart => exact ⟨0, by omega, fun j h => by omega, rfl, rfl⟩
  case round =>
    obtain ⟨k, hk, hno, rfl, rfl⟩ := hrel
    have HN := Lib.hid hno
    clear hno
    by_cases hlt : k < R.length
    · obtain ⟨b, o, hA, hbo, f0, f1, f2, f3, f4⟩ := RoleR.at_ HR.out hlt
      subst hA
      cases hq : (R[k].code == c)
      · have HQ : Hid (R[k].code ≠ c) := Lib.hid (by simpa using hq)
        go_wp2_with fail
        go_roundw
        case rel =>
          refine ⟨k + 1, by omega, fun j h h1 => ?_, by go_num, trivial⟩
          by_cases e : j = k
          · subst e; exact HQ.out
          · exact HN.out j (by omega) h1
        case measure => simp [intOf]; omega
      · have HE := Lib.hid (Gr.role_hit R c k hlt (fun j hj => HN.out j hj (by omega)) (by simpa using hq))
        go_wp2_with fail
        go_ret2
        exact ⟨by unfold Gr.roleN Gr.roleB; rw [HE.out]; rfl, hb⟩
    · have HE := Lib.hid (Gr.role_miss R c (fun j hj => HN.out j (by omega) hj))
      go_wp2_with fail
      go_ret2
      exact ⟨by unfold Gr.roleN Gr.roleB; rw [HE.out]; rfl, hb⟩
def resB (cl : List Acc) (c : Int) : Bool := (Ch.fnV cl c).kind == 4 || (Ch.fnV cl c).kind == 5
def eqB (cl : List Acc) (c : Int) : Bool := (Ch.fnV cl c).kind == 3
set_option maxRecDepth 100000 in
set_option maxHeartbeats 2000000 in
theorem result_any (c : Int) (HG : Hid (gcs = #[.string cur, .int .i64 y, .int .i64 m, .int .i64 p, .slice cA cl.length cc, .int .i64 ro.investment, .int .i64 ro.goodwill, .int .i64 ro.associates, .int .i64 ro.inventory, .int .i64 ro.reserve, .int .i64 ro.minority, .int .i64 ro.retained, .int .i64 ro.acquired, .int .i64 ro.owners, .int .i64 ro.disposal, .int .i64 ro.associateProfit, .int .i64 ro.dividends, .int .i64 ro.minorityProfit, .int .i64 ro.difference, .int .i64 ro.margin, .slice eA el.length ec])) (h : GIn w cl cA el eA) (hn : cl.length ≤ 100000) :
    Calls Try.prog 25 #[.agg gcs, .int .i64 c] w (BoolPost (resB cl c) w) := by
  cases h4 : ((Ch.fnV cl c).kind == 4)
  · cases h5 : ((Ch.fnV cl c).kind == 5)
    · have HE : Hid (resB cl c = false) := Lib.hid (by unfold resB; rw [h4, h5]; rfl)
      have hgi : (Try.prog.info? 29).map (·.size) = some gcs.size := by rw [HG.out]; exact grp_size
      have H := Lib.hid h
      clear h
      have hb : Below w.heap.size w (w.alloc (.cells gcs 29)) := (Below.refl _ _).alloc (Nat.le_refl _) _
      have HB := Lib.hid (Blk.new w 29 gcs)
      go_enter Try.func25, Try.ntmps25
      go_wp2_with (first
        | (refine wpList_load_blk 29 (.tmp 2) rfl (w.heap.size) rfl (by kernel_rfl) (HB).out Try.underlying29 hgi ?_)
        | (go_at_call 22; refine (account_any gcs cur y m p cl cA cc ro el eA ec _ c HG (H.out.step hb) hn).mono ?_; rintro e w2 ⟨rfl, hb9⟩; replace hb := bel hb hb9; have hb1 := hb.alloc hb.size (.cells #[.int .i64 (Ch.fnV cl c).code, .int .i64 (Ch.fnV cl c).kind, .int .i64 (Ch.fnV cl c).basis, .int .i64 (Ch.fnV cl c).parent] 45)))
      go_ret
      exact ⟨by rw [HE.out]; rfl, hb1⟩
    · have HE : Hid (resB cl c = true) := Lib.hid (by unfold resB; rw [h4, h5]; rfl)
      have hgi : (Try.prog.info? 29).map (·.size) = some gcs.size := by rw [HG.out]; exact grp_size
      have H := Lib.hid h
      clear h
      have hb : Below w.heap.size w (w.alloc (.cells gcs 29)) := (Below.refl _ _).alloc (Nat.le_refl _) _
      have HB := Lib.hid (Blk.new w 29 gcs)
      go_enter Try.func25, Try.ntmps25
      go_wp2_with (first
        | (refine wpList_load_blk 29 (.tmp 2) rfl (w.heap.size) rfl (by kernel_rfl) (HB).out Try.underlying29 hgi ?_)
        | (go_at_call 22; refine (account_any gcs cur y m p cl cA cc ro el eA ec _ c HG (H.out.step hb) hn).mono ?_; rintro e w2 ⟨rfl, hb9⟩; replace hb := bel hb hb9; have hb1 := hb.alloc hb.size (.cells #[.int .i64 (Ch.fnV cl c).code, .int .i64 (Ch.fnV cl c).kind, .int .i64 (Ch.fnV cl c).basis, .int .i64 (Ch.fnV cl c).parent] 45)))
      go_ret
      exact ⟨by rw [HE.out]; rfl, hb1⟩
  · have HE : Hid (resB cl c = true) := Lib.hid (by unfold resB; rw [h4]; rfl)
    have hgi : (Try.prog.info? 29).map (·.size) = some gcs.size := by rw [HG.out]; exact grp_size
    have H := Lib.hid h
    clear h
    have hb : Below w.heap.size w (w.alloc (.cells gcs 29)) := (Below.refl _ _).alloc (Nat.le_refl _) _
    have HB := Lib.hid (Blk.new w 29 gcs)
    go_enter Try.func25, Try.ntmps25
    go_wp2_with (first
      | (refine wpList_load_blk 29 (.tmp 2) rfl (w.heap.size) rfl (by kernel_rfl) (HB).out Try.underlying29 hgi ?_)
      | (go_at_call 22; refine (account_any gcs cur y m p cl cA cc ro el eA ec _ c HG (H.out.step hb) hn).mono ?_; rintro e w2 ⟨rfl, hb9⟩; replace hb := bel hb hb9; have hb1 := hb.alloc hb.size (.cells #[.int .i64 (Ch.fnV cl c).code, .int .i64 (Ch.fnV cl c).kind, .int .i64 (Ch.fnV cl c).basis, .int .i64 (Ch.fnV cl c).parent] 45)))
    go_ret
    exact ⟨by rw [HE.out]; rfl, hb1⟩
set_option maxRecDepth 100000 in
set_option maxHeartbeats 2000000 in
theorem rresult_any (c : Int) (HG : Hid (gcs = #[.string cur, .int .i64 y, .int .i64 m, .int .i64 p, .slice cA cl.length cc, .int .i64 ro.investment, .int .i64 ro.goodwill, .int .i64 ro.associates, .int .i64 ro.inventory, .int .i64 ro.reserve, .int .i64 ro.minority, .int .i64 ro.retained, .int .i64 ro.acquired, .int .i64 ro.owners, .int .i64 ro.disposal, .int .i64 ro.associateProfit, .int .i64 ro.dividends, .int .i64 ro.minorityProfit, .int .i64 ro.difference, .int .i64 ro.margin, .slice eA el.length ec])) (h : GIn w cl cA el eA) (hn : cl.length ≤ 100000) :
    Calls Try.prog 26 #[.agg gcs, .int .i64 c] w (BoolPost (resB cl c) w) := by
  cases h4 : ((Ch.fnV cl c).kind == 4)
  · cases h5 : ((Ch.fnV cl c).kind == 5)
    · have HE : Hid (resB cl c = false) := Lib.hid (by unfold resB; rw [h4, h5]; rfl)
      have hgi : (Try.prog.info? 29).map (·.size) = some gcs.size := by rw [HG.out]; exact grp_size
      have H := Lib.hid h
      clear h
      have hb : Below w.heap.size w (w.alloc (.cells gcs 29)) := (Below.refl _ _).alloc (Nat.le_refl _) _
      have HB := Lib.hid (Blk.new w 29 gcs)
      go_enter Try.func26, Try.ntmps26
      go_wp2_with (first
        | (refine wpList_load_blk 29 (.tmp 2) rfl (w.heap.size) rfl (by kernel_rfl) (HB).out Try.underlying29 hgi ?_)
        | (go_at_call 23; refine (raccount_any gcs cur y m p cl cA cc ro el eA ec _ c HG (H.out.step hb) hn).mono ?_; rintro e w2 ⟨rfl, hb9⟩; replace hb := bel hb hb9; have hb1 := hb.alloc hb.size (.cells #[.int .i64 (Ch.fnV cl c).code, .int .i64 (Ch.fnV cl c).kind, .int .i64 (Ch.fnV cl c).basis, .int .i64 (Ch.fnV cl c).parent] 45)))
      go_ret
      exact ⟨by rw [HE.out]; rfl, hb1⟩
    · have HE : Hid (resB cl c = true) := Lib.hid (by unfold resB; rw [h4, h5]; rfl)
      have hgi : (Try.prog.info? 29).map (·.size) = some gcs.size := by rw [HG.out]; exact grp_size
      have H := Lib.hid h
      clear h
      have hb : Below w.heap.size w (w.alloc (.cells gcs 29)) := (Below.refl _ _).alloc (Nat.le_refl _) _
      have HB := Lib.hid (Blk.new w 29 gcs)
      go_enter Try.func26, Try.ntmps26
      go_wp2_with (first
        | (refine wpList_load_blk 29 (.tmp 2) rfl (w.heap.size) rfl (by kernel_rfl) (HB).out Try.underlying29 hgi ?_)
        | (go_at_call 23; refine (raccount_any gcs cur y m p cl cA cc ro el eA ec _ c HG (H.out.step hb) hn).mono ?_; rintro e w2 ⟨rfl, hb9⟩; replace hb := bel hb hb9; have hb1 := hb.alloc hb.size (.cells #[.int .i64 (Ch.fnV cl c).code, .int .i64 (Ch.fnV cl c).kind, .int .i64 (Ch.fnV cl c).basis, .int .i64 (Ch.fnV cl c).parent] 45)))
      go_ret
      exact ⟨by rw [HE.out]; rfl, hb1⟩
  · have HE : Hid (resB cl c = true) := Lib.hid (by unfold resB; rw [h4]; rfl)
    have hgi : (Try.prog.info? 29).map (·.size) = some gcs.size := by rw [HG.out]; exact grp_size
    have H := Lib.hid h
    clear h
    have hb : Below w.heap.size w (w.alloc (.cells gcs 29)) := (Below.refl _ _).alloc (Nat.le_refl _) _
    have HB := Lib.hid (Blk.new w 29 gcs)
    go_enter Try.func26, Try.ntmps26
    go_wp2_with (first
      | (refine wpList_load_blk 29 (.tmp 2) rfl (w.heap.size) rfl (by kernel_rfl) (HB).out Try.underlying29 hgi ?_)
      | (go_at_call 23; refine (raccount_any gcs cur y m p cl cA cc ro el eA ec _ c HG (H.out.step hb) hn).mono ?_; rintro e w2 ⟨rfl, hb9⟩; replace hb := bel hb hb9; have hb1 := hb.alloc hb.size (.cells #[.int .i64 (Ch.fnV cl c).code, .int .i64 (Ch.fnV cl c).kind, .int .i64 (Ch.fnV cl c).basis, .int .i64 (Ch.fnV cl c).parent] 45)))
    go_ret
    exact ⟨by rw [HE.out]; rfl, hb1⟩
set_option maxRecDepth 100000 in
set_option maxHeartbeats 2000000 in
theorem equity_any (c : Int) (HG : Hid (gcs = #[.string cur, .int .i64 y, .int .i64 m, .int .i64 p, .slice cA cl.length cc, .int .i64 ro.investment, .int .i64 ro.goodwill, .int .i64 ro.associates, .int .i64 ro.inventory, .int .i64 ro.reserve, .int .i64 ro.minority, .int .i64 ro.retained, .int .i64 ro.acquired, .int .i64 ro.owners, .int .i64 ro.disposal, .int .i64 ro.associateProfit, .int .i64 ro.dividends, .int .i64 ro.minorityProfit, .int .i64 ro.difference, .int .i64 ro.margin, .slice eA el.length ec])) (h : GIn w cl cA el eA) (hn : cl.length ≤ 100000) :
    Calls Try.prog 27 #[.agg gcs, .int .i64 c] w (BoolPost (eqB cl c) w) := by
  cases h4 : ((Ch.fnV cl c).kind == 3)
  · have HE : Hid (eqB cl c = false) := Lib.hid h4
    have hgi : (Try.prog.info? 29).map (·.size) = some gcs.size := by rw [HG.out]; exact grp_size
    have H := Lib.hid h
    clear h
    have hb : Below w.heap.size w (w.alloc (.cells gcs 29)) := (Below.refl _ _).alloc (Nat.le_refl _) _
    have HB := Lib.hid (Blk.new w 29 gcs)
    go_enter Try.func27, Try.ntmps27
    go_wp2_with (first
      | (refine wpList_load_blk 29 (.tmp 2) rfl (w.heap.size) rfl (by kernel_rfl) (HB).out Try.underlying29 hgi ?_)
      | (go_at_call 22; refine (account_any gcs cur y m p cl cA cc ro el eA ec _ c HG (H.out.step hb) hn).mono ?_; rintro e w2 ⟨rfl, hb9⟩; replace hb := bel hb hb9; have hb1 := hb.alloc hb.size (.cells #[.int .i64 (Ch.fnV cl c).code, .int .i64 (Ch.fnV cl c).kind, .int .i64 (Ch.fnV cl c).basis, .int .i64 (Ch.fnV cl c).parent] 45)))
    go_ret
    exact ⟨by rw [HE.out]; rfl, hb1⟩
  · have HE : Hid (eqB cl c = true) := Lib.hid h4
    have hgi : (Try.prog.info? 29).map (·.size) = some gcs.size := by rw [HG.out]; exact grp_size
    have H := Lib.hid h
    clear h
    have hb : Below w.heap.size w (w.alloc (.cells gcs 29)) := (Below.refl _ _).alloc (Nat.le_refl _) _
    have HB := Lib.hid (Blk.new w 29 gcs)
    go_enter Try.func27, Try.ntmps27
    go_wp2_with (first
      | (refine wpList_load_blk 29 (.tmp 2) rfl (w.heap.size) rfl (by kernel_rfl) (HB).out Try.underlying29 hgi ?_)
      | (go_at_call 22; refine (account_any gcs cur y m p cl cA cc ro el eA ec _ c HG (H.out.step hb) hn).mono ?_; rintro e w2 ⟨rfl, hb9⟩; replace hb := bel hb hb9; have hb1 := hb.alloc hb.size (.cells #[.int .i64 (Ch.fnV cl c).code, .int .i64 (Ch.fnV cl c).kind, .int .i64 (Ch.fnV cl c).basis, .int .i64 (Ch.fnV cl c).parent] 45)))
    go_ret
    exact ⟨by rw [HE.out]; rfl, hb1⟩
set_option maxRecDepth 100000 in
set_option maxHeartbeats 2000000 in
theorem requity_any (c : Int) (HG : Hid (gcs = #[.string cur, .int .i64 y, .int .i64 m, .int .i64 p, .slice cA cl.length cc, .int .i64 ro.investment, .int .i64 ro.goodwill, .int .i64 ro.associates, .int .i64 ro.inventory, .int .i64 ro.reserve, .int .i64 ro.minority, .int .i64 ro.retained, .int .i64 ro.acquired, .int .i64 ro.owners, .int .i64 ro.disposal, .int .i64 ro.associateProfit, .int .i64 ro.dividends, .int .i64 ro.minorityProfit, .int .i64 ro.difference, .int .i64 ro.margin, .slice eA el.length ec])) (h : GIn w cl cA el eA) (hn : cl.length ≤ 100000) :
    Calls Try.prog 28 #[.agg gcs, .int .i64 c] w (BoolPost (eqB cl c) w) := by
  cases h4 : ((Ch.fnV cl c).kind == 3)
  · have HE : Hid (eqB cl c = false) := Lib.hid h4
    have hgi : (Try.prog.info? 29).map (·.size) = some gcs.size := by rw [HG.out]; exact grp_size
    have H := Lib.hid h
    clear h
    have hb : Below w.heap.size w (w.alloc (.cells gcs 29)) := (Below.refl _ _).alloc (Nat.le_refl _) _
    have HB := Lib.hid (Blk.new w 29 gcs)
    go_enter Try.func28, Try.ntmps28
    go_wp2_with (first
      | (refine wpList_load_blk 29 (.tmp 2) rfl (w.heap.size) rfl (by kernel_rfl) (HB).out Try.underlying29 hgi ?_)
      | (go_at_call 23; refine (raccount_any gcs cur y m p cl cA cc ro el eA ec _ c HG (H.out.step hb) hn).mono ?_; rintro e w2 ⟨rfl, hb9⟩; replace hb := bel hb hb9; have hb1 := hb.alloc hb.size (.cells #[.int .i64 (Ch.fnV cl c).code, .int .i64 (Ch.fnV cl c).kind, .int .i64 (Ch.fnV cl c).basis, .int .i64 (Ch.fnV cl c).parent] 45)))
    go_ret
    exact ⟨by rw [HE.out]; rfl, hb1⟩
  · have HE : Hid (eqB cl c = true) := Lib.hid h4
    have hgi : (Try.prog.info? 29).map (·.size) = some gcs.size := by rw [HG.out]; exact grp_size
    have H := Lib.hid h
    clear h
    have hb : Below w.heap.size w (w.alloc (.cells gcs 29)) := (Below.refl _ _).alloc (Nat.le_refl _) _
    have HB := Lib.hid (Blk.new w 29 gcs)
    go_enter Try.func28, Try.ntmps28
    go_wp2_with (first
      | (refine wpList_load_blk 29 (.tmp 2) rfl (w.heap.size) rfl (by kernel_rfl) (HB).out Try.underlying29 hgi ?_)
      | (go_at_call 23; refine (raccount_any gcs cur y m p cl cA cc ro el eA ec _ c HG (H.out.step hb) hn).mono ?_; rintro e w2 ⟨rfl, hb9⟩; replace hb := bel hb hb9; have hb1 := hb.alloc hb.size (.cells #[.int .i64 (Ch.fnV cl c).code, .int .i64 (Ch.fnV cl c).kind, .int .i64 (Ch.fnV cl c).basis, .int .i64 (Ch.fnV cl c).parent] 45)))
    go_ret
    exact ⟨by rw [HE.out]; rfl, hb1⟩
end
end Go.Proofs.Ytpklnlpeedkmdaa
