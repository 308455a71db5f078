/- Texts of this claim, put together. -/
import Derived.Test.YtnddoehhcpejjaaGreatJAI
import Derived.Test.YtnddoehhcpejjaaGreatGrpWalksLZ
/- The walk of group.accounts. -/
namespace Go.Proofs.YtnddoehhcpejjaaGreat
set_option linter.unusedVariables false
set_option linter.unusedSimpArgs false
open Go.RowKit

theorem fidx_any {α : Type} (q : α → Bool) (l : List α) : decide (0 ≤ fidx q l) = l.any q := by
  unfold fidx
  cases hf : l.findIdx? q with
  | none =>
    rw [List.findIdx?_eq_none_iff] at hf
    have : l.any q = false := by rw [List.any_eq_false]; intro x hx; simpa using hf x hx
    rw [this]; rfl
  | some k =>
    rw [List.findIdx?_eq_some_iff_getElem] at hf
    obtain ⟨hk, h1, -⟩ := hf
    have : l.any q = true := by rw [List.any_eq_true]; exact ⟨l[k], List.getElem_mem hk, h1⟩
    rw [this]; simp
def unbased (a : Acc) : Bool := !Gr.based a
theorem unbased_any (l : List Acc) : l.any unbased = !Gr.basedAll l := by
  rw [Bool.eq_iff_iff]
  unfold Gr.basedAll unbased
  cases h : allAt l.length fun k => Gr.based (l.getD k Ch.zero)
  · simp only [Bool.not_false, iff_true]
    apply Classical.byContradiction
    intro hn
    rw [Bool.not_eq_true, List.any_eq_false] at hn
    have : allAt l.length (fun k => Gr.based (l.getD k Ch.zero)) = true := allAt_yes fun j hj => by
      have := hn l[j] (List.getElem_mem hj)
      rw [Ch.getD_at l j hj]
      simpa using this
    rw [this] at h
    cases h
  · simp only [Bool.not_true, Bool.false_eq_true, iff_false, Bool.not_eq_true]
    rw [List.any_eq_false]
    intro x hx
    obtain ⟨j, hj, rfl⟩ := List.mem_iff_getElem.1 hx
    have := allAt_at h hj
    rw [Ch.getD_at l j hj] at this
    simp [this]
theorem codeBefore_mem (R : List RoleR) (k : Nat) (hk : k < R.length) : decide (R[k].code ∈ (R.take k).map RoleR.code) = Gr.codeBefore R k := by
  unfold Gr.codeBefore
  rw [getD_lt R k default hk, Bool.eq_iff_iff]
  simp only [decide_eq_true_eq, List.mem_map, List.any_eq_true, beq_iff_eq]
theorem codes_take (R : List RoleR) (k : Nat) (hk : k < R.length) : (R.take (k + 1)).map RoleR.code = (R.take k).map RoleR.code ++ [R[k].code] := by
  rw [List.take_succ_eq_append_getElem hk, List.map_append]; rfl
theorem acc1b_any (a : Acc) (w : World) : Calls Tryz.prog 85 #[.agg #[.int .i64 a.code, .int .i64 a.kind, .int .i64 a.basis, .int .i64 a.parent]] w (BoolPost (unbased a) w) := by
  have hb : Below w.heap.size w (w.alloc (.cells #[.int .i64 a.code, .int .i64 a.kind, .int .i64 a.basis, .int .i64 a.parent] 121)) := (Below.refl _ _).alloc (Nat.le_refl _) _
  have HB := Lib.hid hb
  clear hb
  have HD : Hid (unbased a = !Gr.based a) := Lib.hid rfl
  go_enter Tryz.func85, Tryz.ntmps85
  go_wp2_with (go_at_call 86; refine (based_any a _).mono ?_; rintro e w2 ⟨rfl, hb2⟩)
  go_ret
  exact ⟨by rw [HD.out]; rfl, bel HB.out hb2⟩
set_option maxHeartbeats 1000000 in
theorem idxBas_any (l : List Acc) (A : Option Addr) (lc : Nat)  (w : World) (hr : Rd w w.heap.size 4 A l.length (Ch.cells l)) (hn : l.length ≤ 1000000)
    (hc : ∀ (a : Acc) (W : World), Below w.heap.size w W → Calls Tryz.prog 85 #[.agg #[.int .i64 a.code, .int .i64 a.kind, .int .i64 a.basis, .int .i64 a.parent]] W (BoolPost (unbased a) W)) :
    Calls Tryz.prog 122 #[.slice A l.length lc, .func (.func 85) #[] #[]] w (fun e w' => e = .returned (.int .i64 (fidx (unbased) l)) ∧ Below w.heap.size w w') := by
  have hb := Below.refl w.heap.size w
  have HR := Lib.hid hr
  have HC := Lib.hid hc
  clear hr hc
  go_enter Tryz.func122, Tryz.ntmps122
  go_wp2_with fail
  go_loopw [5, 8] (fun _ t wr => ∃ k : Nat, k ≤ l.length ∧ (∀ j (h : j < k) (h1 : j < l.length), unbased (l[j]'h1) = false) ∧ t = .int .i64 k ∧ Below w.heap.size w wr) (fun _ t _ => l.length - (intOf t).toNat)
  case atStart => exact ⟨0, by omega, fun j h => by omega, rfl, hb⟩
  case round =>
    clear hb
    obtain ⟨k, hk, hno, rfl, hb⟩ := hrel
    have HN := Lib.hid hno
    clear hno
    by_cases hlt : k < l.length
    · obtain ⟨b, o, hA, hbo, f0, f1, f2, f3⟩ := Ch.at_ (HR.out.below hb (Nat.le_refl _)) hlt
      subst hA
      cases hq : unbased l[k]
      · have HQ := Lib.hid hq
        go_wp2_with (go_at_call 85; refine ((HC.out l[k] _ hb)).mono ?_; rintro e w2 ⟨rfl, hb2⟩; replace hb := bel hb hb2; clear hb2)
        go_roundw
        case rel =>
          refine ⟨k + 1, by omega, fun j h h1 => ?_, by go_num, hb⟩
          by_cases e : j = k
          · subst e; exact HQ.out
          · exact HN.out j (by omega) h1
        case measure => simp [intOf]; omega
      · have HE : Hid (fidx (unbased) l = k) := Lib.hid (fidx_hit k hlt (fun j hj => HN.out j hj (by omega)) hq)
        go_wp2_with (go_at_call 85; refine ((HC.out l[k] _ hb)).mono ?_; rintro e w2 ⟨rfl, hb2⟩; replace hb := bel hb hb2; clear hb2)
        go_ret
        exact ⟨ret_int HE.out.symm, hb⟩
    · have HE : Hid (fidx (unbased) l = -1) := Lib.hid (fidx_miss fun j hj => HN.out j (by omega) hj)
      go_wp2_with fail
      go_ret
      exact ⟨ret_int HE.out.symm, hb⟩
theorem hasBas_any (l : List Acc) (A : Option Addr) (lc : Nat) (w : World) (hr : Rd w w.heap.size 4 A l.length (Ch.cells l)) (hn : l.length ≤ 1000000) :
    Calls Tryz.prog 84 #[.slice A l.length lc, .func (.func 85) #[] #[]] w (BoolPost (!Gr.basedAll l) w) := by
  have HR := Lib.hid hr
  have HE := Lib.hid ((unbased_any l).symm.trans (fidx_any unbased l).symm)
  clear hr
  generalize (!Gr.basedAll l) = v at *
  have K := Lib.hid (fun W h => idxBas_any l A lc W h hn (fun a W' _ => acc1b_any a W'))
  generalize fidx unbased l = i at *
  by_cases h0 : 0 ≤ i
  · go_enter Tryz.func84, Tryz.ntmps84
    go_wp2_with (go_at_call 122; refine (K.out _ HR.out).mono ?_; rintro e w2 ⟨rfl, hb2⟩)
    go_ret
    exact ⟨by rw [HE.out]; simp [h0], hb2⟩
  · go_enter Tryz.func84, Tryz.ntmps84
    go_wp2_with (go_at_call 122; refine (K.out _ HR.out).mono ?_; rintro e w2 ⟨rfl, hb2⟩)
    go_ret
    exact ⟨by rw [HE.out]; simp [h0], hb2⟩
theorem accsV_no {ch : List Acc} {R : List RoleR} {k : Nat} (hk : k < R.length) (h : Gr.roleOk ch R k = false) : Gr.accsV ch R = false := by
  unfold Gr.accsV Gr.rolesOk
  rw [allAt_no hk h]
  simp
section
variable (gcs : Array Value) (cur : ByteArray) (y m p : Int) (cl : List Acc) (cA : Option Addr) (cc : Nat) (ro : RolesR) (el : List EntR) (eA : Option Addr) (ec : Nat) (w : World)
set_option maxRecDepth 100000 in
set_option maxHeartbeats 8000000 in
theorem accounts_any (HG : Hid (gcs = #[.string cur, .int .i64 y, .int .i64 m, .int .i64 p, .slice cA cl.length cc, .int .i64 ro.investment, .int .i64 ro.goodwill, .int .i64 ro.associates, .int .i64 ro.inventory, .int .i64 ro.reserve, .int .i64 ro.minority, .int .i64 ro.retained, .int .i64 ro.acquired, .int .i64 ro.owners, .int .i64 ro.disposal, .int .i64 ro.associateProfit, .int .i64 ro.dividends, .int .i64 ro.minorityProfit, .int .i64 ro.difference, .int .i64 ro.margin, .slice eA el.length ec])) (h : GIn w cl cA el eA) (hn : cl.length ≤ 300000) : Calls Tryz.prog 59 #[.agg gcs] w (BoolPost (Gr.accsV cl (Gr.roles ro)) w) := by
  have H := Lib.hid h
  clear h
  have hb : Below w.heap.size w (w.alloc (.cells gcs 29)) := (Below.refl _ _).alloc (Nat.le_refl _) _
  have HB := Lib.hid (Blk.new w 29 gcs)
  have e4 : (w.alloc (.cells gcs 29)).cell? ⟨w.heap.size, 4, none⟩ = some (.slice cA cl.length cc) := (HB.out.cell 4).trans (by rw [HG.out]; rfl)
  have hmm := @run_makeMap Tryz.prog
  cases hv : Ch.validV cl true
  · have HE : Hid (Gr.accsV cl (Gr.roles ro) = false) := Lib.hid (by unfold Gr.accsV; rw [hv]; rfl)
    have HV := Lib.hid hv
    clear hv
    go_enter Tryz.func59, Tryz.ntmps59
    go_wp2_with
      (go_at_call 83; refine (valid_any cl true cA cc _ (H.out.step hb).ch hn H.out.wf).mono ?_; rintro e w2 ⟨rfl, hb2⟩; replace hb := bel hb hb2; rw [HV.out]; have HB2 := Lib.hid (HB.out.step hb2); have e42 : w2.cell? ⟨w.heap.size, 4, none⟩ = some (.slice cA cl.length cc) := (HB2.out.cell 4).trans (by rw [HG.out]; rfl))
    go_ret
    exact ⟨by rw [HE.out]; rfl, hb⟩
  · have HV := Lib.hid hv
    cases hba : Gr.basedAll cl
    · have HE : Hid (Gr.accsV cl (Gr.roles ro) = false) := Lib.hid (by unfold Gr.accsV; rw [hba]; simp)
      have HBA := Lib.hid hba
      clear hv hba
      go_enter Tryz.func59, Tryz.ntmps59
      go_wp2_with (first
        | (go_at_call 83; refine (valid_any cl true cA cc _ (H.out.step hb).ch hn H.out.wf).mono ?_; rintro e w2 ⟨rfl, hb2⟩; replace hb := bel hb hb2; rw [HV.out]; have HB2 := Lib.hid (HB.out.step hb2); have e42 : w2.cell? ⟨w.heap.size, 4, none⟩ = some (.slice cA cl.length cc) := (HB2.out.cell 4).trans (by rw [HG.out]; rfl))
        | (go_at_call 84; refine (hasBas_any cl cA cc _ (H.out.step hb).ch (by omega)).mono ?_; rintro e w3 ⟨rfl, hb3⟩; replace hb := bel hb hb3; rw [HBA.out]; have HB3 := Lib.hid ((HB2.out.step hb3).alloc (.map #[] 0)); have g5 : (w3.alloc (.map #[] 0)).cell? ⟨w.heap.size, 5, none⟩ = some (.int .i64 ro.investment) := (HB3.out.cell 5).trans (by rw [HG.out]; rfl); have g6 : (w3.alloc (.map #[] 0)).cell? ⟨w.heap.size, 6, none⟩ = some (.int .i64 ro.goodwill) := (HB3.out.cell 6).trans (by rw [HG.out]; rfl); have g7 : (w3.alloc (.map #[] 0)).cell? ⟨w.heap.size, 7, none⟩ = some (.int .i64 ro.associates) := (HB3.out.cell 7).trans (by rw [HG.out]; rfl); have g8 : (w3.alloc (.map #[] 0)).cell? ⟨w.heap.size, 8, none⟩ = some (.int .i64 ro.inventory) := (HB3.out.cell 8).trans (by rw [HG.out]; rfl); have g9 : (w3.alloc (.map #[] 0)).cell? ⟨w.heap.size, 9, none⟩ = some (.int .i64 ro.reserve) := (HB3.out.cell 9).trans (by rw [HG.out]; rfl); have g10 : (w3.alloc (.map #[] 0)).cell? ⟨w.heap.size, 10, none⟩ = some (.int .i64 ro.minority) := (HB3.out.cell 10).trans (by rw [HG.out]; rfl); have g11 : (w3.alloc (.map #[] 0)).cell? ⟨w.heap.size, 11, none⟩ = some (.int .i64 ro.retained) := (HB3.out.cell 11).trans (by rw [HG.out]; rfl); have g12 : (w3.alloc (.map #[] 0)).cell? ⟨w.heap.size, 12, none⟩ = some (.int .i64 ro.acquired) := (HB3.out.cell 12).trans (by rw [HG.out]; rfl); have g13 : (w3.alloc (.map #[] 0)).cell? ⟨w.heap.size, 13, none⟩ = some (.int .i64 ro.owners) := (HB3.out.cell 13).trans (by rw [HG.out]; rfl); have g14 : (w3.alloc (.map #[] 0)).cell? ⟨w.heap.size, 14, none⟩ = some (.int .i64 ro.disposal) := (HB3.out.cell 14).trans (by rw [HG.out]; rfl); have g15 : (w3.alloc (.map #[] 0)).cell? ⟨w.heap.size, 15, none⟩ = some (.int .i64 ro.associateProfit) := (HB3.out.cell 15).trans (by rw [HG.out]; rfl); have g16 : (w3.alloc (.map #[] 0)).cell? ⟨w.heap.size, 16, none⟩ = some (.int .i64 ro.dividends) := (HB3.out.cell 16).trans (by rw [HG.out]; rfl); have g17 : (w3.alloc (.map #[] 0)).cell? ⟨w.heap.size, 17, none⟩ = some (.int .i64 ro.minorityProfit) := (HB3.out.cell 17).trans (by rw [HG.out]; rfl); have g18 : (w3.alloc (.map #[] 0)).cell? ⟨w.heap.size, 18, none⟩ = some (.int .i64 ro.difference) := (HB3.out.cell 18).trans (by rw [HG.out]; rfl); have g19 : (w3.alloc (.map #[] 0)).cell? ⟨w.heap.size, 19, none⟩ = some (.int .i64 ro.margin) := (HB3.out.cell 19).trans (by rw [HG.out]; rfl)))
      go_ret
      exact ⟨by rw [HE.out]; rfl, hb⟩
    · have HBA := Lib.hid hba
      clear hv hba
      go_enter Tryz.func59, Tryz.ntmps59
      go_wp2_with (first
        | (go_at_call 83; refine (valid_any cl true cA cc _ (H.out.step hb).ch hn H.out.wf).mono ?_; rintro e w2 ⟨rfl, hb2⟩; replace hb := bel hb hb2; rw [HV.out]; have HB2 := Lib.hid (HB.out.step hb2); have e42 : w2.cell? ⟨w.heap.size, 4, none⟩ = some (.slice cA cl.length cc) := (HB2.out.cell 4).trans (by rw [HG.out]; rfl))
        | (go_at_call 84; refine (hasBas_any cl cA cc _ (H.out.step hb).ch (by omega)).mono ?_; rintro e w3 ⟨rfl, hb3⟩; replace hb := bel hb hb3; rw [HBA.out]; have HB3 := Lib.hid ((HB2.out.step hb3).alloc (.map #[] 0)); have g5 : (w3.alloc (.map #[] 0)).cell? ⟨w.heap.size, 5, none⟩ = some (.int .i64 ro.investment) := (HB3.out.cell 5).trans (by rw [HG.out]; rfl); have g6 : (w3.alloc (.map #[] 0)).cell? ⟨w.heap.size, 6, none⟩ = some (.int .i64 ro.goodwill) := (HB3.out.cell 6).trans (by rw [HG.out]; rfl); have g7 : (w3.alloc (.map #[] 0)).cell? ⟨w.heap.size, 7, none⟩ = some (.int .i64 ro.associates) := (HB3.out.cell 7).trans (by rw [HG.out]; rfl); have g8 : (w3.alloc (.map #[] 0)).cell? ⟨w.heap.size, 8, none⟩ = some (.int .i64 ro.inventory) := (HB3.out.cell 8).trans (by rw [HG.out]; rfl); have g9 : (w3.alloc (.map #[] 0)).cell? ⟨w.heap.size, 9, none⟩ = some (.int .i64 ro.reserve) := (HB3.out.cell 9).trans (by rw [HG.out]; rfl); have g10 : (w3.alloc (.map #[] 0)).cell? ⟨w.heap.size, 10, none⟩ = some (.int .i64 ro.minority) := (HB3.out.cell 10).trans (by rw [HG.out]; rfl); have g11 : (w3.alloc (.map #[] 0)).cell? ⟨w.heap.size, 11, none⟩ = some (.int .i64 ro.retained) := (HB3.out.cell 11).trans (by rw [HG.out]; rfl); have g12 : (w3.alloc (.map #[] 0)).cell? ⟨w.heap.size, 12, none⟩ = some (.int .i64 ro.acquired) := (HB3.out.cell 12).trans (by rw [HG.out]; rfl); have g13 : (w3.alloc (.map #[] 0)).cell? ⟨w.heap.size, 13, none⟩ = some (.int .i64 ro.owners) := (HB3.out.cell 13).trans (by rw [HG.out]; rfl); have g14 : (w3.alloc (.map #[] 0)).cell? ⟨w.heap.size, 14, none⟩ = some (.int .i64 ro.disposal) := (HB3.out.cell 14).trans (by rw [HG.out]; rfl); have g15 : (w3.alloc (.map #[] 0)).cell? ⟨w.heap.size, 15, none⟩ = some (.int .i64 ro.associateProfit) := (HB3.out.cell 15).trans (by rw [HG.out]; rfl); have g16 : (w3.alloc (.map #[] 0)).cell? ⟨w.heap.size, 16, none⟩ = some (.int .i64 ro.dividends) := (HB3.out.cell 16).trans (by rw [HG.out]; rfl); have g17 : (w3.alloc (.map #[] 0)).cell? ⟨w.heap.size, 17, none⟩ = some (.int .i64 ro.minorityProfit) := (HB3.out.cell 17).trans (by rw [HG.out]; rfl); have g18 : (w3.alloc (.map #[] 0)).cell? ⟨w.heap.size, 18, none⟩ = some (.int .i64 ro.difference) := (HB3.out.cell 18).trans (by rw [HG.out]; rfl); have g19 : (w3.alloc (.map #[] 0)).cell? ⟨w.heap.size, 19, none⟩ = some (.int .i64 ro.margin) := (HB3.out.cell 19).trans (by rw [HG.out]; rfl)))
      have hwz3 := (HB2.out.step hb3).lt
      clear e4 e42 g5 g6 g7 g8 g9 g10 g11 g12 g13 g14 g15 g16 g17 g18 g19 HB HB2 hb2 hb3
      have hS3 := SetW.made (P := Tryz.prog) (k := 3) (e := 4) w3
      have hb4 := hb.alloc hb.size (.map #[] 0)
      have hz4 : w3.heap.size < (w3.alloc (.map #[] 0)).heap.size := by simp
      generalize hgen : w3.alloc (.map #[] 0) = W at *
      clear hgen hb
      refine (roles_any ro W).mono ?_
      rintro e w4 ⟨A, lc, rfl, hr, hb9⟩
      have hb := bel hb4 hb9
      have hlR : (Gr.roles ro).length ≤ 15 := Nat.le_of_eq (Gr.roles_len ro)
      generalize Gr.roles ro = R at *
      have HR := Lib.hid hr
      have HB4 := Lib.hid (HB3.out.step hb9)
      have HS4 := Lib.hid (hS3.step hb9)
      have hz5 := Nat.lt_of_lt_of_le hz4 hb9.size
      clear hr hb9 HB3 hS3 hb4 hz4
      go_wp2_with fail
      go_loopw [22] (fun t wr => ∃ k : Nat, k ≤ R.length ∧ (∀ j, j < k → Gr.roleOk cl R j = true) ∧ t = .int .i64 k ∧ SetW Tryz.prog 3 4 wr w3.heap.size k ((R.take k).map RoleR.code) ∧ Blk wr w.heap.size 29 gcs ∧ Rd wr wr.heap.size 5 A R.length (cellsOf RoleR.cells R) ∧ Below w.heap.size w wr) (fun t _ => R.length - (intOf t).toNat)
      case atStart => exact ⟨0, by omega, fun j h => by omega, rfl, HS4.out, HB4.out, HR.out, hb⟩
      case round =>
        clear HS4 HB4 HR hb
        obtain ⟨k, hk, hno, rfl, hS, hB, hRr, hb⟩ := hrel
        have HN := Lib.hid hno
        have HRr := Lib.hid hRr
        have hz := hb.size
        clear hno
        by_cases hlt : k < R.length
        · obtain ⟨b, o, hA, hbo, f0, f1, f2, f3, f4⟩ := RoleR.at_ hRr hlt
          subst hA
          have HX : Hid (Gr.roleOk cl R k = (Ch.fnB cl R[k].code && (!Gr.codeBefore R k && (decide ((Ch.fnV cl R[k].code).kind = R[k].kind) && decide ((Ch.fnV cl R[k].code).basis = R[k].basis))))) := Lib.hid (by unfold Gr.roleOk; rw [getD_lt R k default hlt])
          have HC := Lib.hid (codeBefore_mem R k hlt)
          have HT := Lib.hid (codes_take R k hlt)
          generalize R[k] = x at *
          obtain ⟨nm, c, kd, bs, mp⟩ := x
          dsimp only at *
          have hwd : Hid (Ch.fnB cl c = true → (Lit.int .i64 c).wf = true) := Lib.hid (fun hf => by
            unfold Ch.fnB at hf
            rw [Option.isSome_iff_exists] at hf
            obtain ⟨a, ha⟩ := hf
            obtain ⟨h1, h2⟩ := Ch.find_some cl c a ha
            rw [← h2]
            exact H.out.wf a h1)
          have K1 := Lib.hid (fun W h => find_gen cl c cA cc W h hn)
          generalize Ch.fnV cl c = a at *
          have hB1 := hB.alloc (.cells #[.string nm, .int .i64 c, .int .i64 kd, .int .i64 bs, .bool mp] 144)
          have e4 : (wr.alloc (.cells #[.string nm, .int .i64 c, .int .i64 kd, .int .i64 bs, .bool mp] 144)).cell? ⟨w.heap.size, 4, none⟩ = some (.slice cA cl.length cc) := (hB1.cell 4).trans (by rw [HG.out]; rfl)
          have HB1 := Lib.hid hB1
          have HQ1 := Lib.hid (Blk.new wr 144 #[.string nm, .int .i64 c, .int .i64 kd, .int .i64 bs, .bool mp])
          have HS1 := Lib.hid (hS.alloc (.cells #[.string nm, .int .i64 c, .int .i64 kd, .int .i64 bs, .bool mp] 144))
          have HR1 := Lib.hid (Rd.now HRr.out ((Below.refl wr.heap.size wr).alloc (Nat.le_refl _) (.cells #[.string nm, .int .i64 c, .int .i64 kd, .int .i64 bs, .bool mp] 144)))
          have hb1 := hb.alloc hz (.cells #[.string nm, .int .i64 c, .int .i64 kd, .int .i64 bs, .bool mp] 144)
          clear hB1 hS hB hRr
          go_wp2_with fail
          clear e4 f0 f1 f2 f3 f4 hb
          generalize hgen : wr.alloc (.cells #[.string nm, .int .i64 c, .int .i64 kd, .int .i64 bs, .bool mp] 144) = W1 at *
          clear hgen
          refine (K1.out W1 (H.out.step hb1).ch).mono ?_
          rintro e w5 ⟨rfl, hb9⟩
          have hb6 := (bel hb1 hb9).alloc (bel hb1 hb9).size (.cells #[.int .i64 a.code, .int .i64 a.kind, .int .i64 a.basis, .int .i64 a.parent] 121)
          have HB6 := Lib.hid ((HB1.out.step hb9).alloc (.cells #[.int .i64 a.code, .int .i64 a.kind, .int .i64 a.basis, .int .i64 a.parent] 121))
          have hQ6 := (HQ1.out.step hb9).alloc (.cells #[.int .i64 a.code, .int .i64 a.kind, .int .i64 a.basis, .int .i64 a.parent] 121)
          have hS6 := (HS1.out.step hb9).alloc (.cells #[.int .i64 a.code, .int .i64 a.kind, .int .i64 a.basis, .int .i64 a.parent] 121)
          have HR6 := Lib.hid (Rd.now HR1.out (hb9.alloc hb9.size (.cells #[.int .i64 a.code, .int .i64 a.kind, .int .i64 a.basis, .int .i64 a.parent] 121)))
          have g1 : (w5.alloc (.cells #[.int .i64 a.code, .int .i64 a.kind, .int .i64 a.basis, .int .i64 a.parent] 121)).cell? ⟨wr.heap.size, 1, none⟩ = some (.int .i64 c) := hQ6.cell 1
          have g2 : (w5.alloc (.cells #[.int .i64 a.code, .int .i64 a.kind, .int .i64 a.basis, .int .i64 a.parent] 121)).cell? ⟨wr.heap.size, 2, none⟩ = some (.int .i64 kd) := hQ6.cell 2
          have g3 : (w5.alloc (.cells #[.int .i64 a.code, .int .i64 a.kind, .int .i64 a.basis, .int .i64 a.parent] 121)).cell? ⟨wr.heap.size, 3, none⟩ = some (.int .i64 bs) := hQ6.cell 3
          have hbs6 := Below.refl w.heap.size w
          replace hbs6 := hb6
          have hb := Below.refl w.heap.size w
          clear hb9 HB1 HQ1 HS1 HR1 hb1 hQ6 K1
          have hg : True := trivial
          cases hf : Ch.fnB cl c
          · have HE : Hid (Gr.accsV cl R = false) := Lib.hid (accsV_no hlt (by rw [HX.out, hf]; rfl))
            go_wp2_with fail
            go_ret
            exact ⟨by rw [HE.out]; rfl, bel hb hbs6⟩
          · have hw2 := hwd.out hf
            have hLL := hS6.look (t := 140) Tryz.underlying3 Tryz.underlying4 Tryz.underlying140 (zero_bool _) hw2
            rw [HC.out] at hLL
            cases hg : Gr.codeBefore R k
            · rw [hg] at hLL
              have hf0 := hf
              cases hk : (a.kind != kd)
              · cases hs : (a.basis != bs)
                · have HO : Hid (Gr.roleOk cl R k = true) := Lib.hid (by rw [HX.out]; simp at hk hs; simp [hf, hg, hk, hs])
                  have HF := Lib.hid hf
                  clear hf hg hf0
                  go_wp2_with (at_mapUpdate; refine wpList_set_put rfl _ _ _ 140 rfl Tryz.underlying3 Tryz.underlying4 Tryz.underlying140 hS6 (by unfold maxLen; omega) c hw2 rfl rfl rfl ?_; intro w7 hS7 hg7)
                  have hB7 := HB6.out.grown hg7 (by simp; omega)
                  have hb7 : Below w.heap.size w w7 := Below.grown hb6 hg7 hb6.size (fun j hj => by injection hj with hj; omega)
                  have hR7 : Rd w7 w7.heap.size 5 (some ⟨b, o, none⟩) R.length (cellsOf RoleR.cells R) := (HR6.out.past hg7 hS6.isMap).more hg7.size
                  rw [← HT.out] at hS7
                  clear hg7 hS6 g1 g2 g3
                  go_wp2_with fail
                  go_roundw
                  case rel =>
                    refine ⟨k + 1, by omega, fun j hj => ?_, by go_num, hS7, hB7, hR7, hb7⟩
                    by_cases e : j = k
                    · subst e; exact HO.out
                    · exact HN.out j (by omega)
                  case measure => simp [intOf]; omega
                · have hf := hs
                  have hg := hs
                  have HE : Hid (Gr.accsV cl R = false) := Lib.hid (accsV_no hlt (by rw [HX.out]; simp at hs; simp [hs]))
                  go_wp2_with fail
                  go_ret
                  exact ⟨by rw [HE.out]; rfl, bel hb hbs6⟩
              · have HE : Hid (Gr.accsV cl R = false) := Lib.hid (accsV_no hlt (by rw [HX.out]; simp at hk; simp [hk]))
                go_wp2_with fail
                go_ret
                exact ⟨by rw [HE.out]; rfl, bel hb hbs6⟩
            · rw [hg] at hLL
              have HE : Hid (Gr.accsV cl R = false) := Lib.hid (accsV_no hlt (by rw [HX.out, hg]; simp))
              go_wp2_with fail
              go_ret
              exact ⟨by rw [HE.out]; rfl, bel hb hbs6⟩
        · have HE : Hid (Gr.accsV cl R = true) := Lib.hid (by unfold Gr.accsV Gr.rolesOk; rw [HV.out, HBA.out, allAt_yes (fun j hj => HN.out j (by omega))]; rfl)
          clear hB hRr
          go_wp2_with fail
          go_ret
          exact ⟨by rw [HE.out]; rfl, hb⟩
end
end Go.Proofs.YtnddoehhcpejjaaGreat
