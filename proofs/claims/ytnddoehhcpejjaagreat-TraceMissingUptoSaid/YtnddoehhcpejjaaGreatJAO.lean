/- Texts of this claim, put together. -/
import Derived.Test.YtnddoehhcpejjaaGreatJAL
import Derived.Test.YtnddoehhcpejjaaGreatJAN
/- The walk of group.Valid. -/
namespace Go.Proofs.YtnddoehhcpejjaaGreat
set_option linter.unusedVariables false
set_option linter.unusedSimpArgs false
open Go.RowKit

def Gr.gv (cur : ByteArray) (cl : List Acc) (ro : RolesR) (el : List EntR) (cal : Bool) : Bool :=
  Gr.curV cur && (cal && (Gr.accsV cl (Gr.roles ro) && (decide (1 ≤ el.length) && (decide (el.length ≤ 12) && (!(el.getD 0 default).joint && Gr.entsV cl (Gr.roles ro) el)))))
theorem StrSet.isMap {P : Program} {k e : TypeId} {w : World} {b n : Nat} {S : List Txt} (h : StrSet P k e w b n S) : ∃ es cl, w.heap[b]? = some (.map es cl) := by
  obtain ⟨D, ⟨es, cl, hb, _⟩, _⟩ := h
  exact ⟨es, cl, hb⟩
def namesT (E : List EntR) : List Txt := E.map fun x => x.name.data.toList
theorem bytes_ext {a b : ByteArray} (h : a.data.toList = b.data.toList) : a = b := by
  obtain ⟨⟨a⟩⟩ := a
  obtain ⟨⟨b⟩⟩ := b
  simp at h
  rw [h]
theorem nameBefore_mem (E : List EntR) (k : Nat) (h : k < E.length) : decide (E[k].name.data.toList ∈ namesT (E.take k)) = Gr.nameBefore E k := by
  unfold Gr.nameBefore namesT
  rw [getD_lt E k default h, Bool.eq_iff_iff]
  simp only [decide_eq_true_eq, List.mem_map, List.any_eq_true]
  constructor
  · rintro ⟨x, hx, e⟩; exact ⟨x, hx, bytes_ext e⟩
  · rintro ⟨x, hx, e⟩; exact ⟨x, hx, by rw [e]⟩
theorem names_take (E : List EntR) (k : Nat) (h : k < E.length) : namesT (E.take (k + 1)) = namesT (E.take k) ++ [E[k].name.data.toList] := by
  unfold namesT
  rw [List.take_succ_eq_append_getElem h, List.map_append]; rfl
theorem accsV_roles {ch : List Acc} {R : List RoleR} (h : Gr.accsV ch R = true) : Gr.rolesOk ch R = true := by
  unfold Gr.accsV at h
  simp only [Bool.and_eq_true] at h
  exact h.2.2
section
variable (gcs : Array Value) (cur : ByteArray) (y m p : Int) (cl : List Acc) (cA : Option Addr) (cc : Nat) (ro : RolesR) (el : List EntR) (eA : Option Addr) (ec : Nat) (w : World)
set_option maxRecDepth 100000 in
set_option maxHeartbeats 8000000 in
theorem gvalid_any (HG : Hid (gcs = #[.string cur, .int .i64 y, .int .i64 m, .int .i64 p, .slice cA cl.length cc, .int .i64 ro.investment, .int .i64 ro.goodwill, .int .i64 ro.associates, .int .i64 ro.inventory, .int .i64 ro.reserve, .int .i64 ro.minority, .int .i64 ro.retained, .int .i64 ro.acquired, .int .i64 ro.owners, .int .i64 ro.disposal, .int .i64 ro.associateProfit, .int .i64 ro.dividends, .int .i64 ro.minorityProfit, .int .i64 ro.difference, .int .i64 ro.margin, .slice eA el.length ec])) (h : GIn w cl cA el eA) (hF : FewOk cur cl el) : Calls Tryz.prog 38 #[.agg gcs] w (BoolPost (Gr.gv cur cl ro el (Cal.ok y m p)) w) := by
  have hn : cl.length ≤ 300000 := by have := hF.ch; omega
  have hcs : cur.size ≤ maxLen := hF.cur
  have hel := hF.en
  have HF := Lib.hid hF.ents
  have H := Lib.hid h
  clear h hF
  have hgi : (Tryz.prog.info? 29).map (·.size) = some gcs.size := by rw [HG.out]; exact grp_size
  have hb : Below w.heap.size w (w.alloc (.cells gcs 29)) := (Below.refl _ _).alloc (Nat.le_refl _) _
  have HB := Lib.hid (Blk.new w 29 gcs)
  have e0 : (w.alloc (.cells gcs 29)).cell? ⟨w.heap.size, 0, none⟩ = some (.string cur) := (HB.out.cell 0).trans (by rw [HG.out]; rfl); have e1 : (w.alloc (.cells gcs 29)).cell? ⟨w.heap.size, 1, none⟩ = some (.int .i64 y) := (HB.out.cell 1).trans (by rw [HG.out]; rfl); have e2 : (w.alloc (.cells gcs 29)).cell? ⟨w.heap.size, 2, none⟩ = some (.int .i64 m) := (HB.out.cell 2).trans (by rw [HG.out]; rfl); have e3 : (w.alloc (.cells gcs 29)).cell? ⟨w.heap.size, 3, none⟩ = some (.int .i64 p) := (HB.out.cell 3).trans (by rw [HG.out]; rfl)
  have hmm := @run_makeMap Tryz.prog
  have HD : Hid (Gr.gv cur cl ro el (Cal.ok y m p) = (Gr.curV cur && (Cal.ok y m p && (Gr.accsV cl (Gr.roles ro) && (decide (1 ≤ el.length) && (decide (el.length ≤ 12) && (!(el.getD 0 default).joint && Gr.entsV cl (Gr.roles ro) el))))))) := Lib.hid rfl
  generalize Gr.gv cur cl ro el (Cal.ok y m p) = V at *
  cases hcu : Gr.curV cur
  · have HE : Hid (V = false) := Lib.hid (by rw [HD.out, hcu]; rfl)
    have HCU := Lib.hid hcu
    clear hcu
    go_enter Tryz.func38, Tryz.ntmps38
    go_wp2_with
      (go_at_call 57; refine ((currency_any cur _ hcs)).mono ?_; rintro e w2 ⟨rfl, rfl⟩; rw [HCU.out])
    go_ret
    exact ⟨by rw [HE.out]; rfl, hb⟩
  · have HCU := Lib.hid hcu
    cases hca : Cal.ok y m p
    · have HE : Hid (V = false) := Lib.hid (by rw [HD.out, hca]; simp)
      have HCA := Lib.hid hca
      clear hcu hca
      go_enter Tryz.func38, Tryz.ntmps38
      go_wp2_with (first
        | (go_at_call 57; refine ((currency_any cur _ hcs)).mono ?_; rintro e w2 ⟨rfl, rfl⟩; rw [HCU.out])
        | (go_at_call 58; refine (cal_valid y m p _).mono ?_; rintro e w2 ⟨rfl, hb2⟩; rw [HCA.out]; replace hb := bel hb hb2; have HB2 := Lib.hid (HB.out.step hb2); clear hb2))
      go_ret
      exact ⟨by rw [HE.out]; rfl, hb⟩
    · have HCA := Lib.hid hca
      cases hac : Gr.accsV cl (Gr.roles ro)
      · have HE : Hid (V = false) := Lib.hid (by rw [HD.out, hac]; simp)
        have HAC := Lib.hid hac
        clear hcu hca hac
        go_enter Tryz.func38, Tryz.ntmps38
        go_wp2_with (first
          | (go_at_call 57; refine ((currency_any cur _ hcs)).mono ?_; rintro e w2 ⟨rfl, rfl⟩; rw [HCU.out])
          | (go_at_call 58; refine (cal_valid y m p _).mono ?_; rintro e w2 ⟨rfl, hb2⟩; rw [HCA.out]; replace hb := bel hb hb2; have HB2 := Lib.hid (HB.out.step hb2); clear hb2)
          | (refine wpList_load_blk 29 (.tmp 1) rfl (w.heap.size) rfl (by kernel_rfl) (HB2).out Tryz.underlying29 hgi ?_)
          | (go_at_call 59; refine (accounts_any gcs cur y m p cl cA cc ro el _ ec _ HG (H.out.step hb) hn).mono ?_; rintro e w3 ⟨rfl, hb3⟩; rw [HAC.out]; replace hb := bel hb hb3; have HB3 := Lib.hid (HB2.out.step hb3); clear hb3; have g20 : w3.cell? ⟨w.heap.size, 20, none⟩ = some (.slice (eA) el.length ec) := (HB3.out.cell 20).trans (by rw [HG.out]; rfl)))
        go_ret
        exact ⟨by rw [HE.out]; rfl, hb⟩
      · have HAC := Lib.hid hac
        rw [hcu, hca, hac] at HD
        clear hcu hca hac
        by_cases h1 : 1 ≤ el.length
        · obtain ⟨b, o, hA, hbo, f0, f1, f2, f3, f4⟩ := EntR.at_ (k := 0) H.out.en h1
          subst hA
          have HF4 : Hid (∀ W, Below w.heap.size w W → W.cell? ⟨b, o + 4, none⟩ = some (.bool (el[0]'h1).joint)) := Lib.hid (fun W hb => (hb.cell (p := ⟨b, o + 4, none⟩) hbo).trans (by simpa using f4))
          clear f0 f1 f2 f3 f4
          rw [getD_lt el 0 default h1] at HD
          by_cases h12 : el.length ≤ 12
          · cases hj : (el[0]'h1).joint
            · have hj' := hj
              rw [hj] at HF4
              have HJ := Lib.hid hj
              clear hj hj'
              go_enter Tryz.func38, Tryz.ntmps38
              go_wp2_with (first
                | (go_at_call 57; refine ((currency_any cur _ hcs)).mono ?_; rintro e w2 ⟨rfl, rfl⟩; rw [HCU.out])
                | (go_at_call 58; refine (cal_valid y m p _).mono ?_; rintro e w2 ⟨rfl, hb2⟩; rw [HCA.out]; replace hb := bel hb hb2; have HB2 := Lib.hid (HB.out.step hb2); clear hb2)
                | (refine wpList_load_blk 29 (.tmp 1) rfl (w.heap.size) rfl (by kernel_rfl) (HB2).out Tryz.underlying29 hgi ?_)
                | (go_at_call 59; refine (accounts_any gcs cur y m p cl cA cc ro el _ ec _ HG (H.out.step hb) hn).mono ?_; rintro e w3 ⟨rfl, hb3⟩; rw [HAC.out]; replace hb := bel hb hb3; have HB3 := Lib.hid (HB2.out.step hb3); clear hb3; have g20 : w3.cell? ⟨w.heap.size, 20, none⟩ = some (.slice (some ⟨b, o, none⟩) el.length ec) := (HB3.out.cell 20).trans (by rw [HG.out]; rfl); have g0 := HF4.out w3 hb; have g21 : (w3.alloc (.map #[] 0)).cell? ⟨w.heap.size, 20, none⟩ = some (.slice (some ⟨b, o, none⟩) el.length ec) := ((HB3.out.alloc (.map #[] 0)).cell 20).trans (by rw [HG.out]; rfl)))
              clear e0 e1 e2 e3 g20 g0 g21 HB HB2 HF4
              have hS3 := StrSet.made (P := Tryz.prog) (k := 9) (e := 4) w3
              have hb4 := hb.alloc hb.size (.map #[] 0)
              have hB4 := HB3.out.alloc (.map #[] 0)
              have hl3 := HB3.out.lt
              clear HB3
              have HR := Lib.hid (accsV_roles HAC.out)
              go_loopw [44] (fun t wr => ∃ k : Nat, k ≤ el.length ∧ (∀ j, j < k → (!Gr.nameBefore el j && Gr.entV cl (Gr.roles ro) (el.getD j default)) = true) ∧ t = .int .i64 k ∧ StrSet Tryz.prog 9 4 wr w3.heap.size k (namesT (el.take k)) ∧ Blk wr w.heap.size 29 gcs ∧ Below w.heap.size w wr) (fun t _ => el.length - (intOf t).toNat)
              case atStart => exact ⟨0, by omega, fun j h => by omega, rfl, hS3, hB4, hb4⟩
              case round =>
                clear hS3 hB4 hb4 hb
                obtain ⟨k, hk, hno, rfl, hS, hB, hb⟩ := hrel
                have HN := Lib.hid hno
                have hz := hb.size
                clear hno
                by_cases hlt : k < el.length
                · obtain ⟨b', o', hA', hbo', f0, f1, f2, f3, f4⟩ := EntR.at_ (Rd.now H.out.en hb) hlt
                  injection hA' with hA'
                  injection hA' with hA1 hA2
                  subst hA1 hA2
                  have hok := H.out.ok _ (List.getElem_mem hlt)
                  have hfew := HF.out k hlt
                  have HX : Hid (el.getD k default = el[k]) := Lib.hid (getD_lt el k default hlt)
                  have HM := Lib.hid (nameBefore_mem el k hlt)
                  have HT := Lib.hid (names_take el k hlt)
                  generalize el[k] = x at *
                  obtain ⟨xn, xc, ⟨l1, A1, c1⟩, ⟨l2, A2, c2⟩, xj⟩ := x
                  dsimp only [Sl.val] at *
                  have hxn : xn.size ≤ maxLen := hok.1
                  have HOK := Lib.hid hok
                  have hLL := (hS.alloc (.cells #[.string xn, .string xc, .slice A1 l1.length c1, .slice A2 l2.length c2, .bool xj] 90)).look (t := 117) Tryz.underlying9 Tryz.underlying4 Tryz.underlying117 (zero_bool _) hxn
                  rw [HM.out] at hLL
                  have HB1 := Lib.hid (hB.alloc (.cells #[.string xn, .string xc, .slice A1 l1.length c1, .slice A2 l2.length c2, .bool xj] 90))
                  have HS1 := Lib.hid (hS.alloc (.cells #[.string xn, .string xc, .slice A1 l1.length c1, .slice A2 l2.length c2, .bool xj] 90))
                  have HX1 := Lib.hid (Blk.new wr 90 #[.string xn, .string xc, .slice A1 l1.length c1, .slice A2 l2.length c2, .bool xj])
                  have hb1 := hb.alloc hz (.cells #[.string xn, .string xc, .slice A1 l1.length c1, .slice A2 l2.length c2, .bool xj] 90)
                  clear hok hS hB
                  cases hnb : Gr.nameBefore el k
                  · rw [hnb] at hLL
                    have HNB := Lib.hid hnb
                    clear hnb
                    cases hev : Gr.entV cl (Gr.roles ro) ⟨xn, xc, ⟨l1, A1, c1⟩, ⟨l2, A2, c2⟩, xj⟩
                    · have HE : Hid (V = false) := Lib.hid (by rw [HD.out]; unfold Gr.entsV; rw [allAt_no hlt (by rw [HX.out, HNB.out, hev]; rfl)]; simp)
                      have HEV := Lib.hid hev
                      clear hev
                      go_wp2_with (first
                        | (refine wpList_load_blk 29 (.tmp 1) rfl (w.heap.size) rfl (by kernel_rfl) (HB1).out Tryz.underlying29 hgi ?_)
                        | (go_at_call 60; refine (entity_any gcs cur y m p cl cA cc ro el _ ec _ xn xc l1 A1 c1 l2 A2 c2 xj HG (H.out.step hb1) hn (HOK.out.step hb1) (by omega) (by omega) HR.out).mono ?_; rintro e w5 ⟨rfl, hb9⟩; rw [HEV.out]; have hb5 := bel hb1 hb9; clear hb9))
                      go_ret
                      exact ⟨by rw [HE.out]; rfl, hb5⟩
                    · have HO : Hid ((!Gr.nameBefore el k && Gr.entV cl (Gr.roles ro) (el.getD k default)) = true) := Lib.hid (by rw [HX.out, HNB.out, hev]; rfl)
                      have HEV := Lib.hid hev
                      clear hev
                      go_wp2_with (first
                        | (refine wpList_load_blk 29 (.tmp 1) rfl (w.heap.size) rfl (by kernel_rfl) (HB1).out Tryz.underlying29 hgi ?_)
                        | (go_at_call 60; refine (entity_any gcs cur y m p cl cA cc ro el _ ec _ xn xc l1 A1 c1 l2 A2 c2 xj HG (H.out.step hb1) hn (HOK.out.step hb1) (by omega) (by omega) HR.out).mono ?_; rintro e w5 ⟨rfl, hb9⟩; rw [HEV.out]; have hb5 := bel hb1 hb9; have hS5 := HS1.out.step hb9; have HB5 := Lib.hid (HB1.out.step hb9); have k0 := (HX1.out.step hb9).cell 0; clear hb9)
                        | (at_mapUpdate; refine wpList_str_put rfl _ _ _ 117 rfl Tryz.underlying9 Tryz.underlying4 Tryz.underlying117 hS5 (by unfold maxLen; omega) xn hxn rfl rfl rfl ?_; intro w6 hS6 hg6))
                      have hbz := hb5.size
                      have hB6 := HB5.out.grown hg6 (by simp; omega)
                      have hb6 : Below w.heap.size w w6 := Below.grown hb5 hg6 (by omega) (fun j hj => by injection hj with hj; omega)
                      rw [← HT.out] at hS6
                      clear hg6 hS5 k0
                      go_wp2_with fail
                      go_roundw
                      case rel =>
                        refine ⟨k + 1, by omega, fun j hj => ?_, by go_num, hS6, hB6, hb6⟩
                        by_cases e : j = k
                        · subst e; exact HO.out
                        · exact HN.out j (by omega)
                      case measure => simp [intOf]; omega
                  · have HE : Hid (V = false) := Lib.hid (by rw [HD.out]; unfold Gr.entsV; rw [allAt_no hlt (by rw [hnb]; rfl)]; simp)
                    rw [hnb] at hLL
                    clear hnb
                    go_wp2_with fail
                    go_ret
                    exact ⟨by rw [HE.out]; rfl, hb1⟩
                · have HE : Hid (V = true) := Lib.hid (by rw [HD.out, HJ.out]; unfold Gr.entsV; rw [allAt_yes (fun j hj => HN.out j (by omega))]; simp [h12]; omega)
                  clear hS hB
                  go_wp2_with fail
                  go_ret
                  exact ⟨by rw [HE.out]; rfl, hb⟩
            · have HE : Hid (V = false) := Lib.hid (by rw [HD.out]; simp [hj])
              rw [hj] at HF4
              clear hj
              go_enter Tryz.func38, Tryz.ntmps38
              go_wp2_with (first
                | (go_at_call 57; refine ((currency_any cur _ hcs)).mono ?_; rintro e w2 ⟨rfl, rfl⟩; rw [HCU.out])
                | (go_at_call 58; refine (cal_valid y m p _).mono ?_; rintro e w2 ⟨rfl, hb2⟩; rw [HCA.out]; replace hb := bel hb hb2; have HB2 := Lib.hid (HB.out.step hb2); clear hb2)
                | (refine wpList_load_blk 29 (.tmp 1) rfl (w.heap.size) rfl (by kernel_rfl) (HB2).out Tryz.underlying29 hgi ?_)
                | (go_at_call 59; refine (accounts_any gcs cur y m p cl cA cc ro el _ ec _ HG (H.out.step hb) hn).mono ?_; rintro e w3 ⟨rfl, hb3⟩; rw [HAC.out]; replace hb := bel hb hb3; have HB3 := Lib.hid (HB2.out.step hb3); clear hb3; have g20 : w3.cell? ⟨w.heap.size, 20, none⟩ = some (.slice (some ⟨b, o, none⟩) el.length ec) := (HB3.out.cell 20).trans (by rw [HG.out]; rfl); have g0 := HF4.out w3 hb))
              go_ret
              exact ⟨by rw [HE.out]; rfl, hb⟩
          · have HE : Hid (V = false) := Lib.hid (by rw [HD.out]; simp [h12])
            have h12' : 12 < el.length := by omega
            go_enter Tryz.func38, Tryz.ntmps38
            go_wp2_with (first
              | (go_at_call 57; refine ((currency_any cur _ hcs)).mono ?_; rintro e w2 ⟨rfl, rfl⟩; rw [HCU.out])
              | (go_at_call 58; refine (cal_valid y m p _).mono ?_; rintro e w2 ⟨rfl, hb2⟩; rw [HCA.out]; replace hb := bel hb hb2; have HB2 := Lib.hid (HB.out.step hb2); clear hb2)
              | (refine wpList_load_blk 29 (.tmp 1) rfl (w.heap.size) rfl (by kernel_rfl) (HB2).out Tryz.underlying29 hgi ?_)
              | (go_at_call 59; refine (accounts_any gcs cur y m p cl cA cc ro el _ ec _ HG (H.out.step hb) hn).mono ?_; rintro e w3 ⟨rfl, hb3⟩; rw [HAC.out]; replace hb := bel hb hb3; have HB3 := Lib.hid (HB2.out.step hb3); clear hb3; have g20 : w3.cell? ⟨w.heap.size, 20, none⟩ = some (.slice (some ⟨b, o, none⟩) el.length ec) := (HB3.out.cell 20).trans (by rw [HG.out]; rfl)))
            go_ret
            exact ⟨by rw [HE.out]; rfl, hb⟩
        · have HE : Hid (V = false) := Lib.hid (by rw [HD.out]; simp [h1])
          have h1' : el.length < 1 := by omega
          go_enter Tryz.func38, Tryz.ntmps38
          go_wp2_with (first
            | (go_at_call 57; refine ((currency_any cur _ hcs)).mono ?_; rintro e w2 ⟨rfl, rfl⟩; rw [HCU.out])
            | (go_at_call 58; refine (cal_valid y m p _).mono ?_; rintro e w2 ⟨rfl, hb2⟩; rw [HCA.out]; replace hb := bel hb hb2; have HB2 := Lib.hid (HB.out.step hb2); clear hb2)
            | (refine wpList_load_blk 29 (.tmp 1) rfl (w.heap.size) rfl (by kernel_rfl) (HB2).out Tryz.underlying29 hgi ?_)
            | (go_at_call 59; refine (accounts_any gcs cur y m p cl cA cc ro el _ ec _ HG (H.out.step hb) hn).mono ?_; rintro e w3 ⟨rfl, hb3⟩; rw [HAC.out]; replace hb := bel hb hb3; have HB3 := Lib.hid (HB2.out.step hb3); clear hb3; have g20 : w3.cell? ⟨w.heap.size, 20, none⟩ = some (.slice (eA) el.length ec) := (HB3.out.cell 20).trans (by rw [HG.out]; rfl)))
          go_ret
          exact ⟨by rw [HE.out]; rfl, hb⟩
end
end Go.Proofs.YtnddoehhcpejjaaGreat
/- The walks of the reference's calendar functions. -/
namespace Go.Proofs.YtnddoehhcpejjaaGreat
set_option linter.unusedVariables false
set_option linter.unusedSimpArgs false
open Go.RowKit

theorem Cal.add_fd (Y M p : Int) (h : Dt.vld Y M 1 = true) : Dt.addV (Dt.num Y M 1) p = Cal.fdV (Cal.tm Y M p) ∧ Dt.addE (Dt.num Y M 1) p = Cal.fdE (Cal.tm Y M p) := by
  obtain ⟨c1, c2, c3⟩ := Dt.civ_eq _ Y M 1 h rfl
  have hD := Dt.isD_num Y M 1 h
  have hm : Dt.mon (Dt.num Y M 1) p = Cal.tm Y M p := by unfold Dt.mon Cal.tm; rw [c1, c2]
  have ha : Dt.addOk (Dt.num Y M 1) p = Cal.mok (Cal.tm Y M p) := by unfold Dt.addOk Cal.mok; rw [hD, hm]; rfl
  unfold Dt.addV Dt.addE Cal.fdV Cal.fdE
  rw [ha]
  by_cases hk : Cal.mok (Cal.tm Y M p) = true
  · simp only [if_pos hk]
    rw [Cal.mok_iff] at hk
    have v := Cal.fd_vld _ hk.1 hk.2
    rw [Dt.vld_iff] at v
    refine ⟨?_, by trivial⟩
    unfold Dt.addN Cal.fd
    rw [hm, c3, show min 1 (Dt.days (Cal.tm Y M p / 12) (Cal.tm Y M p % 12 + 1)) = 1 from by omega]
  · simp [if_neg hk]
theorem Cal.vld1 (Y M : Int) : Dt.vld Y M 1 = true ↔ 1900 ≤ Y ∧ Y ≤ 2199 ∧ 1 ≤ M ∧ M ≤ 12 := by
  rw [Dt.vld_iff]
  constructor
  · intro h; exact Dt.days_pos Y M (by omega)
  · intro ⟨h1, h2, h3, h4⟩
    rw [Dt.days_in Y M h1 h2 h3 h4]
    have l := Dt.lp_01 Y
    have := Dt.mlen_bd (Dt.lp Y) M (by omega) (by omega) h3 h4
    omega

set_option maxHeartbeats 1000000 in
theorem rcal_first (Y M P p : Int) (w : World) (h : Hid (Dt.vld Y M 1 = true)) :
    Calls Tryz.prog 51 #[.agg #[.int .i64 Y, .int .i64 M, .int .i64 P], .int .i64 p] w fun e w' => e = .returned (.tuple #[.int .i64 (Cal.fdV (Cal.tm Y M p)), .int .i64 (Cal.fdE (Cal.tm Y M p))]) ∧ Below w.heap.size w w' := by
  have HE := Lib.hid (Cal.add_fd Y M p h.out)
  have hb := Below.refl w.heap.size w
  go_enter Tryz.func51, Tryz.ntmps51
  go_wp2_with fail
  refine (rof_yes _ _ _ _ h.out).mono ?_; rintro e w2 ⟨rfl, rfl⟩
  go_wp2_with fail
  refine (radd_any _ _ _).mono ?_; rintro e w2 ⟨rfl, rfl⟩
  go_wp2_with fail
  go_ret2
  exact ⟨ret_pair HE.out, (by repeat (first | exact hb | refine Below.alloc ?_ (by have hbs := hb.size; first | omega | (simp; done) | (simp; omega)) _ | refine Below.drew ?_ | refine below_drewN_ ?_ _ | refine Below.setCell ?_ (by simp) _))⟩
set_option maxHeartbeats 1000000 in
theorem rcal_first_no (Y M P p : Int) (w : World) (h : Hid (Dt.vld Y M 1 = false)) :
    Calls Tryz.prog 51 #[.agg #[.int .i64 Y, .int .i64 M, .int .i64 P], .int .i64 p] w fun e w' => e = .returned (.tuple #[.int .i64 0, .int .i64 2]) ∧ Below w.heap.size w w' := by
  have hb := Below.refl w.heap.size w
  go_enter Tryz.func51, Tryz.ntmps51
  go_wp2_with fail
  refine (rof_no _ _ _ _ h.out).mono ?_; rintro e w2 ⟨rfl, rfl⟩
  go_wp2_with fail
  go_ret2
  exact ⟨rfl, (by repeat (first | exact hb | refine Below.alloc ?_ (by have hbs := hb.size; first | omega | (simp; done) | (simp; omega)) _ | refine Below.drew ?_ | refine below_drewN_ ?_ _ | refine Below.setCell ?_ (by simp) _))⟩

set_option maxHeartbeats 1000000 in
theorem rcal_valid (Y M P : Int) (w : World) :
    Calls Tryz.prog 78 #[.agg #[.int .i64 Y, .int .i64 M, .int .i64 P]] w fun e w' => e = .returned (.bool (Cal.ok Y M P)) ∧ Below w.heap.size w w' := by
  have hb := Below.refl w.heap.size w
  by_cases h : 1 ≤ P ∧ P ≤ 120
  · obtain ⟨p0, p1⟩ := h
    cases hv : Dt.vld Y M 1
    · have HF : Hid (Cal.ok Y M P = false) := Lib.hid ((Cal.ok_no Y M P).2 (fun k => by
        unfold Cal.okP at k
        have := (Cal.vld1 Y M).2 (by omega)
        rw [hv] at this; cases this))
      have HV := Lib.hid hv
      clear hv
      go_enter Tryz.func78, Tryz.ntmps78
      go_wp2_with fail
      refine (rcal_first_no Y M P _ _ HV).mono ?_; rintro e w2 ⟨rfl, hb2⟩; obtain ⟨hc2, -⟩ := bcell hb2; have hz2 := hb2.size; (try simp at hz2); (try have hy2 : w.heap.size < w2.heap.size := by omega); replace hb := bel' (w := w) hb2 (by repeat (first | exact hb | refine Below.alloc ?_ (by have hbs := hb.size; first | omega | (simp; done) | (simp; omega)) _ | refine Below.drew ?_ | refine below_drewN_ ?_ _ | refine Below.setCell ?_ (by simp) _)); clear hb2
      go_wp2_with fail
      go_ret
      exact ⟨by rw [HF.out]; rfl, hb⟩
    · have k := (Cal.vld1 Y M).1 hv
      have HE : Hid (∀ e, e = Cal.fdE (Cal.tm Y M (P - 1)) → (e == 0) = Cal.ok Y M P) := by
        refine Lib.hid (fun e he => ?_)
        rw [he]
        unfold Cal.fdE Cal.mok Cal.ok Cal.okP
        have : 22800 ≤ Cal.tm Y M (P - 1) := by unfold Cal.tm; omega
        by_cases h2 : Cal.tm Y M (P - 1) ≤ 26399
        · simp [*]
        · simp [*]
      have HV := Lib.hid hv
      clear hv k
      go_enter Tryz.func78, Tryz.ntmps78
      go_wp2_with fail
      refine (rcal_first Y M P _ _ HV).mono ?_; rintro e w2 ⟨rfl, hb2⟩; obtain ⟨hc2, -⟩ := bcell hb2; have hz2 := hb2.size; (try simp at hz2); (try have hy2 : w.heap.size < w2.heap.size := by omega); replace hb := bel' (w := w) hb2 (by repeat (first | exact hb | refine Below.alloc ?_ (by have hbs := hb.size; first | omega | (simp; done) | (simp; omega)) _ | refine Below.drew ?_ | refine below_drewN_ ?_ _ | refine Below.setCell ?_ (by simp) _)); clear hb2
      go_wp2_with fail
      go_ret
      exact ⟨ret_bool (HE.out _ rfl), hb⟩
  · have HF : Hid (Cal.ok Y M P = false) := Lib.hid ((Cal.ok_no Y M P).2 (by unfold Cal.okP; omega))
    by_cases c3 : P < 1
    · clear h
      go_enter Tryz.func78, Tryz.ntmps78
      go_wp2_with fail
      go_ret
      exact ⟨by rw [HF.out]; rfl, (by repeat (first | exact hb | refine Below.alloc ?_ (by have hbs := hb.size; first | omega | (simp; done) | (simp; omega)) _ | refine Below.drew ?_ | refine below_drewN_ ?_ _ | refine Below.setCell ?_ (by simp) _))⟩
    have c4 : 120 < P := by omega
    clear h
    go_enter Tryz.func78, Tryz.ntmps78
    go_wp2_with fail
    go_ret
    exact ⟨by rw [HF.out]; rfl, (by repeat (first | exact hb | refine Below.alloc ?_ (by have hbs := hb.size; first | omega | (simp; done) | (simp; omega)) _ | refine Below.drew ?_ | refine below_drewN_ ?_ _ | refine Below.setCell ?_ (by simp) _))⟩

theorem rcal_valid_is (Y M P : Int) (b : Bool) (w : World) (h : Hid (Cal.ok Y M P = b)) :
    Calls Tryz.prog 78 #[.agg #[.int .i64 Y, .int .i64 M, .int .i64 P]] w fun e w' => e = .returned (.bool b) ∧ Below w.heap.size w w' := by
  have := rcal_valid Y M P w
  rw [h.out] at this
  exact this

set_option maxHeartbeats 1000000 in
theorem rcal_check (Y M P p : Int) (w : World) :
    Calls Tryz.prog 50 #[.agg #[.int .i64 Y, .int .i64 M, .int .i64 P], .int .i64 p] w fun e w' => e = .returned (.int .i64 (Cal.ckE Y M P p)) ∧ Below w.heap.size w w' := by
  have hb := Below.refl w.heap.size w
  cases h : Cal.ok Y M P
  · have HF : Hid (Cal.ckE Y M P p = 1) := Lib.hid (by unfold Cal.ckE; rw [h]; rfl)
    have H := Lib.hid h
    clear h
    go_enter Tryz.func50, Tryz.ntmps50
    go_wp2_with fail
    refine (rcal_valid_is _ _ _ _ _ H).mono ?_; rintro e w2 ⟨rfl, hb2⟩; obtain ⟨hc2, -⟩ := bcell hb2; have hz2 := hb2.size; (try simp at hz2); (try have hy2 : w.heap.size < w2.heap.size := by omega); replace hb := bel' (w := w) hb2 (by repeat (first | exact hb | refine Below.alloc ?_ (by have hbs := hb.size; first | omega | (simp; done) | (simp; omega)) _ | refine Below.drew ?_ | refine below_drewN_ ?_ _ | refine Below.setCell ?_ (by simp) _)); clear hb2
    go_wp2_with fail
    go_ret
    exact ⟨by rw [HF.out]; rfl, hb⟩
  · have H := Lib.hid h
    by_cases c1 : p < 0
    · have HF : Hid (Cal.ckE Y M P p = 2) := Lib.hid (by unfold Cal.ckE; rw [h, if_pos rfl, if_neg (by omega)])
      clear h
      go_enter Tryz.func50, Tryz.ntmps50
      go_wp2_with fail
      refine (rcal_valid_is _ _ _ _ _ H).mono ?_; rintro e w2 ⟨rfl, hb2⟩; obtain ⟨hc2, -⟩ := bcell hb2; have hz2 := hb2.size; (try simp at hz2); (try have hy2 : w.heap.size < w2.heap.size := by omega); replace hb := bel' (w := w) hb2 (by repeat (first | exact hb | refine Below.alloc ?_ (by have hbs := hb.size; first | omega | (simp; done) | (simp; omega)) _ | refine Below.drew ?_ | refine below_drewN_ ?_ _ | refine Below.setCell ?_ (by simp) _)); clear hb2
      go_wp2_with fail
      go_ret
      exact ⟨by rw [HF.out]; rfl, hb⟩
    by_cases c2 : P ≤ p
    · have HF : Hid (Cal.ckE Y M P p = 2) := Lib.hid (by unfold Cal.ckE; rw [h, if_pos rfl, if_neg (by omega)])
      clear h
      go_enter Tryz.func50, Tryz.ntmps50
      go_wp2_with fail
      refine (rcal_valid_is _ _ _ _ _ H).mono ?_; rintro e w2 ⟨rfl, hb2⟩; obtain ⟨hc2, -⟩ := bcell hb2; have hz2 := hb2.size; (try simp at hz2); (try have hy2 : w.heap.size < w2.heap.size := by omega); replace hb := bel' (w := w) hb2 (by repeat (first | exact hb | refine Below.alloc ?_ (by have hbs := hb.size; first | omega | (simp; done) | (simp; omega)) _ | refine Below.drew ?_ | refine below_drewN_ ?_ _ | refine Below.setCell ?_ (by simp) _)); clear hb2
      go_wp2_with fail
      go_ret
      exact ⟨by rw [HF.out]; rfl, hb⟩
    · have HF : Hid (Cal.ckE Y M P p = 0) := Lib.hid (by unfold Cal.ckE; rw [h, if_pos rfl, if_pos (by omega)])
      clear h
      go_enter Tryz.func50, Tryz.ntmps50
      go_wp2_with fail
      refine (rcal_valid_is _ _ _ _ _ H).mono ?_; rintro e w2 ⟨rfl, hb2⟩; obtain ⟨hc2, -⟩ := bcell hb2; have hz2 := hb2.size; (try simp at hz2); (try have hy2 : w.heap.size < w2.heap.size := by omega); replace hb := bel' (w := w) hb2 (by repeat (first | exact hb | refine Below.alloc ?_ (by have hbs := hb.size; first | omega | (simp; done) | (simp; omega)) _ | refine Below.drew ?_ | refine below_drewN_ ?_ _ | refine Below.setCell ?_ (by simp) _)); clear hb2
      go_wp2_with fail
      go_ret
      exact ⟨by rw [HF.out]; rfl, hb⟩
theorem rcal_check_is (Y M P p x : Int) (w : World) (h : Hid (Cal.ckE Y M P p = x)) :
    Calls Tryz.prog 50 #[.agg #[.int .i64 Y, .int .i64 M, .int .i64 P], .int .i64 p] w fun e w' => e = .returned (.int .i64 x) ∧ Below w.heap.size w w' := by
  have := rcal_check Y M P p w
  rw [h.out] at this
  exact this
theorem rcal_first_ok (Y M P p : Int) (w : World) (h : Cal.okP Y M P) (h0 : 0 ≤ p) (h1 : p < P) :
    Calls Tryz.prog 51 #[.agg #[.int .i64 Y, .int .i64 M, .int .i64 P], .int .i64 p] w fun e w' => e = .returned (.tuple #[.int .i64 (Cal.fd (Cal.tm Y M p)), .int .i64 0]) ∧ Below w.heap.size w w' := by
  have t := Cal.tm_in Y M P p h h0 h1
  have hm : Cal.mok (Cal.tm Y M p) = true := (Cal.mok_iff _).2 t
  unfold Cal.okP at h
  have := rcal_first Y M P p w (Lib.hid ((Cal.vld1 Y M).2 (by omega)))
  unfold Cal.fdV Cal.fdE at this
  rw [hm] at this
  exact this

theorem rcivil_is (n : Int) (w : World) (h : Hid (Dt.isD n = true)) :
    Calls Tryz.prog 32 #[.int .i64 n] w fun e w' => e = .returned (.tuple #[.int .i64 (Dt.cY n), .int .i64 (Dt.cM n), .int .i64 (Dt.cD n), .int .i64 0]) ∧ w = w' :=
  rcivil_yes n w ((Dt.isD_iff n).1 h.out).1 ((Dt.isD_iff n).1 h.out).2
set_option maxHeartbeats 1000000 in
theorem rcal_First (Y M P p : Int) (w : World) :
    Calls Tryz.prog 31 #[.agg #[.int .i64 Y, .int .i64 M, .int .i64 P], .int .i64 p] w fun e w' => e = .returned (.tuple #[.int .i64 (Cal.fiV Y M P p), .int .i64 (Cal.ckE Y M P p)]) ∧ Below w.heap.size w w' := by
  have hb := Below.refl w.heap.size w
  by_cases h : Cal.ckE Y M P p = 0
  · obtain ⟨k0, k1, k2⟩ := (Cal.ck_zero Y M P p).1 h
    have HV : Hid (Cal.fiV Y M P p = Cal.fd (Cal.tm Y M p)) := Lib.hid (by unfold Cal.fiV; rw [if_pos h])
    have H := Lib.hid h
    have HK := Lib.hid k0
    clear h k0
    go_enter Tryz.func31, Tryz.ntmps31
    go_wp2_with fail
    refine (rcal_check_is _ _ _ _ _ _ H).mono ?_; rintro e w2 ⟨rfl, hb2⟩; obtain ⟨hc2, -⟩ := bcell hb2; have hz2 := hb2.size; (try simp at hz2); (try have hy2 : w.heap.size < w2.heap.size := by omega); replace hb := bel' (w := w) hb2 (by repeat (first | exact hb | refine Below.alloc ?_ (by have hbs := hb.size; first | omega | (simp; done) | (simp; omega)) _ | refine Below.drew ?_ | refine below_drewN_ ?_ _ | refine Below.setCell ?_ (by simp) _)); clear hb2
    go_wp2_with fail
    refine (rcal_first_ok _ _ _ _ _ HK.out k1 k2).mono ?_; rintro e w2 ⟨rfl, hb2⟩; obtain ⟨hc2, -⟩ := bcell hb2; have hz2 := hb2.size; (try simp at hz2); (try have hy2 : w.heap.size < w2.heap.size := by omega); replace hb := bel' (w := w) hb2 (by repeat (first | exact hb | refine Below.alloc ?_ (by have hbs := hb.size; first | omega | (simp; done) | (simp; omega)) _ | refine Below.drew ?_ | refine below_drewN_ ?_ _ | refine Below.setCell ?_ (by simp) _)); clear hb2
    go_wp2_with fail
    go_ret2
    exact ⟨by rw [HV.out, H.out]; rfl, hb⟩
  · have HV : Hid (Cal.fiV Y M P p = 0) := Lib.hid (by unfold Cal.fiV; rw [if_neg h])
    have h' : (Cal.ckE Y M P p != 0) = true := by rw [bne_iff_ne]; exact h
    clear h
    go_enter Tryz.func31, Tryz.ntmps31
    go_wp2_with fail
    refine (rcal_check _ _ _ _ _).mono ?_; rintro e w2 ⟨rfl, hb2⟩; obtain ⟨hc2, -⟩ := bcell hb2; have hz2 := hb2.size; (try simp at hz2); (try have hy2 : w.heap.size < w2.heap.size := by omega); replace hb := bel' (w := w) hb2 (by repeat (first | exact hb | refine Below.alloc ?_ (by have hbs := hb.size; first | omega | (simp; done) | (simp; omega)) _ | refine Below.drew ?_ | refine below_drewN_ ?_ _ | refine Below.setCell ?_ (by simp) _)); clear hb2
    go_wp2_with fail
    go_ret2
    exact ⟨by rw [HV.out]; rfl, hb⟩
theorem rcal_First_is (Y M P p v x : Int) (w : World) (h : Hid (Cal.fiV Y M P p = v)) (h2 : Hid (Cal.ckE Y M P p = x)) :
    Calls Tryz.prog 31 #[.agg #[.int .i64 Y, .int .i64 M, .int .i64 P], .int .i64 p] w fun e w' => e = .returned (.tuple #[.int .i64 v, .int .i64 x]) ∧ Below w.heap.size w w' := by
  have := rcal_First Y M P p w
  rw [h.out, h2.out] at this
  exact this

set_option maxHeartbeats 1000000 in
theorem rcal_Last (Y M P p : Int) (w : World) :
    Calls Tryz.prog 19 #[.agg #[.int .i64 Y, .int .i64 M, .int .i64 P], .int .i64 p] w fun e w' => e = .returned (.tuple #[.int .i64 (Cal.laV Y M P p), .int .i64 (Cal.ckE Y M P p)]) ∧ Below w.heap.size w w' := by
  have hb := Below.refl w.heap.size w
  by_cases h : Cal.ckE Y M P p = 0
  · obtain ⟨k0, k1, k2⟩ := (Cal.ck_zero Y M P p).1 h
    obtain ⟨t0, t1⟩ := Cal.tm_in Y M P p k0 k1 k2
    have HV : Hid (Cal.laV Y M P p = Cal.ld (Cal.tm Y M p)) := Lib.hid (by unfold Cal.laV; rw [if_pos h])
    have HF : Hid (Cal.fiV Y M P p = Cal.fd (Cal.tm Y M p)) := Lib.hid (by unfold Cal.fiV; rw [if_pos h])
    obtain ⟨c1, c2, c3, c4⟩ := Cal.civ_fd (Cal.tm Y M p) t0 t1
    have C1 := Lib.hid c1
    have C2 := Lib.hid c2
    have C3 := Lib.hid c3
    have H := Lib.hid h
    have b1 := Cal.fd_bd (Cal.tm Y M p) t0 t1
    have b2 := Dt.days_bd (Cal.tm Y M p / 12) (Cal.tm Y M p % 12 + 1)
    clear h k0 c1 c2 c3 c4
    go_enter Tryz.func19, Tryz.ntmps19
    go_wp2_with fail
    refine (rcal_First_is _ _ _ _ _ _ _ HF H).mono ?_; rintro e w2 ⟨rfl, hb2⟩; obtain ⟨hc2, -⟩ := bcell hb2; have hz2 := hb2.size; (try simp at hz2); (try have hy2 : w.heap.size < w2.heap.size := by omega); replace hb := bel' (w := w) hb2 (by repeat (first | exact hb | refine Below.alloc ?_ (by have hbs := hb.size; first | omega | (simp; done) | (simp; omega)) _ | refine Below.drew ?_ | refine below_drewN_ ?_ _ | refine Below.setCell ?_ (by simp) _)); clear hb2
    go_wp2_with fail
    refine (rcivil_is _ _ C1).mono ?_
    rw [C2.out, C3.out]
    rintro e w2 ⟨rfl, rfl⟩
    go_wp2_with fail
    refine (rdays_any _ _ _).mono ?_; rintro e w2 ⟨rfl, rfl⟩
    go_wp2_with fail
    go_ret2
    exact ⟨by rw [HV.out, H.out]; rfl, hb⟩
  · have HV : Hid (Cal.laV Y M P p = 0) := Lib.hid (by unfold Cal.laV; rw [if_neg h])
    have h' : (Cal.ckE Y M P p != 0) = true := by rw [bne_iff_ne]; exact h
    clear h
    go_enter Tryz.func19, Tryz.ntmps19
    go_wp2_with fail
    refine (rcal_First _ _ _ _ _).mono ?_; rintro e w2 ⟨rfl, hb2⟩; obtain ⟨hc2, -⟩ := bcell hb2; have hz2 := hb2.size; (try simp at hz2); (try have hy2 : w.heap.size < w2.heap.size := by omega); replace hb := bel' (w := w) hb2 (by repeat (first | exact hb | refine Below.alloc ?_ (by have hbs := hb.size; first | omega | (simp; done) | (simp; omega)) _ | refine Below.drew ?_ | refine below_drewN_ ?_ _ | refine Below.setCell ?_ (by simp) _)); clear hb2
    go_wp2_with fail
    go_ret2
    exact ⟨by rw [HV.out]; rfl, hb⟩
theorem rcal_Last_is (Y M P p v x : Int) (w : World) (h : Hid (Cal.laV Y M P p = v)) (h2 : Hid (Cal.ckE Y M P p = x)) :
    Calls Tryz.prog 19 #[.agg #[.int .i64 Y, .int .i64 M, .int .i64 P], .int .i64 p] w fun e w' => e = .returned (.tuple #[.int .i64 v, .int .i64 x]) ∧ Below w.heap.size w w' := by
  have := rcal_Last Y M P p w
  rw [h.out, h2.out] at this
  exact this

theorem Cal.in_period (Y M P d p : Int) (h : Cal.okP Y M P) (h0 : 0 ≤ p) (h1 : p < P) : (Cal.fd (Cal.tm Y M p) ≤ d ∧ d ≤ Cal.ld (Cal.tm Y M p)) ↔ (Dt.isD d = true ∧ Cal.pq Y M d = p) := by
  obtain ⟨t0, t1⟩ := Cal.tm_in Y M P p h h0 h1
  rw [Cal.in_month _ d t0 t1]
  unfold Cal.tm Cal.pq
  constructor
  · intro ⟨a, b⟩; exact ⟨a, by omega⟩
  · intro ⟨a, b⟩; exact ⟨a, by omega⟩

end Go.Proofs.YtnddoehhcpejjaaGreat
