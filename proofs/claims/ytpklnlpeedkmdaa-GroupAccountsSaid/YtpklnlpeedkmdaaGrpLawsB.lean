/- The walk of GroupAccounts. -/
import Derived.Test.YtpklnlpeedkmdaaGrpWalksG
namespace Go.Proofs.Ytpklnlpeedkmdaa
set_option linter.unusedVariables false
set_option linter.unusedSimpArgs false
open Go.RowKit

section
variable (cur : ByteArray) (y m p : Int) (cl : List Acc) (cA : Option Addr) (cc : Nat) (ro : RolesR) (el : List EntR) (eA : Option Addr) (ec : Nat) (w : World)
set_option maxRecDepth 100000 in
set_option maxHeartbeats 8000000 in
theorem law_GroupAccounts (c : Int) (h : GIn w cl cA el eA) (hc : cur.size ≤ maxLen) (hcl : cl.length ≤ maxLen) (hel : el.length ≤ maxLen) :
    Calls Try.prog 5 #[.agg #[.string cur, .int .i64 y, .int .i64 m, .int .i64 p, .slice cA cl.length cc, .int .i64 ro.investment, .int .i64 ro.goodwill, .int .i64 ro.associates, .int .i64 ro.inventory, .int .i64 ro.reserve, .int .i64 ro.minority, .int .i64 ro.retained, .int .i64 ro.acquired, .int .i64 ro.owners, .int .i64 ro.disposal, .int .i64 ro.associateProfit, .int .i64 ro.dividends, .int .i64 ro.minorityProfit, .int .i64 ro.difference, .int .i64 ro.margin, .slice eA el.length ec], .int .i64 c] w fun e w' => e = .returned (.bool true) ∧ Below w.heap.size w w' := by
  have H := Lib.hid h
  clear h
  obtain ⟨gcs, hgc⟩ : ∃ x : Array Value, x = #[.string cur, .int .i64 y, .int .i64 m, .int .i64 p, .slice cA cl.length cc, .int .i64 ro.investment, .int .i64 ro.goodwill, .int .i64 ro.associates, .int .i64 ro.inventory, .int .i64 ro.reserve, .int .i64 ro.minority, .int .i64 ro.retained, .int .i64 ro.acquired, .int .i64 ro.owners, .int .i64 ro.disposal, .int .i64 ro.associateProfit, .int .i64 ro.dividends, .int .i64 ro.minorityProfit, .int .i64 ro.difference, .int .i64 ro.margin, .slice eA el.length ec] := ⟨_, rfl⟩
  have hgi : (Try.prog.info? 29).map (·.size) = some gcs.size := by rw [hgc]; exact grp_size
  have HG := Lib.hid hgc
  rw [← hgc]
  clear hgc
  have K0 := Lib.hid (fun W h => HG.out.symm ▸ few_any cur y m p cl cA cc ro el eA ec W h hc hcl hel)
  clear hcl hel
  have hb : Below w.heap.size w (w.alloc (.cells gcs 29)) := (Below.refl _ _).alloc (Nat.le_refl _) _
  have HB := Lib.hid (Blk.new w 29 gcs)
  go_enter Try.func5, Try.ntmps5
  go_wp2_with (first
    | (refine wpList_load_blk 29 (.tmp 2) rfl (w.heap.size) rfl (by kernel_rfl) (HB).out Try.underlying29 hgi ?_)
    | (go_at_call 12; refine (grp_awake _).mono ?_; rintro e w2 ⟨rfl, hb9⟩; replace hb := bel hb hb9; replace HB := Lib.hid (HB.out.step hb9); clear hb9))
  refine (K0.out _ (H.out.step hb)).mono ?_
  rintro e w3 ⟨b, rfl, hb9, hok⟩
  replace hb := bel hb hb9
  replace HB := Lib.hid (HB.out.step hb9)
  clear hb9 K0
  cases b
  · clear hok
    go_wp2_with (go_at_call 12; refine (grp_awake _).mono ?_; rintro e w4 ⟨rfl, hb9⟩; replace hb := bel hb hb9; clear hb9)
    go_ret
    exact ⟨rfl, hb⟩
  · have OK := Lib.hid (hok rfl)
    clear hok
    have hn : cl.length ≤ 100000 := by have := OK.out.ch; omega
    have hs1 : ((Gr.roleN (Gr.roles ro) c).toList == (Gr.roleN (Gr.roles ro) c).toList) = true := by simp
    have hs2 : (Gr.roleB (Gr.roles ro) c == Gr.roleB (Gr.roles ro) c) = true := by simp
    have hs3 : (Ch.fnB cl c == Ch.fnB cl c) = true := by simp
    have K1 := Lib.hid (fun W h => account_any gcs cur y m p cl cA cc ro el eA ec W c HG h hn)
    have K2 := Lib.hid (fun W h => raccount_any gcs cur y m p cl cA cc ro el eA ec W c HG h hn)
    have K3 := Lib.hid (fun W => role_any gcs cur y m p cl cA cc ro el eA ec W c HG)
    have K4 := Lib.hid (fun W => rrole_any gcs cur y m p cl cA cc ro el eA ec W c HG)
    have K5 := Lib.hid (fun W h => result_any gcs cur y m p cl cA cc ro el eA ec W c HG h hn)
    have K6 := Lib.hid (fun W h => rresult_any gcs cur y m p cl cA cc ro el eA ec W c HG h hn)
    have K7 := Lib.hid (fun W h => equity_any gcs cur y m p cl cA cc ro el eA ec W c HG h hn)
    have K8 := Lib.hid (fun W h => requity_any gcs cur y m p cl cA cc ro el eA ec W c HG h hn)
    have hs4 : (resB cl c == resB cl c) = true := by simp
    have hs5 : (eqB cl c == eqB cl c) = true := by simp
    unfold AccPost at K1 K2
    unfold RolePost at K3 K4
    generalize Gr.roleN (Gr.roles ro) c = N at *
    generalize Gr.roleB (Gr.roles ro) c = NB at *
    generalize Ch.fnV cl c = a at *
    generalize Ch.fnB cl c = ab at *
    generalize resB cl c = rb at *
    generalize eqB cl c = eb at *
    go_wp2_with (first
      | (refine wpList_load_blk 29 (.tmp 2) rfl (w.heap.size) rfl (by kernel_rfl) (HB).out Try.underlying29 hgi ?_)
      | (go_at_call 22; refine (K1.out _ (H.out.step hb)).mono ?_; rintro e w4 ⟨rfl, hb9⟩; replace hb := bel hb hb9; replace HB := Lib.hid (HB.out.step hb9); clear hb9; have HX := Lib.hid (Blk.new w4 45 #[.int .i64 a.code, .int .i64 a.kind, .int .i64 a.basis, .int .i64 a.parent]); have hb1 := hb.alloc hb.size (.cells #[.int .i64 a.code, .int .i64 a.kind, .int .i64 a.basis, .int .i64 a.parent] 45); have HB1 := Lib.hid (HB.out.alloc (.cells #[.int .i64 a.code, .int .i64 a.kind, .int .i64 a.basis, .int .i64 a.parent] 45)))
      | (refine wpList_load_blk 29 (.tmp 2) rfl (w.heap.size) rfl (by kernel_rfl) (HB1).out Try.underlying29 hgi ?_)
      | (go_at_call 23; refine (K2.out _ (H.out.step hb1)).mono ?_; rintro e w5 ⟨rfl, hb9⟩; have hb2 := bel hb1 hb9; have HB2 := Lib.hid ((HB1.out.step hb9).alloc (.cells #[.int .i64 a.code, .int .i64 a.kind, .int .i64 a.basis, .int .i64 a.parent] 45)); have HX2 := Lib.hid ((HX.out.step hb9).alloc (.cells #[.int .i64 a.code, .int .i64 a.kind, .int .i64 a.basis, .int .i64 a.parent] 45)); have HY2 := Lib.hid (Blk.new w5 45 #[.int .i64 a.code, .int .i64 a.kind, .int .i64 a.basis, .int .i64 a.parent]); have hb3 := hb2.alloc hb2.size (.cells #[.int .i64 a.code, .int .i64 a.kind, .int .i64 a.basis, .int .i64 a.parent] 45); clear hb9)
      | (refine wpList_load_blk 29 (.tmp 2) rfl (w.heap.size) rfl (by kernel_rfl) (HB2).out Try.underlying29 hgi ?_)
      | (go_at_call 21; refine (K3.out _).mono ?_; rintro e w6 ⟨rfl, hb9⟩; have hb4 := bel hb3 hb9; have HB3 := Lib.hid (HB2.out.step hb9); have HX3 := Lib.hid (HX2.out.step hb9); have HY3 := Lib.hid (HY2.out.step hb9); clear hb9)
      | (refine wpList_load_blk 29 (.tmp 2) rfl (w.heap.size) rfl (by kernel_rfl) (HB3).out Try.underlying29 hgi ?_)
      | (go_at_call 24; refine (K4.out _).mono ?_; rintro e w7 ⟨rfl, hb9⟩; have hb5 := bel hb4 hb9; have HB4 := Lib.hid (HB3.out.step hb9); have HX4 := Lib.hid (HX3.out.step hb9); have HY4 := Lib.hid (HY3.out.step hb9); clear hb9))
    have p0 : ∀ d : Later w7, d.now.cell? ⟨w4.heap.size, 0, none⟩ = some (.int .i64 a.code) := fun d => d.cell HX4.out.lt (HX4.out.cell 0)
    have p1 : ∀ d : Later w7, d.now.cell? ⟨w4.heap.size, 1, none⟩ = some (.int .i64 a.kind) := fun d => d.cell HX4.out.lt (HX4.out.cell 1)
    have p2 : ∀ d : Later w7, d.now.cell? ⟨w4.heap.size, 2, none⟩ = some (.int .i64 a.basis) := fun d => d.cell HX4.out.lt (HX4.out.cell 2)
    have p3 : ∀ d : Later w7, d.now.cell? ⟨w4.heap.size, 3, none⟩ = some (.int .i64 a.parent) := fun d => d.cell HX4.out.lt (HX4.out.cell 3)
    have q0 : ∀ d : Later w7, d.now.cell? ⟨w5.heap.size, 0, none⟩ = some (.int .i64 a.code) := fun d => d.cell HY4.out.lt (HY4.out.cell 0)
    have q1 : ∀ d : Later w7, d.now.cell? ⟨w5.heap.size, 1, none⟩ = some (.int .i64 a.kind) := fun d => d.cell HY4.out.lt (HY4.out.cell 1)
    have q2 : ∀ d : Later w7, d.now.cell? ⟨w5.heap.size, 2, none⟩ = some (.int .i64 a.basis) := fun d => d.cell HY4.out.lt (HY4.out.cell 2)
    have q3 : ∀ d : Later w7, d.now.cell? ⟨w5.heap.size, 3, none⟩ = some (.int .i64 a.parent) := fun d => d.cell HY4.out.lt (HY4.out.cell 3)
    clear K1 K2 K3 K4 HB HB1 HB2 HB3 HX HX2 HX3 HY2 HY3 hb hb1 hb2 hb3 hb4
    refine wp_region_later (by kernel_rfl) (by kernel_rfl) ?_
    (repeat (go_big_quiet_step ((fail)))); refine quiet_load_blk 29 (.tmp 2) rfl (w.heap.size) rfl (by kernel_rfl) (HB4).out Try.underlying29 hgi ?_; (try simp only [Act.put, List.setIfInBounds_toArray, List.set_cons_zero, List.set_cons_succ])
    (repeat (go_big_quiet_step ((fail)))); go_big_quiet_step ((go_at_call 25; exact Later.call _ (K5.out _ (H.out.step (bel hb5 (Later.below _))))))
    (repeat (go_big_quiet_step ((fail)))); refine quiet_load_blk 29 (.tmp 2) rfl (w.heap.size) rfl (by kernel_rfl) (HB4).out Try.underlying29 hgi ?_; (try simp only [Act.put, List.setIfInBounds_toArray, List.set_cons_zero, List.set_cons_succ])
    (repeat (go_big_quiet_step ((fail)))); go_big_quiet_step ((go_at_call 26; exact Later.call _ (K6.out _ (H.out.step (bel hb5 (Later.below _))))))
    (repeat (go_big_quiet_step ((fail)))); refine quiet_load_blk 29 (.tmp 2) rfl (w.heap.size) rfl (by kernel_rfl) (HB4).out Try.underlying29 hgi ?_; (try simp only [Act.put, List.setIfInBounds_toArray, List.set_cons_zero, List.set_cons_succ])
    (repeat (go_big_quiet_step ((fail)))); go_big_quiet_step ((go_at_call 27; exact Later.call _ (K7.out _ (H.out.step (bel hb5 (Later.below _))))))
    (repeat (go_big_quiet_step ((fail)))); refine quiet_load_blk 29 (.tmp 2) rfl (w.heap.size) rfl (by kernel_rfl) (HB4).out Try.underlying29 hgi ?_; (try simp only [Act.put, List.setIfInBounds_toArray, List.set_cons_zero, List.set_cons_succ])
    (repeat (go_big_quiet_step ((fail)))); go_big_quiet_step ((go_at_call 28; exact Later.call _ (K8.out _ (H.out.step (bel hb5 (Later.below _))))))
    (repeat (go_big_quiet_step ((fail)))); refine wpQuiet_nil ?_; rintro _ ⟨dq, rfl⟩
    have hbe := bel hb5 dq.below
    go_wp2_with fail
    go_ret
    exact ⟨rfl, hbe⟩
end
end Go.Proofs.Ytpklnlpeedkmdaa
