/- Texts of this claim, put together. -/
import Derived.Test.YtnddoehhcpejjaaGreatJAX
import Derived.Test.YtnddoehhcpejjaaGreatJrnWalksFZ
/- The walk of Post. -/
namespace Go.Proofs.YtnddoehhcpejjaaGreat
set_option linter.unusedVariables false
set_option linter.unusedSimpArgs false
open Go.RowKit

def PostPost (X : Int) (w1 : World) (jb b1 b2 : Nat) (G : Array Value) (es : List EntryR) (x : EntryR) (e : Ending) (w' : World) : Prop :=
  e = .returned (.int .i64 X) ∧ Below w1.heap.size w1 w' ∧ (X = 0 → ∃ (v' : Value) (L' : List EntryR), JIn w1 w' jb b1 b2 G v' L' (es ++ [x]))
section
variable (gcs : Array Value) (cur : ByteArray) (y m p : Int) (cl : List Acc) (cA : Option Addr) (cc : Nat) (ro : RolesR) (el : List EntR) (eA : Option Addr) (ec : Nat) (w : World) (id en da kd fo : Int) (tx : ByteArray) (ll : List LineR) (lA : Option Addr) (lc : Nat)
set_option maxRecDepth 100000 in
set_option maxHeartbeats 16000000 in
theorem jpost_any (w1 : World) (jb b1 b2 : Nat) (v : Value) (L es : List EntryR) (HG : Hid (gcs = #[.string cur, .int .i64 y, .int .i64 m, .int .i64 p, .slice cA cl.length cc, .int .i64 ro.investment, .int .i64 ro.goodwill, .int .i64 ro.associates, .int .i64 ro.inventory, .int .i64 ro.reserve, .int .i64 ro.minority, .int .i64 ro.retained, .int .i64 ro.acquired, .int .i64 ro.owners, .int .i64 ro.disposal, .int .i64 ro.associateProfit, .int .i64 ro.dividends, .int .i64 ro.minorityProfit, .int .i64 ro.difference, .int .i64 ro.margin, .slice eA el.length ec])) (hg : GIn w1 cl cA el eA) (hF : FewOk cur cl el) (h : JIn w1 w jb b1 b2 gcs v L es)
    (hes : ∀ y' ∈ es, Jn.ckE (Gr.gv cur cl ro el (Cal.ok y m p)) el.length (Jn.kB el) (Jn.dB y m p) y' = 0) (hln : es.length ≤ 1000) (htx : tx.size ≤ maxLen) (hr : Rd w w.heap.size 3 lA ll.length (cellsOf LineR.cells ll)) (hn : ll.length ≤ 1000) (hid : Wf id) (hfo : Wf fo) :
    Calls Tryz.prog 26 #[.pointer (some ⟨jb, 0, none⟩), .agg #[.int .i64 id, .int .i64 en, .int .i64 da, .int .i64 kd, .int .i64 fo, .string tx, .slice lA ll.length lc]] w (PostPost (Jn.poE (Jn.ckE (Gr.gv cur cl ro el (Cal.ok y m p)) el.length (Jn.kB el) (Jn.dB y m p)) es (⟨id, en, da, kd, fo, tx, ⟨ll, lA, lc⟩⟩ : EntryR)) w1 jb b1 b2 gcs es (⟨id, en, da, kd, fo, tx, ⟨ll, lA, lc⟩⟩ : EntryR)) := by
  have hG21 : gcs.size = 21 := by rw [HG.out]; rfl
  have J := Lib.hid h
  have HR := Lib.hid hr
  have hes2 : ∀ y' ∈ es, y'.lines.l.length ≤ 40 ∧ ∀ l ∈ y'.lines.l, -1000000000000 ≤ l.amount ∧ l.amount ≤ 1000000000000 := fun y' hy => (Jn.ck_lines (hes y' hy)).2
  have KC := Lib.hid (fun W h hr => echeck_any gcs cur y m p cl cA cc ro el eA ec W id en da kd fo tx ll lA lc HG h hF htx hr hn)
  have KR := Lib.hid (fun W h hr => reverses_any W id en da kd fo tx ll lA lc w1 jb b1 b2 gcs v L es h hG21 hes2 hln hr hn hfo)
  have HGW := Lib.hid (hg.step J.out.below)
  obtain ⟨i0, hi, hz0, hz1, hz2⟩ := info_parts EntryR.info
  have HPO := Lib.hid (Jn.po_is (C := Jn.ckE (Gr.gv cur cl ro el (Cal.ok y m p)) el.length (Jn.kB el) (Jn.dB y m p)) (es := es) (x := (⟨id, en, da, kd, fo, tx, ⟨ll, lA, lc⟩⟩ : EntryR)) (by omega))
  have HGA := Lib.hid (fun h i => Jn.get_app (C := Jn.ckE (Gr.gv cur cl ro el (Cal.ok y m p)) el.length (Jn.kB el) (Jn.dB y m p)) (es := es) (x := (⟨id, en, da, kd, fo, tx, ⟨ll, lA, lc⟩⟩ : EntryR)) h i)
  have HRA := Lib.hid (fun h h3 i => Jn.rev_app3 (C := Jn.ckE (Gr.gv cur cl ro el (Cal.ok y m p)) el.length (Jn.kB el) (Jn.dB y m p)) (es := es) (x := (⟨id, en, da, kd, fo, tx, ⟨ll, lA, lc⟩⟩ : EntryR)) h h3 i)
  generalize Jn.poE (Jn.ckE (Gr.gv cur cl ro el (Cal.ok y m p)) el.length (Jn.kB el) (Jn.dB y m p)) es (⟨id, en, da, kd, fo, tx, ⟨ll, lA, lc⟩⟩ : EntryR) = X at *
  generalize Jn.ckE (Gr.gv cur cl ro el (Cal.ok y m p)) el.length (Jn.kB el) (Jn.dB y m p) (⟨id, en, da, kd, fo, tx, ⟨ll, lA, lc⟩⟩ : EntryR) = c0 at *
  have hll : L.length = es.length := by have := congrArg List.length h.same; simpa using this
  have HLL := Lib.hid hll
  have hlL : L.length ≤ 1000 := by omega
  clear hll
  obtain ⟨A, c, hv, -⟩ := Rd.of_own h.row
  subst hv
  have HVB : Hid (∀ j, (Value.slice A L.length c).ownBlock = some j → j < w.heap.size) := Lib.hid (fun j hj => (J.out.row.lt j hj).2)
  clear h hr hes hes2 hg hF
  have hb : Below w.heap.size w (w.alloc (.cells #[.int .i64 id, .int .i64 en, .int .i64 da, .int .i64 kd, .int .i64 fo, .string tx, .slice lA ll.length lc] 67)) := (Below.refl _ _).alloc (Nat.le_refl _) _
  have HP := Lib.hid (Blk.new w 67 #[.int .i64 id, .int .i64 en, .int .i64 da, .int .i64 kd, .int .i64 fo, .string tx, .slice lA ll.length lc])
  have HJ := Lib.hid (J.out.blk.step hb)
  go_enter Tryz.func26, Tryz.ntmps26
  go_upto_region 1 with fail
  generalize w.alloc (.cells #[.int .i64 id, .int .i64 en, .int .i64 da, .int .i64 kd, .int .i64 fo, .string tx, .slice lA ll.length lc] 67) = W at *
  go_upto_region 3 with fail
  refine wp_region_later (by kernel_rfl) (by kernel_rfl) ?_
  (repeat (go_big_quiet_step ((fail))))
  refine quiet_load_arr 29 (.tmp 13) rfl jb 0 rfl (by kernel_rfl) gcs (jOf_range HJ.out hG21) HJ.out.lt Tryz.underlying29 21 grp_size hG21 ?_
  (try simp only [Act.put, List.setIfInBounds_toArray, List.set_cons_zero, List.set_cons_succ])
  refine quiet_load_blk 67 (.tmp 3) rfl w.heap.size rfl (by kernel_rfl) HP.out Tryz.underlying67 entry_size7 ?_
  (try simp only [Act.put, List.setIfInBounds_toArray, List.set_cons_zero, List.set_cons_succ])
  (repeat (go_big_quiet_step ((fail)))); go_big_quiet_step ((go_at_call 40; exact Later.call _ (KC.out _ (HGW.out.step (bel hb (Later.below _))) (Rd.now HR.out (bel hb (Later.below _))))))
  (repeat (go_big_quiet_step ((fail)))); refine wpQuiet_nil ?_; rintro _ ⟨dq, rfl⟩
  have hb2 := bel hb dq.below
  replace HP := Lib.hid (HP.out.step dq.below)
  clear HJ hb
  generalize dq.now = W2 at *
  clear dq
  have HJ2 := Lib.hid (J.out.step hb2)
  cases hc : (c0 != 0)
  · have hc0 : c0 = 0 := by simpa using hc
    have HPO2 : Hid (X = if (Jn.get es id).isSome then 9 else if kd = 3 then Jn.rvE es (⟨id, en, da, kd, fo, tx, ⟨ll, lA, lc⟩⟩ : EntryR) else 0) := Lib.hid (by rw [HPO.out, if_pos hc0])
    clear hc0
    go_upto_region 6 with fail
    have q0 : ∀ d : Later W2, d.now.cell? ⟨jb, 22, none⟩ = some (.map (some b1)) := fun d => d.cell HJ2.out.blk.lt ((HJ2.out.blk.cell 22).trans (jOf_high hG21 1))
    have q1 : ∀ d : Later W2, d.now.cell? ⟨w.heap.size, 0, none⟩ = some (.int .i64 id) := fun d => d.cell HP.out.lt (HP.out.cell 0)
    have qL : ∀ d : Later W2, (Instr.lookup 99 (.map (some b1)) (.int .i64 id) true).run Tryz.prog d.now = .ok (.tuple #[.int .i64 (((Jn.get es id).map Int.ofNat).getD 0), .bool ((Jn.get es id).map Int.ofNat).isSome]) d.now := fun d => (HJ2.out.m1.step d.below).look Tryz.underlying3 Tryz.underlying3 Tryz.underlying99 (zero_int _) hid
    cases hget : Jn.get es id with
    | some k =>
      have HE : Hid (X = 9) := Lib.hid (by rw [HPO2.out, hget]; rfl)
      rw [hget] at qL
      dsimp only [Option.map_some, Option.getD_some, Option.isSome_some] at qL
      clear hget
      refine wp_region_later (by kernel_rfl) (by kernel_rfl) ?_; (repeat (go_big_quiet_step ((fail)))); refine wpQuiet_nil ?_; rintro _ ⟨dq, rfl⟩
      have hbe := bel hb2 dq.below
      have HJE := Lib.hid (J.out.step hbe)
      go_wp2_with fail
      go_ret
      exact ⟨by rw [HE.out]; rfl, HJE.out.below, fun h => by rw [HE.out] at h; cases h⟩
    | none =>
      have HPO3 : Hid (X = if kd = 3 then Jn.rvE es (⟨id, en, da, kd, fo, tx, ⟨ll, lA, lc⟩⟩ : EntryR) else 0) := Lib.hid (by rw [HPO2.out, hget]; rfl)
      rw [hget] at qL
      dsimp only [Option.map_none, Option.getD_none, Option.isSome_none] at qL
      clear hget HPO2 HPO
      refine wp_region_later (by kernel_rfl) (by kernel_rfl) ?_; (repeat (go_big_quiet_step ((fail)))); refine wpQuiet_nil ?_; rintro _ ⟨dq, rfl⟩
      have hb3 := bel hb2 dq.below
      replace HP := Lib.hid (HP.out.step dq.below)
      clear q0 q1 qL HJ2 hb2
      generalize dq.now = W3 at *
      clear dq
      have HJ3 := Lib.hid (J.out.step hb3)
      have k3 : W3.cell? ⟨w.heap.size, 3, none⟩ = some (.int .i64 kd) := HP.out.cell 3
      have k21 : W3.cell? ⟨jb, 21, none⟩ = some (.slice A L.length c) := (HJ3.out.blk.cell 21).trans (jOf_high hG21 0)
      have hnl : ¬ (2000 : Int) ≤ (L.length : Int) := by omega
      cases h3 : (kd == 3)
      · have h3' : kd ≠ 3 := by simpa using h3
        have HX0 : Hid (X = 0) := Lib.hid (by rw [HPO3.out, if_neg h3'])
        have HF2 : Hid (∀ i, Jn.rev es i = Jn.rev (es ++ [(⟨id, en, da, kd, fo, tx, ⟨ll, lA, lc⟩⟩ : EntryR)]) i) := Lib.hid (fun i => (Jn.rev_app (x := (⟨id, en, da, kd, fo, tx, ⟨ll, lA, lc⟩⟩ : EntryR)) h3' i).symm)
        have HG1 := Lib.hid (HGA.out HX0.out)
        clear h3'
        go_upto_region 17 with fail
        obtain ⟨S, hS⟩ : ∃ S : World → Prop, S = fun w' => Blk w' w.heap.size 67 #[.int .i64 id, .int .i64 en, .int .i64 da, .int .i64 kd, .int .i64 fo, .string tx, .slice lA ll.length lc] ∧ Blk w' jb 104 (jOf gcs (.slice A L.length c) b1 b2) := ⟨_, rfl⟩
        have JX := Lib.hid HJ3.out.mid
        have HRX := Lib.hid (Rd.now HR.out hb3)
        clear k3 k21
        have HSS : Hid (∀ w' : World, (Blk w' w.heap.size 67 #[.int .i64 id, .int .i64 en, .int .i64 da, .int .i64 kd, .int .i64 fo, .string tx, .slice lA ll.length lc] ∧ Blk w' jb 104 (jOf gcs (.slice A L.length c) b1 b2)) ↔ S w') := Lib.hid (fun w' => by rw [hS])
        clear hS
        have hC : ∃ d : LaterS S, (W3).drew = d.now := LaterS.of ((HSS.out _).1 ⟨(HP).out.drew, (JX).out.blk.drew⟩)
        haveI : Nonempty (LaterS S) := by obtain ⟨d, _⟩ := hC; exact ⟨d⟩
        have q0 : ∀ d : LaterS S, d.now.cell? ⟨jb, 22, none⟩ = some (.map (some b1)) := fun d => (((HSS.out _).2 d.is).2.cell 22).trans (jOf_high hG21 1)
        have q1 : ∀ d : LaterS S, d.now.cell? ⟨w.heap.size, 0, none⟩ = some (.int .i64 id) := fun d => ((HSS.out _).2 d.is).1.cell 0
        have q2 : ∀ d : LaterS S, d.now.cell? ⟨jb, 21, none⟩ = some (.slice A L.length c) := fun d => (((HSS.out _).2 d.is).2.cell 21).trans (jOf_high hG21 0)
        refine relS_begin (n := 12) S 11 (by kernel_rfl) rfl ?_
        refine relS_want (i := 0) rfl rfl (by kernel_rfl) (by kernel_rfl) (by kernel_rfl) rfl rfl (by kernel_rfl) (by kernel_rfl) (fun _ _ _ _ h => h) hC ?_
        intro K hK
        go_big_quiet_op
        go_big_quiet_on
        refine relS_want (i := 1) rfl rfl (by kernel_rfl) (by kernel_rfl) (by kernel_rfl) rfl rfl (by kernel_rfl) (by kernel_rfl) (fun _ _ _ _ h => h) hC ?_
        intro K hK
        go_big_quiet_op
        go_big_quiet_on
        refine relS_want (i := 2) rfl rfl (by kernel_rfl) (by kernel_rfl) (by kernel_rfl) rfl rfl (by kernel_rfl) (by kernel_rfl) (fun _ _ _ _ h => h) hC ?_
        intro K hK
        go_big_quiet_op
        go_big_quiet_on
        refine relS_want (i := 3) rfl rfl (by kernel_rfl) (by kernel_rfl) (by kernel_rfl) rfl rfl (by kernel_rfl) (by kernel_rfl) (fun _ _ _ _ h => h) hC ?_
        intro K hK
        go_big_quiet_op
        go_big_quiet_on
        refine relS_want (i := 4) rfl rfl (by kernel_rfl) (by kernel_rfl) (by kernel_rfl) rfl rfl (by kernel_rfl) (by kernel_rfl) (fun _ _ _ _ h => h) hC ?_
        intro K hK
        go_big_quiet_op
        go_big_quiet_on
        refine relS_want (i := 5) rfl rfl (by kernel_rfl) (by kernel_rfl) (by kernel_rfl) rfl rfl (by kernel_rfl) (by kernel_rfl) (fun _ _ _ _ h => h) hC ?_
        intro K hK
        go_big_quiet_op
        go_big_quiet_on
        refine relS_want (i := 6) rfl rfl (by kernel_rfl) (by kernel_rfl) (by kernel_rfl) rfl rfl (by kernel_rfl) (by kernel_rfl) (fun _ _ _ _ h => h) hC ?_
        intro K hK
        go_big_quiet_op
        go_big_quiet_on
        refine relS_want (i := 7) rfl rfl (by kernel_rfl) (by kernel_rfl) (by kernel_rfl) rfl rfl (by kernel_rfl) (by kernel_rfl) (fun _ _ _ _ h => h) hC ?_
        intro K hK
        go_big_quiet_op
        go_big_quiet_on
        refine relS_want (i := 8) rfl rfl (by kernel_rfl) (by kernel_rfl) (by kernel_rfl) rfl rfl (by kernel_rfl) (by kernel_rfl) (fun _ _ _ _ h => h) hC ?_
        intro K hK
        go_big_quiet_op
        go_big_quiet_on
        refine relS_want (i := 9) rfl rfl (by kernel_rfl) (by kernel_rfl) (by kernel_rfl) rfl rfl (by kernel_rfl) (by kernel_rfl) (fun _ _ _ _ h => h) hC ?_
        intro K hK
        go_big_quiet_op
        go_big_quiet_on
        refine relS_want (i := 10) rfl rfl (by kernel_rfl) (by kernel_rfl) (by kernel_rfl) rfl rfl (by kernel_rfl) (by kernel_rfl) (fun _ _ _ _ h => h) hC ?_
        intro K hK
        go_big_quiet_op
        go_big_quiet_on
        obtain ⟨wy, r5, m5, g5⟩ := ((JX).out.step (Below.refl (W3).heap.size (W3)).drew).m1.put (g := fun i => (Jn.get (es ++ [(⟨id, en, da, kd, fo, tx, ⟨ll, lA, lc⟩⟩ : EntryR)]) i).map Int.ofNat) Tryz.underlying3 Tryz.underlying3 Tryz.underlying99 (by unfold maxLen; omega) hid (y := (L.length : Int)) (wf64 (by omega) (by omega)) (by rw [HG1.out id, if_pos rfl, HLL.out]; rfl) (fun d hd => by rw [HG1.out d, if_neg hd])
        have JY := Lib.hid (((JX).out.step (Below.refl (W3).heap.size (W3)).drew).put1 g5 m5)
        have HPY := Lib.hid ((HP).out.drew.grown g5 (fun e => by injection e with e; exact (JX).out.m1.blk_ne (HP).out e.symm))
        have HRY : Hid (Rd wy wy.heap.size 3 lA ll.length (cellsOf LineR.cells ll)) := Lib.hid ((Rd.past (HRX).out.drew g5 (JX).out.m1.isMap).more g5.size)
        refine relS_call (i := 11) (by kernel_rfl) rfl rfl ?_
        intro K hK
        go_simp
        refine hK _ _ (.inr (.inl rfl)) ?_
        clear hK K r5 m5 g5 hC q0 q1 q2
        (try simp only [Act.put, List.setIfInBounds_toArray, List.set_cons_zero, List.set_cons_succ])
        refine wpAnyT_done (by kernel_rfl) ?_ _
        go_upto_region 18 with fail
        have hC : ∃ d : LaterS S, wy.drew = d.now := LaterS.of ((HSS.out _).1 ⟨HPY.out.drew, JY.out.blk.drew⟩)
        have q2 : ∀ d : LaterS S, d.now.cell? ⟨jb, 21, none⟩ = some (.slice A L.length c) := fun d => (((HSS.out _).2 d.is).2.cell 21).trans (jOf_high hG21 0)
        have k0 : ∀ d : LaterS S, d.now.cell? ⟨w.heap.size, 0, none⟩ = some (.int .i64 id) := fun d => ((HSS.out _).2 d.is).1.cell 0
        have k1 : ∀ d : LaterS S, d.now.cell? ⟨w.heap.size, 1, none⟩ = some (.int .i64 en) := fun d => ((HSS.out _).2 d.is).1.cell 1
        have k2 : ∀ d : LaterS S, d.now.cell? ⟨w.heap.size, 2, none⟩ = some (.int .i64 da) := fun d => ((HSS.out _).2 d.is).1.cell 2
        have k3 : ∀ d : LaterS S, d.now.cell? ⟨w.heap.size, 3, none⟩ = some (.int .i64 kd) := fun d => ((HSS.out _).2 d.is).1.cell 3
        have k4 : ∀ d : LaterS S, d.now.cell? ⟨w.heap.size, 4, none⟩ = some (.int .i64 fo) := fun d => ((HSS.out _).2 d.is).1.cell 4
        have k5 : ∀ d : LaterS S, d.now.cell? ⟨w.heap.size, 5, none⟩ = some (.string tx) := fun d => ((HSS.out _).2 d.is).1.cell 5
        have k6 : ∀ d : LaterS S, d.now.cell? ⟨w.heap.size, 6, none⟩ = some (.slice lA ll.length lc) := fun d => ((HSS.out _).2 d.is).1.cell 6
        refine relS_begin (n := 12) S 11 (by kernel_rfl) rfl ?_
        refine relS_want (i := 0) rfl rfl (by kernel_rfl) (by kernel_rfl) (by kernel_rfl) rfl rfl (by kernel_rfl) (by kernel_rfl) (fun _ _ _ _ h => h) hC ?_
        intro K hK
        go_big_quiet_op
        go_big_quiet_on
        refine relS_want (i := 1) rfl rfl (by kernel_rfl) (by kernel_rfl) (by kernel_rfl) rfl rfl (by kernel_rfl) (by kernel_rfl) (fun _ _ _ _ h => h) hC ?_
        intro K hK
        go_big_quiet_op
        go_big_quiet_on
        refine relS_want (i := 2) rfl rfl (by kernel_rfl) (by kernel_rfl) (by kernel_rfl) rfl rfl (by kernel_rfl) (by kernel_rfl) (fun _ _ _ _ h => h) hC ?_
        intro K hK
        go_big_quiet_op
        go_big_quiet_on
        refine relS_want (i := 3) rfl rfl (by kernel_rfl) (by kernel_rfl) (by kernel_rfl) rfl rfl (by kernel_rfl) (by kernel_rfl) (fun _ _ _ _ h => h) hC ?_
        intro K hK
        go_big_quiet_op
        go_big_quiet_on
        refine relS_want (i := 4) rfl rfl (by kernel_rfl) (by kernel_rfl) (by kernel_rfl) rfl rfl (by kernel_rfl) (by kernel_rfl) (fun _ _ _ _ h => h) hC ?_
        intro K hK
        go_big_quiet_op
        go_big_quiet_on
        refine relS_want (i := 5) rfl rfl (by kernel_rfl) (by kernel_rfl) (by kernel_rfl) rfl rfl (by kernel_rfl) (by kernel_rfl) (fun _ _ _ _ h => h) hC ?_
        intro K hK
        go_big_quiet_op
        go_big_quiet_on
        clear q2 k0 k1 k2 k3 k4 k5 k6
        refine relS_call (i := 6) (by kernel_rfl) rfl rfl ?_
        intro K hK
        go_simp
        go_at_call 42
        refine (copied_any id en da kd fo tx ll lA lc _ HRY.out.drew hn).mono ?_
        rintro e w8 ⟨A2, c2, rfl, ho8, hb9⟩
        have hb8 : Below wy.heap.size wy w8 := bel (Below.refl wy.heap.size wy).drew hb9
        have J8 := Lib.hid (JY.out.step hb8)
        have HP8 := Lib.hid (HPY.out.step hb8)
        have HO8 : Hid (OwnL LineR.cells w1.heap.size 69 3 w8 ⟨ll, A2, c2⟩) := Lib.hid (ho8.base_ JY.out.below.size)
        clear ho8 hb9 hb8 hC
        (try go_wp2_with fail)
        refine hK _ _ (.inr (.inr (LaterS.of ((HSS.out _).1 ⟨HP8.out, J8.out.blk⟩)))) ?_
        clear hK K
        (try simp only [Act.put, List.setIfInBounds_toArray, List.set_cons_zero, List.set_cons_succ])
        refine relS_call (i := 7) (by kernel_rfl) rfl rfl ?_
        intro K hK
        go_simp
        have hbn : Below w8.heap.size w8 (w8.alloc (.cells #[.int .i64 id, .int .i64 en, .int .i64 da, .int .i64 kd, .int .i64 fo, .string tx, .slice A2 ll.length c2] 67)) := (Below.refl _ _).alloc (Nat.le_refl _) _
        have HNB := Lib.hid (Blk.new w8 67 #[.int .i64 id, .int .i64 en, .int .i64 da, .int .i64 kd, .int .i64 fo, .string tx, .slice A2 ll.length c2])
        have J9 := Lib.hid (J8.out.step hbn)
        have HP9 := Lib.hid (HP8.out.step hbn)
        have HO9 : Hid (OwnL LineR.cells w1.heap.size 69 3 (w8.alloc (.cells #[.int .i64 id, .int .i64 en, .int .i64 da, .int .i64 kd, .int .i64 fo, .string tx, .slice A2 ll.length c2] 67)) ⟨ll, A2, c2⟩) := Lib.hid (own_step HO8.out hbn)
        refine hK _ _ (.inr (.inr (LaterS.of ((HSS.out _).1 ⟨HP9.out, J9.out.blk⟩)))) ?_
        clear hK K hbn J8 HP8 HO8
        generalize hgn : w8.heap.size = n8 at *
        generalize w8.alloc (.cells #[.int .i64 id, .int .i64 en, .int .i64 da, .int .i64 kd, .int .i64 fo, .string tx, .slice A2 ll.length c2] 67) = w9 at *
        clear hgn
        (try simp only [Act.put, List.setIfInBounds_toArray, List.set_cons_zero, List.set_cons_succ])
        refine relS_call (i := 8) (by kernel_rfl) rfl rfl ?_
        intro K hK
        refine wp_append_rec w9 EntryR.cells 7 EntryR.len EntryR.one (.tmp 72) (.tmp 75) 30 rfl w1.heap.size 67 i0 (.agg #[.int .i64 0, .int .i64 0, .int .i64 0, .int .i64 0, .int .i64 0, .string ⟨#[]⟩, .slice none 0 0]) 80 Tryz.underlying30 hi hz0 hz1 hz2 rfl (by decide) (.slice A L.length c) L rfl J9.out.row n8 1 ⟨id, en, da, kd, fo, tx, ⟨ll, A2, c2⟩⟩ #[.int .i64 id, .int .i64 en, .int .i64 da, .int .i64 kd, .int .i64 fo, .string tx, .slice A2 ll.length c2] rfl HNB.out rfl (by unfold maxLen; omega) (by omega) J9.out.below.size ?_
        intro v10 w10 ho10 hg10
        obtain ⟨A10, c10, hv10, -⟩ := Rd.of_own ho10
        rw [List.length_append, List.length_singleton] at hv10
        subst hv10
        have JA := Lib.hid (J9.out.more hG21 HO9.out hg10 ho10 (y := (⟨id, en, da, kd, fo, tx, ⟨ll, lA, lc⟩⟩ : EntryR)) rfl)
        have hjne : some jb ≠ (Value.slice A L.length c).ownBlock := own_ne_blk J9.out.row J9.out.blk (by decide)
        have hene : some w.heap.size ≠ (Value.slice A L.length c).ownBlock := fun e => by have := HVB.out _ e.symm; omega
        have HPA := Lib.hid (HP9.out.grown hg10 hene)
        have HJA := Lib.hid (J9.out.blk.grown hg10 hjne)
        have hC : ∃ d : LaterS S, w10 = d.now := LaterS.of ((HSS.out _).1 ⟨HPA.out, HJA.out⟩)
        refine hK _ _ (.inr (.inr hC)) ?_
        clear hK K hjne hene hg10 ho10
        (try simp only [Act.put, List.setIfInBounds_toArray, List.set_cons_zero, List.set_cons_succ])
        refine relS_call (i := 9) (by kernel_rfl) rfl rfl ?_
        intro K hK
        go_simp
        refine hK _ _ (.inr (.inr hC)) ?_
        clear hK K
        (try simp only [Act.put, List.setIfInBounds_toArray, List.set_cons_zero, List.set_cons_succ])
        refine relS_call (i := 10) (by kernel_rfl) rfl rfl ?_
        intro K hK
        go_simp
        refine hK _ _ (.inr (.inr hC)) ?_
        clear hK K hC
        (try simp only [Act.put, List.setIfInBounds_toArray, List.set_cons_zero, List.set_cons_succ])
        refine relS_call (i := 11) (by kernel_rfl) rfl rfl ?_
        intro K hK
        have x1 : w10.cell? ⟨jb, 21, none⟩ = some (.slice A L.length c) := (HJA.out.cell 21).trans (jOf_high hG21 0)
        have x2 : w10.frozen? ⟨jb, 21, none⟩ = false := HJA.out.frozen 21
        go_simp
        refine hK _ _ (.inr (.inl rfl)) ?_
        clear hK K x1 x2
        (try simp only [Act.put, List.setIfInBounds_toArray, List.set_cons_zero, List.set_cons_succ])
        refine wpAnyT_done (by kernel_rfl) ?_ _
        go_wp2_with fail
        go_ret
        have JD := JA.out.done (by omega) (by omega) (fun i => rfl) (HF2.out)
        exact ⟨by rw [HX0.out]; rfl, JD.below, fun _ => ⟨_, _, JD⟩⟩
      · have h3' : kd = 3 := by simpa using h3
        have HPO4 : Hid (X = Jn.rvE es (⟨id, en, da, kd, fo, tx, ⟨ll, lA, lc⟩⟩ : EntryR)) := Lib.hid (by rw [HPO3.out, if_pos h3'])
        have K3 := Lib.hid (KR.out W3 HJ3.out (Rd.now HR.out hb3))
        generalize Jn.rvE es (⟨id, en, da, kd, fo, tx, ⟨ll, lA, lc⟩⟩ : EntryR) = rE at *
        have HRA3 := Lib.hid (fun h i => HRA.out h h3' i)
        clear h3'
        cases hr0 : (rE != 0)
        · have HX0 : Hid (X = 0) := Lib.hid (by rw [HPO4.out]; simpa using hr0)
          have HG1 := Lib.hid (HGA.out HX0.out)
          have HR1 := Lib.hid (HRA3.out HX0.out)
          go_upto_region 13 with (first
            | (refine wpList_load_blk 67 (.tmp 3) rfl w.heap.size rfl (by kernel_rfl) HP.out Tryz.underlying67 entry_size7 ?_)
            | (go_at_call 41; refine K3.out.mono ?_; rintro e w4 ⟨rfl, hb9⟩; have hb4 := bel hb3 hb9; have HP4 := Lib.hid (HP.out.step hb9); clear hb9))
          have HJ4 := Lib.hid (J.out.step hb4)
          have x3 : w4.cell? ⟨w.heap.size, 3, none⟩ = some (.int .i64 kd) := HP4.out.cell 3
          have x21 : w4.cell? ⟨jb, 21, none⟩ = some (.slice A L.length c) := (HJ4.out.blk.cell 21).trans (jOf_high hG21 0)
          go_upto_region 16 with fail
          clear x3 x21 k3 k21
          obtain ⟨S, hS⟩ : ∃ S : World → Prop, S = fun w' => Blk w' w.heap.size 67 #[.int .i64 id, .int .i64 en, .int .i64 da, .int .i64 kd, .int .i64 fo, .string tx, .slice lA ll.length lc] ∧ Blk w' jb 104 (jOf gcs (.slice A L.length c) b1 b2) := ⟨_, rfl⟩
          have HSX : Hid (∀ w' : World, (Blk w' w.heap.size 67 #[.int .i64 id, .int .i64 en, .int .i64 da, .int .i64 kd, .int .i64 fo, .string tx, .slice lA ll.length lc] ∧ Blk w' jb 104 (jOf gcs (.slice A L.length c) b1 b2)) ↔ S w') := Lib.hid (fun w' => by rw [hS])
          have HSE := Lib.hid hS
          clear hS
          have hC : ∃ d : LaterS S, w4.drew = d.now := LaterS.of ((HSX.out _).1 ⟨HP4.out.drew, HJ4.out.blk.drew⟩)
          haveI : Nonempty (LaterS S) := by obtain ⟨d, _⟩ := hC; exact ⟨d⟩
          have q0 : ∀ d : LaterS S, d.now.cell? ⟨jb, 23, none⟩ = some (.map (some b2)) := fun d => (((HSX.out _).2 d.is).2.cell 23).trans (jOf_high hG21 2)
          have q1 : ∀ d : LaterS S, d.now.cell? ⟨w.heap.size, 0, none⟩ = some (.int .i64 id) := fun d => ((HSX.out _).2 d.is).1.cell 0
          have q2 : ∀ d : LaterS S, d.now.cell? ⟨w.heap.size, 4, none⟩ = some (.int .i64 fo) := fun d => ((HSX.out _).2 d.is).1.cell 4
          refine relS_begin (n := 9) S 8 (by kernel_rfl) rfl ?_
          refine relS_want (i := 0) rfl rfl (by kernel_rfl) (by kernel_rfl) (by kernel_rfl) rfl rfl (by kernel_rfl) (by kernel_rfl) (fun _ _ _ _ h => h) hC ?_
          intro K hK
          go_big_quiet_op
          go_big_quiet_on
          refine relS_want (i := 1) rfl rfl (by kernel_rfl) (by kernel_rfl) (by kernel_rfl) rfl rfl (by kernel_rfl) (by kernel_rfl) (fun _ _ _ _ h => h) hC ?_
          intro K hK
          go_big_quiet_op
          go_big_quiet_on
          refine relS_want (i := 2) rfl rfl (by kernel_rfl) (by kernel_rfl) (by kernel_rfl) rfl rfl (by kernel_rfl) (by kernel_rfl) (fun _ _ _ _ h => h) hC ?_
          intro K hK
          go_big_quiet_op
          go_big_quiet_on
          refine relS_want (i := 3) rfl rfl (by kernel_rfl) (by kernel_rfl) (by kernel_rfl) rfl rfl (by kernel_rfl) (by kernel_rfl) (fun _ _ _ _ h => h) hC ?_
          intro K hK
          go_big_quiet_op
          go_big_quiet_on
          refine relS_want (i := 4) rfl rfl (by kernel_rfl) (by kernel_rfl) (by kernel_rfl) rfl rfl (by kernel_rfl) (by kernel_rfl) (fun _ _ _ _ h => h) hC ?_
          intro K hK
          go_big_quiet_op
          go_big_quiet_on
          refine relS_want (i := 5) rfl rfl (by kernel_rfl) (by kernel_rfl) (by kernel_rfl) rfl rfl (by kernel_rfl) (by kernel_rfl) (fun _ _ _ _ h => h) hC ?_
          intro K hK
          go_big_quiet_op
          go_big_quiet_on
          refine relS_want (i := 6) rfl rfl (by kernel_rfl) (by kernel_rfl) (by kernel_rfl) rfl rfl (by kernel_rfl) (by kernel_rfl) (fun _ _ _ _ h => h) hC ?_
          intro K hK
          go_big_quiet_op
          go_big_quiet_on
          refine relS_want (i := 7) rfl rfl (by kernel_rfl) (by kernel_rfl) (by kernel_rfl) rfl rfl (by kernel_rfl) (by kernel_rfl) (fun _ _ _ _ h => h) hC ?_
          intro K hK
          go_big_quiet_op
          go_big_quiet_on
          obtain ⟨wx, r5, m5, g5⟩ := (HJ4.out.mid.step (Below.refl w4.heap.size w4).drew).m2.put (g := fun i => Jn.rev (es ++ [(⟨id, en, da, kd, fo, tx, ⟨ll, lA, lc⟩⟩ : EntryR)]) i) Tryz.underlying3 Tryz.underlying3 Tryz.underlying99 (by unfold maxLen; omega) hfo (y := id) hid (by rw [HR1.out fo, if_pos rfl]) (fun d hd => by rw [HR1.out d, if_neg hd])
          have JX := Lib.hid ((HJ4.out.mid.step (Below.refl w4.heap.size w4).drew).put2 g5 m5)
          have HPX := Lib.hid (HP4.out.drew.grown g5 (fun e => by injection e with e; exact HJ4.out.m2.blk_ne HP4.out e.symm))
          have HRX : Hid (Rd wx wx.heap.size 3 lA ll.length (cellsOf LineR.cells ll)) := Lib.hid ((Rd.past (Rd.now HR.out hb4).drew g5 HJ4.out.m2.isMap).more g5.size)
          refine relS_call (i := 8) (by kernel_rfl) rfl rfl ?_
          intro K hK
          go_simp
          refine hK _ _ (.inr (.inl rfl)) ?_
          clear hK K r5 m5 g5 hC q0 q1 q2 HSX
          (try simp only [Act.put, List.setIfInBounds_toArray, List.set_cons_zero, List.set_cons_succ])
          refine wpAnyT_done (by kernel_rfl) ?_ _
          go_upto_region 17 with fail
          have hS := HSE.out
          have HSS : Hid (∀ w' : World, (Blk w' w.heap.size 67 #[.int .i64 id, .int .i64 en, .int .i64 da, .int .i64 kd, .int .i64 fo, .string tx, .slice lA ll.length lc] ∧ Blk w' jb 104 (jOf gcs (.slice A L.length c) b1 b2)) ↔ S w') := Lib.hid (fun w' => by rw [hS])
          clear hS
          have hC : ∃ d : LaterS S, (wx).drew = d.now := LaterS.of ((HSS.out _).1 ⟨(HPX).out.drew, (JX).out.blk.drew⟩)
          haveI : Nonempty (LaterS S) := by obtain ⟨d, _⟩ := hC; exact ⟨d⟩
          have q0 : ∀ d : LaterS S, d.now.cell? ⟨jb, 22, none⟩ = some (.map (some b1)) := fun d => (((HSS.out _).2 d.is).2.cell 22).trans (jOf_high hG21 1)
          have q1 : ∀ d : LaterS S, d.now.cell? ⟨w.heap.size, 0, none⟩ = some (.int .i64 id) := fun d => ((HSS.out _).2 d.is).1.cell 0
          have q2 : ∀ d : LaterS S, d.now.cell? ⟨jb, 21, none⟩ = some (.slice A L.length c) := fun d => (((HSS.out _).2 d.is).2.cell 21).trans (jOf_high hG21 0)
          refine relS_begin (n := 12) S 11 (by kernel_rfl) rfl ?_
          refine relS_want (i := 0) rfl rfl (by kernel_rfl) (by kernel_rfl) (by kernel_rfl) rfl rfl (by kernel_rfl) (by kernel_rfl) (fun _ _ _ _ h => h) hC ?_
          intro K hK
          go_big_quiet_op
          go_big_quiet_on
          refine relS_want (i := 1) rfl rfl (by kernel_rfl) (by kernel_rfl) (by kernel_rfl) rfl rfl (by kernel_rfl) (by kernel_rfl) (fun _ _ _ _ h => h) hC ?_
          intro K hK
          go_big_quiet_op
          go_big_quiet_on
          refine relS_want (i := 2) rfl rfl (by kernel_rfl) (by kernel_rfl) (by kernel_rfl) rfl rfl (by kernel_rfl) (by kernel_rfl) (fun _ _ _ _ h => h) hC ?_
          intro K hK
          go_big_quiet_op
          go_big_quiet_on
          refine relS_want (i := 3) rfl rfl (by kernel_rfl) (by kernel_rfl) (by kernel_rfl) rfl rfl (by kernel_rfl) (by kernel_rfl) (fun _ _ _ _ h => h) hC ?_
          intro K hK
          go_big_quiet_op
          go_big_quiet_on
          refine relS_want (i := 4) rfl rfl (by kernel_rfl) (by kernel_rfl) (by kernel_rfl) rfl rfl (by kernel_rfl) (by kernel_rfl) (fun _ _ _ _ h => h) hC ?_
          intro K hK
          go_big_quiet_op
          go_big_quiet_on
          refine relS_want (i := 5) rfl rfl (by kernel_rfl) (by kernel_rfl) (by kernel_rfl) rfl rfl (by kernel_rfl) (by kernel_rfl) (fun _ _ _ _ h => h) hC ?_
          intro K hK
          go_big_quiet_op
          go_big_quiet_on
          refine relS_want (i := 6) rfl rfl (by kernel_rfl) (by kernel_rfl) (by kernel_rfl) rfl rfl (by kernel_rfl) (by kernel_rfl) (fun _ _ _ _ h => h) hC ?_
          intro K hK
          go_big_quiet_op
          go_big_quiet_on
          refine relS_want (i := 7) rfl rfl (by kernel_rfl) (by kernel_rfl) (by kernel_rfl) rfl rfl (by kernel_rfl) (by kernel_rfl) (fun _ _ _ _ h => h) hC ?_
          intro K hK
          go_big_quiet_op
          go_big_quiet_on
          refine relS_want (i := 8) rfl rfl (by kernel_rfl) (by kernel_rfl) (by kernel_rfl) rfl rfl (by kernel_rfl) (by kernel_rfl) (fun _ _ _ _ h => h) hC ?_
          intro K hK
          go_big_quiet_op
          go_big_quiet_on
          refine relS_want (i := 9) rfl rfl (by kernel_rfl) (by kernel_rfl) (by kernel_rfl) rfl rfl (by kernel_rfl) (by kernel_rfl) (fun _ _ _ _ h => h) hC ?_
          intro K hK
          go_big_quiet_op
          go_big_quiet_on
          refine relS_want (i := 10) rfl rfl (by kernel_rfl) (by kernel_rfl) (by kernel_rfl) rfl rfl (by kernel_rfl) (by kernel_rfl) (fun _ _ _ _ h => h) hC ?_
          intro K hK
          go_big_quiet_op
          go_big_quiet_on
          obtain ⟨wy, r5, m5, g5⟩ := ((JX).out.step (Below.refl (wx).heap.size (wx)).drew).m1.put (g := fun i => (Jn.get (es ++ [(⟨id, en, da, kd, fo, tx, ⟨ll, lA, lc⟩⟩ : EntryR)]) i).map Int.ofNat) Tryz.underlying3 Tryz.underlying3 Tryz.underlying99 (by unfold maxLen; omega) hid (y := (L.length : Int)) (wf64 (by omega) (by omega)) (by rw [HG1.out id, if_pos rfl, HLL.out]; rfl) (fun d hd => by rw [HG1.out d, if_neg hd])
          have JY := Lib.hid (((JX).out.step (Below.refl (wx).heap.size (wx)).drew).put1 g5 m5)
          have HPY := Lib.hid ((HPX).out.drew.grown g5 (fun e => by injection e with e; exact (JX).out.m1.blk_ne (HPX).out e.symm))
          have HRY : Hid (Rd wy wy.heap.size 3 lA ll.length (cellsOf LineR.cells ll)) := Lib.hid ((Rd.past (HRX).out.drew g5 (JX).out.m1.isMap).more g5.size)
          refine relS_call (i := 11) (by kernel_rfl) rfl rfl ?_
          intro K hK
          go_simp
          refine hK _ _ (.inr (.inl rfl)) ?_
          clear hK K r5 m5 g5 hC q0 q1 q2
          (try simp only [Act.put, List.setIfInBounds_toArray, List.set_cons_zero, List.set_cons_succ])
          refine wpAnyT_done (by kernel_rfl) ?_ _
          go_upto_region 18 with fail
          have hC : ∃ d : LaterS S, wy.drew = d.now := LaterS.of ((HSS.out _).1 ⟨HPY.out.drew, JY.out.blk.drew⟩)
          have q2 : ∀ d : LaterS S, d.now.cell? ⟨jb, 21, none⟩ = some (.slice A L.length c) := fun d => (((HSS.out _).2 d.is).2.cell 21).trans (jOf_high hG21 0)
          have k0 : ∀ d : LaterS S, d.now.cell? ⟨w.heap.size, 0, none⟩ = some (.int .i64 id) := fun d => ((HSS.out _).2 d.is).1.cell 0
          have k1 : ∀ d : LaterS S, d.now.cell? ⟨w.heap.size, 1, none⟩ = some (.int .i64 en) := fun d => ((HSS.out _).2 d.is).1.cell 1
          have k2 : ∀ d : LaterS S, d.now.cell? ⟨w.heap.size, 2, none⟩ = some (.int .i64 da) := fun d => ((HSS.out _).2 d.is).1.cell 2
          have k3 : ∀ d : LaterS S, d.now.cell? ⟨w.heap.size, 3, none⟩ = some (.int .i64 kd) := fun d => ((HSS.out _).2 d.is).1.cell 3
          have k4 : ∀ d : LaterS S, d.now.cell? ⟨w.heap.size, 4, none⟩ = some (.int .i64 fo) := fun d => ((HSS.out _).2 d.is).1.cell 4
          have k5 : ∀ d : LaterS S, d.now.cell? ⟨w.heap.size, 5, none⟩ = some (.string tx) := fun d => ((HSS.out _).2 d.is).1.cell 5
          have k6 : ∀ d : LaterS S, d.now.cell? ⟨w.heap.size, 6, none⟩ = some (.slice lA ll.length lc) := fun d => ((HSS.out _).2 d.is).1.cell 6
          refine relS_begin (n := 12) S 11 (by kernel_rfl) rfl ?_
          refine relS_want (i := 0) rfl rfl (by kernel_rfl) (by kernel_rfl) (by kernel_rfl) rfl rfl (by kernel_rfl) (by kernel_rfl) (fun _ _ _ _ h => h) hC ?_
          intro K hK
          go_big_quiet_op
          go_big_quiet_on
          refine relS_want (i := 1) rfl rfl (by kernel_rfl) (by kernel_rfl) (by kernel_rfl) rfl rfl (by kernel_rfl) (by kernel_rfl) (fun _ _ _ _ h => h) hC ?_
          intro K hK
          go_big_quiet_op
          go_big_quiet_on
          refine relS_want (i := 2) rfl rfl (by kernel_rfl) (by kernel_rfl) (by kernel_rfl) rfl rfl (by kernel_rfl) (by kernel_rfl) (fun _ _ _ _ h => h) hC ?_
          intro K hK
          go_big_quiet_op
          go_big_quiet_on
          refine relS_want (i := 3) rfl rfl (by kernel_rfl) (by kernel_rfl) (by kernel_rfl) rfl rfl (by kernel_rfl) (by kernel_rfl) (fun _ _ _ _ h => h) hC ?_
          intro K hK
          go_big_quiet_op
          go_big_quiet_on
          refine relS_want (i := 4) rfl rfl (by kernel_rfl) (by kernel_rfl) (by kernel_rfl) rfl rfl (by kernel_rfl) (by kernel_rfl) (fun _ _ _ _ h => h) hC ?_
          intro K hK
          go_big_quiet_op
          go_big_quiet_on
          refine relS_want (i := 5) rfl rfl (by kernel_rfl) (by kernel_rfl) (by kernel_rfl) rfl rfl (by kernel_rfl) (by kernel_rfl) (fun _ _ _ _ h => h) hC ?_
          intro K hK
          go_big_quiet_op
          go_big_quiet_on
          clear q2 k0 k1 k2 k3 k4 k5 k6
          refine relS_call (i := 6) (by kernel_rfl) rfl rfl ?_
          intro K hK
          go_simp
          go_at_call 42
          refine (copied_any id en da kd fo tx ll lA lc _ HRY.out.drew hn).mono ?_
          rintro e w8 ⟨A2, c2, rfl, ho8, hb9⟩
          have hb8 : Below wy.heap.size wy w8 := bel (Below.refl wy.heap.size wy).drew hb9
          have J8 := Lib.hid (JY.out.step hb8)
          have HP8 := Lib.hid (HPY.out.step hb8)
          have HO8 : Hid (OwnL LineR.cells w1.heap.size 69 3 w8 ⟨ll, A2, c2⟩) := Lib.hid (ho8.base_ JY.out.below.size)
          clear ho8 hb9 hb8 hC
          (try go_wp2_with fail)
          refine hK _ _ (.inr (.inr (LaterS.of ((HSS.out _).1 ⟨HP8.out, J8.out.blk⟩)))) ?_
          clear hK K
          (try simp only [Act.put, List.setIfInBounds_toArray, List.set_cons_zero, List.set_cons_succ])
          refine relS_call (i := 7) (by kernel_rfl) rfl rfl ?_
          intro K hK
          go_simp
          have hbn : Below w8.heap.size w8 (w8.alloc (.cells #[.int .i64 id, .int .i64 en, .int .i64 da, .int .i64 kd, .int .i64 fo, .string tx, .slice A2 ll.length c2] 67)) := (Below.refl _ _).alloc (Nat.le_refl _) _
          have HNB := Lib.hid (Blk.new w8 67 #[.int .i64 id, .int .i64 en, .int .i64 da, .int .i64 kd, .int .i64 fo, .string tx, .slice A2 ll.length c2])
          have J9 := Lib.hid (J8.out.step hbn)
          have HP9 := Lib.hid (HP8.out.step hbn)
          have HO9 : Hid (OwnL LineR.cells w1.heap.size 69 3 (w8.alloc (.cells #[.int .i64 id, .int .i64 en, .int .i64 da, .int .i64 kd, .int .i64 fo, .string tx, .slice A2 ll.length c2] 67)) ⟨ll, A2, c2⟩) := Lib.hid (own_step HO8.out hbn)
          refine hK _ _ (.inr (.inr (LaterS.of ((HSS.out _).1 ⟨HP9.out, J9.out.blk⟩)))) ?_
          clear hK K hbn J8 HP8 HO8
          generalize hgn : w8.heap.size = n8 at *
          generalize w8.alloc (.cells #[.int .i64 id, .int .i64 en, .int .i64 da, .int .i64 kd, .int .i64 fo, .string tx, .slice A2 ll.length c2] 67) = w9 at *
          clear hgn
          (try simp only [Act.put, List.setIfInBounds_toArray, List.set_cons_zero, List.set_cons_succ])
          refine relS_call (i := 8) (by kernel_rfl) rfl rfl ?_
          intro K hK
          refine wp_append_rec w9 EntryR.cells 7 EntryR.len EntryR.one (.tmp 72) (.tmp 75) 30 rfl w1.heap.size 67 i0 (.agg #[.int .i64 0, .int .i64 0, .int .i64 0, .int .i64 0, .int .i64 0, .string ⟨#[]⟩, .slice none 0 0]) 80 Tryz.underlying30 hi hz0 hz1 hz2 rfl (by decide) (.slice A L.length c) L rfl J9.out.row n8 1 ⟨id, en, da, kd, fo, tx, ⟨ll, A2, c2⟩⟩ #[.int .i64 id, .int .i64 en, .int .i64 da, .int .i64 kd, .int .i64 fo, .string tx, .slice A2 ll.length c2] rfl HNB.out rfl (by unfold maxLen; omega) (by omega) J9.out.below.size ?_
          intro v10 w10 ho10 hg10
          obtain ⟨A10, c10, hv10, -⟩ := Rd.of_own ho10
          rw [List.length_append, List.length_singleton] at hv10
          subst hv10
          have JA := Lib.hid (J9.out.more hG21 HO9.out hg10 ho10 (y := (⟨id, en, da, kd, fo, tx, ⟨ll, lA, lc⟩⟩ : EntryR)) rfl)
          have hjne : some jb ≠ (Value.slice A L.length c).ownBlock := own_ne_blk J9.out.row J9.out.blk (by decide)
          have hene : some w.heap.size ≠ (Value.slice A L.length c).ownBlock := fun e => by have := HVB.out _ e.symm; omega
          have HPA := Lib.hid (HP9.out.grown hg10 hene)
          have HJA := Lib.hid (J9.out.blk.grown hg10 hjne)
          have hC : ∃ d : LaterS S, w10 = d.now := LaterS.of ((HSS.out _).1 ⟨HPA.out, HJA.out⟩)
          refine hK _ _ (.inr (.inr hC)) ?_
          clear hK K hjne hene hg10 ho10
          (try simp only [Act.put, List.setIfInBounds_toArray, List.set_cons_zero, List.set_cons_succ])
          refine relS_call (i := 9) (by kernel_rfl) rfl rfl ?_
          intro K hK
          go_simp
          refine hK _ _ (.inr (.inr hC)) ?_
          clear hK K
          (try simp only [Act.put, List.setIfInBounds_toArray, List.set_cons_zero, List.set_cons_succ])
          refine relS_call (i := 10) (by kernel_rfl) rfl rfl ?_
          intro K hK
          go_simp
          refine hK _ _ (.inr (.inr hC)) ?_
          clear hK K hC
          (try simp only [Act.put, List.setIfInBounds_toArray, List.set_cons_zero, List.set_cons_succ])
          refine relS_call (i := 11) (by kernel_rfl) rfl rfl ?_
          intro K hK
          have x1 : w10.cell? ⟨jb, 21, none⟩ = some (.slice A L.length c) := (HJA.out.cell 21).trans (jOf_high hG21 0)
          have x2 : w10.frozen? ⟨jb, 21, none⟩ = false := HJA.out.frozen 21
          go_simp
          refine hK _ _ (.inr (.inl rfl)) ?_
          clear hK K x1 x2
          (try simp only [Act.put, List.setIfInBounds_toArray, List.set_cons_zero, List.set_cons_succ])
          refine wpAnyT_done (by kernel_rfl) ?_ _
          go_wp2_with fail
          go_ret
          have JD := JA.out.done (by omega) (by omega) (fun i => rfl) (fun _ => rfl)
          exact ⟨by rw [HX0.out]; rfl, JD.below, fun _ => ⟨_, _, JD⟩⟩
        · have hrr : rE ≠ 0 := by simpa using hr0
          have HRR := Lib.hid hrr
          clear hrr
          go_wp2_with (first
            | (refine wpList_load_blk 67 (.tmp 3) rfl w.heap.size rfl (by kernel_rfl) HP.out Tryz.underlying67 entry_size7 ?_)
            | (go_at_call 41; refine K3.out.mono ?_; rintro e w4 ⟨rfl, hb9⟩; have hb4 := bel hb3 hb9; clear hb9))
          have HJ4 := Lib.hid (J.out.step hb4)
          go_ret
          exact ⟨by rw [HPO4.out]; rfl, HJ4.out.below, fun h => absurd (HPO4.out.symm.trans h) HRR.out⟩
  · have hc0 : c0 ≠ 0 := by simpa using hc
    have HE : Hid (X = c0) := Lib.hid (by rw [HPO.out, if_neg hc0])
    have HC0 := Lib.hid hc0
    clear hc0
    go_wp2_with fail
    go_ret
    exact ⟨by rw [HE.out]; rfl, HJ2.out.below, fun h => absurd (HE.out.symm.trans h) HC0.out⟩
end
end Go.Proofs.YtnddoehhcpejjaaGreat
