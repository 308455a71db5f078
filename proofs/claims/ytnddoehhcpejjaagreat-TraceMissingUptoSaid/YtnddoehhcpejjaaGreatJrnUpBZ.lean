/- Texts of this claim, put together. -/
import Derived.Test.YtnddoehhcpejjaaGreatJBD
/- The walk of the reference's Missing. -/
namespace Go.Proofs.YtnddoehhcpejjaaGreat
set_option linter.unusedVariables false
set_option linter.unusedSimpArgs false
open Go.RowKit

section
variable (gcs : Array Value) (cur : ByteArray) (y m p : Int) (cl : List Acc) (cA : Option Addr) (cc : Nat) (ro : RolesR) (el : List EntR) (eA : Option Addr) (ec : Nat) (w : World)
set_option maxRecDepth 100000 in
set_option maxHeartbeats 16000000 in
theorem rmissing_any (bcs : Array Value) (es : List EntryR) (sA : Option Addr) (sc : Nat) (per : Int) (I : List ItemR) (AI : Option Addr) (cI : Nat) (vP vT : Value) (HG : Hid (gcs = #[.string cur, .int .i64 y, .int .i64 m, .int .i64 p, .slice cA cl.length cc, .int .i64 ro.investment, .int .i64 ro.goodwill, .int .i64 ro.associates, .int .i64 ro.inventory, .int .i64 ro.reserve, .int .i64 ro.minority, .int .i64 ro.retained, .int .i64 ro.acquired, .int .i64 ro.owners, .int .i64 ro.disposal, .int .i64 ro.associateProfit, .int .i64 ro.dividends, .int .i64 ro.minorityProfit, .int .i64 ro.difference, .int .i64 ro.margin, .slice eA el.length ec])) (hBK : BkE bcs gcs sA es.length sc) (h : GIn w cl cA el eA) (hF : FewOk cur cl el) (hE : EsIn w es sA) (hn : es.length ≤ 1000) (hsc : es.length ≤ sc)
    (hI : Rd w w.heap.size 7 AI I.length (cellsOf ItemR.cells I)) (hnI : I.length ≤ 100000) :
    Calls Tryz.prog 8 #[.agg bcs, .agg #[.int .i64 per, .slice AI I.length cI, vP, vT]] w
      (MissPost (jvB (Gr.gv cur cl ro el (Cal.ok y m p)) el.length (Jn.kB el) (Jn.dB y m p) es) (Cal.ckE y m p per) (Cal.laV y m p per) I es w) := by
  have H := Lib.hid h
  have HE := Lib.hid hE
  have HI := Lib.hid hI
  have HBK := Lib.hid hBK
  have KC := Lib.hid (fun W h hE => rjvalid_any gcs cur y m p cl cA cc ro el eA ec W es sA sc HG h hF hE hn hsc)
  have KL := Lib.hid (fun W => rcal_Last y m p per W)
  have KU := Lib.hid (fun W hE => up_any gcs cur y m p cl cA cc ro el eA ec W bcs es sA sc per HG hBK hE hn)
  have hbz : (Tryz.prog.info? 36).map (·.size) = some bcs.size := by rw [hBK.size]; kernel_rfl
  have hg21 : (Tryz.prog.info? 29).map (·.size) = some 21 := grp_size
  have hb : Below w.heap.size w ((w.alloc (.cells bcs 36)).alloc (.cells #[.int .i64 per, .slice AI I.length cI, vP, vT] 41)) := ((Below.refl _ _).alloc (Nat.le_refl _) _).alloc (by simp) _
  have HB := Lib.hid ((Blk.new w 36 bcs).alloc (.cells #[.int .i64 per, .slice AI I.length cI, vP, vT] 41))
  have HR := Lib.hid (blk_new2 w (.cells bcs 36) 41 #[.int .i64 per, .slice AI I.length cI, vP, vT])
  obtain ⟨i0, hi0, hz0, hz1, hz2'⟩ := info_parts RefR.info
  have hul0 := Jn.upTo_take_len (Cal.laV y m p per) 60 es hE.ln es.length
  rw [List.take_length] at hul0
  clear h hE hI hBK hF
  generalize jvB (Gr.gv cur cl ro el (Cal.ok y m p)) el.length (Jn.kB el) (Jn.dB y m p) es = J at *
  generalize Cal.ckE y m p per = ce at *
  generalize Cal.laV y m p per = T at *
  unfold MissPost
  have HME : Hid (msE J ce = if J then (if ce = 0 then 0 else 2) else 1) := Lib.hid rfl
  have HML : Hid (msL J ce T I es = if msE J ce = 0 then Jn.mis (hasV I) (Jn.upTo T es) else []) := Lib.hid rfl
  unfold UpPost at KU
  generalize msL J ce T I es = M at *
  generalize msE J ce = X at *
  generalize Jn.upTo T es = U at *
  have hul : U.length ≤ 60000 := by omega
  clear hul0
  go_enter Tryz.func8, Tryz.ntmps8
  go_upto_region 1 with fail
  generalize (w.alloc (.cells bcs 36)).alloc (.cells #[.int .i64 per, .slice AI I.length cI, vP, vT] 41) = W at *
  have k21 : W.cell? ⟨w.heap.size, 21, none⟩ = some (.slice sA es.length sc) := (HB.out.cell 21).trans HBK.out.ent
  cases J
  · have HX1 : Hid (X = 1) := Lib.hid (by rw [HME.out]; rfl)
    have HM0 : Hid (M = []) := Lib.hid (by rw [HML.out, if_neg (by rw [HX1.out]; decide)])
    go_wp2_with (first
      | (refine wpList_load_arr rfl 29 (.tmp 11) rfl w.heap.size 0 rfl gcs (bkE_range HB.out HBK.out) Tryz.underlying29 21 hg21 HBK.out.gsz ?_)
      | (go_at_call 18; refine (KC.out _ (H.out.step hb) (HE.out.step hb)).mono ?_; rintro e w3 ⟨rfl, hb9⟩; have hb3 := bel hb hb9))
    go_ret2
    exact ⟨_, by rw [HX1.out]; rfl, by rw [HM0.out]; exact World.ownsRow_nil _ _ _ _, hb3⟩
  · have HME2 : Hid (X = if ce = 0 then 0 else 2) := Lib.hid (by rw [HME.out]; rfl)
    go_upto_region 3 with (first
      | (refine wpList_load_arr rfl 29 (.tmp 11) rfl w.heap.size 0 rfl gcs (bkE_range HB.out HBK.out) Tryz.underlying29 21 hg21 HBK.out.gsz ?_)
      | (go_at_call 18; refine (KC.out _ (H.out.step hb) (HE.out.step hb)).mono ?_; rintro e w3 ⟨rfl, hb9⟩; have hb3 := bel hb hb9; have HB3 := Lib.hid (HB.out.step hb9); have HR3 := Lib.hid (HR.out.step hb9); clear hb9))
    clear hb HB HR k21 KC HME
    have k1 : w3.cell? ⟨w.heap.size, 1, none⟩ = some (.int .i64 y) := (HB3.out.cell 1).trans ((HBK.out.grp 1 (by omega)).trans (by rw [HG.out]; rfl))
    have k2 : w3.cell? ⟨w.heap.size, 2, none⟩ = some (.int .i64 m) := (HB3.out.cell 2).trans ((HBK.out.grp 2 (by omega)).trans (by rw [HG.out]; rfl))
    have k3 : w3.cell? ⟨w.heap.size, 3, none⟩ = some (.int .i64 p) := (HB3.out.cell 3).trans ((HBK.out.grp 3 (by omega)).trans (by rw [HG.out]; rfl))
    have r0 : w3.cell? ⟨w.heap.size + 1, 0, none⟩ = some (.int .i64 per) := HR3.out.cell 0
    go_upto_region 4 with (go_at_call 19; refine (KL.out _).mono ?_; rintro e w4 ⟨rfl, hb9⟩; have hb4 := bel hb3 hb9; have HB4 := Lib.hid (HB3.out.step hb9); have HR4 := Lib.hid (HR3.out.step hb9); clear hb9)
    clear k1 k2 k3 r0 HB3 HR3 hb3
    cases hc : (ce != 0)
    · have hc0 : ce = 0 := by simpa using hc
      have HX0 : Hid (X = 0) := Lib.hid (by rw [HME2.out, if_pos hc0])
      have HM0 : Hid (M = Jn.mis (hasV I) U) := Lib.hid (by rw [HML.out, if_pos HX0.out])
      clear hc0
      have r0 : w4.cell? ⟨w.heap.size + 1, 0, none⟩ = some (.int .i64 per) := HR4.out.cell 0
      go_upto_region 7 with (first
        | (refine wpList_load_blk 36 (.tmp 2) rfl w.heap.size rfl (by kernel_rfl) HB4.out Tryz.underlying36 hbz ?_)
        | (go_at_call 9; refine (KU.out _ (HE.out.step hb4)).mono ?_; rintro e w5 ⟨v5, rfl, ho5, hb9⟩; have hb5 := bel hb4 hb9; have HR5 := Lib.hid (HR4.out.step hb9); clear hb9))
      clear r0 HB4 HR4 hb4 KU
      obtain ⟨A5, c5, rfl, hrx⟩ := Rd.of_own ho5
      have H5 := Lib.hid hrx
      clear hrx ho5
      go_wp2_with fail
      go_loopw [9, 10] (fun v t wr => ∃ k : Nat, k ≤ U.length ∧ t = .int .i64 k ∧ wr.ownsRow w5.heap.size 50 2 v (Jn.mis (hasV I) (U.take k)).length (cellsOf RefR.cells (Jn.mis (hasV I) (U.take k))) ∧ Below w5.heap.size w5 wr) (fun _ t _ => U.length - (intOf t).toNat)
      case atStart => exact ⟨0, by omega, rfl, World.ownsRow_nil _ _ _ _, Below.refl _ _⟩
      case round =>
        obtain ⟨k, hk, rfl, ho, hbr⟩ := hrel
        have HO := Lib.hid ho
        have hz := hbr.size
        have hbw := bel hb5 hbr
        clear ho
        by_cases hlt : k < U.length
        · obtain ⟨b, o, hA, hbo, f0, f1⟩ := RefR.at_ (Rd.now H5.out hbr) hlt
          subst hA
          have HMT := Lib.hid (Jn.mis_take (hasV I) U k hlt)
          have hlm : (Jn.mis (hasV I) (U.take k)).length ≤ 60000 := by
            have h1 := Jn.mis_len (hasV I) (U.take k)
            rw [List.length_take] at h1
            omega
          generalize Jn.mis (hasV I) (U.take k) = S0 at *
          generalize U[k] = r at *
          obtain ⟨re, rl⟩ := r
          dsimp only at f0 f1
          have HRr := Lib.hid (HR5.out.step hbr)
          have KH := Lib.hid (fun W h => rhas_any per I AI cI vP vT ⟨re, rl⟩ W h (by omega))
          unfold BoolPost at KH
          dsimp only at KH
          have q0 : ∀ d : Later wr, d.now.cell? ⟨b, o + k * 2, none⟩ = some (.int .i64 re) := fun d => d.cell hbo f0
          have q1 : ∀ d : Later wr, d.now.cell? ⟨b, o + k * 2 + 1, none⟩ = some (.int .i64 rl) := fun d => d.cell hbo f1
          have p0 : ∀ d : Later wr, d.now.cell? ⟨w.heap.size + 1, 0, none⟩ = some (.int .i64 per) := fun d => d.cell HRr.out.lt (HRr.out.cell 0)
          have p1 : ∀ d : Later wr, d.now.cell? ⟨w.heap.size + 1, 1, none⟩ = some (.slice AI I.length cI) := fun d => d.cell HRr.out.lt (HRr.out.cell 1)
          have p2 : ∀ d : Later wr, d.now.cell? ⟨w.heap.size + 1, 2, none⟩ = some vP := fun d => d.cell HRr.out.lt (HRr.out.cell 2)
          have p3 : ∀ d : Later wr, d.now.cell? ⟨w.heap.size + 1, 3, none⟩ = some vT := fun d => d.cell HRr.out.lt (HRr.out.cell 3)
          have hz3 : (0 : Int) ≤ (k : Int) := by omega
          have hz4 : (k : Int) < U.length := by omega
          cases hh : hasV I ⟨re, rl⟩
          · have HNX : Hid (Jn.mis (hasV I) (U.take (k + 1)) = S0 ++ [⟨re, rl⟩]) := Lib.hid (by rw [HMT.out, hh]; rfl)
            rw [hh] at KH
            clear hh
            go_upto_region 11 with fail
            refine wp_region_later (by kernel_rfl) (by kernel_rfl) ?_
            (repeat (go_big_quiet_step ((fail)))); go_big_quiet_step ((go_at_call 10; exact Later.call _ (KH.out _ (Rd.now HI.out (bel hbw (Later.below _))))))
            (repeat (go_big_quiet_step ((fail)))); refine wpQuiet_nil ?_; rintro _ ⟨dq, rfl⟩
            have hbe := bel hbr dq.below
            have x0 := q0 dq
            have x1 := q1 dq
            have HO2 := Lib.hid (own_step HO.out dq.below)
            clear q0 q1 p0 p1 p2 p3 f0 f1
            generalize dq.now = wd at *
            clear dq
            have hnb := (Below.refl wd.heap.size wd).alloc (Nat.le_refl _) (.cells #[.int .i64 re, .int .i64 rl] 50)
            go_wp2_with (at_builtin; refine wpList_append_rec RefR.cells 2 RefR.len RefR.one rfl (.tmp 45) (.tmp 50) 45 rfl w5.heap.size 50 i0 (.agg #[.int .i64 0, .int .i64 0]) 16 Tryz.underlying45 hi0 hz0 hz1 hz2' rfl (by decide) _ S0 rfl (HO2.out.alloc (.cells #[.int .i64 re, .int .i64 rl] 50)) wd.heap.size 1 ⟨re, rl⟩ #[.int .i64 re, .int .i64 rl] rfl (Blk.new wd _ _) rfl (by unfold maxLen; omega) (by omega) (by have := hbe.size; simp; omega) ?_)
            intro v7 w7 ho7 hg7
            have HO3 := HO2.out.alloc (.cells #[.int .i64 re, .int .i64 rl] 50)
            have hb7 : Below w5.heap.size w5 w7 := bel_own (bel hbe hnb) (by have := hnb.size; have := hbe.size; omega) HO3 hg7
            rw [← HNX.out] at ho7
            have HO7 := Lib.hid ho7
            have HNL : Hid ((Jn.mis (hasV I) (U.take (k + 1))).length = S0.length + 1) := Lib.hid (by rw [HNX.out, List.length_append, List.length_singleton])
            clear hg7 ho7 HO3 hnb
            go_wp2_with fail
            go_roundw
            case rel => exact ⟨k + 1, by omega, by go_num, by rw [HNL.out]; exact HO7.out, hb7⟩
            case measure => simp [intOf]; omega
          · have HNX : Hid (Jn.mis (hasV I) (U.take (k + 1)) = S0) := Lib.hid (by rw [HMT.out, hh]; rfl)
            rw [hh] at KH
            clear hh
            go_upto_region 11 with fail
            refine wp_region_later (by kernel_rfl) (by kernel_rfl) ?_
            (repeat (go_big_quiet_step ((fail)))); go_big_quiet_step ((go_at_call 10; exact Later.call _ (KH.out _ (Rd.now HI.out (bel hbw (Later.below _))))))
            (repeat (go_big_quiet_step ((fail)))); refine wpQuiet_nil ?_; rintro _ ⟨dq, rfl⟩
            have hbe := bel hbr dq.below
            have HO2 := Lib.hid (own_step HO.out dq.below)
            go_wp2_with fail
            go_roundw
            case rel => exact ⟨k + 1, by omega, by go_num, by rw [HNX.out]; exact HO2.out, hbe⟩
            case measure => simp [intOf]; omega
        · have hke : U.take k = U := List.take_of_length_le (by omega)
          have HOE := HO.out
          rw [hke, ← HM0.out] at HOE
          have HOM := Lib.hid (own_base HOE hb5.size)
          clear hke HOE HO
          go_wp2_with fail
          go_ret2
          exact ⟨_, by rw [HX0.out]; rfl, HOM.out, hbw⟩
    · have hc0 : ce ≠ 0 := by simpa using hc
      have HX2 : Hid (X = 2) := Lib.hid (by rw [HME2.out, if_neg hc0])
      have HM0 : Hid (M = []) := Lib.hid (by rw [HML.out, if_neg (by rw [HX2.out]; decide)])
      clear hc0
      go_wp2_with fail
      go_ret2
      exact ⟨_, by rw [HX2.out]; rfl, by rw [HM0.out]; exact World.ownsRow_nil _ _ _ _, hb4⟩
end
end Go.Proofs.YtnddoehhcpejjaaGreat
