/- Texts of this claim, put together. -/
import Derived.Test.YtnddoehhcpejjaaGreatJAY
import Derived.Test.YtnddoehhcpejjaaGreatJrnUpBZ
import Derived.Test.YtnddoehhcpejjaaGreatJBG
import Derived.Test.YtnddoehhcpejjaaGreatApiZ
/- The walk of TraceMissing. -/
namespace Go.Proofs.YtnddoehhcpejjaaGreat
set_option linter.unusedVariables false
set_option linter.unusedSimpArgs false
open Go.RowKit

section
variable (gcs : Array Value) (cur : ByteArray) (y m p : Int) (cl : List Acc) (cA : Option Addr) (cc : Nat) (ro : RolesR) (el : List EntR) (eA : Option Addr) (ec : Nat) (per : Int) (I : List ItemR) (AI : Option Addr) (cI : Nat) (P : List PostR) (AP : Option Addr) (cP : Nat) (B : List Bal) (AB : Option Addr) (cB : Nat) (w : World)
set_option maxRecDepth 100000 in
set_option maxHeartbeats 16000000 in
theorem law_TraceMissing (bcs : Array Value) (es : List EntryR) (sA : Option Addr) (sc : Nat) (HG : Hid (gcs = #[.string cur, .int .i64 y, .int .i64 m, .int .i64 p, .slice cA cl.length cc, .int .i64 ro.investment, .int .i64 ro.goodwill, .int .i64 ro.associates, .int .i64 ro.inventory, .int .i64 ro.reserve, .int .i64 ro.minority, .int .i64 ro.retained, .int .i64 ro.acquired, .int .i64 ro.owners, .int .i64 ro.disposal, .int .i64 ro.associateProfit, .int .i64 ro.dividends, .int .i64 ro.minorityProfit, .int .i64 ro.difference, .int .i64 ro.margin, .slice eA el.length ec])) (hBK : BkE bcs gcs sA es.length sc) (h : GIn w cl cA el eA) (hcu : cur.size ≤ maxLen) (hcl : cl.length ≤ maxLen) (hel : el.length ≤ maxLen)
    (hr : Rd w w.heap.size 7 sA es.length (cellsOf EntryR.cells es)) (hok : ∀ x ∈ es, x.Ok w) (hes : es.length ≤ maxLen) (hsc : es.length ≤ sc) (hT : TIn w I AI cI P AP cP B AB cB) :
    Calls Tryz.prog 3 #[.agg bcs, .agg #[.int .i64 per, .slice AI I.length cI, .slice AP P.length cP, .slice AB B.length cB]] w fun e w' => e = .returned (.bool true) ∧ Below w.heap.size w w' := by
  have H := Lib.hid h
  have HES := Lib.hid hr
  have HEO := Lib.hid hok
  have HT := Lib.hid hT
  have HBK := Lib.hid hBK
  have hbz : (Tryz.prog.info? 36).map (·.size) = some bcs.size := by rw [hBK.size]; kernel_rfl
  have hg21 : (Tryz.prog.info? 29).map (·.size) = some 21 := grp_size
  have hrz : (Tryz.prog.info? 41).map (·.size) = some 4 := by kernel_rfl
  have KF := Lib.hid (fun W h hr hok => jfew_any gcs cur y m p cl cA cc ro el eA ec W es sA sc HG h hcu hcl hel hr hok hes)
  have KS := Lib.hid (fun W h => tsmall_any per I AI cI P AP cP B AB cB W h hT.all hT.it hT.po hT.to)
  clear h hr hok hcu hcl hel hes hT hBK
  have hb : Below w.heap.size w ((w.alloc (.cells bcs 36)).alloc (.cells #[.int .i64 per, .slice AI I.length cI, .slice AP P.length cP, .slice AB B.length cB] 41)) := ((Below.refl _ _).alloc (Nat.le_refl _) _).alloc (by simp) _
  have HB := Lib.hid ((Blk.new w 36 bcs).alloc (.cells #[.int .i64 per, .slice AI I.length cI, .slice AP P.length cP, .slice AB B.length cB] 41))
  have HR := Lib.hid (blk_new2 w (.cells bcs 36) 41 #[.int .i64 per, .slice AI I.length cI, .slice AP P.length cP, .slice AB B.length cB])
  go_enter Tryz.func3, Tryz.ntmps3
  go_upto_region 1 with fail
  generalize (w.alloc (.cells bcs 36)).alloc (.cells #[.int .i64 per, .slice AI I.length cI, .slice AP P.length cP, .slice AB B.length cB] 41) = W at *
  go_upto_region 3 with (go_at_call 4; refine (tr_awake _).mono ?_; rintro e w2 ⟨rfl, hb9⟩; have hb2 := bel hb hb9; have HB2 := Lib.hid (HB.out.step hb9); have HR2 := Lib.hid (HR.out.step hb9); clear hb9)
  clear hb HB HR
  have k21 : w2.cell? ⟨w.heap.size, 21, none⟩ = some (.slice sA es.length sc) := (HB2.out.cell 21).trans HBK.out.ent
  have HES2 := Lib.hid (Rd.now HES.out hb2)
  have HEO2 : Hid (∀ x ∈ es, x.Ok w2) := Lib.hid (fun x hx => (HEO.out x hx).step hb2)
  go_wp2_with (refine wpList_load_arr rfl 29 (.tmp 15) rfl w.heap.size 0 rfl gcs (bkE_range HB2.out HBK.out) Tryz.underlying29 21 hg21 HBK.out.gsz ?_)
  refine (KF.out _ (H.out.step hb2) HES2.out HEO2.out).mono ?_
  rintro e w3 ⟨b, rfl, hb9, hfo⟩
  have hb3 := bel hb2 hb9
  have HB3 := Lib.hid (HB2.out.step hb9)
  have HR3 := Lib.hid (HR2.out.step hb9)
  clear hb9 k21 HES2 HEO2 HB2 HR2 hb2 KF
  cases b
  · clear hfo
    go_wp2_with fail
    go_ret
    exact ⟨rfl, hb3⟩
  · have HFJ := Lib.hid (hfo rfl)
    clear hfo
    cases hs : smallT I P B
    · rw [hs] at KS
      clear hs
      go_wp2_with (refine wpList_load_blk 41 (.tmp 3) rfl (w.heap.size + 1) rfl (by kernel_rfl) HR3.out Tryz.underlying41 hrz ?_)
      refine (KS.out _ (HT.out.rin.step hb3)).mono ?_
      rintro e w4 ⟨rfl, hb9⟩
      have hb4 := bel hb3 hb9
      go_wp2_with fail
      go_ret
      exact ⟨rfl, hb4⟩
    · have OK := smallT_ok hs
      rw [hs] at KS
      clear hs
      have hF := HFJ.out.grp
      have hn61 := HFJ.out.len
      have hES : EsIn w es sA := ⟨HES.out, HEO.out, fun x hx => (HFJ.out.each x hx).ln, fun x hx => (HFJ.out.each x hx).am⟩
      have hIw : ∀ x ∈ I, Wf x.ref.entry ∧ Wf x.ref.line := fun x hx => by
        have := HT.out.rin.iok x hx
        exact ⟨this.1, this.2.1⟩
      have hIn : I.length ≤ 100000 := by have := OK.items; omega
      have HEN := Lib.hid hES
      have KM := Lib.hid (fun W h hE hI => missing_any gcs cur y m p cl cA cc ro el eA ec W bcs es sA sc per I AI cI (.slice AP P.length cP) (.slice AB B.length cB) HG HBK.out h hF hE (by omega) hI hIw hIn)
      have KR := Lib.hid (fun W h hE hI => rmissing_any gcs cur y m p cl cA cc ro el eA ec W bcs es sA sc per I AI cI (.slice AP P.length cP) (.slice AB B.length cB) HG HBK.out h hF hE (by omega) hsc hI hIn)
      have KU := Lib.hid (fun W hE => up_any gcs cur y m p cl cA cc ro el eA ec W bcs es sA sc per HG HBK.out hE (by omega))
      have hul := Jn.upTo_take_len (Cal.laV y m p per) 60 es hES.ln es.length
      rw [List.take_length] at hul
      clear OK hIw hES HFJ HES HEO hF
      generalize jvB (Gr.gv cur cl ro el (Cal.ok y m p)) el.length (Jn.kB el) (Jn.dB y m p) es = J at *
      generalize Cal.ckE y m p per = ce at *
      generalize Cal.laV y m p per = T at *
      unfold MissPost at KM KR
      unfold UpPost at KU
      have HML : Hid (msL J ce T I es = if msE J ce = 0 then Jn.mis (hasV I) (Jn.upTo T es) else []) := Lib.hid rfl
      have hln : (msL J ce T I es).length ≤ 60000 := by
        rw [HML.out]
        split
        · have h1 := Jn.mis_len (hasV I) (Jn.upTo T es); omega
        · simp
      generalize msL J ce T I es = M at *
      generalize msE J ce = X at *
      go_wp2_with (refine wpList_load_blk 41 (.tmp 3) rfl (w.heap.size + 1) rfl (by kernel_rfl) HR3.out Tryz.underlying41 hrz ?_)
      refine (KS.out _ (HT.out.rin.step hb3)).mono ?_
      rintro e w4 ⟨rfl, hb9⟩
      have hb4 := bel hb3 hb9
      have HB4 := Lib.hid (HB3.out.step hb9)
      have HR4 := Lib.hid (HR3.out.step hb9)
      clear hb9 HB3 HR3 hb3 KS
      go_wp2_with (first
        | (refine wpList_load_blk 36 (.tmp 2) rfl w.heap.size rfl (by kernel_rfl) HB4.out Tryz.underlying36 hbz ?_)
        | (refine wpList_load_blk 41 (.tmp 3) rfl (w.heap.size + 1) rfl (by kernel_rfl) HR4.out Tryz.underlying41 hrz ?_))
      refine (KM.out _ (H.out.step hb4) (HEN.out.step hb4) (Rd.now HT.out.rin.it hb4)).mono ?_
      rintro e w5 ⟨v5, rfl, ho5, hb9⟩
      have hb5 := bel hb4 hb9
      have HB5 := Lib.hid (HB4.out.step hb9)
      have HR5 := Lib.hid (HR4.out.step hb9)
      clear hb9 HB4 HR4 hb4 KM
      obtain ⟨A5, c5, rfl, hrx⟩ := Rd.of_own ho5
      have H5 := Lib.hid hrx
      clear hrx ho5
      go_wp2_with (first
        | (refine wpList_load_blk 36 (.tmp 2) rfl w.heap.size rfl (by kernel_rfl) HB5.out Tryz.underlying36 hbz ?_)
        | (refine wpList_load_blk 41 (.tmp 3) rfl (w.heap.size + 1) rfl (by kernel_rfl) HR5.out Tryz.underlying41 hrz ?_))
      refine (KR.out _ (H.out.step hb5) (HEN.out.step hb5) (Rd.now HT.out.rin.it hb5)).mono ?_
      rintro e w6 ⟨v6, rfl, ho6, hb9⟩
      have hb6 := bel hb5 hb9
      have HB6 := Lib.hid (HB5.out.step hb9)
      have HR6 := Lib.hid (HR5.out.step hb9)
      replace H5 := Lib.hid (Rd.now H5.out hb9)
      clear hb9 HB5 HR5 hb5 KR
      obtain ⟨A6, c6, rfl, hrx⟩ := Rd.of_own ho6
      have H6 := Lib.hid hrx
      clear hrx ho6
      have hxx : (X != X) = false := by simp
      have hll : ((M.length : Int) != (M.length : Int)) = false := by simp
      go_upto_region 9 with fail
      go_wp2_with fail
      go_loopw [9] (fun t wr => ∃ k : Nat, k ≤ M.length ∧ t = .int .i64 k ∧ Below w6.heap.size w6 wr) (fun t _ => M.length - (intOf t).toNat)
      case atStart => exact ⟨0, by omega, rfl, Below.refl _ _⟩
      case round =>
        obtain ⟨k, hk, rfl, hbr⟩ := hrel
        have hbw := bel hb6 hbr
        by_cases hlt : k < M.length
        · obtain ⟨b, o, hA, hbo, f0, f1⟩ := RefR.at_ (Rd.now H5.out hbr) hlt
          obtain ⟨b2, o2, hA2, hbo2, g0, g1⟩ := RefR.at_ (Rd.now H6.out hbr) hlt
          generalize M[k] = r at *
          obtain ⟨re, rl⟩ := r
          dsimp only at *
          subst hA hA2
          have q0 : ∀ d : Later wr, d.now.cell? ⟨b, o + k * 2, none⟩ = some (.int .i64 re) := fun d => d.cell hbo f0
          have q1 : ∀ d : Later wr, d.now.cell? ⟨b, o + k * 2 + 1, none⟩ = some (.int .i64 rl) := fun d => d.cell hbo f1
          have q2 : ∀ d : Later wr, d.now.cell? ⟨b2, o2 + k * 2, none⟩ = some (.int .i64 re) := fun d => d.cell hbo2 g0
          have q3 : ∀ d : Later wr, d.now.cell? ⟨b2, o2 + k * 2 + 1, none⟩ = some (.int .i64 rl) := fun d => d.cell hbo2 g1
          have hz3 : (0 : Int) ≤ (k : Int) := by omega
          have hz4 : (k : Int) < M.length := by omega
          clear f0 f1 g0 g1
          go_upto_region 12 with fail
          refine wp_region_later (by kernel_rfl) (by kernel_rfl) ?_; (repeat (go_big_quiet_step ((fail)))); refine wpQuiet_nil ?_; rintro _ ⟨dq, rfl⟩
          have hbe := bel hbr dq.below
          go_wp2_with fail
          go_roundw
          case rel => exact ⟨k + 1, by omega, by go_num, hbe⟩
          case measure => simp [intOf]; omega
        · have HB7 := Lib.hid (HB6.out.step hbr)
          have HR7 := Lib.hid (HR6.out.step hbr)
          clear HB6 HR6 hbr hb6
          cases hx : (X != 0)
          · have hX0 : X = 0 := by simpa using hx
            have HM0 : Hid (M = Jn.mis (hasV I) (Jn.upTo T es)) := Lib.hid (by rw [HML.out, if_pos hX0])
            clear hX0
            have r0 : wr.cell? ⟨w.heap.size + 1, 0, none⟩ = some (.int .i64 per) := HR7.out.cell 0
            go_upto_region 17 with fail
            go_wp2_with (refine wpList_load_blk 36 (.tmp 2) rfl w.heap.size rfl (by kernel_rfl) HB7.out Tryz.underlying36 hbz ?_)
            refine (KU.out _ (HEN.out.step hbw)).mono ?_
            rintro e w8 ⟨v8, rfl, ho8, hb9⟩
            have hb8 := bel hbw hb9
            have HR8 := Lib.hid (HR7.out.step hb9)
            clear hb9 r0 HB7 HR7 hbw KU
            generalize Jn.upTo T es = U at *
            obtain ⟨A8, c8, rfl, hrx⟩ := Rd.of_own ho8
            have H8 := Lib.hid hrx
            clear hrx ho8
            have HCM := Lib.hid (Jn.cnt_mis (hasV I) U)
            rw [← HM0.out] at HCM
            go_wp2_with fail
            go_loopw [10, 12] (fun v t wr => ∃ k : Nat, k ≤ U.length ∧ v = .int .i64 (Jn.cnt (hasV I) (U.take k)) ∧ t = .int .i64 k ∧ Below w8.heap.size w8 wr) (fun _ t _ => U.length - (intOf t).toNat)
            case atStart => exact ⟨0, by omega, rfl, rfl, Below.refl _ _⟩
            case round =>
              clear hlt hk
              obtain ⟨k, hk, rfl, rfl, hbr⟩ := hrel
              have hbw := bel hb8 hbr
              by_cases hlt : k < U.length
              · obtain ⟨b, o, hA, hbo, f0, f1⟩ := RefR.at_ (Rd.now H8.out hbr) hlt
                have HCT := Lib.hid (Jn.cnt_take (hasV I) U k hlt)
                obtain ⟨c0, c1⟩ := Jn.cnt_bd (hasV I) U k
                generalize Jn.cnt (hasV I) (U.take k) = cn at *
                generalize U[k] = r at *
                obtain ⟨re, rl⟩ := r
                dsimp only at *
                subst hA
                have HRr := Lib.hid (HR8.out.step hbr)
                have KH := Lib.hid (fun W h => rhas_any per I AI cI (.slice AP P.length cP) (.slice AB B.length cB) ⟨re, rl⟩ W h (by omega))
                unfold BoolPost at KH
                dsimp only at KH
                have q0 : ∀ d : Later wr, d.now.cell? ⟨b, o + k * 2, none⟩ = some (.int .i64 re) := fun d => d.cell hbo f0
                have q1 : ∀ d : Later wr, d.now.cell? ⟨b, o + k * 2 + 1, none⟩ = some (.int .i64 rl) := fun d => d.cell hbo f1
                have p0 : ∀ d : Later wr, d.now.cell? ⟨w.heap.size + 1, 0, none⟩ = some (.int .i64 per) := fun d => d.cell HRr.out.lt (HRr.out.cell 0)
                have p1 : ∀ d : Later wr, d.now.cell? ⟨w.heap.size + 1, 1, none⟩ = some (.slice AI I.length cI) := fun d => d.cell HRr.out.lt (HRr.out.cell 1)
                have p2 : ∀ d : Later wr, d.now.cell? ⟨w.heap.size + 1, 2, none⟩ = some (.slice AP P.length cP) := fun d => d.cell HRr.out.lt (HRr.out.cell 2)
                have p3 : ∀ d : Later wr, d.now.cell? ⟨w.heap.size + 1, 3, none⟩ = some (.slice AB B.length cB) := fun d => d.cell HRr.out.lt (HRr.out.cell 3)
                have hz3 : (0 : Int) ≤ (k : Int) := by omega
                have hz4 : (k : Int) < U.length := by omega
                have hws : IntKind.i64.wrap (cn + 1) = cn + 1 := IntWalk.i64_in _ (by omega)
                clear f0 f1
                cases hh : hasV I ⟨re, rl⟩
                · have HNX : Hid (Jn.cnt (hasV I) (U.take (k + 1)) = cn) := Lib.hid (by rw [HCT.out, hh]; rfl)
                  rw [hh] at KH
                  clear hh
                  go_upto_region 21 with fail
                  refine wp_region_later (by kernel_rfl) (by kernel_rfl) ?_
                  (repeat (go_big_quiet_step ((fail)))); go_big_quiet_step ((go_at_call 10; exact Later.call _ (KH.out _ (Rd.now HT.out.rin.it (bel hbw (Later.below _))))))
                  (repeat (go_big_quiet_step ((fail)))); refine wpQuiet_nil ?_; rintro _ ⟨dq, rfl⟩
                  have hbe := bel hbr dq.below
                  go_wp2_with fail
                  go_roundw
                  case rel => exact ⟨k + 1, by omega, by rw [HNX.out], by go_num, hbe⟩
                  case measure => simp [intOf]; omega
                · have HNX : Hid (Jn.cnt (hasV I) (U.take (k + 1)) = cn + 1) := Lib.hid (by rw [HCT.out, hh]; rfl)
                  rw [hh] at KH
                  clear hh
                  go_upto_region 21 with fail
                  refine wp_region_later (by kernel_rfl) (by kernel_rfl) ?_
                  (repeat (go_big_quiet_step ((fail)))); go_big_quiet_step ((go_at_call 10; exact Later.call _ (KH.out _ (Rd.now HT.out.rin.it (bel hbw (Later.below _))))))
                  (repeat (go_big_quiet_step ((fail)))); refine wpQuiet_nil ?_; rintro _ ⟨dq, rfl⟩
                  have hbe := bel hbr dq.below
                  go_wp2_with fail
                  go_roundw
                  case rel => exact ⟨k + 1, by omega, by rw [HNX.out], by go_num, hbe⟩
                  case measure => simp [intOf]; omega
              · have hke : U.take k = U := List.take_of_length_le (by omega)
                rw [hke]
                clear hke
                generalize Jn.cnt (hasV I) U = cn at *
                have hws : IntKind.i64.wrap (cn + (M.length : Int)) = (U.length : Int) := by rw [HCM.out]; exact IntWalk.i64_in _ (by omega)
                have hws2 : wrap64 (cn + (M.length : Int)) = (U.length : Int) := by rw [HCM.out]; exact IntWalk.wrap64_in _ ⟨by omega, by omega⟩
                go_wp2_with fail
                go_ret
                exact ⟨ret_bool (by first | rfl | (have := HCM.out; simp; omega)), hbw⟩
          · go_wp2_with fail
            go_ret
            exact ⟨rfl, hbw⟩
end
end Go.Proofs.YtnddoehhcpejjaaGreat
/- How books are opened for their journal. -/
namespace Go.Proofs.YtnddoehhcpejjaaGreat
set_option linter.unusedVariables false
set_option linter.unusedSimpArgs false
open Go.RowKit Go.WideShapes Go.ChangeShapes

theorem bk_en {cur : ByteArray} {y m p : Int} {cl : List Acc} {cA : Option Addr} {cc : Nat} {ro : RolesR} {el : List EntR} {eA : Option Addr} {ec : Nat} {es : List EntryR} {sA : Option Addr} {sc : Nat} {b2 : Sl RateR} {b3 : Sl HoldR} {b4 : Sl MatchR} {b5 : Sl StockR} {b6 : ByteArray} :
    BkE (BooksR.cells ⟨⟨cur, ⟨y, m, p⟩, ⟨cl, cA, cc⟩, ro, ⟨el, eA, ec⟩⟩, ⟨es, sA, sc⟩, b2, b3, b4, b5, b6⟩).toArray #[.string cur, .int .i64 y, .int .i64 m, .int .i64 p, .slice cA cl.length cc, .int .i64 ro.investment, .int .i64 ro.goodwill, .int .i64 ro.associates, .int .i64 ro.inventory, .int .i64 ro.reserve, .int .i64 ro.minority, .int .i64 ro.retained, .int .i64 ro.acquired, .int .i64 ro.owners, .int .i64 ro.disposal, .int .i64 ro.associateProfit, .int .i64 ro.dividends, .int .i64 ro.minorityProfit, .int .i64 ro.difference, .int .i64 ro.margin, .slice eA el.length ec] sA es.length sc := by
  refine ⟨rfl, rfl, fun j hj => ?_, rfl⟩
  have e : (BooksR.cells ⟨⟨cur, ⟨y, m, p⟩, ⟨cl, cA, cc⟩, ro, ⟨el, eA, ec⟩⟩, ⟨es, sA, sc⟩, b2, b3, b4, b5, b6⟩) = (#[.string cur, .int .i64 y, .int .i64 m, .int .i64 p, .slice cA cl.length cc, .int .i64 ro.investment, .int .i64 ro.goodwill, .int .i64 ro.associates, .int .i64 ro.inventory, .int .i64 ro.reserve, .int .i64 ro.minority, .int .i64 ro.retained, .int .i64 ro.acquired, .int .i64 ro.owners, .int .i64 ro.disposal, .int .i64 ro.associateProfit, .int .i64 ro.dividends, .int .i64 ro.minorityProfit, .int .i64 ro.difference, .int .i64 ro.margin, .slice eA el.length ec] : Array Value).toList ++ [.slice sA es.length sc, b2.val, b3.val, b4.val, b5.val, .string b6] := rfl
  rw [e, List.getElem?_toArray, List.getElem?_append_left hj, Array.getElem?_toList]
end Go.Proofs.YtnddoehhcpejjaaGreat
