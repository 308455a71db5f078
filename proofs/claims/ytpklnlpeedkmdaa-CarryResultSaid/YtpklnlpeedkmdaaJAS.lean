/- Texts of this claim, put together. -/
import Derived.Test.YtpklnlpeedkmdaaJAR
import Derived.Test.YtpklnlpeedkmdaaJAC
/- The law's own 'awake', and the walks of CarryPlace and CarryOwn. -/
namespace Go.Proofs.Ytpklnlpeedkmdaa
set_option linter.unusedVariables false
set_option linter.unusedSimpArgs false
open Go.RowKit

theorem samplace_any (c d q pv pe : Int) (gcs : Array Value) (cA : Option Addr) (cc : Nat) (s1 s2 s3 s4 : Sl Acc) (r1 r2 r3 r4 : Sl LinkR) (eA : Option Addr) (ec : Nat) (w : World) (hg : gcs = gcells Sam.eur 2026 1 36 Sam.chart cA cc Sam.ro (Sam.ents s1 s2 s3 s4 r1 r2 r3 r4) eA ec)
    (hG : GIn w Sam.chart cA (Sam.ents s1 s2 s3 s4 r1 r2 r3 r4) eA) (h1 : Cr.plV true 2026 1 36 q Sam.chart Sam.ro c d = pv) (h2 : Cr.plE true 2026 1 36 q Sam.chart c = pe) :
    Calls Try.prog 31 #[.agg gcs, .int .i64 c, .int .i64 d, .int .i64 q] w (Two pv pe w) := by
  have := cplace_any gcs Sam.eur 2026 1 36 Sam.chart cA cc Sam.ro (Sam.ents s1 s2 s3 s4 r1 r2 r3 r4) eA ec w c d q (Lib.hid hg) hG (Sam.small s1 s2 s3 s4 r1 r2 r3 r4)
  rw [Sam.good, h1, h2] at this
  exact this
set_option maxRecDepth 100000 in
set_option maxHeartbeats 4000000 in
theorem car_awake (w : World) : Calls Try.prog 30 #[] w (BoolPost true w) := by
  have hb := Below.refl w.heap.size w
  go_enter Try.func30, Try.ntmps30
  go_wp2_with fail
  refine (sample_any w).mono ?_
  rintro e w2 ⟨gcs, cA, cc, s1, s2, s3, s4, r1, r2, r3, r4, eA, ec, rfl, hg, hG, hb2⟩
  replace hb := bel hb hb2
  have K := Lib.hid (samplace_any 4000 20818 11 4000 0 gcs cA cc s1 s2 s3 s4 r1 r2 r3 r4 eA ec w2 hg hG (by kernel_rfl) (by kernel_rfl))
  clear hg hG hb2
  go_wp2_with (go_at_call 31; refine K.out.mono ?_; rintro e w3 ⟨rfl, hb3⟩; replace hb := bel hb hb3; clear hb3)
  refine (sample_any w3).mono ?_
  rintro e w4 ⟨gcs, cA, cc, s1, s2, s3, s4, r1, r2, r3, r4, eA, ec, rfl, hg, hG, hb2⟩
  replace hb := bel hb hb2
  clear K
  have K := Lib.hid (samplace_any 4000 20818 12 3300 0 gcs cA cc s1 s2 s3 s4 r1 r2 r3 r4 eA ec w4 hg hG (by kernel_rfl) (by kernel_rfl))
  clear hg hG hb2
  go_wp2_with (go_at_call 31; refine K.out.mono ?_; rintro e w5 ⟨rfl, hb3⟩; replace hb := bel hb hb3; clear hb3)
  go_ret
  exact ⟨rfl, hb⟩
section
variable (cur : ByteArray) (y m p : Int) (cl : List Acc) (cA : Option Addr) (cc : Nat) (ro : RolesR) (el : List EntR) (eA : Option Addr) (ec : Nat) (w : World)
set_option maxRecDepth 100000 in
set_option maxHeartbeats 8000000 in
theorem law_CarryPlace (c d q : Int) (h : GIn w cl cA el eA) (hc : cur.size ≤ maxLen) (hcl : cl.length ≤ maxLen) (hel : el.length ≤ maxLen) :
    Calls Try.prog 8 #[.agg #[.string cur, .int .i64 y, .int .i64 m, .int .i64 p, .slice cA cl.length cc, .int .i64 ro.investment, .int .i64 ro.goodwill, .int .i64 ro.associates, .int .i64 ro.inventory, .int .i64 ro.reserve, .int .i64 ro.minority, .int .i64 ro.retained, .int .i64 ro.acquired, .int .i64 ro.owners, .int .i64 ro.disposal, .int .i64 ro.associateProfit, .int .i64 ro.dividends, .int .i64 ro.minorityProfit, .int .i64 ro.difference, .int .i64 ro.margin, .slice eA el.length ec], .agg #[.int .i64 c, .int .i64 d], .int .i64 q] w fun e w' => e = .returned (.bool true) ∧ Below w.heap.size w w' := by
  have HB0 : ∀ gcs, Hid (Blk ((w.alloc (.cells gcs 29)).alloc (.cells #[.int .i64 c, .int .i64 d] 53)) w.heap.size 29 gcs) := fun gcs => Lib.hid ((Blk.new w _ gcs).alloc _)
  have HT0 : ∀ gcs, Hid (Blk ((w.alloc (.cells gcs 29)).alloc (.cells #[.int .i64 c, .int .i64 d] 53)) (w.heap.size + 1) 53 #[.int .i64 c, .int .i64 d]) := fun gcs => Lib.hid (Blk.newAt (by simp))
  have H := Lib.hid h
  clear h
  obtain ⟨gcs, hgc⟩ : ∃ x : Array Value, x = #[.string cur, .int .i64 y, .int .i64 m, .int .i64 p, .slice cA cl.length cc, .int .i64 ro.investment, .int .i64 ro.goodwill, .int .i64 ro.associates, .int .i64 ro.inventory, .int .i64 ro.reserve, .int .i64 ro.minority, .int .i64 ro.retained, .int .i64 ro.acquired, .int .i64 ro.owners, .int .i64 ro.disposal, .int .i64 ro.associateProfit, .int .i64 ro.dividends, .int .i64 ro.minorityProfit, .int .i64 ro.difference, .int .i64 ro.margin, .slice eA el.length ec] := ⟨_, rfl⟩
  have hgi : (Try.prog.info? 29).map (·.size) = some gcs.size := by rw [hgc]; exact grp_size
  have HG := Lib.hid hgc
  rw [← hgc]
  clear hgc
  have K0 := Lib.hid (fun W h => HG.out.symm ▸ few_any cur y m p cl cA cc ro el eA ec W h hc hcl hel)
  clear hcl hel
  have hb : Below w.heap.size w ((w.alloc (.cells gcs 29)).alloc (.cells #[.int .i64 c, .int .i64 d] 53)) := by
    have hb := Below.refl w.heap.size w
    exact (by repeat (first | exact hb | refine Below.alloc ?_ (by have hbs := hb.size; first | omega | (simp; done) | (simp; omega)) _ | refine Below.drew ?_ | refine below_drewN_ ?_ _ | refine Below.setCell ?_ (by simp) _))
  have HB := HB0 gcs; have HT := HT0 gcs; clear HB0 HT0
  go_enter Try.func8, Try.ntmps8
  go_wp2_with (first
    | (refine wpList_load_blk 29 (.tmp 3) rfl (w.heap.size) rfl (by kernel_rfl) (HB).out Try.underlying29 hgi ?_)
    | (go_at_call 30; refine (car_awake _).mono ?_; rintro e w2 ⟨rfl, hb9⟩; replace hb := bel hb hb9; replace HB := Lib.hid (HB.out.step hb9); replace HT := Lib.hid (HT.out.step hb9); clear hb9))
  refine (K0.out _ (H.out.step hb)).mono ?_
  rintro e w3 ⟨b, rfl, hb9, hok⟩
  replace hb := bel hb hb9
  replace HB := Lib.hid (HB.out.step hb9)
  replace HT := Lib.hid (HT.out.step hb9)
  clear hb9 K0
  cases b
  · clear hok
    go_wp2_with (go_at_call 30; refine (car_awake _).mono ?_; rintro e w4 ⟨rfl, hb9⟩; replace hb := bel hb hb9; clear hb9)
    go_ret
    exact ⟨rfl, hb⟩
  · have OK := Lib.hid (hok rfl)
    clear hok
    have K1 := Lib.hid (fun W h => cplace_any gcs cur y m p cl cA cc ro el eA ec W c d q HG h OK.out)
    have K2 := Lib.hid (fun W h => rcplace_any gcs cur y m p cl cA cc ro el eA ec W c d q HG h OK.out)
    generalize Gr.gv cur cl ro el (Cal.ok y m p) = V at *
    generalize Cr.plV V y m p q cl ro c d = pv at *
    generalize Cr.plE V y m p q cl c = pe at *
    have t0 := HT.out.cell 0
    have t1 := HT.out.cell 1
    have h1 : (pv == pv) = true := by simp
    have h2 : (pe == pe) = true := by simp
    go_wp2_with (first
      | (refine wpList_load_blk 29 (.tmp 3) rfl (w.heap.size) rfl (by kernel_rfl) (HB).out Try.underlying29 hgi ?_)
      | (go_at_call 31; refine (K1.out _ (H.out.step hb)).mono ?_; rintro e w4 ⟨rfl, hb9⟩; replace hb := bel hb hb9; have HB4 := Lib.hid (HB.out.step hb9); have hT4 := HT.out.step hb9; have u0 := hT4.cell 0; have u1 := hT4.cell 1; clear hb9)
      | (refine wpList_load_blk 29 (.tmp 3) rfl (w.heap.size) rfl (by kernel_rfl) (HB4).out Try.underlying29 hgi ?_)
      | (go_at_call 32; refine (K2.out _ (H.out.step hb)).mono ?_; rintro e w5 ⟨rfl, hb9⟩; replace hb := bel hb hb9; clear hb9))
    go_ret
    exact ⟨rfl, hb⟩
end
theorem found_code {cl : List Acc} {c : Int} (h : Ch.fnB cl c = true) : (Ch.fnV cl c).code = c := by
  unfold Ch.fnB at h
  rw [Option.isSome_iff_exists] at h
  obtain ⟨a, ha⟩ := h
  unfold Ch.fnV
  rw [ha]
  exact (Ch.find_some cl c a ha).2
theorem own_place {y m p q c d : Int} {cl : List Acc} {ro : RolesR} (hV : Cal.ok y m p = true) (h0 : 0 ≤ q) (h1 : q < p) (hf : Ch.fnB cl c = true) (hr : resB cl c = false) : Cr.plV true y m p q cl ro c d = c ∧ Cr.plE true y m p q cl c = 0 := by
  have hk : Cr.ckE true y m p q = 0 := by
    unfold Cr.ckE Cal.ckE
    rw [if_pos rfl, if_pos hV, if_pos ⟨h0, h1⟩]
  have he : Cr.plE true y m p q cl c = 0 := by
    unfold Cr.plE
    rw [if_pos hk, if_pos hf]
  refine ⟨?_, he⟩
  unfold Cr.plV Cr.sh
  rw [if_pos he, hr]
  simp
section
variable (cur : ByteArray) (y m p : Int) (cl : List Acc) (cA : Option Addr) (cc : Nat) (ro : RolesR) (el : List EntR) (eA : Option Addr) (ec : Nat) (w : World)
set_option maxRecDepth 100000 in
set_option maxHeartbeats 8000000 in
theorem law_CarryOwn (c d : Int) (pp : Nat) (hpp : pp ≤ 255) (h : GIn w cl cA el eA) (hc : cur.size ≤ maxLen) (hcl : cl.length ≤ maxLen) (hel : el.length ≤ maxLen) :
    Calls Try.prog 9 #[.agg #[.string cur, .int .i64 y, .int .i64 m, .int .i64 p, .slice cA cl.length cc, .int .i64 ro.investment, .int .i64 ro.goodwill, .int .i64 ro.associates, .int .i64 ro.inventory, .int .i64 ro.reserve, .int .i64 ro.minority, .int .i64 ro.retained, .int .i64 ro.acquired, .int .i64 ro.owners, .int .i64 ro.disposal, .int .i64 ro.associateProfit, .int .i64 ro.dividends, .int .i64 ro.minorityProfit, .int .i64 ro.difference, .int .i64 ro.margin, .slice eA el.length ec], .agg #[.int .i64 c, .int .i64 d], .int .u8 pp] w fun e w' => e = .returned (.bool true) ∧ Below w.heap.size w w' := by
  have HB0 : ∀ gcs, Hid (Blk ((w.alloc (.cells gcs 29)).alloc (.cells #[.int .i64 c, .int .i64 d] 53)) w.heap.size 29 gcs) := fun gcs => Lib.hid ((Blk.new w _ gcs).alloc _)
  have HT0 : ∀ gcs, Hid (Blk ((w.alloc (.cells gcs 29)).alloc (.cells #[.int .i64 c, .int .i64 d] 53)) (w.heap.size + 1) 53 #[.int .i64 c, .int .i64 d]) := fun gcs => Lib.hid (Blk.newAt (by simp))
  have H := Lib.hid h
  clear h
  obtain ⟨gcs, hgc⟩ : ∃ x : Array Value, x = #[.string cur, .int .i64 y, .int .i64 m, .int .i64 p, .slice cA cl.length cc, .int .i64 ro.investment, .int .i64 ro.goodwill, .int .i64 ro.associates, .int .i64 ro.inventory, .int .i64 ro.reserve, .int .i64 ro.minority, .int .i64 ro.retained, .int .i64 ro.acquired, .int .i64 ro.owners, .int .i64 ro.disposal, .int .i64 ro.associateProfit, .int .i64 ro.dividends, .int .i64 ro.minorityProfit, .int .i64 ro.difference, .int .i64 ro.margin, .slice eA el.length ec] := ⟨_, rfl⟩
  have hgi : (Try.prog.info? 29).map (·.size) = some gcs.size := by rw [hgc]; exact grp_size
  have HG := Lib.hid hgc
  rw [← hgc]
  clear hgc
  have K0 := Lib.hid (fun W h => HG.out.symm ▸ few_any cur y m p cl cA cc ro el eA ec W h hc hcl hel)
  clear hcl hel
  have hb : Below w.heap.size w ((w.alloc (.cells gcs 29)).alloc (.cells #[.int .i64 c, .int .i64 d] 53)) := by
    have hb := Below.refl w.heap.size w
    exact (by repeat (first | exact hb | refine Below.alloc ?_ (by have hbs := hb.size; first | omega | (simp; done) | (simp; omega)) _ | refine Below.drew ?_ | refine below_drewN_ ?_ _ | refine Below.setCell ?_ (by simp) _))
  have HB := HB0 gcs; have HT := HT0 gcs; clear HB0 HT0
  go_enter Try.func9, Try.ntmps9
  go_wp2_with (first
    | (refine wpList_load_blk 29 (.tmp 3) rfl (w.heap.size) rfl (by kernel_rfl) (HB).out Try.underlying29 hgi ?_)
    | (go_at_call 30; refine (car_awake _).mono ?_; rintro e w2 ⟨rfl, hb9⟩; replace hb := bel hb hb9; replace HB := Lib.hid (HB.out.step hb9); replace HT := Lib.hid (HT.out.step hb9); clear hb9))
  refine (K0.out _ (H.out.step hb)).mono ?_
  rintro e w3 ⟨b, rfl, hb9, hok⟩
  replace hb := bel hb hb9
  replace HB := Lib.hid (HB.out.step hb9)
  replace HT := Lib.hid (HT.out.step hb9)
  clear hb9 K0
  cases b
  · clear hok
    go_wp2_with (go_at_call 30; refine (car_awake _).mono ?_; rintro e w4 ⟨rfl, hb9⟩; replace hb := bel hb hb9; clear hb9)
    go_ret
    exact ⟨rfl, hb⟩
  · have OK := Lib.hid (hok rfl)
    clear hok
    have hn : cl.length ≤ 100000 := by have := OK.out.ch; omega
    have KV := Lib.hid (fun W h => rgvalid_any gcs cur y m p cl cA cc ro el eA ec W HG h OK.out)
    have KA := Lib.hid (fun W h => raccount_any gcs cur y m p cl cA cc ro el eA ec W c HG h hn)
    have KR := Lib.hid (fun W h => rresult_any gcs cur y m p cl cA cc ro el eA ec W c HG h hn)
    have KP := Lib.hid (fun W q h => cplace_any gcs cur y m p cl cA cc ro el eA ec W c d q HG h OK.out)
    have HC := Lib.hid (gv_cal (cur := cur) (cl := cl) (ro := ro) (el := el) (cal := Cal.ok y m p))
    generalize Gr.gv cur cl ro el (Cal.ok y m p) = V at *
    cases V
    · go_wp2_with (first
        | (refine wpList_load_blk 29 (.tmp 3) rfl (w.heap.size) rfl (by kernel_rfl) (HB).out Try.underlying29 hgi ?_)
        | (go_at_call 19; refine (KV.out _ (H.out.step hb)).mono ?_; rintro e w4 ⟨rfl, hb9⟩; replace hb := bel hb hb9; clear hb9)
        | (go_at_call 30; refine (car_awake _).mono ?_; rintro e w5 ⟨rfl, hb9⟩; replace hb := bel hb hb9; clear hb9))
      go_ret
      exact ⟨rfl, hb⟩
    · have hcal := HC.out rfl
      have hp1 : 1 ≤ p ∧ p ≤ 120 := by
        unfold Cal.ok at hcal
        have := of_decide_eq_true hcal
        unfold Cal.okP at this
        omega
      have HCAL := Lib.hid hcal
      have HFC := Lib.hid (found_code (cl := cl) (c := c))
      unfold AccPost at KA
      have HOP := Lib.hid (fun q => own_place (d := d) (ro := ro) (q := q) (cl := cl) (c := c) HCAL.out)
      generalize Ch.fnV cl c = a at *
      generalize Ch.fnB cl c = fb at *
      generalize resB cl c = rb at *
      clear hcal HC
      have t0 := HT.out.cell 0
      cases fb
      · go_wp2_with (first
          | (refine wpList_load_blk 29 (.tmp 3) rfl (w.heap.size) rfl (by kernel_rfl) (HB).out Try.underlying29 hgi ?_)
          | (go_at_call 19; refine (KV.out _ (H.out.step hb)).mono ?_; rintro e w4 ⟨rfl, hb9⟩; replace hb := bel hb hb9; have HB4 := Lib.hid (HB.out.step hb9); have hT4 := HT.out.step hb9; have u0 := hT4.cell 0; clear hb9)
          | (refine wpList_load_blk 29 (.tmp 3) rfl (w.heap.size) rfl (by kernel_rfl) (HB4).out Try.underlying29 hgi ?_)
          | (go_at_call 23; refine (KA.out _ (H.out.step hb)).mono ?_; rintro e w5 ⟨rfl, hb9⟩; have hb5 := (bel hb hb9).alloc (bel hb hb9).size (.cells #[.int .i64 a.code, .int .i64 a.kind, .int .i64 a.basis, .int .i64 a.parent] 45); clear hb9))
        go_ret
        exact ⟨rfl, hb5⟩
      · obtain ⟨ac, ak, ab, ap⟩ := a
        have hac := HFC.out rfl
        dsimp only at hac
        subst hac
        clear HFC
        cases rb
        · go_wp2_with (first
            | (refine wpList_load_blk 29 (.tmp 3) rfl (w.heap.size) rfl (by kernel_rfl) (HB).out Try.underlying29 hgi ?_)
            | (go_at_call 19; refine (KV.out _ (H.out.step hb)).mono ?_; rintro e w4 ⟨rfl, hb9⟩; replace hb := bel hb hb9; have HB4 := Lib.hid (HB.out.step hb9); have hT4 := HT.out.step hb9; have u0 := hT4.cell 0; have HT4 := Lib.hid hT4; clear hb9)
            | (refine wpList_load_blk 29 (.tmp 3) rfl (w.heap.size) rfl (by kernel_rfl) (HB4).out Try.underlying29 hgi ?_)
            | (go_at_call 23; refine (KA.out _ (H.out.step hb)).mono ?_; rintro e w5 ⟨rfl, hb9⟩; have hb5 := (bel hb hb9).alloc (bel hb hb9).size (.cells #[.int .i64 ac, .int .i64 ak, .int .i64 ab, .int .i64 ap] 45); have HB5 := Lib.hid ((HB4.out.step hb9).alloc (.cells #[.int .i64 ac, .int .i64 ak, .int .i64 ab, .int .i64 ap] 45)); have HT5 := Lib.hid ((HT4.out.step hb9).alloc (.cells #[.int .i64 ac, .int .i64 ak, .int .i64 ab, .int .i64 ap] 45)); have HA5 := Lib.hid (Blk.new w5 45 #[.int .i64 ac, .int .i64 ak, .int .i64 ab, .int .i64 ap]); clear hb9)
            | (refine wpList_load_blk 29 (.tmp 3) rfl (w.heap.size) rfl (by kernel_rfl) (HB5).out Try.underlying29 hgi ?_)
            | (go_at_call 26; refine (KR.out _ (H.out.step hb5)).mono ?_; rintro e w6 ⟨rfl, hb9⟩; have hb6 := bel hb5 hb9; have HB6 := Lib.hid (HB5.out.step hb9); have HT6 := Lib.hid (HT5.out.step hb9); have HA6 := Lib.hid (HA5.out.step hb9); clear hb9))
          have p0 : ∀ d : Later w6, d.now.cell? ⟨w5.heap.size, 0, none⟩ = some (.int .i64 ac) := fun d => d.cell HA6.out.lt (HA6.out.cell 0)
          have p1 : ∀ e : Later w6, e.now.cell? ⟨w.heap.size + 1, 1, none⟩ = some (.int .i64 d) := fun e => e.cell HT6.out.lt (HT6.out.cell 1)
          have p3 : ∀ d : Later w6, d.now.cell? ⟨w.heap.size, 3, none⟩ = some (.int .i64 p) := fun d => d.cell HB6.out.lt ((HB6.out.cell 3).trans (by rw [HG.out]; rfl))
          obtain ⟨q, hq⟩ : ∃ q, q = (pp : Int) % p := ⟨_, rfl⟩
          have hq0 : 0 ≤ q := by rw [hq]; exact Int.emod_nonneg _ (by omega)
          have hq1 : q < p := by rw [hq]; exact Int.emod_lt_of_pos _ (by omega)
          have HQ := Lib.hid hq
          obtain ⟨z1, z2⟩ := HOP.out q hq0 hq1 (by first | rfl | trivial) (by first | rfl | trivial)
          have K9 := Lib.hid (fun W h => KP.out W q h)
          rw [z1, z2] at K9
          clear z1 z2 KP HOP hq u0 t0 hT4
          have hqq : ((pp : Int)).tmod p = q := by rw [HQ.out]; exact Int.tmod_eq_emod_of_nonneg (by omega)
          have hqq2 : IntKind.i64.wrap (((pp : Int)).tmod p) = q := by rw [hqq]; exact IntWalk.i64_in _ (by omega)
          go_wp2_with fail
          refine wp_region_later (by kernel_rfl) (by kernel_rfl) ?_
          (repeat (go_big_quiet_step ((fail)))); refine quiet_load_blk 29 (.tmp 3) rfl (w.heap.size) rfl (by kernel_rfl) (HB6).out Try.underlying29 hgi ?_; (try simp only [Act.put, List.setIfInBounds_toArray, List.set_cons_zero, List.set_cons_succ])
          (repeat (go_big_quiet_step ((fail)))); go_big_quiet_step ((go_at_call 31; exact Later.call _ (K9.out _ (H.out.step (bel hb6 (Later.below _))))))
          (repeat (go_big_quiet_step ((fail)))); refine wpQuiet_nil ?_; rintro _ ⟨dq, rfl⟩
          have hbe := bel hb6 dq.below
          have s0 : dq.now.cell? ⟨w5.heap.size, 0, none⟩ = some (.int .i64 ac) := p0 dq
          have hcc : (ac == ac) = true := by simp
          clear p0 p1 p3 hqq hqq2
          go_wp2_with fail
          go_ret
          exact ⟨rfl, hbe⟩
        · go_wp2_with (first
            | (refine wpList_load_blk 29 (.tmp 3) rfl (w.heap.size) rfl (by kernel_rfl) (HB).out Try.underlying29 hgi ?_)
            | (go_at_call 19; refine (KV.out _ (H.out.step hb)).mono ?_; rintro e w4 ⟨rfl, hb9⟩; replace hb := bel hb hb9; have HB4 := Lib.hid (HB.out.step hb9); have hT4 := HT.out.step hb9; have u0 := hT4.cell 0; have HT4 := Lib.hid hT4; clear hb9)
            | (refine wpList_load_blk 29 (.tmp 3) rfl (w.heap.size) rfl (by kernel_rfl) (HB4).out Try.underlying29 hgi ?_)
            | (go_at_call 23; refine (KA.out _ (H.out.step hb)).mono ?_; rintro e w5 ⟨rfl, hb9⟩; have hb5 := (bel hb hb9).alloc (bel hb hb9).size (.cells #[.int .i64 ac, .int .i64 ak, .int .i64 ab, .int .i64 ap] 45); have HB5 := Lib.hid ((HB4.out.step hb9).alloc (.cells #[.int .i64 ac, .int .i64 ak, .int .i64 ab, .int .i64 ap] 45)); clear hb9)
            | (refine wpList_load_blk 29 (.tmp 3) rfl (w.heap.size) rfl (by kernel_rfl) (HB5).out Try.underlying29 hgi ?_)
            | (go_at_call 26; refine (KR.out _ (H.out.step hb5)).mono ?_; rintro e w6 ⟨rfl, hb9⟩; have hb6 := bel hb5 hb9; clear hb9))
          go_ret
          exact ⟨rfl, hb6⟩
end
end Go.Proofs.Ytpklnlpeedkmdaa
/- An argument that is an array of two. Over any program. -/
namespace Go.Proofs.Ytpklnlpeedkmdaa
set_option linter.unusedVariables false
set_option linter.unusedSimpArgs false
open Go.RowKit Go.ChangeShapes Go.WideShapes Go.Deep

section
variable {P : Program} {w : World} {base : Nat} {spare : Nat → Bool} {held : Bool} {H : Type} {enc : TypeId × Value → H}
theorem open_arr2 {r : Reach} {b0 : Nat} {t e : TypeId} {v : Value} {d : DataW H} {p : List MemPlace} (ht : P.underlying t = some (.array 2 e)) (hce : P.cellsOf e = 1) (hC : P.cellsOf t = 2)
    (hv : Value.okWide P w r b0 t v) (h : DataW.Trod enc P w base spare held t v d p) :
    ∃ (c0 c1 : Value) (y0 y1 : DataW H × List MemPlace) (n : Nat), v = .agg #[c0, c1] ∧
      DataW.trod enc P w base spare held n e [c0] = some y0 ∧ DataW.trod enc P w base spare held n e [c1] = some y1 := by
  simp only [Value.okWide, ht] at hv
  obtain ⟨cs, rfl, h2, _⟩ := hv
  obtain ⟨c0, c1, rfl⟩ : ∃ a b, cs = #[a, b] := by
    obtain ⟨l⟩ := cs
    match l, h2.trans hC with
    | [a, b], _ => exact ⟨a, b, rfl⟩
  obtain ⟨fuel, hf⟩ := h
  have hf' : DataW.trod enc P w base spare held fuel t [c0, c1] = some (d, p) := by simpa [Value.cells] using hf
  cases fuel with
  | zero => simp [DataW.trod] at hf'
  | succ n =>
    unfold DataW.trod at hf'
    rw [ht] at hf'
    have r2 : List.range 2 = [0, 1] := rfl
    simp only [r2, hce] at hf'
    cases h0 : DataW.trod enc P w base spare held n e [c0] with
    | none => simp [h0] at hf'
    | some y0 =>
      cases h1 : DataW.trod enc P w base spare held n e [c1] with
      | none => simp [h0, h1] at hf'
      | some y1 => exact ⟨c0, c1, y0, y1, n, rfl, h0, h1⟩
end
end Go.Proofs.Ytpklnlpeedkmdaa
