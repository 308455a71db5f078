/- Texts of this claim, put together. -/
import Derived.Test.YtnkmjdaeafeaaaaJAY
import Derived.Test.YtnkmjdaeafeaaaaOthLawsZ
/- The walk of DividendLeft. -/
namespace Go.Proofs.Ytnkmjdaeafeaaaa
set_option linter.unusedVariables false
set_option linter.unusedSimpArgs false
open Go.RowKit

def icell (z : Int) : List Value := [.int .i64 z]
theorem int_at_ {w : World} {B : Nat} {A : Option Addr} {l : List Int} (h : Rd w B 1 A l.length (cellsOf icell l)) {k : Nat} (hk : k < l.length) : ∃ b o, A = some ⟨b, o, none⟩ ∧ b < B ∧ w.cell? ⟨b, o + k, none⟩ = some (.int .i64 l[k]) := by
  obtain ⟨b, o, e, hb, hc⟩ := rd_at (f := icell) (sz := 1) (fun _ => rfl) h hk
  have := hc 0 _ rfl
  rw [Nat.mul_one, Nat.add_zero] at this
  exact ⟨b, o, e, hb, this⟩
set_option maxHeartbeats 1000000 in
theorem left1_any (ms : List Int) (mA : Option Addr) (mc : Nat) (e : Int) (g : Nat) (w : World) (hg : w.cell? ⟨g, 0, none⟩ = some (.slice mA ms.length mc)) (hr : Rd w w.heap.size 1 mA ms.length (cellsOf icell ms)) (hn : ms.length ≤ 1000) :
    Calls Try.prog 34 #[.int .i64 e, .pointer (some ⟨g, 0, none⟩)] w (BoolPost (Lf.fullM ms e) w) := by
  have hb := Below.refl w.heap.size w
  by_cases h0 : 0 ≤ e
  · obtain ⟨k, rfl⟩ : ∃ k : Nat, e = k := ⟨e.toNat, by omega⟩
    by_cases h1 : k < ms.length
    · obtain ⟨b, o, hA, hbo, f0⟩ := int_at_ hr h1
      subst hA
      have HV : Hid (Lf.fullM ms (k : Int) = (ms[k] == 3)) := Lib.hid (by
        unfold Lf.fullM
        have : ((k : Int)).toNat = k := by omega
        rw [this, List.getD_eq_getElem?_getD, List.getElem?_eq_getElem h1]
        simp [h1])
      clear hr
      go_enter Try.func34, Try.ntmps34
      go_wp2_with fail
      go_ret
      exact ⟨by rw [HV.out]; rfl, hb⟩
    · have HV : Hid (Lf.fullM ms (k : Int) = false) := Lib.hid (by unfold Lf.fullM; simp; omega)
      have h1' : ms.length ≤ k := by omega
      clear hr
      go_enter Try.func34, Try.ntmps34
      go_wp2_with fail
      go_ret
      exact ⟨by rw [HV.out]; rfl, hb⟩
  · have HV : Hid (Lf.fullM ms e = false) := Lib.hid (by unfold Lf.fullM; simp; omega)
    have h0' : e < 0 := by omega
    clear hr
    go_enter Try.func34, Try.ntmps34
    go_wp2_with fail
    go_ret
    exact ⟨by rw [HV.out]; rfl, hb⟩
theorem OwnLs.oin2 {T TI : TypeId} {base : Nat} {w : World} {A : Option Addr} {n c : Nat} {L : List ConR} (h : OwnLs T TI base w (.slice A n c) L) (hl : L.length ≤ 1000) (hf : ∀ x ∈ L, x.items.l.length ≤ 1000) : n = L.length ∧ OIn w L A := by
  obtain ⟨A', c', e, hr⟩ := Rd.of_own h.own
  injection e with e1 e2 e3
  subst e1 e2 e3
  refine ⟨rfl, hr, fun x hx => ⟨own_rd (h.its x hx), ?_⟩, ?_⟩
  · have := hf x hx; unfold maxLen; omega
  · unfold maxLen; omega
/-- the first contributions that the law builds -/
def LfPre (ms : List Int) (I : List ItemR) (M : List ConR) : Prop := ∀ i (h : i < M.length), M[i].entity = i ∧ M[i].method = ms.getD i 0 ∧ M[i].items.l = I.filter (fun y => y.entity == (i : Int))
theorem lf_nil (ms : List Int) (I : List ItemR) : LfPre ms I [] := fun i h => by simp at h
theorem lf_snoc {ms : List Int} {I : List ItemR} {M : List ConR} {i : Nat} {x : ConR} (h : LfPre ms I M) (hM : M.length = i) (h1 : x.entity = i) (h2 : x.method = ms.getD i 0) (h3 : x.items.l = I.filter (fun y => y.entity == (i : Int))) : LfPre ms I (M ++ [x]) := by
  subst hM
  intro j a
  by_cases e : j < M.length
  · rw [List.getElem_append_left e]
    exact h j e
  · rw [List.length_append, List.length_singleton] at a
    have ei : j = M.length := by omega
    subst ei
    simp only [List.getElem_append_right (Nat.le_refl _), Nat.sub_self, List.getElem_cons_zero]
    exact ⟨h1, h2, h3⟩
theorem fil_take (e : Int) (I : List ItemR) (j : Nat) (h : j < I.length) : (I.take (j + 1)).filter (fun y => y.entity == e) = if (I[j].entity == e) = true then (I.take j).filter (fun y => y.entity == e) ++ [I[j]] else (I.take j).filter (fun y => y.entity == e) := by
  rw [List.take_succ_eq_append_getElem h, List.filter_append, List.filter_cons, List.filter_nil]
  split <;> simp
section
variable (cur : ByteArray) (y m p : Int) (cl : List Acc) (cA : Option Addr) (cc : Nat) (ro : RolesR) (el : List EntR) (eA : Option Addr) (ec : Nat) (w : World)
set_option maxRecDepth 100000 in
set_option maxHeartbeats 16000000 in
theorem law_DividendLeft (ms : List Int) (mA : Option Addr) (mc : Nat) (I : List ItemR) (iA : Option Addr) (ic : Nat) (h : GIn w cl cA el eA) (hc : cur.size ≤ maxLen) (hcl : cl.length ≤ maxLen) (hel : el.length ≤ maxLen) (hrm : Rd w w.heap.size 1 mA ms.length (cellsOf icell ms)) (hml : ms.length ≤ maxLen) (hri : Rd w w.heap.size 7 iA I.length (cellsOf ItemR.cells I)) (hIl : I.length ≤ maxLen) (hw1 : Wf ro.dividends) (hw2 : Wf ro.retained) :
    Calls Try.prog 8 #[.agg #[.string cur, .int .i64 y, .int .i64 m, .int .i64 p, .slice cA cl.length cc, .int .i64 ro.investment, .int .i64 ro.goodwill, .int .i64 ro.associates, .int .i64 ro.inventory, .int .i64 ro.reserve, .int .i64 ro.minority, .int .i64 ro.retained, .int .i64 ro.acquired, .int .i64 ro.owners, .int .i64 ro.disposal, .int .i64 ro.associateProfit, .int .i64 ro.dividends, .int .i64 ro.minorityProfit, .int .i64 ro.difference, .int .i64 ro.margin, .slice eA el.length ec], .slice mA ms.length mc, .slice iA I.length ic] w fun e w' => e = .returned (.bool true) ∧ Below w.heap.size w w' := by
  have H := Lib.hid h
  have HRM := Lib.hid hrm
  have HRI := Lib.hid hri
  clear h hrm hri
  obtain ⟨gcs, hgc⟩ : ∃ x : Array Value, x = #[.string cur, .int .i64 y, .int .i64 m, .int .i64 p, .slice cA cl.length cc, .int .i64 ro.investment, .int .i64 ro.goodwill, .int .i64 ro.associates, .int .i64 ro.inventory, .int .i64 ro.reserve, .int .i64 ro.minority, .int .i64 ro.retained, .int .i64 ro.acquired, .int .i64 ro.owners, .int .i64 ro.disposal, .int .i64 ro.associateProfit, .int .i64 ro.dividends, .int .i64 ro.minorityProfit, .int .i64 ro.difference, .int .i64 ro.margin, .slice eA el.length ec] := ⟨_, rfl⟩
  have hgi : (Try.prog.info? 29).map (·.size) = some gcs.size := by rw [hgc]; exact grp_size
  have HG := Lib.hid hgc
  rw [← hgc]
  clear hgc
  have HBT := Lib.hid (bkOf_built HG.out)
  have HBS := Lib.hid (bkOf_is (gsize21 HG.out))
  have K0 := Lib.hid (fun W h => HG.out.symm ▸ few_any cur y m p cl cA cc ro el eA ec W h hc hcl hel)
  have hb : Below w.heap.size w ((w.alloc (.cells gcs 29)).alloc (.cells #[.slice mA ms.length mc] 91)) := ((Below.refl _ _).alloc (Nat.le_refl _) _).alloc (by simp) _
  have HB := Lib.hid ((Blk.new w 29 gcs).alloc (.cells #[.slice mA ms.length mc] 91))
  have HT := Lib.hid (blk_new2 w (.cells gcs 29) 91 #[.slice mA ms.length mc])
  go_enter Try.func8, Try.ntmps8
  go_wp2_with fail
  generalize (w.alloc (.cells gcs 29)).alloc (.cells #[.slice mA ms.length mc] 91) = W at *
  refine (div_awake _).mono ?_
  rintro e w2 ⟨rfl, hb9⟩
  replace hb := bel hb hb9
  replace HB := Lib.hid (HB.out.step hb9)
  replace HT := Lib.hid (HT.out.step hb9)
  clear hb9
  go_wp2_with ((refine wpList_load_blk 29 (.tmp 3) rfl (w.heap.size) rfl (by kernel_rfl) (HB).out Try.underlying29 hgi ?_))
  refine (K0.out _ (H.out.step hb)).mono ?_
  rintro e w3 ⟨b, rfl, hb9, hok⟩
  replace hb := bel hb hb9
  replace HB := Lib.hid (HB.out.step hb9)
  replace HT := Lib.hid (HT.out.step hb9)
  clear hb9 K0
  cases b
  · clear hok
    go_wp2_with (go_at_call 24; refine (div_awake _).mono ?_; rintro e w4 ⟨rfl, hb9⟩; replace hb := bel hb hb9; clear hb9)
    go_ret
    exact ⟨rfl, hb⟩
  · have OK := Lib.hid (hok rfl)
    clear hok
    have hen := OK.out.en
    have KV := Lib.hid (fun W h => rgvalid_any gcs cur y m p cl cA cc ro el eA ec W HG h OK.out)
    have HDR := Lib.hid (roles_apart (cur := cur) (cl := cl) (ro := ro) (el := el) (cal := Cal.ok y m p))
    have KF := Lib.hid (fun l W A c h hC => dforeign_any gcs cur y m p cl cA cc ro el eA ec W (bkOf gcs) l 0 A c HG HBS.out h OK.out (by omega) hC hw1 hw2)
    have HSM : Hid (I.all itSmall = I.all itSmall) := Lib.hid rfl
    generalize hsm : I.all itSmall = sm at *
    have HSM2 := Lib.hid hsm
    clear hsm HSM
    have HSM := HSM2
    clear HSM2
    generalize Gr.gv cur cl ro el (Cal.ok y m p) = V at *
    unfold maxLen at hml hIl
    cases V
    · go_wp2_with (first
        | (refine wpList_load_blk 29 (.tmp 3) rfl (w.heap.size) rfl (by kernel_rfl) (HB).out Try.underlying29 hgi ?_)
        | (go_at_call 12; refine (KV.out _ (H.out.step hb)).mono ?_; rintro e w4 ⟨rfl, hb9⟩; replace hb := bel hb hb9; replace HT := Lib.hid (HT.out.step hb9); replace HB := Lib.hid (HB.out.step hb9); clear hb9; have k0 : w4.cell? ⟨w.heap.size + 1, 0, none⟩ = some (.slice mA ms.length mc) := HT.out.cell 0; have k20 : w4.cell? ⟨w.heap.size, 20, none⟩ = some (.slice eA el.length ec) := (HB.out.cell 20).trans (by rw [HG.out]; rfl))
        | (go_at_call 33; refine (itsmall_any I iA ic _ (Rd.now HRI.out hb) hIl).mono ?_; rintro e w5 ⟨rfl, rfl⟩; rw [HSM.out])
        | (go_at_call 24; refine (div_awake _).mono ?_; rintro e w6 ⟨rfl, hb9⟩; replace hb := bel hb hb9; clear hb9))
      go_ret
      exact ⟨rfl, hb⟩
    · by_cases h1 : ms.length ≤ el.length
      · by_cases h2 : I.length ≤ 60
        · cases sm
          · go_wp2_with (first
              | (refine wpList_load_blk 29 (.tmp 3) rfl (w.heap.size) rfl (by kernel_rfl) (HB).out Try.underlying29 hgi ?_)
              | (go_at_call 12; refine (KV.out _ (H.out.step hb)).mono ?_; rintro e w4 ⟨rfl, hb9⟩; replace hb := bel hb hb9; replace HT := Lib.hid (HT.out.step hb9); replace HB := Lib.hid (HB.out.step hb9); clear hb9; have k0 : w4.cell? ⟨w.heap.size + 1, 0, none⟩ = some (.slice mA ms.length mc) := HT.out.cell 0; have k20 : w4.cell? ⟨w.heap.size, 20, none⟩ = some (.slice eA el.length ec) := (HB.out.cell 20).trans (by rw [HG.out]; rfl))
              | (go_at_call 33; refine (itsmall_any I iA ic _ (Rd.now HRI.out hb) hIl).mono ?_; rintro e w5 ⟨rfl, rfl⟩; rw [HSM.out])
              | (go_at_call 24; refine (div_awake _).mono ?_; rintro e w6 ⟨rfl, hb9⟩; replace hb := bel hb hb9; clear hb9))
            go_ret
            exact ⟨rfl, hb⟩
          · obtain ⟨i0, hi0, hz0, hz1, hz2⟩ := info_parts own_info
            obtain ⟨j0, hj0, hy0, hy1, hy2⟩ := info_parts ItemR.info
            have hd1 : decide (el.length < ms.length) = false := by simp; omega
            have hd2 : decide ((60 : Int) < (I.length : Int)) = false := by simp; omega
            go_upto_region 3 with (first
              | (refine wpList_load_blk 29 (.tmp 3) rfl (w.heap.size) rfl (by kernel_rfl) (HB).out Try.underlying29 hgi ?_)
              | (go_at_call 12; refine (KV.out _ (H.out.step hb)).mono ?_; rintro e w4 ⟨rfl, hb9⟩; replace hb := bel hb hb9; replace HT := Lib.hid (HT.out.step hb9); replace HB := Lib.hid (HB.out.step hb9); clear hb9; have k0 : w4.cell? ⟨w.heap.size + 1, 0, none⟩ = some (.slice mA ms.length mc) := HT.out.cell 0; have k20 : w4.cell? ⟨w.heap.size, 20, none⟩ = some (.slice eA el.length ec) := (HB.out.cell 20).trans (by rw [HG.out]; rfl))
              | (go_at_call 33; refine (itsmall_any I iA ic _ (Rd.now HRI.out hb) hIl).mono ?_; rintro e w5 ⟨rfl, rfl⟩; rw [HSM.out]))
            go_wp2_with fail
            clear k0 k20 hd1 hd2
            go_loopw [7, 9, 53] (fun v s t wr => ∃ (i : Nat) (M : List ConR), i ≤ ms.length ∧ M.length = i ∧ s = .int .i64 (Lf.acc ms ro.dividends I i 0) ∧ t = .int .i64 i ∧ OwnLs 83 87 w.heap.size wr v M ∧ LfPre ms I M ∧ (∀ x ∈ M, x.items.l.length ≤ 60) ∧ Blk wr w.heap.size 29 gcs ∧ Blk wr (w.heap.size + 1) 91 #[.slice mA ms.length mc] ∧ Below w.heap.size w wr) (fun _ _ t _ => ms.length - (intOf t).toNat)
            case atStart => exact ⟨0, [], by omega, rfl, by rw [Lf.acc_zero], rfl, ownLs_nil _ _ _ _, lf_nil _ _, (fun x hx => by cases hx), HB.out, HT.out, hb⟩
            case round =>
              clear hb HB HT
              obtain ⟨i, M, hi, hMi, rfl, rfl, hOL, hLS, hF4, hB, hT, hb⟩ := hrel
              have HOL := Lib.hid hOL
              have HLS := Lib.hid hLS
              have HF4 := Lib.hid hF4
              have HB := Lib.hid hB
              have HT := Lib.hid hT
              have HMI := Lib.hid hMi
              have hmm : M.length ≤ 20 := by omega
              have hz := hb.size
              clear hOL hLS hF4 hB hT hMi
              by_cases hil : i < ms.length
              · obtain ⟨b, o, hA, hbo, f0⟩ := int_at_ (Rd.now HRM.out hb) hil
                subst hA
                have HMD : Hid (ms.getD i 0 = ms[i]) := Lib.hid (by rw [List.getD_eq_getElem?_getD, List.getElem?_eq_getElem hil]; rfl)
                have HSN := Lib.hid (fun x => lf_snoc (x := x) HLS.out HMI.out)
                generalize ms[i] = mi at *
                have hst : Below wr.heap.size wr (wr.alloc (.cells #[.int .i64 i, .int .i64 mi, .slice none 0 0] 83)) := (Below.refl _ _).alloc (Nat.le_refl _) _
                have HX1 := Lib.hid (Blk.new wr 83 #[.int .i64 i, .int .i64 mi, .slice none 0 0])
                have HW1 : Hid ((wr.alloc (.cells #[.int .i64 i, .int .i64 mi, .slice none 0 0] 83)).heap.size = wr.heap.size + 1) := Lib.hid (by simp)
                obtain ⟨wo, rfl⟩ : ∃ wo : World, wo = wr := ⟨_, rfl⟩
                go_wp2_with fail
                clear f0
                generalize wo.alloc (.cells #[.int .i64 i, .int .i64 mi, .slice none 0 0] 83) = W1 at *
                go_loopw [9, 63] (fun s t wr => ∃ j : Nat, j ≤ I.length ∧ ∃ u : Value, Blk wr wo.heap.size 83 #[.int .i64 i, .int .i64 mi, u] ∧ wr.ownsRow (wo.heap.size + 1) 87 7 u ((I.take j).filter (fun y : ItemR => y.entity == (i : Int))).length (cellsOf ItemR.cells ((I.take j).filter (fun y : ItemR => y.entity == (i : Int)))) ∧ s = .int .i64 (Lf.acc ms ro.dividends I i j) ∧ t = .int .i64 j ∧ Below wo.heap.size wo wr) (fun _ t _ => I.length - (intOf t).toNat)
                case atStart => exact ⟨0, by omega, _, HX1.out, World.ownsRow_nil _ _ _ _, rfl, rfl, hst⟩
                case round =>
                  obtain ⟨j, hj, u, hX, hU, rfl, rfl, hbr⟩ := hrel
                  have HX := Lib.hid hX
                  have HU := Lib.hid hU
                  have hbw := bel hb hbr
                  have hlX := hX.lt
                  have hlf : ((I.take j).filter (fun y : ItemR => y.entity == (i : Int))).length ≤ 60 := Nat.le_trans (List.length_filter_le _ _) (by rw [List.length_take]; omega)
                  clear hX hU
                  by_cases hjl : j < I.length
                  · obtain ⟨b2, o2, hA2, hbo3, f0, f1, f2, f3, f4, f5, f6⟩ := ItemR.at_ (Rd.now HRI.out hbw) hjl
                    subst hA2
                    have HFT := Lib.hid (fil_take (i : Int) I j hjl)
                    have HAS := Lib.hid (Lf.acc_step ms ro.dividends I i j hjl)
                    have HAK := Lib.hid (Lf.acc_skip ms ro.dividends I i j hjl)
                    have HWT : Hid (Lf.wt ms ro.dividends i I[j] = if I[j].entity = i ∧ Lf.fullM ms i = true ∧ I[j].account = ro.dividends ∧ (I[j].partner = i ∨ Lf.fullM ms I[j].partner = false) then I[j].amount else 0) := Lib.hid rfl
                    generalize I[j] = it at *
                    obtain ⟨⟨r1, r2⟩, ie, ia, ip, id, im⟩ := it
                    dsimp only at *
                    generalize Lf.acc ms ro.dividends I i j = sa at *
                    generalize Lf.wt ms ro.dividends i ⟨⟨r1, r2⟩, ie, ia, ip, id, im⟩ = wv at *
                    have hs2 := hbr.alloc hbr.size (.cells #[.int .i64 r1, .int .i64 r2, .int .i64 ie, .int .i64 ia, .int .i64 ip, .int .i64 id, .int .i64 im] 87)
                    have HX2 := Lib.hid (HX.out.alloc (.cells #[.int .i64 r1, .int .i64 r2, .int .i64 ie, .int .i64 ia, .int .i64 ip, .int .i64 id, .int .i64 im] 87))
                    cases hie : (ie == (i : Int))
                    · have HF1 : Hid ((I.take (j + 1)).filter (fun y : ItemR => y.entity == (i : Int)) = (I.take j).filter (fun y : ItemR => y.entity == (i : Int))) := Lib.hid (by rw [HFT.out, hie]; rfl)
                      have HE1 : Hid (Lf.acc ms ro.dividends I i (j + 1) = sa) := Lib.hid (HAK.out (by rw [HWT.out, if_neg (fun h => by rw [h.1] at hie; simp at hie)]))
                      have hne : (ie != (i : Int)) = true := by simpa using hie
                      go_wp2_with fail
                      go_roundw
                      case rel => exact ⟨j + 1, by omega, u, HX2.out, by rw [HF1.out]; exact HU.out.alloc _, by rw [HE1.out], by go_num, hs2⟩
                      case measure => simp [intOf]; omega
                    · have hiee : ie = (i : Int) := by simpa using hie
                      have HF1 : Hid ((I.take (j + 1)).filter (fun y : ItemR => y.entity == (i : Int)) = (I.take j).filter (fun y : ItemR => y.entity == (i : Int)) ++ [⟨⟨r1, r2⟩, ie, ia, ip, id, im⟩]) := Lib.hid (by rw [HFT.out, hie]; rfl)
                      have HFL : Hid (((I.take j).filter (fun y : ItemR => y.entity == (i : Int)) ++ [(⟨⟨r1, r2⟩, ie, ia, ip, id, im⟩ : ItemR)]).length = ((I.take j).filter (fun y : ItemR => y.entity == (i : Int))).length + 1) := Lib.hid (by rw [List.length_append]; rfl)
                      have HWT2 : Hid (wv = if Lf.fullM ms i = true ∧ ia = ro.dividends ∧ (ip = i ∨ Lf.fullM ms ip = false) then im else 0) := Lib.hid (by rw [HWT.out]; simp only [hiee, true_and])
                      have hne : (ie != (i : Int)) = false := by simpa using hiee
                      clear hie hiee HFT HWT
                      generalize (I.take j).filter (fun y : ItemR => y.entity == (i : Int)) = FJ at *
                      have kx2 : (wr.alloc (.cells #[.int .i64 r1, .int .i64 r2, .int .i64 ie, .int .i64 ia, .int .i64 ip, .int .i64 id, .int .i64 im] 87)).cell? ⟨wo.heap.size, 2, none⟩ = some u := HX2.out.cell 2
                      have HYB := Lib.hid (Blk.new wr 87 #[.int .i64 r1, .int .i64 r2, .int .i64 ie, .int .i64 ia, .int .i64 ip, .int .i64 id, .int .i64 im])
                      go_wp2_with (at_builtin; refine wpList_append_rec ItemR.cells 7 ItemR.len ItemR.one rfl (.tmp 72) (.tmp 74) 81 rfl (wo.heap.size + 1) 87 j0 (.agg #[.int .i64 0, .int .i64 0, .int .i64 0, .int .i64 0, .int .i64 0, .int .i64 0, .int .i64 0]) 56 Try.underlying81 hj0 hy0 hy1 hy2 rfl (by decide) _ FJ rfl ((HU.out.alloc (.cells #[.int .i64 r1, .int .i64 r2, .int .i64 ie, .int .i64 ia, .int .i64 ip, .int .i64 id, .int .i64 im] 87)).alloc _) (wr.heap.size + 1) 1 ⟨⟨r1, r2⟩, ie, ia, ip, id, im⟩ #[.int .i64 r1, .int .i64 r2, .int .i64 ie, .int .i64 ia, .int .i64 ip, .int .i64 id, .int .i64 im] rfl (blk_new2 _ _ _ _) rfl (by simp only [maxLen]; omega) (by omega) (by simp; omega) ?_)
                      intro u4 w4 ho4 hg4
                      have hb3 := hs2.alloc hs2.size (.cells #[.int .i64 r1, .int .i64 r2, .int .i64 ie, .int .i64 ia, .int .i64 ip, .int .i64 id, .int .i64 im] 87)
                      have hb4 : Below wo.heap.size wo w4 := hb3.grown hg4 (by have := hb3.size; omega) (fun k hk => by have := ((HU.out.alloc (.cells #[.int .i64 r1, .int .i64 r2, .int .i64 ie, .int .i64 ia, .int .i64 ip, .int .i64 id, .int .i64 im] 87)).alloc (.cells #[.int .i64 r1, .int .i64 r2, .int .i64 ie, .int .i64 ia, .int .i64 ip, .int .i64 id, .int .i64 im] 87)).lt k hk; omega)
                      have HX4 := Lib.hid ((HX2.out.alloc (.cells #[.int .i64 r1, .int .i64 r2, .int .i64 ie, .int .i64 ia, .int .i64 ip, .int .i64 id, .int .i64 im] 87)).grown hg4 (own_ne_blk ((HU.out.alloc _).alloc _) (HX2.out.alloc (.cells #[.int .i64 r1, .int .i64 r2, .int .i64 ie, .int .i64 ia, .int .i64 ip, .int .i64 id, .int .i64 im] 87)) (by decide)))
                      obtain ⟨vA, vn, vc, hv4⟩ := own_shape ho4
                      subst hv4
                      have hlt4 := HYB.out.lt
                      have HY4 := Lib.hid ((HYB.out.alloc (.cells #[.int .i64 r1, .int .i64 r2, .int .i64 ie, .int .i64 ia, .int .i64 ip, .int .i64 id, .int .i64 im] 87)).grown hg4 (fun e => by have := (HU.out.lt _ e.symm).2; omega))
                      have HU4 := Lib.hid ho4
                      have kx2b : w4.cell? ⟨wo.heap.size, 2, none⟩ = some u := HX4.out.cell 2
                      have zx2 : w4.frozen? ⟨wo.heap.size, 2, none⟩ = false := HX4.out.frozen 2
                      have hb5 : Below wo.heap.size wo (w4.setCell ⟨wo.heap.size, 2, none⟩ (.slice vA vn vc)) := hb4.setCell (by simp) _
                      have hx5 : Blk (w4.setCell ⟨wo.heap.size, 2, none⟩ (.slice vA vn vc)) wo.heap.size 83 #[.int .i64 i, .int .i64 mi, .slice vA vn vc] := HX4.out.set_ 2 _
                      have HX5 := Lib.hid hx5
                      have HY5 := Lib.hid (HY4.out.far (p := ⟨wo.heap.size, 2, none⟩) (by show wr.heap.size ≠ wo.heap.size; omega) (.slice vA vn vc))
                      have HU5 := Lib.hid (own_away (i := 2) HU4.out (show wo.heap.size < wo.heap.size + 1 by omega) (.slice vA vn vc))
                      clear ho4 hg4 kx2 hx5 hb3 hlt4 HYB
                      go_upto_region 15 with fail
                      clear kx2b zx2
                      generalize w4.setCell ⟨wo.heap.size, 2, none⟩ (.slice vA vn vc) = w5 at *
                      have HB5 := Lib.hid (HB.out.step hb5)
                      have HT5 := Lib.hid (HT.out.step hb5)
                      go_wp2_with fail
                      refine (left1_any ms _ mc i (w.heap.size + 1) w5 (HT5.out.cell 0) (Rd.now HRM.out (bel hb hb5)) (by omega)).mono ?_
                      rintro en w6 ⟨rfl, hb9⟩
                      have hb6 := hb5.trans (hb9.mono hb5.size)
                      have HX6 := Lib.hid (HX5.out.step hb9)
                      have HU6 := Lib.hid (own_step HU5.out hb9)
                      have HY6 := Lib.hid (HY5.out.step hb9)
                      have HB6 := Lib.hid (HB5.out.step hb9)
                      have HT6 := Lib.hid (HT5.out.step hb9)
                      clear hb9
                      have y3 : w6.cell? ⟨wr.heap.size, 3, none⟩ = some (.int .i64 ia) := HY6.out.cell 3
                      have y4 : w6.cell? ⟨wr.heap.size, 4, none⟩ = some (.int .i64 ip) := HY6.out.cell 4
                      have y6 : w6.cell? ⟨wr.heap.size, 6, none⟩ = some (.int .i64 im) := HY6.out.cell 6
                      have k16 : w6.cell? ⟨w.heap.size, 16, none⟩ = some (.int .i64 ro.dividends) := (HB6.out.cell 16).trans (by rw [HG.out]; rfl)
                      clear f0 f1 f2 f3 f4 f5 f6
                      cases hfi : Lf.fullM ms (i : Int)
                      · have HE1 : Hid (Lf.acc ms ro.dividends I i (j + 1) = sa) := Lib.hid (HAK.out (by rw [HWT2.out, if_neg (fun h => by rw [hfi] at h; cases h.1)]))
                        clear hfi
                        go_wp2_with fail
                        clear y3 y4 y6 k16
                        go_roundw
                        case rel => exact ⟨j + 1, by omega, _, HX6.out, by rw [HF1.out, HFL.out]; exact HU6.out, by rw [HE1.out], by go_num, hb6⟩
                        case measure => simp [intOf]; omega
                      · cases hia : (ia == ro.dividends)
                        · have HE1 : Hid (Lf.acc ms ro.dividends I i (j + 1) = sa) := Lib.hid (HAK.out (by rw [HWT2.out, if_neg (fun h => by rw [h.2.1] at hia; simp at hia)]))
                          clear hfi
                          go_wp2_with fail
                          clear y3 y4 y6 k16
                          go_roundw
                          case rel => exact ⟨j + 1, by omega, _, HX6.out, by rw [HF1.out, HFL.out]; exact HU6.out, by rw [HE1.out], by go_num, hb6⟩
                          case measure => simp [intOf]; omega
                        · have hia2 : ia = ro.dividends := by simpa using hia
                          have HIA := Lib.hid hia2
                          clear hia2
                          cases hpi : (ip == (i : Int))
                          · have HFI := Lib.hid hfi
                            clear hfi
                            go_wp2_with fail
                            refine (left1_any ms _ mc ip (w.heap.size + 1) w6 (HT6.out.cell 0) (Rd.now HRM.out (bel hb hb6)) (by omega)).mono ?_
                            rintro en w7 ⟨rfl, hb9⟩
                            have hb7 := hb6.trans (hb9.mono hb6.size)
                            have HX7 := Lib.hid (HX6.out.step hb9)
                            have HU7 := Lib.hid (own_step HU6.out hb9)
                            have HY7 := Lib.hid (HY6.out.step hb9)
                            have HB7 := Lib.hid (HB6.out.step hb9)
                            have HT7 := Lib.hid (HT6.out.step hb9)
                            clear hb9 y3 y4 y6 k16
                            have y6 : w7.cell? ⟨wr.heap.size, 6, none⟩ = some (.int .i64 im) := HY7.out.cell 6
                            cases hfp : Lf.fullM ms ip
                            · have HE1 : Hid (Lf.acc ms ro.dividends I i (j + 1) = wrap64 (sa + im)) := Lib.hid (by rw [HAS.out, HWT2.out, if_pos ⟨HFI.out, HIA.out, .inr hfp⟩])
                              clear hfp
                              go_wp2_with fail
                              clear y6
                              go_roundw
                              case rel => exact ⟨j + 1, by omega, _, HX7.out, by rw [HF1.out, HFL.out]; exact HU7.out, by rw [HE1.out], by go_num, hb7⟩
                              case measure => simp [intOf]; omega
                            · have HE1 : Hid (Lf.acc ms ro.dividends I i (j + 1) = sa) := Lib.hid (HAK.out (by rw [HWT2.out, if_neg (fun h => by rcases h.2.2 with h | h; (rw [h] at hpi; simp at hpi); (rw [hfp] at h; cases h))]))
                              clear hfp
                              go_wp2_with fail
                              clear y6
                              go_roundw
                              case rel => exact ⟨j + 1, by omega, _, HX7.out, by rw [HF1.out, HFL.out]; exact HU7.out, by rw [HE1.out], by go_num, hb7⟩
                              case measure => simp [intOf]; omega
                          · have HE1 : Hid (Lf.acc ms ro.dividends I i (j + 1) = wrap64 (sa + im)) := Lib.hid (by rw [HAS.out, HWT2.out, if_pos ⟨hfi, HIA.out, .inl (by simpa using hpi)⟩])
                            clear hfi
                            go_wp2_with fail
                            clear y3 y4 y6 k16
                            go_roundw
                            case rel => exact ⟨j + 1, by omega, _, HX6.out, by rw [HF1.out, HFL.out]; exact HU6.out, by rw [HE1.out], by go_num, hb6⟩
                            case measure => simp [intOf]; omega
                  · have HTA : Hid (I.take j = I) := Lib.hid (List.take_of_length_le (by omega))
                    have HRW := Lib.hid (Lf.acc_row ms ro.dividends I i j (by omega))
                    rw [HTA.out] at HU hlf
                    have HFIe : Hid (I.filter (fun y : ItemR => y.entity == (i : Int)) = I.filter (fun y : ItemR => y.entity == (i : Int))) := Lib.hid rfl
                    generalize hfi0 : I.filter (fun y : ItemR => y.entity == (i : Int)) = FI at *
                    have HFI := Lib.hid hfi0
                    clear hfi0 HFIe
                    obtain ⟨uA, un, uc, huv⟩ := own_shape HU.out
                    subst huv
                    obtain ⟨hun, -⟩ := own_lies HU.out
                    subst hun
                    have HOLr := Lib.hid (HOL.out.step hbr)
                    have hzr := hbw.size
                    have kx0 : wr.cell? ⟨wo.heap.size, 0, none⟩ = some (.int .i64 i) := HX.out.cell 0
                    have kx1 : wr.cell? ⟨wo.heap.size, 1, none⟩ = some (.int .i64 mi) := HX.out.cell 1
                    have kx2 : wr.cell? ⟨wo.heap.size, 2, none⟩ = some (.slice uA FI.length uc) := HX.out.cell 2
                    go_wp2_with (at_builtin; refine wpList_append_rec ConR.own 3 ConR.own_len ConR.own_one rfl (.tmp 106) (.tmp 108) 58 rfl w.heap.size 83 i0 (.agg #[.int .i64 0, .int .i64 0, .slice none 0 0]) 40 Try.underlying58 hi0 hz0 hz1 hz2 rfl (by decide) _ M rfl (HOLr.out.own.alloc _) wr.heap.size 1 ⟨i, mi, ⟨FI, uA, uc⟩⟩ #[.int .i64 i, .int .i64 mi, .slice uA FI.length uc] rfl (Blk.new wr _ _) rfl (by simp only [maxLen]; omega) (by omega) (by simp; omega) ?_)
                    intro v7 w7 ho7 hg7
                    have hs7 := (Below.refl wr.heap.size wr).alloc (Nat.le_refl _) (.cells #[.int .i64 i, .int .i64 mi, .slice uA FI.length uc] 83)
                    have HOL7 := Lib.hid ((HOLr.out.step hs7).snoc (x := ⟨i, mi, ⟨FI, uA, uc⟩⟩) (own_step (own_base HU.out (by omega)) hs7) (by decide) ho7 hg7)
                    have HB7 := Lib.hid (((HB.out.step hbr).step hs7).grown hg7 (own_ne_blk (HOLr.out.step hs7).own ((HB.out.step hbr).step hs7) (by decide)))
                    have HT7 := Lib.hid (((HT.out.step hbr).step hs7).grown hg7 (own_ne_blk (HOLr.out.step hs7).own ((HT.out.step hbr).step hs7) (by decide)))
                    have hb7 := bel_own (bel hbw hs7) (by have := hs7.size; omega) (HOLr.out.step hs7).own hg7
                    have HLS7 := Lib.hid (HSN.out ⟨i, mi, ⟨FI, uA, uc⟩⟩ rfl HMD.out.symm (by first | rfl | exact HFI.out.symm))
                    have HF7 : Hid (∀ x ∈ M ++ [(⟨i, mi, ⟨FI, uA, uc⟩⟩ : ConR)], x.items.l.length ≤ 60) := Lib.hid (fun x hx => by
                      rcases List.mem_append.1 hx with hx | hx
                      · exact HF4.out x hx
                      · rw [List.mem_singleton] at hx
                        subst hx
                        exact hlf)
                    have HM7 : Hid ((M ++ [(⟨i, mi, ⟨FI, uA, uc⟩⟩ : ConR)]).length = i + 1) := Lib.hid (by rw [List.length_append, List.length_singleton, HMI.out])
                    generalize M ++ [(⟨i, mi, ⟨FI, uA, uc⟩⟩ : ConR)] = M2 at *
                    clear ho7 hg7 kx0 kx1 kx2 hs7
                    go_wp2_with fail
                    go_roundw
                    case rel => exact ⟨i + 1, M2, by omega, HM7.out, by rw [HRW.out], by go_num, HOL7.out, HLS7.out, HF7.out, HB7.out, HT7.out, hb7⟩
                    case measure => simp [intOf]; omega
              · have hie : i = ms.length := by omega
                have HIS : Hid (Lf.Is ms I M) := Lib.hid ⟨HMI.out.trans hie, HLS.out⟩
                have HAC : Hid (Lf.acc ms ro.dividends I i 0 = Lf.acc ms ro.dividends I ms.length 0) := Lib.hid (by rw [hie])
                rw [HAC.out]
                clear hie
                obtain ⟨MA, mn, mcc, hv⟩ := own_shape HOL.out.own
                subst hv
                obtain ⟨hmn, hOM⟩ := HOL.out.oin2 (by omega) (fun x hx => by have := HF4.out x hx; omega)
                subst hmn
                have KM := Lib.hid (both_any M MA mcc wr hOM (by omega))
                have HOM := Lib.hid hOM
                clear hOM
                have HDR2 := Lib.hid (HDR.out (by first | rfl | trivial))
                have HLE := Lib.hid (fun hE => Lf.left_is (P := p) HIS.out h1 HDR2.out hE)
                have KFM := Lib.hid (KF.out M)
                unfold TwoI at KFM
                generalize Dv.foV true 0 p el.length ro.dividends ro.retained M = V at *
                generalize Dv.foE true 0 p el.length ro.dividends ro.retained M = E at *
                generalize Lf.acc ms ro.dividends I ms.length 0 = WW at *
                cases hE : (E != 0)
                · have hE0 : E = 0 := by simpa using hE
                  have hVW : V = WW := HLE.out hE0
                  have hEb : (E == 0) = true := by simpa using hE0
                  subst hVW
                  have hvv : (V == V) = true := by simp
                  clear hE0 HLE
                  go_wp2_with (first
                    | (go_at_call 26; refine KM.out.mono ?_; rintro e w4 ⟨v, u, rfl, hv, -, hb9⟩; obtain ⟨A2, c2, rfl, hC⟩ := both_in (w3 := wr) HOM.out hb9 hv (by omega) (fun x hx => by have := HF4.out x hx; omega); have HC := Lib.hid hC; have hb4 := bel hb hb9; have HB4 := Lib.hid (HB.out.step hb9); clear hb9 hv hC)
                    | (refine wpList_load_blk 29 (.tmp 3) rfl (w.heap.size) rfl (by kernel_rfl) (HB4).out Try.underlying29 hgi ?_)
                    | (refine wpList_builtV rfl 118 rfl 72 _ rfl (bkOf gcs) [(0, .agg gcs)] (by kernel_rfl) HBT.out ?_)
                    | (go_at_call 35; refine (KFM.out _ _ _ (H.out.step hb4) HC.out).mono ?_; rintro e w6 ⟨rfl, hb9⟩; have hb6 := bel hb4 hb9; clear hb9))
                  go_ret
                  exact ⟨rfl, hb6⟩
                · clear HLE
                  go_wp2_with (first
                    | (go_at_call 26; refine KM.out.mono ?_; rintro e w4 ⟨v, u, rfl, hv, -, hb9⟩; obtain ⟨A2, c2, rfl, hC⟩ := both_in (w3 := wr) HOM.out hb9 hv (by omega) (fun x hx => by have := HF4.out x hx; omega); have HC := Lib.hid hC; have hb4 := bel hb hb9; have HB4 := Lib.hid (HB.out.step hb9); clear hb9 hv hC)
                    | (refine wpList_load_blk 29 (.tmp 3) rfl (w.heap.size) rfl (by kernel_rfl) (HB4).out Try.underlying29 hgi ?_)
                    | (refine wpList_builtV rfl 118 rfl 72 _ rfl (bkOf gcs) [(0, .agg gcs)] (by kernel_rfl) HBT.out ?_)
                    | (go_at_call 35; refine (KFM.out _ _ _ (H.out.step hb4) HC.out).mono ?_; rintro e w6 ⟨rfl, hb9⟩; have hb6 := bel hb4 hb9; clear hb9))
                  go_ret
                  exact ⟨rfl, hb6⟩
        · have h2' : 60 < I.length := by omega
          go_wp2_with (first
            | (refine wpList_load_blk 29 (.tmp 3) rfl (w.heap.size) rfl (by kernel_rfl) (HB).out Try.underlying29 hgi ?_)
            | (go_at_call 12; refine (KV.out _ (H.out.step hb)).mono ?_; rintro e w4 ⟨rfl, hb9⟩; replace hb := bel hb hb9; replace HT := Lib.hid (HT.out.step hb9); replace HB := Lib.hid (HB.out.step hb9); clear hb9; have k0 : w4.cell? ⟨w.heap.size + 1, 0, none⟩ = some (.slice mA ms.length mc) := HT.out.cell 0; have k20 : w4.cell? ⟨w.heap.size, 20, none⟩ = some (.slice eA el.length ec) := (HB.out.cell 20).trans (by rw [HG.out]; rfl))
            | (go_at_call 33; refine (itsmall_any I iA ic _ (Rd.now HRI.out hb) hIl).mono ?_; rintro e w5 ⟨rfl, rfl⟩; rw [HSM.out])
            | (go_at_call 24; refine (div_awake _).mono ?_; rintro e w6 ⟨rfl, hb9⟩; replace hb := bel hb hb9; clear hb9))
          go_ret
          exact ⟨rfl, hb⟩
      · have h1' : el.length < ms.length := by omega
        go_wp2_with (first
          | (refine wpList_load_blk 29 (.tmp 3) rfl (w.heap.size) rfl (by kernel_rfl) (HB).out Try.underlying29 hgi ?_)
          | (go_at_call 12; refine (KV.out _ (H.out.step hb)).mono ?_; rintro e w4 ⟨rfl, hb9⟩; replace hb := bel hb hb9; replace HT := Lib.hid (HT.out.step hb9); replace HB := Lib.hid (HB.out.step hb9); clear hb9; have k0 : w4.cell? ⟨w.heap.size + 1, 0, none⟩ = some (.slice mA ms.length mc) := HT.out.cell 0; have k20 : w4.cell? ⟨w.heap.size, 20, none⟩ = some (.slice eA el.length ec) := (HB.out.cell 20).trans (by rw [HG.out]; rfl))
          | (go_at_call 33; refine (itsmall_any I iA ic _ (Rd.now HRI.out hb) hIl).mono ?_; rintro e w5 ⟨rfl, rfl⟩; rw [HSM.out])
          | (go_at_call 24; refine (div_awake _).mono ?_; rintro e w6 ⟨rfl, hb9⟩; replace hb := bel hb hb9; clear hb9))
        go_ret
        exact ⟨rfl, hb⟩
end
end Go.Proofs.Ytnkmjdaeafeaaaa
/- How the law's lists are opened. -/
namespace Go.Proofs.Ytnkmjdaeafeaaaa
set_option linter.unusedVariables false
set_option linter.unusedSimpArgs false
open Go.RowKit Go.WideShapes Go.ChangeShapes

variable {H : Type} {enc : TypeId × Value → H} {w : World} {base : Nat} {spare : Nat → Bool} {held : Bool}
theorem opens_icell : Opens enc Try.prog w base spare held 3 icell (fun z => (Lit.int .i64 z).wf = true) := opens_int Try.underlying3
theorem opens_ints : Opens enc Try.prog w base spare held 91 (fun s : Sl Int => [s.val]) (fun s => s.Lies w icell 1 ∧ ∀ a ∈ s.l, (Lit.int .i64 a).wf = true) :=
  opens_slice Try.underlying91 (by kernel_rfl) (by decide) (fun _ => rfl) opens_icell
theorem opens_items : Opens enc Try.prog w base spare held 81 (fun s : Sl ItemR => [s.val]) (fun s => s.Lies w ItemR.cells 7 ∧ ∀ a ∈ s.l, ItemR.Ok w a) :=
  opens_slice Try.underlying81 (by kernel_rfl) (by decide) ItemR.len opens_ItemR
end Go.Proofs.Ytnkmjdaeafeaaaa
