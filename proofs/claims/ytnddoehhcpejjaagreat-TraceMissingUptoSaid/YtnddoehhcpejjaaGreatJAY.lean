/- Texts of this claim, put together. -/
import Derived.Test.YtnddoehhcpejjaaGreatJrnPostZ
/- The walk of the journal's check. -/
namespace Go.Proofs.YtnddoehhcpejjaaGreat
set_option linter.unusedVariables false
set_option linter.unusedSimpArgs false
open Go.RowKit

/-- what the walks of entries need to know of them -/
structure EsIn (w : World) (es : List EntryR) (A : Option Addr) : Prop where
  rd : Rd w w.heap.size 7 A es.length (cellsOf EntryR.cells es)
  ok : ∀ x ∈ es, x.Ok w
  ln : ∀ x ∈ es, x.lines.l.length ≤ 60
  am : ∀ x ∈ es, ∀ l ∈ x.lines.l, -1125899906842624 ≤ l.amount ∧ l.amount ≤ 1125899906842624
theorem EsIn.step {w w2 : World} {es : List EntryR} {A : Option Addr} (h : EsIn w es A) (hb : Below w.heap.size w w2) : EsIn w2 es A := ⟨Rd.now h.rd hb, fun x hx => (h.ok x hx).step hb, h.ln, h.am⟩
/-- the entries of a journal -/
def jvB (V : Bool) (n : Int) (K : Int → Int → Bool) (D : Int → Bool) (es : List EntryR) : Bool := V && Jn.allB (Jn.ckE V n K D) es
def CheckPost (b : Bool) (w : World) (e : Ending) (w' : World) : Prop :=
  ∃ (k E : Int), e = .returned (.tuple #[.int .i64 k, .int .i64 E]) ∧ (E = 0 ↔ b = true) ∧ Below w.heap.size w w'
section
variable (gcs : Array Value) (cur : ByteArray) (y m p : Int) (cl : List Acc) (cA : Option Addr) (cc : Nat) (ro : RolesR) (el : List EntR) (eA : Option Addr) (ec : Nat) (w : World)
set_option maxRecDepth 100000 in
set_option maxHeartbeats 16000000 in
theorem jcheck_any (es : List EntryR) (sA : Option Addr) (sc : Nat) (HG : Hid (gcs = #[.string cur, .int .i64 y, .int .i64 m, .int .i64 p, .slice cA cl.length cc, .int .i64 ro.investment, .int .i64 ro.goodwill, .int .i64 ro.associates, .int .i64 ro.inventory, .int .i64 ro.reserve, .int .i64 ro.minority, .int .i64 ro.retained, .int .i64 ro.acquired, .int .i64 ro.owners, .int .i64 ro.disposal, .int .i64 ro.associateProfit, .int .i64 ro.dividends, .int .i64 ro.minorityProfit, .int .i64 ro.difference, .int .i64 ro.margin, .slice eA el.length ec])) (h : GIn w cl cA el eA) (hF : FewOk cur cl el) (hE : EsIn w es sA) (hn : es.length ≤ 1000) :
    Calls Tryz.prog 16 #[.agg gcs, .slice sA es.length sc] w (CheckPost (jvB (Gr.gv cur cl ro el (Cal.ok y m p)) el.length (Jn.kB el) (Jn.dB y m p) es) w) := by
  have H := Lib.hid h
  have HE := Lib.hid hE
  have KN := Lib.hid (fun W (h : GIn W cl cA el eA) => new_any gcs cur y m p cl cA cc ro el eA ec W HG h hF)
  have hgi : (Tryz.prog.info? 29).map (·.size) = some gcs.size := by rw [HG.out]; exact grp_size
  have hb : Below w.heap.size w (w.alloc (.cells gcs 29)) := (Below.refl _ _).alloc (Nat.le_refl _) _
  have HB := Lib.hid (Blk.new w 29 gcs)
  have HFW := Lib.hid hF
  have HJV : Hid (jvB (Gr.gv cur cl ro el (Cal.ok y m p)) el.length (Jn.kB el) (Jn.dB y m p) es = (Gr.gv cur cl ro el (Cal.ok y m p) && Jn.allB (Jn.ckE (Gr.gv cur cl ro el (Cal.ok y m p)) el.length (Jn.kB el) (Jn.dB y m p)) es)) := Lib.hid rfl
  have HPO := Lib.hid (fun (el2 : List EntR) (hbr : el2.map bare = el.map bare) (cA2 : Option Addr) (cc2 : Nat) (eA2 : Option Addr) (ec2 : Nat) (G2 : Array Value) (hG2 : G2 = gcArr cur y m p cl.length cA2 cc2 ro el.length eA2 ec2) (w1 : World) (hg1 : GIn w1 cl cA2 el2 eA2) W id en da kd fo tx ll lA lc jb b1 b2 v L es' h hes hln htx hr hn hid hfo => by
    have hp := jpost_any G2 cur y m p cl cA2 cc2 ro el2 eA2 ec2 W id en da kd fo tx ll lA lc w1 jb b1 b2 v L es' (Lib.hid (by rw [hG2, ← bare_len hbr]; rfl)) hg1 (few_bare hbr hF) h (by rw [gv_bare hbr, bare_len hbr, kB_bare hbr]; exact hes) hln htx hr hn hid hfo
    rw [gv_bare hbr, bare_len hbr, kB_bare hbr] at hp
    exact hp)
  clear h hE hF
  generalize jvB (Gr.gv cur cl ro el (Cal.ok y m p)) el.length (Jn.kB el) (Jn.dB y m p) es = J at *
  generalize hCC : Jn.ckE (Gr.gv cur cl ro el (Cal.ok y m p)) el.length (Jn.kB el) (Jn.dB y m p) = C at *
  clear hCC
  generalize Gr.gv cur cl ro el (Cal.ok y m p) = V at *
  go_enter Tryz.func16, Tryz.ntmps16
  go_upto_region 1 with fail
  generalize w.alloc (.cells gcs 29) = W at *
  cases V
  · have HJ0 : Hid (J = false) := Lib.hid HJV.out
    have KN0 : Hid (∀ W, GIn W cl cA el eA → Calls Tryz.prog 25 #[.agg gcs] W fun e w' => e = .returned (.tuple #[.pointer none, .int .i64 1]) ∧ Below W.heap.size W w') := Lib.hid (fun W h => (KN.out W h).mono (fun e w' hh => by
      rcases hh with ⟨-, h1, h2⟩ | ⟨h0, -⟩
      · exact ⟨h1, h2⟩
      · cases h0))
    clear KN
    go_wp2_with (first
      | (refine wpList_load_blk 29 (.tmp 2) rfl (w.heap.size) rfl (by kernel_rfl) (HB).out Tryz.underlying29 hgi ?_)
      | (go_at_call 25; refine (KN0.out _ (H.out.step hb)).mono ?_; rintro e w3 ⟨rfl, hb3⟩; have hb4 := bel hb hb3))
    go_ret2
    exact ⟨0, 1, rfl, by rw [HJ0.out]; simp, hb4⟩
  · have HJ1 : Hid (J = Jn.allB C es) := Lib.hid (by rw [HJV.out, Bool.true_and])
    have KN1 : Hid (∀ W, GIn W cl cA el eA → Calls Tryz.prog 25 #[.agg gcs] W fun e w' => ∃ (jb b1 b2 : Nat) (cA2 : Option Addr) (cc2 : Nat) (el2 : List EntR) (eA2 : Option Addr) (ec2 : Nat) (w1 : World), e = .returned (.tuple #[.pointer (some ⟨jb, 0, none⟩), .int .i64 0]) ∧
      GIn w1 cl cA2 el2 eA2 ∧ el2.map bare = el.map bare ∧ Below W.heap.size W w1 ∧ JIn w1 w' jb b1 b2 (gcArr cur y m p cl.length cA2 cc2 ro el.length eA2 ec2) (.slice none 0 0) [] []) := Lib.hid (fun W h => (KN.out W h).mono (fun e w' hh => by
      rcases hh with ⟨h0, -⟩ | ⟨-, hh⟩
      · cases h0
      · exact hh))
    clear KN HJV
    go_upto_region 4 with (first
      | (refine wpList_load_blk 29 (.tmp 2) rfl (w.heap.size) rfl (by kernel_rfl) (HB).out Tryz.underlying29 hgi ?_)
      | (go_at_call 25; refine (KN1.out _ (H.out.step hb)).mono ?_; rintro e w3 ⟨jb, b1, b2, cA2, cc2, el2, eA2, ec2, w1, rfl, hg1, hbr, hb3, hj⟩; have hb4 := bel hb hb3; have HJN := Lib.hid hj; have HP1 := Lib.hid (HPO.out el2 hbr cA2 cc2 eA2 ec2 _ rfl w1 hg1); clear hj hbr hg1 hb3))
    obtain ⟨G2, hG2⟩ : ∃ G2, G2 = gcArr cur y m p cl.length cA2 cc2 ro el.length eA2 ec2 := ⟨_, rfl⟩
    rw [← hG2] at HP1 HJN
    clear hG2 HPO hb HB
    go_wp2_with fail
    go_loopw [21] (fun t wr => ∃ (k : Nat) (v : Value) (L : List EntryR), k ≤ es.length ∧ Jn.okTo C es k ∧ t = .int .i64 k ∧ JIn w1 wr jb b1 b2 G2 v L (es.take k)) (fun t _ => es.length - (intOf t).toNat)
    case atStart => exact ⟨0, _, _, by omega, Jn.okTo_zero C es, rfl, HJN.out⟩
    case round =>
      clear HJN
      obtain ⟨k, v, L, hk, hok, rfl, hj⟩ := hrel
      have HOK := Lib.hid hok
      have HJ := Lib.hid hj
      have hb : Below w.heap.size w wr := hb4.trans (hj.below.mono hb4.size)
      have hz := hb.size
      clear hok hj
      by_cases hlt : k < es.length
      · obtain ⟨b, o, hA, hbo, f0, f1, f2, f3, f4, f5, f6⟩ := EntryR.at_ (Rd.now HE.out.rd hb) hlt
        subst hA
        have hxo := HE.out.ok _ (List.getElem_mem hlt)
        have hxl := HE.out.ln _ (List.getElem_mem hlt)
        have HTK := Lib.hid (Jn.take_more es k hlt)
        have HST := Lib.hid (fun h2 => Jn.okTo_step (C := C) hlt HOK.out h2)
        have HNO := Lib.hid (fun h2 => Jn.okTo_no (C := C) (es := es) hlt h2)
        obtain ⟨x, hx⟩ : ∃ x, x = es[k] := ⟨_, rfl⟩
        rw [← hx] at f0 f1 f2 f3 f4 f5 f6 hxo hxl HTK HST HNO
        clear hx
        obtain ⟨id, en, da, kd, fo, tx, ⟨ll, lA, lc⟩⟩ := x
        dsimp only [Sl.val] at *
        have hst := (Below.refl wr.heap.size wr).alloc (Nat.le_refl _) (.cells #[.int .i64 id, .int .i64 en, .int .i64 da, .int .i64 kd, .int .i64 fo, .string tx, .slice lA ll.length lc] 67)
        have HX := Lib.hid (Blk.new wr 67 #[.int .i64 id, .int .i64 en, .int .i64 da, .int .i64 kd, .int .i64 fo, .string tx, .slice lA ll.length lc])
        have HJS := Lib.hid (HJ.out.step hst)
        have hb5 := bel hb hst
        have htk : (es.take k).length ≤ 1000 := by rw [List.length_take]; omega
        have HEA := Lib.hid (Jn.ok_each HOK.out)
        have HC := Lib.hid (HP1.out _ id en da kd fo tx ll lA lc jb b1 b2 v L (es.take k) HJS.out HEA.out htk hxo.2.2.2.2.2.1 (Rd.now hxo.2.2.2.2.2.2.1.1 hb5) (by omega) hxo.1 hxo.2.2.2.2.1)
        generalize Jn.poE C (es.take k) ⟨id, en, da, kd, fo, tx, ⟨ll, lA, lc⟩⟩ = X at *
        clear hxo hxl htk
        cases hX : (X != 0)
        · have hX0 : X = 0 := by simpa using hX
          have HS0 := Lib.hid (HST.out hX0)
          have HX0 := Lib.hid hX0
          clear hX0
          go_wp2_with (first
            | (refine wpList_load_blk 67 (.tmp 9) rfl wr.heap.size rfl (by kernel_rfl) HX.out Tryz.underlying67 entry_size7 ?_)
            | (go_at_call 26; refine HC.out.mono ?_; rintro e w6 ⟨rfl, hb9, hj6⟩; obtain ⟨v6, L6, hj7⟩ := hj6 HX0.out; rw [← HTK.out] at hj7; have HJ7 := Lib.hid hj7; clear hj7 hj6))
          go_roundw
          case rel => exact ⟨k + 1, v6, L6, by omega, HS0.out, by go_num, HJ7.out⟩
          case measure => simp [intOf]; omega
        · have hX0 : X ≠ 0 := by simpa using hX
          have HN0 := Lib.hid (HNO.out hX0)
          have HX0 := Lib.hid hX0
          clear hX0
          go_wp2_with (first
            | (refine wpList_load_blk 67 (.tmp 9) rfl wr.heap.size rfl (by kernel_rfl) HX.out Tryz.underlying67 entry_size7 ?_)
            | (go_at_call 26; refine HC.out.mono ?_; rintro e w6 ⟨rfl, hb9, -⟩; have hb6 := hb4.trans (hb9.mono hb4.size); clear hb9))
          go_ret2
          exact ⟨k, X, rfl, ⟨fun h => absurd h HX0.out, fun h => by rw [HJ1.out, HN0.out] at h; cases h⟩, hb6⟩
      · have HAL := Lib.hid (Jn.okTo_all (C := C) (es := es) (by omega) HOK.out)
        go_wp2_with fail
        go_ret2
        exact ⟨0, 0, rfl, by rw [HJ1.out, HAL.out]; exact ⟨fun _ => rfl, fun _ => rfl⟩, hb⟩
end
end Go.Proofs.YtnddoehhcpejjaaGreat
/- The walk of the journal's Few. -/
namespace Go.Proofs.YtnddoehhcpejjaaGreat
set_option linter.unusedVariables false
set_option linter.unusedSimpArgs false
open Go.RowKit

/-- what Few finds of an entry -/
structure FewE (x : EntryR) : Prop where
  ln : x.lines.l.length ≤ 60
  tx : x.text.size ≤ 200
  am : ∀ l ∈ x.lines.l, -1125899906842624 ≤ l.amount ∧ l.amount ≤ 1125899906842624
structure FewJ (cur : ByteArray) (cl : List Acc) (el : List EntR) (es : List EntryR) : Prop where
  grp : FewOk cur cl el
  len : es.length ≤ 61
  each : ∀ x ∈ es, FewE x
section
variable (gcs : Array Value) (cur : ByteArray) (y m p : Int) (cl : List Acc) (cA : Option Addr) (cc : Nat) (ro : RolesR) (el : List EntR) (eA : Option Addr) (ec : Nat) (w : World)
set_option maxRecDepth 100000 in
set_option maxHeartbeats 16000000 in
theorem jfew_any (es : List EntryR) (sA : Option Addr) (sc : Nat) (HG : Hid (gcs = #[.string cur, .int .i64 y, .int .i64 m, .int .i64 p, .slice cA cl.length cc, .int .i64 ro.investment, .int .i64 ro.goodwill, .int .i64 ro.associates, .int .i64 ro.inventory, .int .i64 ro.reserve, .int .i64 ro.minority, .int .i64 ro.retained, .int .i64 ro.acquired, .int .i64 ro.owners, .int .i64 ro.disposal, .int .i64 ro.associateProfit, .int .i64 ro.dividends, .int .i64 ro.minorityProfit, .int .i64 ro.difference, .int .i64 ro.margin, .slice eA el.length ec])) (h : GIn w cl cA el eA) (hcu : cur.size ≤ maxLen) (hcl : cl.length ≤ maxLen) (hel : el.length ≤ maxLen) (hr : Rd w w.heap.size 7 sA es.length (cellsOf EntryR.cells es)) (hok : ∀ x ∈ es, x.Ok w) (hes : es.length ≤ maxLen) :
    Calls Tryz.prog 5 #[.agg gcs, .slice sA es.length sc] w (MayPost' (FewJ cur cl el es) w) := by
  have H := Lib.hid h
  have HR := Lib.hid hr
  have HOK := Lib.hid hok
  have KF := Lib.hid (fun W (h : GIn W cl cA el eA) => few_any cur y m p cl cA cc ro el eA ec W h hcu hcl hel)
  rw [← HG.out] at KF
  have hgi : (Tryz.prog.info? 29).map (·.size) = some gcs.size := by rw [HG.out]; exact grp_size
  have hb : Below w.heap.size w (w.alloc (.cells gcs 29)) := (Below.refl _ _).alloc (Nat.le_refl _) _
  have HB := Lib.hid (Blk.new w 29 gcs)
  unfold maxLen at hes
  clear h hr hok hcu hcl hel
  go_enter Tryz.func5, Tryz.ntmps5
  go_upto_region 1 with fail
  generalize w.alloc (.cells gcs 29) = W at *
  go_wp2_with fail
  go_loopw [5] (fun t wr => ∃ k : Nat, k ≤ es.length ∧ k ≤ 61 ∧ t = .int .i64 k ∧ (∀ j (h : j < k) (h2 : j < es.length), FewE (es[j]'h2)) ∧ W = wr) (fun t _ => es.length - (intOf t).toNat)
  case atStart => exact ⟨0, by omega, by omega, rfl, fun j h => by omega, rfl⟩
  case round =>
    obtain ⟨k, hk, hk61, rfl, hno, rfl⟩ := hrel
    have HN := Lib.hid hno
    clear hno
    by_cases hlt : k < es.length
    · obtain ⟨b, o, hA, hbo, f0, f1, f2, f3, f4, f5, f6⟩ := EntryR.at_ (Rd.now HR.out hb) hlt
      have hxo := HOK.out _ (List.getElem_mem hlt)
      have HST : Hid (FewE es[k] → ∀ j (h : j < k + 1) (h2 : j < es.length), FewE (es[j]'h2)) := Lib.hid (fun hq j h h1 => by
        by_cases e : j = k
        · subst e; exact hq
        · exact HN.out j (by omega) h1)
      generalize es[k] = x at *
      obtain ⟨id, en, da, kd, fo, tx, ⟨ll, lA, lc⟩⟩ := x
      dsimp only [Sl.val] at *
      have hlies := hxo.2.2.2.2.2.2.1
      have hll : ll.length ≤ maxLen := Nat.le_trans hlies.2.1 hlies.2.2
      have htx : tx.size ≤ maxLen := hxo.2.2.2.2.2.1
      have HL := Lib.hid (show Rd w w.heap.size 3 lA ll.length (cellsOf LineR.cells ll) from hlies.1)
      unfold maxLen at hll htx
      clear hxo hlies
      subst hA
      by_cases h1 : 60 < ll.length
      · go_wp2_with fail
        go_ret
        exact ⟨false, rfl, hb, fun h => by cases h⟩
      by_cases h2 : 200 < tx.size
      · go_wp2_with fail
        go_ret
        exact ⟨false, rfl, hb, fun h => by cases h⟩
      by_cases h3 : (60 : Int) < (k : Int)
      · go_wp2_with fail
        go_ret
        exact ⟨false, rfl, hb, fun h => by cases h⟩
      go_wp2_with fail
      obtain ⟨wo, rfl⟩ : ∃ wo : World, wo = W := ⟨_, rfl⟩
      go_loopw [6] (fun t wr => ∃ j : Nat, j ≤ ll.length ∧ t = .int .i64 j ∧ (∀ i (h : i < j) (h2 : i < ll.length), -1125899906842624 ≤ (ll[i]'h2).amount ∧ (ll[i]'h2).amount ≤ 1125899906842624) ∧ wo = wr) (fun t _ => ll.length - (intOf t).toNat)
      case atStart => exact ⟨0, by omega, rfl, fun i h => by omega, rfl⟩
      case round =>
        obtain ⟨j, hj, rfl, hno2, rfl⟩ := hrel
        have HN2 := Lib.hid hno2
        clear hno2
        by_cases hjl : j < ll.length
        · obtain ⟨b2, o2, hA2, hbo2, g0, g1, g2⟩ := LineR.at_ (Rd.now HL.out hb) hjl
          have HST2 : Hid (-1125899906842624 ≤ ll[j].amount ∧ ll[j].amount ≤ 1125899906842624 → ∀ i (h : i < j + 1) (h2 : i < ll.length), -1125899906842624 ≤ (ll[i]'h2).amount ∧ (ll[i]'h2).amount ≤ 1125899906842624) := Lib.hid (fun hq i h h1 => by
            by_cases e : i = j
            · subst e; exact hq
            · exact HN2.out i (by omega) h1)
          generalize ll[j] = u at *
          obtain ⟨la, lm, lp⟩ := u
          dsimp only at *
          subst hA2
          by_cases h4 : 1125899906842624 < lm
          · go_wp2_with fail
            go_ret
            exact ⟨false, rfl, hb, fun h => by cases h⟩
          by_cases h5 : lm < -1125899906842624
          · go_wp2_with fail
            go_ret
            exact ⟨false, rfl, hb, fun h => by cases h⟩
          have HE := Lib.hid (HST2.out ⟨by omega, by omega⟩)
          go_wp2_with fail
          go_roundw
          case rel => exact ⟨j + 1, by omega, by go_num, HE.out, trivial⟩
          case measure => simp [intOf]; omega
        · have HE := Lib.hid (HST.out ⟨by dsimp only; omega, by dsimp only; omega, fun l hl => by
            obtain ⟨i, hi, rfl⟩ := List.mem_iff_getElem.1 hl
            have hi2 : i < ll.length := hi
            exact HN2.out i (by omega) hi2⟩)
          go_wp2_with fail
          go_roundw
          case rel => exact ⟨k + 1, by omega, by omega, by go_num, HE.out, trivial⟩
          case measure => simp [intOf]; omega
    · have HE : Hid (∀ x ∈ es, FewE x) := Lib.hid (fun x hx => by
        obtain ⟨j, hj, rfl⟩ := List.mem_iff_getElem.1 hx
        exact HN.out j (by omega) hj)
      have hl61 : es.length ≤ 61 := by omega
      go_wp2_with (first
        | (refine wpList_load_blk 29 (.tmp 2) rfl (w.heap.size) rfl (by kernel_rfl) (HB).out Tryz.underlying29 hgi ?_)
        | (go_at_call 14; refine (KF.out _ (H.out.step hb)).mono ?_; rintro e w3 ⟨bb, rfl, hb9, hfo⟩; have hb3 := bel hb hb9; have HFO := Lib.hid hfo; clear hb9 hfo))
      go_ret
      exact ⟨bb, rfl, hb3, fun h => ⟨HFO.out h, hl61, HE.out⟩⟩
end
end Go.Proofs.YtnddoehhcpejjaaGreat
