/- Texts of this claim, put together. -/
import Derived.Test.YtnddoehhcpejjaaGreatJAY
import Derived.Test.YtnddoehhcpejjaaGreatJrnMathCZ
import Derived.Test.YtnddoehhcpejjaaGreatTrcWalksCZ
import Derived.Test.YtnddoehhcpejjaaGreatJAZ
import Derived.Test.YtnddoehhcpejjaaGreatJAO
/- The walk of Missing. -/
namespace Go.Proofs.YtnddoehhcpejjaaGreat
set_option linter.unusedVariables false
set_option linter.unusedSimpArgs false
open Go.RowKit

namespace Jn
/-- of an entry's first lines those that are missing -/
def mj (has : RefR → Bool) (T : Int) (x : EntryR) (j : Nat) : List RefR := if x.date ≤ T then mis has (refsOf x j) else []
theorem mj_zero (has : RefR → Bool) (T : Int) (x : EntryR) : mj has T x 0 = [] := by unfold mj; split <;> rfl
theorem mj_yes {has : RefR → Bool} {T : Int} {x : EntryR} {j : Nat} (h : x.date ≤ T) (h2 : has ⟨x.id, (j : Int)⟩ = false) : mj has T x (j + 1) = mj has T x j ++ [⟨x.id, (j : Int)⟩] := by
  unfold mj
  rw [if_pos h, if_pos h, refsOf_more, mis_yes _ _ _ h2]
theorem mj_has {has : RefR → Bool} {T : Int} {x : EntryR} {j : Nat} (h2 : has ⟨x.id, (j : Int)⟩ = true) : mj has T x (j + 1) = mj has T x j := by
  unfold mj
  rw [refsOf_more, mis_no _ _ _ h2]
theorem mj_late {has : RefR → Bool} {T : Int} {x : EntryR} {j : Nat} (h : ¬ x.date ≤ T) : mj has T x (j + 1) = mj has T x j := by
  unfold mj
  rw [if_neg h, if_neg h]
theorem mj_len (has : RefR → Bool) (T : Int) (x : EntryR) (j : Nat) : (mj has T x j).length ≤ j := by
  unfold mj
  split
  · have := mis_len has (refsOf x j); rwa [refsOf_len] at this
  · simp
theorem mis_up (has : RefR → Bool) (T : Int) (es : List EntryR) (k : Nat) (h : k < es.length) : mis has (upTo T (es.take (k + 1))) = mis has (upTo T (es.take k)) ++ mj has T es[k] es[k].lines.l.length := by
  rw [upTo_take T es k h, mis_app]
  unfold mj
  split
  · rfl
  · rfl
end Jn
/-- books: their group, their entries -/
structure BkE (bcs gcs : Array Value) (sA : Option Addr) (n sc : Nat) : Prop where
  size : bcs.size = 27
  gsz : gcs.size = 21
  grp : ∀ j, j < 21 → bcs[j]? = gcs[j]?
  ent : bcs[21]? = some (.slice sA n sc)
theorem bkE_range {w : World} {b : Nat} {t : TypeId} {bcs gcs : Array Value} {sA : Option Addr} {n sc : Nat} (hB : Blk w b t bcs) (h : BkE bcs gcs sA n sc) : w.rangeAt b 0 gcs.toList := fun j v hv => by
  have hj : j < 21 := by
    have := (List.getElem?_eq_some_iff.1 hv).1
    rwa [Array.length_toList, h.gsz] at this
  rw [Nat.zero_add, hB.cell j, h.grp j hj, ← Array.getElem?_toList]
  exact hv
theorem HasW.ne_row {P : Program} {k : TypeId} {w : World} {b n : Nat} {f : Value → Bool} {base : Nat} {E : TypeId} {sz : Nat} {v : Value} {m : Nat} {xs : List Value} (h : HasW P k w b n f) (hr : w.ownsRow base E sz v m xs) : some b ≠ v.ownBlock := by
  obtain ⟨D, h, _⟩ := h
  exact map_ne h hr
theorem HasW.blk_ne {P : Program} {k : TypeId} {w : World} {b n q : Nat} {f : Value → Bool} {E : TypeId} {cs : Array Value} (h : HasW P k w b n f) (hr : Blk w q E cs) : b ≠ q := by
  obtain ⟨es, cl, hb⟩ := h.isMap
  rintro rfl
  unfold Blk at hr
  rw [hb] at hr
  simp at hr
/-- what Missing answers -/
def msE (J : Bool) (ce : Int) : Int := if J then (if ce = 0 then 0 else 2) else 1
def msL (J : Bool) (ce T : Int) (I : List ItemR) (es : List EntryR) : List RefR := if msE J ce = 0 then Jn.mis (hasV I) (Jn.upTo T es) else []
def MissPost (J : Bool) (ce T : Int) (I : List ItemR) (es : List EntryR) (w : World) (e : Ending) (w' : World) : Prop :=
  ∃ v : Value, e = .returned (.tuple #[v, .int .i64 (msE J ce)]) ∧ w'.ownsRow w.heap.size 50 2 v (msL J ce T I es).length (cellsOf RefR.cells (msL J ce T I es)) ∧ Below w.heap.size w w'
section
variable (gcs : Array Value) (cur : ByteArray) (y m p : Int) (cl : List Acc) (cA : Option Addr) (cc : Nat) (ro : RolesR) (el : List EntR) (eA : Option Addr) (ec : Nat) (w : World)
set_option maxRecDepth 100000 in
set_option maxHeartbeats 16000000 in
theorem missing_any (bcs : Array Value) (es : List EntryR) (sA : Option Addr) (sc : Nat) (per : Int) (I : List ItemR) (AI : Option Addr) (cI : Nat) (vP vT : Value) (HG : Hid (gcs = #[.string cur, .int .i64 y, .int .i64 m, .int .i64 p, .slice cA cl.length cc, .int .i64 ro.investment, .int .i64 ro.goodwill, .int .i64 ro.associates, .int .i64 ro.inventory, .int .i64 ro.reserve, .int .i64 ro.minority, .int .i64 ro.retained, .int .i64 ro.acquired, .int .i64 ro.owners, .int .i64 ro.disposal, .int .i64 ro.associateProfit, .int .i64 ro.dividends, .int .i64 ro.minorityProfit, .int .i64 ro.difference, .int .i64 ro.margin, .slice eA el.length ec])) (hBK : BkE bcs gcs sA es.length sc) (h : GIn w cl cA el eA) (hF : FewOk cur cl el) (hE : EsIn w es sA) (hn : es.length ≤ 1000)
    (hI : Rd w w.heap.size 7 AI I.length (cellsOf ItemR.cells I)) (hIw : ∀ x ∈ I, Wf x.ref.entry ∧ Wf x.ref.line) (hnI : I.length ≤ 100000) :
    Calls Tryz.prog 7 #[.agg bcs, .agg #[.int .i64 per, .slice AI I.length cI, vP, vT]] w
      (MissPost (jvB (Gr.gv cur cl ro el (Cal.ok y m p)) el.length (Jn.kB el) (Jn.dB y m p) es) (Cal.ckE y m p per) (Cal.laV y m p per) I es w) := by
  have H := Lib.hid h
  have HE := Lib.hid hE
  have HI := Lib.hid hI
  have HIW := Lib.hid hIw
  have HBK := Lib.hid hBK
  have KC := Lib.hid (fun W h hE => jcheck_any gcs cur y m p cl cA cc ro el eA ec W es sA sc HG h hF hE hn)
  have KL := Lib.hid (fun W => cal_Last y m p per W)
  have hbz : (Tryz.prog.info? 36).map (·.size) = some bcs.size := by rw [hBK.size]; kernel_rfl
  have hg21 : (Tryz.prog.info? 29).map (·.size) = some 21 := grp_size
  have hb : Below w.heap.size w ((w.alloc (.cells bcs 36)).alloc (.cells #[.int .i64 per, .slice AI I.length cI, vP, vT] 41)) := ((Below.refl _ _).alloc (Nat.le_refl _) _).alloc (by simp) _
  have HB := Lib.hid ((Blk.new w 36 bcs).alloc (.cells #[.int .i64 per, .slice AI I.length cI, vP, vT] 41))
  have HR := Lib.hid (blk_new2 w (.cells bcs 36) 41 #[.int .i64 per, .slice AI I.length cI, vP, vT])
  have hmm := @run_makeMap Tryz.prog
  obtain ⟨i0, hi0, hz0, hz1, hz2'⟩ := info_parts RefR.info
  clear h hE hI hIw hBK hF
  generalize jvB (Gr.gv cur cl ro el (Cal.ok y m p)) el.length (Jn.kB el) (Jn.dB y m p) es = J at *
  generalize Cal.ckE y m p per = ce at *
  generalize Cal.laV y m p per = T at *
  unfold MissPost
  have HME : Hid (msE J ce = if J then (if ce = 0 then 0 else 2) else 1) := Lib.hid rfl
  have HML : Hid (msL J ce T I es = if msE J ce = 0 then Jn.mis (hasV I) (Jn.upTo T es) else []) := Lib.hid rfl
  generalize msL J ce T I es = M at *
  generalize msE J ce = X at *
  go_enter Tryz.func7, Tryz.ntmps7
  go_upto_region 1 with fail
  generalize (w.alloc (.cells bcs 36)).alloc (.cells #[.int .i64 per, .slice AI I.length cI, vP, vT] 41) = W at *
  have k21 : W.cell? ⟨w.heap.size, 21, none⟩ = some (.slice sA es.length sc) := (HB.out.cell 21).trans HBK.out.ent
  go_upto_region 2 with (first
    | (refine wpList_load_arr rfl 29 (.tmp 21) rfl w.heap.size 0 rfl gcs (bkE_range HB.out HBK.out) Tryz.underlying29 21 hg21 HBK.out.gsz ?_)
    | (go_at_call 16; refine (KC.out _ (H.out.step hb) (HE.out.step hb)).mono ?_; rintro e w3 ⟨kk, EE, rfl, hEE, hb9⟩; have hb3 := bel hb hb9; have HB3 := Lib.hid (HB.out.step hb9); have HR3 := Lib.hid (HR.out.step hb9); have HEE := Lib.hid hEE; clear hb9 hEE))
  clear hb HB HR k21
  cases hX : (EE != 0)
  · have hE0 : EE = 0 := by simpa using hX
    have hJ : J = true := HEE.out.1 hE0
    rw [hJ] at HME
    clear hE0 hJ
    have k1 : w3.cell? ⟨w.heap.size, 1, none⟩ = some (.int .i64 y) := (HB3.out.cell 1).trans ((HBK.out.grp 1 (by omega)).trans (by rw [HG.out]; rfl))
    have k2 : w3.cell? ⟨w.heap.size, 2, none⟩ = some (.int .i64 m) := (HB3.out.cell 2).trans ((HBK.out.grp 2 (by omega)).trans (by rw [HG.out]; rfl))
    have k3 : w3.cell? ⟨w.heap.size, 3, none⟩ = some (.int .i64 p) := (HB3.out.cell 3).trans ((HBK.out.grp 3 (by omega)).trans (by rw [HG.out]; rfl))
    have r0 : w3.cell? ⟨w.heap.size + 1, 0, none⟩ = some (.int .i64 per) := HR3.out.cell 0
    go_upto_region 5 with (go_at_call 17; refine (KL.out _).mono ?_; rintro e w4 ⟨rfl, hb9⟩; have hb4 := bel hb3 hb9; have HB4 := Lib.hid (HB3.out.step hb9); have HR4 := Lib.hid (HR3.out.step hb9); clear hb9)
    clear k1 k2 k3 r0 HB3 HR3 hb3
    cases hc : (ce != 0)
    · have hc0 : ce = 0 := by simpa using hc
      have HX0 : Hid (X = 0) := Lib.hid (by rw [HME.out, if_pos trivial, if_pos hc0])
      have HM0 : Hid (M = Jn.mis (hasV I) (Jn.upTo T es)) := Lib.hid (by rw [HML.out, if_pos HX0.out])
      clear hc0
      have r1 : w4.cell? ⟨w.heap.size + 1, 1, none⟩ = some (.slice AI I.length cI) := HR4.out.cell 1
      have r1' : (w4.alloc (.map #[] 0)).cell? ⟨w.heap.size + 1, 1, none⟩ = some (.slice AI I.length cI) := (HR4.out.alloc _).cell 1
      have HS0 := Lib.hid (HasW.made (P := Tryz.prog) (k := 50) w4)
      have HB5 := Lib.hid (HB4.out.alloc (.map #[] 0))
      have hb5 := hb4.alloc hb4.size (.map #[] 0)
      have hw4 := hb4.size
      go_upto_region 8 with fail
      generalize w4.alloc (.map #[] 0) = w5 at *
      generalize w4.heap.size = mb at *
      clear r1 HB4 HR4 hb4
      go_wp2_with fail
      clear r1'
      go_loopw [45] (fun t wr => ∃ k : Nat, k ≤ I.length ∧ t = .int .i64 k ∧ HasW Tryz.prog 50 wr mb k (refSeen I k) ∧ Blk wr w.heap.size 36 bcs ∧ Below w.heap.size w wr) (fun t _ => I.length - (intOf t).toNat)
      case atStart => exact ⟨0, by omega, rfl, by rw [refSeen_zero]; exact HS0.out, HB5.out, hb5⟩
      case round =>
        clear hb5 HB5 HS0
        obtain ⟨k, hk, rfl, hS, hB, hb⟩ := hrel
        have HS := Lib.hid hS
        have HB := Lib.hid hB
        have hz := hb.size
        clear hS hB
        by_cases hlt : k < I.length
        · obtain ⟨b, o, hA, hbo, f0, f1, f2, f3, f4, f5, f6⟩ := ItemR.at_ (Rd.now HI.out hb) hlt
          subst hA
          obtain ⟨w1, w2⟩ := HIW.out _ (List.getElem_mem hlt)
          have HS2 := Lib.hid (refSeen_here I k hlt)
          have HS3 := Lib.hid (refSeen_other I k hlt)
          generalize I[k] = x at *
          obtain ⟨⟨xe, xl⟩, x1, x2, x3, x4, x5⟩ := x
          dsimp only at *
          obtain ⟨kl, hkl⟩ := ref_key (r := ⟨xe, xl⟩) w1 w2
          unfold rval at hkl HS2 HS3
          have hst := (Below.refl wr.heap.size wr).alloc (Nat.le_refl _) (.cells #[.int .i64 xe, .int .i64 xl, .int .i64 x1, .int .i64 x2, .int .i64 x3, .int .i64 x4, .int .i64 x5] 55)
          have HS1 := Lib.hid (HS.out.step hst)
          have HB1 := Lib.hid (HB.out.step hst)
          have hb1 := bel hb hst
          clear w1 w2 hst
          go_wp2_with (at_mapUpdate; refine wpList_has_put (refSeen I (k + 1)) rfl _ _ _ 75 rfl 76 keyed_ref Tryz.underlying75 HS1.out (by unfold maxLen; omega) (.agg #[.int .i64 xe, .int .i64 xl]) kl hkl rfl rfl rfl HS2.out (fun u lu _ hu => HS3.out u hu) ?_; intro w6 hS6 hg6)
          have hB6 := HB1.out.grown hg6 (fun e => by injection e with e; exact HS1.out.blk_ne HB1.out e.symm)
          have hb6 : Below w.heap.size w w6 := Below.grown hb1 hg6 hb1.size (fun j hj => by injection hj with hj; omega)
          clear hg6
          go_wp2_with fail
          go_roundw
          case rel => exact ⟨k + 1, by omega, by go_num, hS6, hB6, hb6⟩
          case measure => simp [intOf]; omega
        · have hke : k = I.length := by omega
          have HS7 : Hid (HasW Tryz.prog 50 wr mb I.length (refSeen I I.length)) := Lib.hid (by have := HS.out; rw [hke] at this; exact this)
          clear hke HS
          have k21 : wr.cell? ⟨w.heap.size, 21, none⟩ = some (.slice sA es.length sc) := (HB.out.cell 21).trans HBK.out.ent
          obtain ⟨wo, rfl⟩ : ∃ wo : World, wo = wr := ⟨_, rfl⟩
          go_wp2_with fail
          clear k21 HB
          go_loopw [13, 57] (fun v t wr => ∃ k : Nat, k ≤ es.length ∧ t = .int .i64 k ∧ wr.ownsRow w.heap.size 50 2 v (Jn.mis (hasV I) (Jn.upTo T (es.take k))).length (cellsOf RefR.cells (Jn.mis (hasV I) (Jn.upTo T (es.take k)))) ∧ HasW Tryz.prog 50 wr mb I.length (refSeen I I.length) ∧ Below w.heap.size w wr) (fun _ t _ => es.length - (intOf t).toNat)
          case atStart => exact ⟨0, by omega, rfl, World.ownsRow_nil _ _ _ _, HS7.out, hb⟩
          case round =>
            clear hb HS7 hz hlt hk
            obtain ⟨k, hk, rfl, ho, hS, hb⟩ := hrel
            have HO := Lib.hid ho
            have HS := Lib.hid hS
            have hz := hb.size
            clear ho hS
            by_cases hlt : k < es.length
            · obtain ⟨b, o, hA, hbo, f0, f1, f2, f3, f4, f5, f6⟩ := EntryR.at_ (Rd.now HE.out.rd hb) hlt
              subst hA
              have hxo := HE.out.ok _ (List.getElem_mem hlt)
              have hxl := HE.out.ln _ (List.getElem_mem hlt)
              have HUP := Lib.hid (Jn.mis_up (hasV I) T es k hlt)
              have hln0 : (Jn.mis (hasV I) (Jn.upTo T (es.take k))).length ≤ 60000 := by
                have h1 := Jn.mis_len (hasV I) (Jn.upTo T (es.take k))
                have h2 := Jn.upTo_take_len T 60 es HE.out.ln k
                omega
              generalize Jn.mis (hasV I) (Jn.upTo T (es.take k)) = M0 at *
              generalize es[k] = x at *
              obtain ⟨id, en, da, kd, fo, tx, ⟨ll, lA, lc⟩⟩ := x
              dsimp only [Sl.val] at *
              have hwid := hxo.1
              clear hxo
              have hst := (Below.refl wr.heap.size wr).alloc (Nat.le_refl _) (.cells #[.int .i64 id, .int .i64 en, .int .i64 da, .int .i64 kd, .int .i64 fo, .string tx, .slice lA ll.length lc] 67)
              have HX := Lib.hid (Blk.new wr 67 #[.int .i64 id, .int .i64 en, .int .i64 da, .int .i64 kd, .int .i64 fo, .string tx, .slice lA ll.length lc])
              have HO1 := Lib.hid (own_step HO.out hst)
              have HS1 := Lib.hid (HS.out.step hst)
              have hb1 := bel hb hst
              have hvb : ∀ j, (u13 : Value).ownBlock = some j → j < wr.heap.size := fun j hj => (HO.out.lt j hj).2
              clear hst HO HS hvb
              go_upto_region 17 with fail
              generalize hex : wr.heap.size = ex at *
              have hexw : w.heap.size ≤ ex := by omega
              clear hex
              generalize wr.alloc (.cells #[.int .i64 id, .int .i64 en, .int .i64 da, .int .i64 kd, .int .i64 fo, .string tx, .slice lA ll.length lc] 67) = wq at *
              clear f0 f1 f2 f3 f4 f5 f6
              have k6 : wq.cell? ⟨ex, 6, none⟩ = some (.slice lA ll.length lc) := HX.out.cell 6
              go_wp2_with fail
              clear k6
              go_loopw [13, 64] (fun v t wr => ∃ j : Nat, j ≤ ll.length ∧ t = .int .i64 j ∧ wr.ownsRow w.heap.size 50 2 v (M0 ++ Jn.mj (hasV I) T ⟨id, en, da, kd, fo, tx, ⟨ll, lA, lc⟩⟩ j).length (cellsOf RefR.cells (M0 ++ Jn.mj (hasV I) T ⟨id, en, da, kd, fo, tx, ⟨ll, lA, lc⟩⟩ j)) ∧ HasW Tryz.prog 50 wr mb I.length (refSeen I I.length) ∧ Blk wr ex 67 #[.int .i64 id, .int .i64 en, .int .i64 da, .int .i64 kd, .int .i64 fo, .string tx, .slice lA ll.length lc] ∧ Below w.heap.size w wr) (fun _ t _ => ll.length - (intOf t).toNat)
              case atStart => exact ⟨0, by omega, rfl, by rw [Jn.mj_zero, List.append_nil]; exact HO1.out, HS1.out, HX.out, hb1⟩
              case round =>
                clear hb1 HS1 HO1 HX hb
                obtain ⟨j, hj, rfl, ho, hS, hX, hb⟩ := hrel
                have HO := Lib.hid ho
                have HX := Lib.hid hX
                have hz2 := hb.size
                have hexl := hX.lt
                clear ho hX
                by_cases hjl : j < ll.length
                · have hmj := Jn.mj_len (hasV I) T ⟨id, en, da, kd, fo, tx, ⟨ll, lA, lc⟩⟩ j
                  have HMH := Lib.hid (Jn.mj_has (has := hasV I) (T := T) (x := ⟨id, en, da, kd, fo, tx, ⟨ll, lA, lc⟩⟩) (j := j))
                  have HMY := Lib.hid (Jn.mj_yes (has := hasV I) (T := T) (x := ⟨id, en, da, kd, fo, tx, ⟨ll, lA, lc⟩⟩) (j := j))
                  have HMN := Lib.hid (Jn.mj_late (has := hasV I) (T := T) (x := ⟨id, en, da, kd, fo, tx, ⟨ll, lA, lc⟩⟩) (j := j))
                  dsimp only at HMH HMY HMN
                  obtain ⟨kl, hkl⟩ := ref_key (r := ⟨id, (j : Int)⟩) hwid (show Wf (j : Int) from wf64 (by omega) (by omega))
                  have HSE : Hid (refSeen I I.length (rval ⟨id, (j : Int)⟩) = hasV I ⟨id, (j : Int)⟩) := Lib.hid (by rw [refSeen_at]; unfold refBefore hasV; rw [List.take_length])
                  unfold rval at hkl HSE
                  dsimp only at hkl HSE
                  have hLL := hS.alloc (.cells #[.int .i64 id, .int .i64 (j : Int)] 50)
                  have hst := (Below.refl wr.heap.size wr).alloc (Nat.le_refl _) (.cells #[.int .i64 id, .int .i64 (j : Int)] 50)
                  have hst2 := hst.alloc hst.size (.cells #[] 76)
                  have HO2 := Lib.hid (own_step HO.out hst2)
                  have HS2 := Lib.hid (hS.step hst2)
                  have HX2 := Lib.hid (HX.out.step hst2)
                  have hb2 := bel hb hst2
                  have k0 : wr.cell? ⟨ex, 0, none⟩ = some (.int .i64 id) := HX.out.cell 0
                  have k2 : ((wr.alloc (.cells #[.int .i64 id, .int .i64 (j : Int)] 50)).alloc (.cells #[] 76)).cell? ⟨ex, 2, none⟩ = some (.int .i64 da) := HX2.out.cell 2
                  generalize Jn.mj (hasV I) T ⟨id, en, da, kd, fo, tx, ⟨ll, lA, lc⟩⟩ j = M1 at *
                  clear hS HO HX
                  cases hh : hasV I ⟨id, (j : Int)⟩
                  · by_cases hda : da ≤ T
                    · have HNX : Hid (M0 ++ Jn.mj (hasV I) T ⟨id, en, da, kd, fo, tx, ⟨ll, lA, lc⟩⟩ (j + 1) = (M0 ++ M1) ++ [⟨id, (j : Int)⟩]) := Lib.hid (by rw [HMY.out hda hh, List.append_assoc])
                      have HHH := Lib.hid hh
                      have hlm : (M0 ++ M1).length ≤ 60000 + ll.length := by rw [List.length_append]; omega
                      generalize M0 ++ M1 = S0 at *
                      clear hh
                      have hnb := hst2.alloc hst2.size (.cells #[.int .i64 id, .int .i64 (j : Int)] 50)
                      go_wp2_with (first
                        | (at_lookup; refine wpList_has_look rfl _ _ 75 rfl 76 keyed_ref Tryz.underlying75 (zero_unit _) hLL (.agg #[.int .i64 id, .int .i64 (j : Int)]) kl hkl rfl rfl false (HSE.out.trans HHH.out) ?_)
                        | (at_builtin; refine wpList_append_rec RefR.cells 2 RefR.len RefR.one rfl (.tmp 85) (.tmp 87) 45 rfl w.heap.size 50 i0 (.agg #[.int .i64 0, .int .i64 0]) 16 Tryz.underlying45 hi0 hz0 hz1 hz2' rfl (by decide) _ S0 rfl (HO2.out.alloc (.cells #[.int .i64 id, .int .i64 (j : Int)] 50)) (wr.heap.size + 1 + 1) 1 ⟨id, (j : Int)⟩ #[.int .i64 id, .int .i64 (j : Int)] rfl (by have := Blk.new ((wr.alloc (.cells #[.int .i64 id, .int .i64 (j : Int)] 50)).alloc (.cells #[] 76)) 50 #[.int .i64 id, .int .i64 (j : Int)]; simpa using this) rfl (by unfold maxLen; omega) (by omega) (by simp; omega) ?_))
                      intro v7 w7 ho7 hg7
                      have HO3 := HO2.out.alloc (.cells #[.int .i64 id, .int .i64 (j : Int)] 50)
                      have hb7 : Below w.heap.size w w7 := bel_own (bel hb hnb) (by have := hnb.size; omega) HO3 hg7
                      have hS7 := (HS2.out.alloc (.cells #[.int .i64 id, .int .i64 (j : Int)] 50)).kept hg7 ((HS2.out.alloc (.cells #[.int .i64 id, .int .i64 (j : Int)] 50)).ne_row HO3)
                      have hX7 := (HX2.out.alloc (.cells #[.int .i64 id, .int .i64 (j : Int)] 50)).grown hg7 (own_ne_blk HO3 (HX2.out.alloc _) (by decide))
                      rw [← HNX.out] at ho7
                      have HO7 := Lib.hid ho7
                      have HNL : Hid ((M0 ++ Jn.mj (hasV I) T ⟨id, en, da, kd, fo, tx, ⟨ll, lA, lc⟩⟩ (j + 1)).length = S0.length + 1) := Lib.hid (by rw [HNX.out, List.length_append, List.length_singleton])
                      clear hg7 ho7 HO3 hnb
                      go_wp2_with fail
                      go_roundw
                      case rel => exact ⟨j + 1, by omega, by go_num, by rw [HNL.out]; exact HO7.out, hS7, hX7, hb7⟩
                      case measure => simp [intOf]; omega
                    · have HNX : Hid (M0 ++ Jn.mj (hasV I) T ⟨id, en, da, kd, fo, tx, ⟨ll, lA, lc⟩⟩ (j + 1) = M0 ++ M1) := Lib.hid (by rw [HMN.out hda])
                      have HHH := Lib.hid hh
                      clear hh
                      rw [← HNX.out] at HO2
                      go_wp2_with (at_lookup; refine wpList_has_look rfl _ _ 75 rfl 76 keyed_ref Tryz.underlying75 (zero_unit _) hLL (.agg #[.int .i64 id, .int .i64 (j : Int)]) kl hkl rfl rfl false (HSE.out.trans HHH.out) ?_)
                      go_roundw
                      case rel => exact ⟨j + 1, by omega, by go_num, HO2.out, HS2.out, HX2.out, hb2⟩
                      case measure => simp [intOf]; omega
                  · have HNX : Hid (M0 ++ Jn.mj (hasV I) T ⟨id, en, da, kd, fo, tx, ⟨ll, lA, lc⟩⟩ (j + 1) = M0 ++ M1) := Lib.hid (by rw [HMH.out hh])
                    have HHH := Lib.hid hh
                    clear hh
                    rw [← HNX.out] at HO2
                    go_wp2_with (at_lookup; refine wpList_has_look rfl _ _ 75 rfl 76 keyed_ref Tryz.underlying75 (zero_unit _) hLL (.agg #[.int .i64 id, .int .i64 (j : Int)]) kl hkl rfl rfl true (HSE.out.trans HHH.out) ?_)
                    go_roundw
                    case rel => exact ⟨j + 1, by omega, by go_num, HO2.out, HS2.out, HX2.out, hb2⟩
                    case measure => simp [intOf]; omega
                · have hje : j = ll.length := by omega
                  have HNX : Hid (wr.ownsRow w.heap.size 50 2 u13 (Jn.mis (hasV I) (Jn.upTo T (es.take (k + 1)))).length (cellsOf RefR.cells (Jn.mis (hasV I) (Jn.upTo T (es.take (k + 1)))))) := Lib.hid (by have := HO.out; rw [hje] at this; rw [HUP.out]; exact this)
                  clear hje HX
                  go_wp2_with fail
                  go_roundw
                  case rel => exact ⟨k + 1, by omega, by go_num, HNX.out, hS, hb⟩
                  case measure => simp [intOf]; omega
            · have hke : es.take k = es := List.take_of_length_le (by omega)
              have HOE := HO.out
              rw [hke, ← HM0.out] at HOE
              have HOM := Lib.hid HOE
              clear hke HOE HO HS
              go_wp2_with fail
              go_ret2
              exact ⟨_, by rw [HX0.out]; rfl, HOM.out, hb⟩
    · have hc0 : ce ≠ 0 := by simpa using hc
      have HX2 : Hid (X = 2) := Lib.hid (by rw [HME.out, if_pos trivial, if_neg hc0])
      have HM0 : Hid (M = []) := Lib.hid (by rw [HML.out, if_neg (by rw [HX2.out]; decide)])
      clear hc0
      go_wp2_with fail
      go_ret2
      exact ⟨_, by rw [HX2.out]; rfl, by rw [HM0.out]; exact World.ownsRow_nil _ _ _ _, hb4⟩
  · have hE0 : EE ≠ 0 := by simpa using hX
    have hJ : J = false := by
      cases hj : J
      · rfl
      · exact absurd (HEE.out.2 hj) hE0
    have HX1 : Hid (X = 1) := Lib.hid (by rw [HME.out, hJ]; rfl)
    have HM0 : Hid (M = []) := Lib.hid (by rw [HML.out, if_neg (by rw [HX1.out]; decide)])
    clear hE0 hJ
    go_wp2_with fail
    go_ret2
    exact ⟨_, by rw [HX1.out]; rfl, by rw [HM0.out]; exact World.ownsRow_nil _ _ _ _, hb3⟩
end
end Go.Proofs.YtnddoehhcpejjaaGreat
/- The walks of the reference's Up and Missing. -/
namespace Go.Proofs.YtnddoehhcpejjaaGreat
set_option linter.unusedVariables false
set_option linter.unusedSimpArgs false
open Go.RowKit

def UpPost (T : Int) (es : List EntryR) (w : World) (e : Ending) (w' : World) : Prop :=
  ∃ v : Value, e = .returned v ∧ w'.ownsRow w.heap.size 50 2 v (Jn.upTo T es).length (cellsOf RefR.cells (Jn.upTo T es)) ∧ Below w.heap.size w w'
section
variable (gcs : Array Value) (cur : ByteArray) (y m p : Int) (cl : List Acc) (cA : Option Addr) (cc : Nat) (ro : RolesR) (el : List EntR) (eA : Option Addr) (ec : Nat) (w : World)
set_option maxRecDepth 100000 in
set_option maxHeartbeats 16000000 in
theorem up_any (bcs : Array Value) (es : List EntryR) (sA : Option Addr) (sc : Nat) (per : Int) (HG : Hid (gcs = #[.string cur, .int .i64 y, .int .i64 m, .int .i64 p, .slice cA cl.length cc, .int .i64 ro.investment, .int .i64 ro.goodwill, .int .i64 ro.associates, .int .i64 ro.inventory, .int .i64 ro.reserve, .int .i64 ro.minority, .int .i64 ro.retained, .int .i64 ro.acquired, .int .i64 ro.owners, .int .i64 ro.disposal, .int .i64 ro.associateProfit, .int .i64 ro.dividends, .int .i64 ro.minorityProfit, .int .i64 ro.difference, .int .i64 ro.margin, .slice eA el.length ec])) (hBK : BkE bcs gcs sA es.length sc) (hE : EsIn w es sA) (hn : es.length ≤ 1000) :
    Calls Tryz.prog 9 #[.agg bcs, .int .i64 per] w (UpPost (Cal.laV y m p per) es w) := by
  have HE := Lib.hid hE
  have HBK := Lib.hid hBK
  have KL := Lib.hid (fun W => rcal_Last y m p per W)
  have hb : Below w.heap.size w (w.alloc (.cells bcs 36)) := (Below.refl _ _).alloc (Nat.le_refl _) _
  have HB := Lib.hid (Blk.new w 36 bcs)
  obtain ⟨i0, hi0, hz0, hz1, hz2'⟩ := info_parts RefR.info
  clear hE hBK
  generalize Cal.ckE y m p per = ce at *
  generalize Cal.laV y m p per = T at *
  unfold UpPost
  go_enter Tryz.func9, Tryz.ntmps9
  go_upto_region 1 with fail
  generalize w.alloc (.cells bcs 36) = W at *
  have k1 : W.cell? ⟨w.heap.size, 1, none⟩ = some (.int .i64 y) := (HB.out.cell 1).trans ((HBK.out.grp 1 (by omega)).trans (by rw [HG.out]; rfl))
  have k2 : W.cell? ⟨w.heap.size, 2, none⟩ = some (.int .i64 m) := (HB.out.cell 2).trans ((HBK.out.grp 2 (by omega)).trans (by rw [HG.out]; rfl))
  have k3 : W.cell? ⟨w.heap.size, 3, none⟩ = some (.int .i64 p) := (HB.out.cell 3).trans ((HBK.out.grp 3 (by omega)).trans (by rw [HG.out]; rfl))
  go_upto_region 2 with (go_at_call 19; refine (KL.out _).mono ?_; rintro e w3 ⟨rfl, hb9⟩; have hb3 := bel hb hb9; have HB3 := Lib.hid (HB.out.step hb9); clear hb9)
  clear k1 k2 k3 hb HB
  go_wp2_with fail
  go_loopw [7, 8] (fun v t wr => ∃ k : Nat, k ≤ es.length ∧ t = .int .i64 k ∧ wr.ownsRow w.heap.size 50 2 v (Jn.upTo T (es.take k)).length (cellsOf RefR.cells (Jn.upTo T (es.take k))) ∧ Blk wr w.heap.size 36 bcs ∧ Below w.heap.size w wr) (fun _ t _ => es.length - (intOf t).toNat)
  case atStart => exact ⟨0, by omega, rfl, World.ownsRow_nil _ _ _ _, HB3.out, hb3⟩
  case round =>
    clear hb3 HB3
    obtain ⟨k, hk, rfl, ho, hB, hb⟩ := hrel
    have HO := Lib.hid ho
    have HB := Lib.hid hB
    have hz := hb.size
    have k21 : wr.cell? ⟨w.heap.size, 21, none⟩ = some (.slice sA es.length sc) := (HB.out.cell 21).trans HBK.out.ent
    clear ho hB
    by_cases hlt : k < es.length
    · have HUP := Lib.hid (Jn.upTo_take T es k hlt)
      have hln0 : (Jn.upTo T (es.take k)).length ≤ 60000 := by
        have h2 := Jn.upTo_take_len T 60 es HE.out.ln k
        omega
      have hxl := HE.out.ln _ (List.getElem_mem hlt)
      obtain ⟨wo, rfl⟩ : ∃ wo : World, wo = wr := ⟨_, rfl⟩
      go_wp2_with fail
      clear k21
      go_loopw [7, 9] (fun v t wr => ∃ j : Nat, j ≤ es[k].lines.l.length ∧ t = .int .i64 j ∧ (0 < j → es[k].date ≤ T) ∧ wr.ownsRow w.heap.size 50 2 v (Jn.upTo T (es.take k) ++ Jn.refsOf es[k] j).length (cellsOf RefR.cells (Jn.upTo T (es.take k) ++ Jn.refsOf es[k] j)) ∧ Blk wr w.heap.size 36 bcs ∧ Below w.heap.size w wr) (fun _ t _ => es[k].lines.l.length - (intOf t).toNat)
      case atStart => exact ⟨0, by omega, rfl, fun h => by omega, by rw [Jn.refsOf_zero, List.append_nil]; exact HO.out, HB.out, hb⟩
      case round =>
        clear hb HO HB hz
        obtain ⟨j, hj, rfl, hjd, ho, hB, hb⟩ := hrel
        have HO := Lib.hid ho
        have HB := Lib.hid hB
        have HJD := Lib.hid hjd
        have hz := hb.size
        have k21 : wr.cell? ⟨w.heap.size, 21, none⟩ = some (.slice sA es.length sc) := (HB.out.cell 21).trans HBK.out.ent
        clear ho hB hjd
        obtain ⟨b, o, hA, hbo, f0, f1, f2, f3, f4, f5, f6⟩ := EntryR.at_ (Rd.now HE.out.rd hb) hlt
        subst hA
        have HMO := Lib.hid (Jn.refsOf_more es[k] j)
        have hrl := Jn.refsOf_len es[k] j
        generalize Jn.upTo T (es.take k) = M0 at *
        have HM1D : Hid (∃ M1, M1 = Jn.refsOf es[k] j) := Lib.hid ⟨_, rfl⟩
        obtain ⟨M1, hM1⟩ := HM1D.out
        clear HM1D
        have HM1D := Lib.hid hM1
        rw [← hM1] at hrl HO HMO
        clear hM1
        generalize hxk : es[k] = x at *
        obtain ⟨id, en, da, kd, fo, tx, ⟨ll, lA, lc⟩⟩ := x
        clear hxk
        dsimp only [Sl.val] at *
        have hz2 : (0 : Int) ≤ (k : Int) := by omega
        have hz3 : (k : Int) < es.length := by omega
        by_cases hjl : j < ll.length
        · by_cases hda : da ≤ T
          · have HNX : Hid (M0 ++ Jn.refsOf ⟨id, en, da, kd, fo, tx, ⟨ll, lA, lc⟩⟩ (j + 1) = (M0 ++ M1) ++ [⟨id, (j : Int)⟩]) := Lib.hid (by rw [HMO.out, List.append_assoc])
            have hlm : (M0 ++ M1).length ≤ 60000 + ll.length := by rw [List.length_append]; omega
            generalize M0 ++ M1 = S0 at *
            go_wp2_with (at_builtin; refine wpList_append_rec RefR.cells 2 RefR.len RefR.one rfl (.tmp 46) (.tmp 55) 45 rfl w.heap.size 50 i0 (.agg #[.int .i64 0, .int .i64 0]) 16 Tryz.underlying45 hi0 hz0 hz1 hz2' rfl (by decide) _ S0 rfl (HO.out.alloc (.cells #[.int .i64 id, .int .i64 (j : Int)] 50)) wr.heap.size 1 ⟨id, (j : Int)⟩ #[.int .i64 id, .int .i64 (j : Int)] rfl (Blk.new wr _ _) rfl (by unfold maxLen; omega) (by omega) (by simp; omega) ?_)
            intro v7 w7 ho7 hg7
            have hnb := (Below.refl wr.heap.size wr).alloc (Nat.le_refl _) (.cells #[.int .i64 id, .int .i64 (j : Int)] 50)
            have HO3 := HO.out.alloc (.cells #[.int .i64 id, .int .i64 (j : Int)] 50)
            have hb7 : Below w.heap.size w w7 := bel_own (bel hb hnb) (by have := hnb.size; omega) HO3 hg7
            have hB7 := (HB.out.alloc (.cells #[.int .i64 id, .int .i64 (j : Int)] 50)).grown hg7 (own_ne_blk HO3 (HB.out.alloc _) (by decide))
            rw [← HNX.out] at ho7
            have HO7 := Lib.hid ho7
            have HNL : Hid ((M0 ++ Jn.refsOf ⟨id, en, da, kd, fo, tx, ⟨ll, lA, lc⟩⟩ (j + 1)).length = S0.length + 1) := Lib.hid (by rw [HNX.out, List.length_append, List.length_singleton])
            clear hg7 ho7 HO3 hnb
            go_wp2_with fail
            go_roundw
            case rel => exact ⟨j + 1, by omega, by go_num, fun _ => hda, by rw [HNL.out]; exact HO7.out, hB7, hb7⟩
            case measure => simp [intOf]; omega
          · have hj0 : j = 0 := by
              rcases Nat.eq_zero_or_pos j with h | h
              · exact h
              · exact absurd (HJD.out h) hda
            have HM1 : Hid (M0 ++ M1 = Jn.upTo T (es.take (k + 1))) := Lib.hid (by
              have hm1 : M1 = [] := List.eq_nil_of_length_eq_zero (by rw [hrl, hj0])
              rw [HUP.out, if_neg hda, hm1])
            have HOE := HO.out
            rw [HM1.out] at HOE
            have HOF := Lib.hid HOE
            clear hj0 HOE HO
            go_wp2_with fail
            go_roundw
            case rel => exact ⟨k + 1, by omega, by go_num, HOF.out, HB.out, hb⟩
            case measure => simp [intOf]; omega
        · have hje : j = ll.length := by omega
          have HM1 : Hid (M0 ++ M1 = Jn.upTo T (es.take (k + 1))) := Lib.hid (by
            rw [HUP.out]
            by_cases hda : da ≤ T
            · rw [if_pos hda, ← hje, ← HM1D.out]
            · rw [if_neg hda]
              have hj0 : j = 0 := by
                rcases Nat.eq_zero_or_pos j with h | h
                · exact h
                · exact absurd (HJD.out h) hda
              have hm1 : M1 = [] := List.eq_nil_of_length_eq_zero (by rw [hrl, hj0])
              rw [hm1])
          have HOE := HO.out
          rw [HM1.out] at HOE
          have HOF := Lib.hid HOE
          clear hje HOE HO
          go_wp2_with fail
          go_roundw
          case rel => exact ⟨k + 1, by omega, by go_num, HOF.out, HB.out, hb⟩
          case measure => simp [intOf]; omega
    · have hke : es.take k = es := List.take_of_length_le (by omega)
      have HOE := HO.out
      rw [hke] at HOE
      have HOM := Lib.hid HOE
      clear hke HOE HO
      go_wp2_with fail
      go_ret
      exact ⟨_, rfl, HOM.out, hb⟩
end
end Go.Proofs.YtnddoehhcpejjaaGreat
