/- Texts of this claim, put together. -/
import Derived.Test.YthfbpbbepogllaaGreatJBH
import Derived.Test.YthfbpbbepogllaaGreatJAC
import Derived.Test.YthfbpbbepogllaaGreatJBG
import Derived.Test.YthfbpbbepogllaaGreatJAX
import Derived.Test.YthfbpbbepogllaaGreatChartWalksHZ
import Derived.Test.YthfbpbbepogllaaGreatJAG
import Derived.Test.YthfbpbbepogllaaGreatJAB
/- slices.Sorted(maps.Keys(m)) of sums by number. -/
namespace Go.Proofs.YthfbpbbepogllaaGreat
set_option linter.unusedVariables false
set_option linter.unusedSimpArgs false
open Go.RowKit Go.Maps Go.Sort Go.Shelf

theorem sortsI (m : Nat) : AnyZI.SortsIn Tryz.prog Tryz.sortedI_ren Fence.wide m :=
  ⟨fun blk off cap ss W hH hblk hsz => callsIn_wide.2 (Tryz.slices_Sort_int blk off cap ss W hH hblk hsz), fun p cap W => callsIn_wide.2 (Tryz.slices_Sort_int_none p cap W)⟩
theorem ikeys_any (mb : Option Nat) (W : World) : Calls Tryz.prog 57 #[.map mb] W fun e w' => e = .returned (.func (.func 90) #[] #[.pointer (some ⟨W.heap.size, 0, none⟩)]) ∧ w' = W.alloc (.cells #[.map mb] 119) :=
  (callsIn_wide (n := 5)).1 (AnyZI.keys_in Tryz.keysI Fence.wide 5 trivial rfl mb W)
def SortedIPost (T : TypeId) (S : List Int) (w : World) (e : Ending) (w' : World) : Prop :=
  ∃ (v : Value) (ss : List Int), e = .returned v ∧ ss.Pairwise (· < ·) ∧ (∀ x, x ∈ ss ↔ x ∈ S) ∧ w'.ownsRow w.heap.size T 1 v ss.length (ss.map (Value.int .i64)) ∧ Below w.heap.size w w'
set_option maxHeartbeats 1000000 in
theorem isorted_any {e : TypeId} (b n : Nat) (S : List Int) (f : Int → Int) (w : World) (h : SumK Tryz.prog 3 e w b n S f) (hn : n ≤ 1000000) :
    Calls Tryz.prog 56 #[.func (.func 90) #[] #[.pointer (some ⟨w.heap.size, 0, none⟩)]] (w.alloc (.cells #[.map (some b)] 119)) (SortedIPost 3 S (w.alloc (.cells #[.map (some b)] 119))) := by
  obtain ⟨D0, hown, _, _, hh⟩ := h
  have hsz := hown.size_le
  have hbl := hown.lt
  have hseq : SeqGives Fence.wide 2 Tryz.prog 90 #[.pointer (some ⟨w.heap.size, 0, none⟩)] encZ (fun ss => ss.Perm (intKeys D0)) (Maps.size D0) (w.alloc (.cells #[.map (some b)] 119)) :=
    AnyZI.keys_gives (ρ := Tryz.keysI_ren) { Tryz.keysI with } Fence.wide _ trivial rfl (by omega) w.heap.size b n D0 _ (by simp) (by simp) (by
      obtain ⟨es, clock, hb, Ft, hs, hD⟩ := hown
      exact ⟨es, clock, (Below.heap_alloc _ _ b hbl).trans hb, Ft, hs, hD⟩)
  have hc := (callsIn_wide (n := 5)).1 (AnyZI.sorted_in Tryz.sortedI Fence.wide 5 trivial trivial trivial trivial rfl (by omega) (sortsI _) (enters_of Tryz.func89 (by kernel_rfl) rfl) 90 #[.pointer (some ⟨w.heap.size, 0, none⟩)] trivial (enters_of Tryz.func90 (by kernel_rfl) rfl) _ _ (by unfold maxLen; omega) (by omega) _ hseq)
  refine hc.mono ?_
  rintro e w' ⟨v, ss, rfl, hp, hrow, _, hb⟩
  obtain ⟨h1, h2⟩ := SumK.keys hown Tryz.underlying3 hh hp
  refine ⟨v, srt ss, rfl, srt_asc h1, fun x => (srt_mem ss x).trans (h2 x), ?_, hb⟩
  rw [srt_len]
  exact hrow
end Go.Proofs.YthfbpbbepogllaaGreat
/- The walk of carry.Carry. -/
namespace Go.Proofs.YthfbpbbepogllaaGreat
set_option linter.unusedVariables false
set_option linter.unusedSimpArgs false
open Go.RowKit

theorem cbal_info : (Tryz.prog.info? 126).map (fun i => (i.zero, i.size, i.bytes)) = some (some (.agg #[.int .i64 0, .int .i64 0]), 2, 16) := by kernel_rfl
def CaPost (T : TypeId) (E : Int) (L : List Bal) (w : World) (e : Ending) (w' : World) : Prop :=
  ∃ v : Value, e = .returned (.tuple #[v, .int .i64 E]) ∧ w'.ownsRow w.heap.size T 2 v L.length (cellsOf Bal.cells L) ∧ Below w.heap.size w w'
section
variable (gcs : Array Value) (cur : ByteArray) (y m p : Int) (cl : List Acc) (cA : Option Addr) (cc : Nat) (ro : RolesR) (el : List EntR) (eA : Option Addr) (ec : Nat) (w : World)
set_option maxRecDepth 100000 in
set_option maxHeartbeats 16000000 in
theorem carry_any (l : List DatR) (A : Option Addr) (lc : Nat) (q : Int) (HG : Hid (gcs = #[.string cur, .int .i64 y, .int .i64 m, .int .i64 p, .slice cA cl.length cc, .int .i64 ro.investment, .int .i64 ro.goodwill, .int .i64 ro.associates, .int .i64 ro.inventory, .int .i64 ro.reserve, .int .i64 ro.minority, .int .i64 ro.retained, .int .i64 ro.acquired, .int .i64 ro.owners, .int .i64 ro.disposal, .int .i64 ro.associateProfit, .int .i64 ro.dividends, .int .i64 ro.minorityProfit, .int .i64 ro.difference, .int .i64 ro.margin, .slice eA el.length ec])) (h : GIn w cl cA el eA) (hF : FewOk cur cl el) (hr : Rd w w.heap.size 3 A l.length (cellsOf DatR.cells l)) (hl : l.length ≤ 1000) :
    Calls Tryz.prog 26 #[.agg gcs, .slice A l.length lc, .int .i64 q] w (CaPost 126 (Cr.cE (Gr.gv cur cl ro el (Cal.ok y m p)) y m p q cl ro l) (Cr.cL (Gr.gv cur cl ro el (Cal.ok y m p)) y m p q cl ro l) w) := by
  have hn : cl.length ≤ 300000 := by have := hF.ch; omega
  have H := Lib.hid h
  have HR := Lib.hid hr
  have HWF := Lib.hid h.wf
  have hgi : (Tryz.prog.info? 29).map (·.size) = some gcs.size := by rw [HG.out]; exact grp_size
  have hb : Below w.heap.size w (w.alloc (.cells gcs 29)) := (Below.refl _ _).alloc (Nat.le_refl _) _
  have HB := Lib.hid (Blk.new w 29 gcs)
  have K1 := Lib.hid (fun W h h2 => amounts_any gcs cur y m p cl cA cc ro el eA ec W l A lc q HG h hF h2 hl)
  clear h hF hr
  have HKC := Lib.hid (fun h0 ss => Cr.keys_cl (cur := cur) (y := y) (m := m) (p := p) (q := q) (cl := cl) (ro := ro) (el := el) (l := l) (ss := ss) h0)
  have HSM := Lib.hid (fun (h0 : Cr.vE (Gr.gv cur cl ro el (Cal.ok y m p)) y m p q cl l = 0) (x : DatR) (hx : x ∈ l) (b : Int) => Cr.sh_mem (Cr.vE_all h0).1 (c := x.account) (d := x.date) (b := b) ((Cr.vE_all h0).2 x hx))
  generalize Gr.gv cur cl ro el (Cal.ok y m p) = V at *
  have HNA := Lib.hid (Cr.vE_zero (V := V) (Y := y) (M := m) (P := p) (q := q) (cl := cl) (l := l))
  have HE : Hid (Cr.cE V y m p q cl ro l = if Cr.vE V y m p q cl l = 0 then Cr.caE (Cr.sumF V y m p q cl ro l) (cl.map Acc.code) else Cr.vE V y m p q cl l) := Lib.hid rfl
  have HL : Hid (Cr.cL V y m p q cl ro l = if Cr.cE V y m p q cl ro l = 0 then Cr.caL (Cr.sumF V y m p q cl ro l) (cl.map Acc.code) else []) := Lib.hid rfl
  have HVB : Hid (Cr.vB V y m p q cl l = if Cr.vE V y m p q cl l = 0 then Cr.bg V y m p q else 0) := Lib.hid rfl
  have HSF : Hid (Cr.sumF V y m p q cl ro l = Cr.sumAt (Cr.at_ cl ro (Cr.bg V y m p q)) l) := Lib.hid rfl
  generalize Cr.cE V y m p q cl ro l = E at *
  generalize Cr.cL V y m p q cl ro l = L at *
  generalize Cr.vB V y m p q cl l = vb at *
  generalize Cr.vE V y m p q cl l = ve at *
  generalize Cr.bg V y m p q = bg at *
  generalize Cr.sumF V y m p q cl ro l = fS at *
  cases hx : (ve != 0)
  · have hve : ve = 0 := by simpa using hx
    have HKC2 := Lib.hid (HKC.out hve)
    have HSM2 := Lib.hid (HSM.out hve)
    have HNA2 := Lib.hid (HNA.out hve)
    rw [hve, if_pos rfl] at HE HVB
    clear hve HKC HSM HNA
    have hvb : vb = bg := HVB.out
    subst hvb
    have hmm := @run_makeMap Tryz.prog
    go_enter Tryz.func26, Tryz.ntmps26
    go_wp2_with (first
      | (refine wpList_load_blk 29 (.tmp 3) rfl (w.heap.size) rfl (by kernel_rfl) (HB).out Tryz.underlying29 hgi ?_)
      | (go_at_call 54; refine (K1.out _ (H.out.step hb) (Rd.now HR.out hb)).mono ?_; rintro e w2 ⟨rfl, hb9⟩; replace hb := bel hb hb9; have HB2 := Lib.hid (HB.out.step hb9); clear hb9))
    have HK0 := Lib.hid (SumK.made (P := Tryz.prog) (k := 3) (e := 3) w2)
    have hb0 := (Below.refl w2.heap.size w2).alloc (Nat.le_refl _) (.map #[] 0)
    clear hmm
    generalize w2.alloc (.map #[] 0) = W0 at *
    go_loopw [29] (fun t wr => ∃ k : Nat, k ≤ l.length ∧ t = .int .i64 k ∧ SumK Tryz.prog 3 3 wr w2.heap.size k ((l.take k).map (Cr.at_ cl ro vb)) (Cr.sumAt (Cr.at_ cl ro vb) (l.take k)) ∧ Below w2.heap.size w2 wr) (fun t _ => l.length - (intOf t).toNat)
    case atStart => exact ⟨0, by omega, rfl, HK0.out, hb0⟩
    case round =>
      clear HK0 hb0
      obtain ⟨k, hk, rfl, hK, hbr⟩ := hrel
      have HK := Lib.hid hK
      have hgl := hK.lt
      clear hK
      have hbw := bel hb hbr
      by_cases hlt : k < l.length
      · obtain ⟨b0, o, hA, hbo, f0, f1, f2⟩ := DatR.at_ (Rd.now HR.out hbw) hlt
        subst hA
        have hmem := List.getElem_mem hlt
        have ham : -1000000000000 ≤ l[k].amount ∧ l[k].amount ≤ 1000000000000 := by
          have h2 := List.any_eq_false.1 HNA2.out l[k] hmem
          unfold Cr.notAm at h2
          exact amV_is (by simpa using h2)
        obtain ⟨ham0, ham1⟩ := ham
        have HPM := Lib.hid (HSM2.out _ hmem vb)
        have HTT := Lib.hid (Cr.sumAt_take (F := Cr.at_ cl ro vb) hlt)
        have HTM : Hid ((l.take (k + 1)).map (Cr.at_ cl ro vb) = (l.take k).map (Cr.at_ cl ro vb) ++ [Cr.at_ cl ro vb l[k]]) := Lib.hid (by rw [List.take_succ_eq_append_getElem hlt, List.map_append]; rfl)
        have HBD := Lib.hid (fun c => Cr.tot_bd (fun x => Cr.at_ cl ro vb x == c) l HNA2.out k hk)
        have HAT : Hid (Cr.at_ cl ro vb l[k] = Cr.sh cl ro l[k].account l[k].date vb) := Lib.hid rfl
        clear hmem
        generalize l[k] = x at *
        obtain ⟨xa, xd, xm⟩ := x
        dsimp only at *
        rw [HAT.out] at HTM HTT
        have hst := (Below.refl wr.heap.size wr).alloc (Nat.le_refl _) (.cells #[.int .i64 xa, .int .i64 xd, .int .i64 xm] 120)
        have HBr := Lib.hid ((HB2.out.step hbr).step hst)
        have HX := Lib.hid (Blk.new wr 120 #[.int .i64 xa, .int .i64 xd, .int .i64 xm])
        have HK1 := Lib.hid (HK.out.step hst)
        have hbr1 := hbr.trans (hst.mono hbr.size)
        have hbw1 := bel hb hbr1
        have K2 := Lib.hid (fun W h => shown_any gcs cur y m p cl cA cc ro el _ ec W xa xd vb HG h hn)
        unfold IntP at K2
        generalize Cr.sh cl ro xa xd vb = pl at *
        have hwp : (Lit.int .i64 pl).wf = true := by
          obtain ⟨a, ha, he⟩ := List.mem_map.1 HPM.out
          rw [← he]
          exact HWF.out a ha
        clear hst HK
        go_wp2_with fail
        clear f0 f1 f2
        generalize hgx : wr.heap.size = gx at *
        have HGX := Lib.hid hgx
        clear hgx
        generalize wr.alloc (.cells #[.int .i64 xa, .int .i64 xd, .int .i64 xm] 120) = W1 at *
        have q0 : ∀ d : LaterB W1.heap.size W1, d.now.cell? ⟨gx, 0, none⟩ = some (.int .i64 xa) := fun d => d.cell HX.out.lt (HX.out.cell 0)
        have q1 : ∀ d : LaterB W1.heap.size W1, d.now.cell? ⟨gx, 1, none⟩ = some (.int .i64 xd) := fun d => d.cell HX.out.lt (HX.out.cell 1)
        have q2 : ∀ d : LaterB W1.heap.size W1, d.now.cell? ⟨gx, 2, none⟩ = some (.int .i64 xm) := fun d => d.cell HX.out.lt (HX.out.cell 2)
        refine relT_begin (n := 13) W1.heap.size 12 W1 (by kernel_rfl) rfl ?_
        have hC : NearB W1.heap.size W1 W1.drew := NearB.of (Below.refl _ _).drew
        refine relT_want (i := 0) rfl rfl (by kernel_rfl) (by kernel_rfl) (by kernel_rfl) rfl rfl (by kernel_rfl) (by kernel_rfl) (fun _ _ _ _ h => h) hC ?_
        intro K hK
        go_big_quiet_op
        go_big_quiet_on
        refine relT_want (i := 1) rfl rfl (by kernel_rfl) (by kernel_rfl) (by kernel_rfl) rfl rfl (by kernel_rfl) (by kernel_rfl) (fun _ _ _ _ h => h) hC ?_
        intro K hK
        refine ⟨.agg gcs, fun w' hw' => ?_, ?_⟩
        · obtain ⟨dd, rfl⟩ := hw'
          unfold Oper.quietAt
          rw [run_load_blk (T := 29) (.tmp 3) rfl rfl (HBr.out.step dd.below) Tryz.underlying29 hgi]
          exact ⟨rfl, rfl⟩
        refine hK _ ?_
        clear hK K
        (try simp only [Act.put, List.setIfInBounds_toArray, List.set_cons_zero, List.set_cons_succ])
        refine relT_want (i := 2) rfl rfl (by kernel_rfl) (by kernel_rfl) (by kernel_rfl) rfl rfl (by kernel_rfl) (by kernel_rfl) (fun _ _ _ _ h => h) hC ?_
        intro K hK
        go_big_quiet_op
        go_big_quiet_on
        refine relT_want (i := 3) rfl rfl (by kernel_rfl) (by kernel_rfl) (by kernel_rfl) rfl rfl (by kernel_rfl) (by kernel_rfl) (fun _ _ _ _ h => h) hC ?_
        intro K hK
        go_big_quiet_op
        go_big_quiet_on
        refine relT_want (i := 4) rfl rfl (by kernel_rfl) (by kernel_rfl) (by kernel_rfl) rfl rfl (by kernel_rfl) (by kernel_rfl) (fun _ _ _ _ h => h) hC ?_
        intro K hK
        go_big_quiet_op
        go_big_quiet_on
        refine relT_want (i := 5) rfl rfl (by kernel_rfl) (by kernel_rfl) (by kernel_rfl) rfl rfl (by kernel_rfl) (by kernel_rfl) (fun _ _ _ _ h => h) hC ?_
        intro K hK
        go_big_quiet_op
        go_big_quiet_on
        refine relT_want (i := 6) rfl rfl (by kernel_rfl) (by kernel_rfl) (by kernel_rfl) rfl rfl (by kernel_rfl) (by kernel_rfl) (fun _ _ _ _ h => h) hC ?_
        intro K hK
        go_big_quiet_op
        go_big_quiet_on
        refine relT_want (i := 9) rfl rfl (by kernel_rfl) (by kernel_rfl) (by kernel_rfl) rfl rfl (by kernel_rfl) (by kernel_rfl) (fun _ _ _ _ h => h) hC ?_
        intro K hK
        go_big_quiet_op
        go_big_quiet_on
        refine relT_want (i := 10) rfl rfl (by kernel_rfl) (by kernel_rfl) (by kernel_rfl) rfl rfl (by kernel_rfl) (by kernel_rfl) (fun _ _ _ _ h => h) hC ?_
        intro K hK
        go_big_quiet_op
        go_big_quiet_on
        clear q0 q1 q2
        refine relT_call (i := 7) (by kernel_rfl) rfl rfl ?_
        intro K hK
        go_simp
        go_at_call 55
        refine (K2.out _ (H.out.step (bel hbw1 hC.below))).mono ?_
        rintro e w5 ⟨rfl, hb2⟩
        (try go_wp2_with fail)
        have hC2 := bel hC.below hb2
        refine hK _ _ (.inr (.inr (NearB.of hC2))) ?_
        clear hK K hC
        (try simp only [Act.put, List.setIfInBounds_toArray, List.set_cons_zero, List.set_cons_succ])
        have HK5 := Lib.hid (HK1.out.step hC2)
        have hlk := HK5.out.sum.look Tryz.underlying3 Tryz.underlying3 Tryz.underlying119 (zero_int _) hwp
        have HBD2 := Lib.hid (HBD.out pl)
        have HTP := Lib.hid (HTT.out pl)
        have HBD3 : Hid (-(1000000000000 * k) ≤ Cr.sumAt (Cr.at_ cl ro vb) (l.take k) pl ∧ Cr.sumAt (Cr.at_ cl ro vb) (l.take k) pl ≤ 1000000000000 * k) := HBD2
        obtain ⟨s0, s1⟩ := HBD3.out
        have hws : IntKind.i64.wrap (Cr.sumAt (Cr.at_ cl ro vb) (l.take k) pl + xm) = Cr.sumAt (Cr.at_ cl ro vb) (l.take k) pl + xm := IntWalk.i64_in _ (by omega)
        obtain ⟨w6, r1, r2, r3⟩ := SumK.put (t := 119) HK5.out Tryz.underlying3 Tryz.underlying3 Tryz.underlying119 (by unfold maxLen; omega) hwp (y := Cr.sumAt (Cr.at_ cl ro vb) (l.take k) pl + xm) (wf64 (by omega) (by omega)) (g := Cr.sumAt (Cr.at_ cl ro vb) (l.take (k + 1))) (by rw [HTP.out, if_pos rfl]) (fun d hd => by rw [HTT.out d, if_neg (fun e => hd e.symm)]; omega)
        have hb6 := below_grown (hbr1.trans (hC2.mono hbr1.size)) (Nat.le_refl _) HK5.out.lt r3
        have R2 := Lib.hid r2
        clear HBD HBD2 HBD3 HTT HTP s0 s1 r2 r3
        generalize Cr.sumAt (Cr.at_ cl ro vb) (l.take k) pl = s at *
        have hC := NearB.of hC2
        refine relT_call (i := 8) (by kernel_rfl) rfl rfl ?_
        intro K hK
        go_simp
        refine hK _ _ (.inr (.inr hC)) ?_
        clear hK K
        (try simp only [Act.put, List.setIfInBounds_toArray, List.set_cons_zero, List.set_cons_succ])
        refine relT_call (i := 11) (by kernel_rfl) rfl rfl ?_
        intro K hK
        go_simp
        refine hK _ _ (.inr (.inr hC)) ?_
        clear hK K hlk hws
        (try simp only [Act.put, List.setIfInBounds_toArray, List.set_cons_zero, List.set_cons_succ])
        refine relT_call (i := 12) (by kernel_rfl) rfl rfl ?_
        intro K hK
        go_simp
        refine hK _ _ (.inr (.inl rfl)) ?_
        clear hK K r1
        (try simp only [Act.put, List.setIfInBounds_toArray, List.set_cons_zero, List.set_cons_succ])
        refine wpAnyT_done (by kernel_rfl) ?_ _
        go_wp2_with fail
        go_roundw
        case rel => exact ⟨k + 1, by omega, by go_num, by rw [HTM.out]; exact R2.out, hb6⟩
        case measure => simp [intOf]; omega
      · have hke : l.take k = l := List.take_of_length_le (by omega)
        rw [hke] at HK
        clear hke
        rw [← HSF.out] at HK
        go_upto_region 12 with (first
          | (go_at_call 57; refine (ikeys_any _ _).mono ?_; rintro e w7 ⟨rfl, rfl⟩)
          | (go_at_call 56; refine (isorted_any w2.heap.size k _ _ wr HK.out (by omega)).mono ?_; rintro e w8 ⟨v, ss, rfl, hss, hsm, hso, hb9⟩; obtain ⟨A8, c8, hv8, hr8⟩ := Rd.of_own hso; subst hv8; have hbs := bel ((Below.refl wr.heap.size wr).alloc (Nat.le_refl _) (.cells #[.map (some w2.heap.size)] 119)) hb9; have HSS := Lib.hid hss; have HSM := Lib.hid hsm; have HI8 := Lib.hid hr8; clear hb9 hso hss hsm hr8))
        obtain ⟨kl1, kl2⟩ := HKC2.out ss HSS.out HSM.out
        have HES : Hid (E = Cr.caE fS ss) := Lib.hid (by rw [HE.out, kl2])
        have HLS : Hid (L = if E = 0 then Cr.caL fS ss else []) := Lib.hid (by rw [HL.out, kl1])
        have hnd : ss.Nodup := List.Pairwise.imp (fun {a b} hab => by omega) HSS.out
        have hsl : ss.length ≤ 1000 := by
          have h1 := Ch.nodup_len ss (l.map (Cr.at_ cl ro vb)) hnd (fun x hx => (HSM.out x).1 hx)
          rw [List.length_map] at h1
          omega
        have HWS : Hid (∀ x ∈ ss, (Lit.int .i64 x).wf = true) := Lib.hid (fun x hx => by
          obtain ⟨d, hd, rfl⟩ := List.mem_map.1 ((HSM.out x).1 hx)
          obtain ⟨a, ha, he⟩ := List.mem_map.1 (HSM2.out d hd vb)
          show (Lit.int .i64 (Cr.sh cl ro d.account d.date vb)).wf = true
          rw [← he]
          exact HWF.out a ha)
        have HK8 := Lib.hid (HK.out.step hbs)
        have hb8 := bel hbw hbs
        obtain ⟨i0, hi0, hz0, hz1, hz2⟩ := info_parts cbal_info
        clear kl1 kl2 hnd HKC2 HSM2 HSM HSS HK HE HL hbs hbr hbw
        go_loopw [13, 50] (fun v t wr => ∃ k : Nat, k ≤ ss.length ∧ t = .int .i64 k ∧ wr.ownsRow w8.heap.size 126 2 v (Cr.caL fS (ss.take k)).length (cellsOf Bal.cells (Cr.caL fS (ss.take k))) ∧ (∀ j (h : j < ss.length), j < k → amV (fS ss[j]) = true) ∧ Below w8.heap.size w8 wr) (fun _ t _ => ss.length - (intOf t).toNat)
        case atStart => exact ⟨0, by omega, rfl, World.ownsRow_nil _ _ _ _, (fun j _ h => by omega), Below.refl _ _⟩
        case round =>
          obtain ⟨k, hk, rfl, ho, hno, hbr⟩ := hrel
          have HO := Lib.hid ho
          have HN := Lib.hid hno
          clear ho hno
          by_cases hlt : k < ss.length
          · obtain ⟨b0, o, hA, hbo, f0⟩ := int_at (l := ss) (Rd.now HI8.out hbr) hlt
            subst hA
            have HCT := Lib.hid (Cr.caL_take (f := fS) hlt)
            have HNO := Lib.hid (Cr.caE_no (f := fS) hlt)
            have hwc := HWS.out _ (List.getElem_mem hlt)
            have HNX : Hid (amV (fS ss[k]) = true → ∀ j (h : j < ss.length), j < k + 1 → amV (fS ss[j]) = true) := Lib.hid (fun h j h1 h2 => by
              by_cases e : j = k
              · subst e; exact h
              · exact HN.out j h1 (by omega))
            have hcl : (Cr.caL fS (ss.take k)).length ≤ 1000 := by
              have h1 := Cr.caL_len (f := fS) (cs := ss.take k)
              rw [List.length_take] at h1
              omega
            generalize ss[k] = c at *
            have hlk := (HK8.out.step hbr).sum.look Tryz.underlying3 Tryz.underlying3 Tryz.underlying119 (zero_int _) hwc
            generalize fS c = n at *
            cases ha : amV n
            · have HE2 : Hid (E = 2) := Lib.hid (by rw [HES.out, HNO.out ha])
              have HL2 : Hid (L = []) := Lib.hid (by rw [HLS.out, HE2.out]; rfl)
              have HA := Lib.hid ha
              clear ha
              go_wp2_with (go_at_call 58; refine (camount_any _ _).mono ?_; rintro e w2 ⟨rfl, rfl⟩; rw [HA.out])
              go_ret2
              exact ⟨_, by rw [HE2.out]; rfl, by rw [HL2.out]; exact World.ownsRow_nil _ _ _ _, bel hb8 hbr⟩
            · have HA := Lib.hid ha
              have HNX2 := Lib.hid (HNX.out ha)
              clear ha HNX HNO
              by_cases h0 : n = 0
              · have HF : Hid (Cr.caL fS (ss.take (k + 1)) = Cr.caL fS (ss.take k)) := Lib.hid (by rw [HCT.out, if_pos h0])
                have hn0 : (n != 0) = false := by simpa using h0
                clear h0
                go_wp2_with (go_at_call 58; refine (camount_any _ _).mono ?_; rintro e w2 ⟨rfl, rfl⟩; rw [HA.out])
                go_roundw
                case rel => exact ⟨k + 1, by omega, by go_num, by rw [HF.out]; exact HO.out, HNX2.out, hbr⟩
                case measure => simp [intOf]; omega
              · have HF : Hid (Cr.caL fS (ss.take (k + 1)) = Cr.caL fS (ss.take k) ++ [⟨c, n⟩]) := Lib.hid (by rw [HCT.out, if_neg h0])
                have hn0 : (n != 0) = true := by simpa using h0
                clear h0
                have hz8 := hbr.size
                go_wp2_with (first
                  | (go_at_call 58; refine (camount_any _ _).mono ?_; rintro e w2 ⟨rfl, rfl⟩; rw [HA.out])
                  | (at_builtin; refine wpList_append_rec Bal.cells 2 (fun _ => rfl) Bal.one rfl (.tmp 63) (.tmp 69) 72 rfl w8.heap.size 126 i0 (.agg #[.int .i64 0, .int .i64 0]) 16 Tryz.underlying72 hi0 hz0 hz1 hz2 rfl (by decide) _ (Cr.caL fS (ss.take k)) rfl (HO.out.alloc _) wr.heap.size 1 ⟨c, n⟩ #[.int .i64 c, .int .i64 n] rfl (Blk.new wr _ _) rfl (by simp only [maxLen]; omega) (by omega) (by simp; omega) ?_))
                intro v4 w4 ho4 hg4
                have hb4 := bel_own (hbr.alloc hz8 _) (by simp; omega) (HO.out.alloc _) hg4
                have HO4 := Lib.hid ho4
                clear hg4 ho4 hlk f0
                go_wp2_with fail
                go_roundw
                case rel => exact ⟨k + 1, by omega, by go_num, by rw [HF.out, List.length_append]; exact HO4.out, HNX2.out, hb4⟩
                case measure => simp [intOf]; omega
          · have hke : ss.take k = ss := List.take_of_length_le (by omega)
            rw [hke] at HO
            have HE2 : Hid (E = 0) := Lib.hid (by rw [HES.out]; exact Cr.caE_yes (fun j hj => HN.out j hj (by omega)))
            have HL2 : Hid (L = Cr.caL fS ss) := Lib.hid (by rw [HLS.out, HE2.out]; rfl)
            clear hke
            go_wp2_with fail
            go_ret2
            exact ⟨_, by rw [HE2.out]; rfl, by rw [HL2.out]; exact own_base HO.out hb8.size, bel hb8 hbr⟩
  · have hve : ve ≠ 0 := by simpa using hx
    have HE1 : Hid (E = ve) := Lib.hid (by rw [HE.out, if_neg hve])
    have HL1 : Hid (L = []) := Lib.hid (by rw [HL.out, if_neg (by rw [HE1.out]; exact hve)])
    clear hve
    go_enter Tryz.func26, Tryz.ntmps26
    go_wp2_with (first
      | (refine wpList_load_blk 29 (.tmp 3) rfl (w.heap.size) rfl (by kernel_rfl) (HB).out Tryz.underlying29 hgi ?_)
      | (go_at_call 54; refine (K1.out _ (H.out.step hb) (Rd.now HR.out hb)).mono ?_; rintro e w2 ⟨rfl, hb9⟩; replace hb := bel hb hb9; clear hb9))
    go_ret2
    exact ⟨_, by rw [HE1.out]; rfl, by rw [HL1.out]; exact World.ownsRow_nil _ _ _ _, hb⟩
end
end Go.Proofs.YthfbpbbepogllaaGreat
/- The walk of the reference's Carry. -/
namespace Go.Proofs.YthfbpbbepogllaaGreat
set_option linter.unusedVariables false
set_option linter.unusedSimpArgs false
open Go.RowKit

section
variable (gcs : Array Value) (cur : ByteArray) (y m p : Int) (cl : List Acc) (cA : Option Addr) (cc : Nat) (ro : RolesR) (el : List EntR) (eA : Option Addr) (ec : Nat) (w : World)
set_option maxRecDepth 100000 in
set_option maxHeartbeats 16000000 in
theorem rcarry_any (l : List DatR) (A : Option Addr) (lc : Nat) (q : Int) (HG : Hid (gcs = #[.string cur, .int .i64 y, .int .i64 m, .int .i64 p, .slice cA cl.length cc, .int .i64 ro.investment, .int .i64 ro.goodwill, .int .i64 ro.associates, .int .i64 ro.inventory, .int .i64 ro.reserve, .int .i64 ro.minority, .int .i64 ro.retained, .int .i64 ro.acquired, .int .i64 ro.owners, .int .i64 ro.disposal, .int .i64 ro.associateProfit, .int .i64 ro.dividends, .int .i64 ro.minorityProfit, .int .i64 ro.difference, .int .i64 ro.margin, .slice eA el.length ec])) (h : GIn w cl cA el eA) (hF : FewOk cur cl el) (hr : Rd w w.heap.size 3 A l.length (cellsOf DatR.cells l)) (hl : l.length ≤ 1000) :
    Calls Tryz.prog 28 #[.agg gcs, .slice A l.length lc, .int .i64 q] w (CaPost 126 (Cr.cE (Gr.gv cur cl ro el (Cal.ok y m p)) y m p q cl ro l) (Cr.cL (Gr.gv cur cl ro el (Cal.ok y m p)) y m p q cl ro l) w) := by
  have hch := hF.ch
  have hn : cl.length ≤ 300000 := by omega
  have H := Lib.hid h
  have HR := Lib.hid hr
  have hgi : (Tryz.prog.info? 29).map (·.size) = some gcs.size := by rw [HG.out]; exact grp_size
  have hb : Below w.heap.size w (w.alloc (.cells gcs 29)) := (Below.refl _ _).alloc (Nat.le_refl _) _
  have HB := Lib.hid (Blk.new w 29 gcs)
  have K1 := Lib.hid (fun W h h2 => rdvalid_any gcs cur y m p cl cA cc ro el eA ec W l A lc q HG h hF h2 hl)
  clear h hF hr
  generalize Gr.gv cur cl ro el (Cal.ok y m p) = V at *
  have HBG := Lib.hid (bg_is (V := V) (Y := y) (M := m) (P := p) (q := q) (cl := cl) (l := l))
  have HNA := Lib.hid (Cr.vE_zero (V := V) (Y := y) (M := m) (P := p) (q := q) (cl := cl) (l := l))
  have HE : Hid (Cr.cE V y m p q cl ro l = if Cr.vE V y m p q cl l = 0 then Cr.caE (Cr.sumF V y m p q cl ro l) (cl.map Acc.code) else Cr.vE V y m p q cl l) := Lib.hid rfl
  have HL : Hid (Cr.cL V y m p q cl ro l = if Cr.cE V y m p q cl ro l = 0 then Cr.caL (Cr.sumF V y m p q cl ro l) (cl.map Acc.code) else []) := Lib.hid rfl
  have HSF : Hid (Cr.sumF V y m p q cl ro l = Cr.sumAt (Cr.at_ cl ro (Cr.bg V y m p q)) l) := Lib.hid rfl
  generalize Cr.cE V y m p q cl ro l = E at *
  generalize Cr.cL V y m p q cl ro l = L at *
  generalize Cr.vE V y m p q cl l = ve at *
  generalize Cr.bg V y m p q = bg at *
  generalize Cr.sumF V y m p q cl ro l = fS at *
  cases hx : (ve != 0)
  · have hve : ve = 0 := by simpa using hx
    have HNA2 := Lib.hid (HNA.out hve)
    have HBG2 := Lib.hid (HBG.out hve)
    rw [hve, if_pos rfl] at HE
    clear hve HNA HBG
    have HCS : Hid (∀ (j : Nat) (h : j < cl.length) (h2 : j < (cl.map Acc.code).length), (cl.map Acc.code)[j] = cl[j].code) := Lib.hid (fun j h h2 => List.getElem_map ..)
    have HCN : Hid ((cl.map Acc.code).length = cl.length) := Lib.hid (List.length_map ..)
    generalize cl.map Acc.code = cs at *
    obtain ⟨i0, hi0, hz0, hz1, hz2⟩ := info_parts cbal_info
    go_enter Tryz.func28, Tryz.ntmps28
    go_wp2_with (first
      | (refine wpList_load_blk 29 (.tmp 3) rfl (w.heap.size) rfl (by kernel_rfl) (HB).out Tryz.underlying29 hgi ?_)
      | (go_at_call 59; refine (K1.out _ (H.out.step hb) (Rd.now HR.out hb)).mono ?_; rintro e w2 ⟨rfl, hb9⟩; replace hb := bel hb hb9; have HB2 := Lib.hid (HB.out.step hb9); clear hb9))
    go_loopw [9, 10] (fun v t wr => ∃ i : Nat, i ≤ cl.length ∧ t = .int .i64 i ∧ wr.ownsRow w2.heap.size 126 2 v (Cr.caL fS (cs.take i)).length (cellsOf Bal.cells (Cr.caL fS (cs.take i))) ∧ (∀ j (h : j < cs.length), j < i → amV (fS cs[j]) = true) ∧ Below w2.heap.size w2 wr) (fun _ t _ => cl.length - (intOf t).toNat)
    case atStart => exact ⟨0, by omega, rfl, World.ownsRow_nil _ _ _ _, (fun j _ h => by omega), Below.refl _ _⟩
    case round =>
      obtain ⟨i, hi, rfl, ho, hno, hbr⟩ := hrel
      have HO := Lib.hid ho
      have HN := Lib.hid hno
      clear ho hno
      have hbw := bel hb hbr
      have HBr := Lib.hid (HB2.out.step hbr)
      have g4 : wr.cell? ⟨w.heap.size, 4, none⟩ = some (.slice cA cl.length cc) := (HBr.out.cell 4).trans (by rw [HG.out]; rfl)
      by_cases hil : i < cl.length
      · have hics : i < cs.length := by have := HCN.out; omega
        have HCI : Hid (cs[i] = cl[i].code) := Lib.hid (HCS.out i hil hics)
        have HCT := Lib.hid (Cr.caL_take (f := fS) hics)
        have HNO := Lib.hid (Cr.caE_no (f := fS) hics)
        have HNX : Hid (amV (fS cs[i]) = true → ∀ j (h : j < cs.length), j < i + 1 → amV (fS cs[j]) = true) := Lib.hid (fun h j h1 h2 => by
          by_cases e : j = i
          · subst e; exact h
          · exact HN.out j h1 (by omega))
        have hcl : (Cr.caL fS (cs.take i)).length ≤ 1000 := by
          have h1 := Cr.caL_len (f := fS) (cs := cs.take i)
          rw [List.length_take] at h1
          omega
        obtain ⟨wo, rfl⟩ : ∃ x : World, x = wr := ⟨_, rfl⟩
        go_wp2_with fail
        clear g4
        go_loopw [11, 12] (fun s t wr => ∃ k : Nat, k ≤ l.length ∧ s = .int .i64 (Cr.sumAt (Cr.at_ cl ro bg) (l.take k) cl[i].code) ∧ t = .int .i64 k ∧ Below wo.heap.size wo wr) (fun _ t _ => l.length - (intOf t).toNat)
        case atStart => exact ⟨0, by omega, rfl, rfl, Below.refl _ _⟩
        case round =>
          obtain ⟨k, hk, rfl, rfl, hbk⟩ := hrel
          have hbx := bel hbw hbk
          have hbd : -(1000000000000 * (k : Int)) ≤ Cr.sumAt (Cr.at_ cl ro bg) (l.take k) cl[i].code ∧ Cr.sumAt (Cr.at_ cl ro bg) (l.take k) cl[i].code ≤ 1000000000000 * k := Cr.tot_bd (fun x => Cr.at_ cl ro bg x == cl[i].code) l HNA2.out k hk
          by_cases hlt : k < l.length
          · obtain ⟨b0, o, hA, hbo, f0, f1, f2⟩ := DatR.at_ (Rd.now HR.out hbx) hlt
            subst hA
            have HTT := Lib.hid (Cr.sumAt_take (F := Cr.at_ cl ro bg) hlt cl[i].code)
            have ham : -1000000000000 ≤ l[k].amount ∧ l[k].amount ≤ 1000000000000 := by
              have h2 := List.any_eq_false.1 HNA2.out l[k] (List.getElem_mem hlt)
              unfold Cr.notAm at h2
              exact amV_is (by simpa using h2)
            have HAT : Hid (Cr.at_ cl ro bg l[k] = Cr.sh cl ro l[k].account l[k].date bg) := Lib.hid rfl
            obtain ⟨a0, a1⟩ := ham
            obtain ⟨d0, d1⟩ := hbd
            obtain ⟨b1, o1, hA1, hbo1, e0, -, -, -⟩ := Ch.at_ (Rd.now H.out.ch hbx) hil
            subst hA1
            generalize Cr.sumAt (Cr.at_ cl ro bg) (l.take k) cl[i].code = s at *
            rw [HAT.out] at HTT
            clear HAT
            generalize l[k] = x at *
            obtain ⟨xa, xd, xm⟩ := x
            dsimp only at *
            have K2 := Lib.hid (fun W h => rshown_any gcs cur y m p cl _ cc ro el eA ec W xa xd q HG h hn)
            rw [← HBG2.out] at K2
            unfold IntP at K2
            generalize Cr.sh cl ro xa xd bg = pl at *
            generalize cl[i].code = c at *
            have HBk := Lib.hid (HBr.out.step hbk)
            have q0 : ∀ d : Later wr, d.now.cell? ⟨b0, o + k * 3, none⟩ = some (.int .i64 xa) := fun d => d.cell hbo f0
            have q1 : ∀ d : Later wr, d.now.cell? ⟨b0, o + k * 3 + 1, none⟩ = some (.int .i64 xd) := fun d => d.cell hbo f1
            have q4 : ∀ d : Later wr, d.now.cell? ⟨w.heap.size, 4, none⟩ = some (.slice (some ⟨b1, o1, none⟩) cl.length cc) := fun d => d.cell HBk.out.lt ((HBk.out.cell 4).trans (by rw [HG.out]; rfl))
            have q5 : ∀ d : Later wr, d.now.cell? ⟨b1, o1 + i * 4, none⟩ = some (.int .i64 c) := fun d => d.cell hbo1 e0
            have F2 := Lib.hid f2
            have hws : IntKind.i64.wrap (s + xm) = s + xm := IntWalk.i64_in _ (by omega)
            clear f0 f1 f2 e0 a0 a1 d0 d1
            go_wp2_with fail
            refine wp_region_later (by kernel_rfl) (by kernel_rfl) ?_
            (repeat (go_big_quiet_step ((fail)))); refine quiet_load_blk 29 (.tmp 3) rfl (w.heap.size) rfl (by kernel_rfl) (HBk).out Tryz.underlying29 hgi ?_; (try simp only [Act.put, List.setIfInBounds_toArray, List.set_cons_zero, List.set_cons_succ])
            (repeat (go_big_quiet_step ((fail)))); go_big_quiet_step ((go_at_call 60; exact Later.call _ (K2.out _ (H.out.step (bel hbx (Later.below _))))))
            (repeat (go_big_quiet_step ((fail)))); refine wpQuiet_nil ?_; rintro _ ⟨dq, rfl⟩
            have hbe := bel hbk dq.below
            have f2 : dq.now.cell? ⟨b0, o + k * 3 + 2, none⟩ = some (.int .i64 xm) := dq.cell hbo F2.out
            clear q0 q1 q4 q5
            cases hpc : (pl == c)
            · have hne : pl ≠ c := by simpa using hpc
              have HS2 : Hid (Cr.sumAt (Cr.at_ cl ro bg) (l.take (k + 1)) c = s) := Lib.hid (by rw [HTT.out, if_neg hne]; omega)
              clear hne
              go_wp2_with fail
              go_roundw
              case rel => exact ⟨k + 1, by omega, by rw [HS2.out], by go_num, hbe⟩
              case measure => simp [intOf]; omega
            · have heq : pl = c := by simpa using hpc
              have HS2 : Hid (Cr.sumAt (Cr.at_ cl ro bg) (l.take (k + 1)) c = s + xm) := Lib.hid (by rw [HTT.out, if_pos heq])
              clear heq
              go_wp2_with fail
              go_roundw
              case rel => exact ⟨k + 1, by omega, by rw [HS2.out], by go_num, hbe⟩
              case measure => simp [intOf]; omega
          · have hke : l.take k = l := List.take_of_length_le (by omega)
            rw [hke]
            clear hbd hke
            have HFC : Hid (fS cs[i] = Cr.sumAt (Cr.at_ cl ro bg) l cl[i].code) := Lib.hid (by rw [HSF.out, HCI.out])
            obtain ⟨b1, o1, hA1, hbo1, e0, -, -, -⟩ := Ch.at_ (Rd.now H.out.ch hbx) hil
            subst hA1
            have HBk := Lib.hid (HBr.out.step hbk)
            have g4 : wr.cell? ⟨w.heap.size, 4, none⟩ = some (.slice (some ⟨b1, o1, none⟩) cl.length cc) := (HBk.out.cell 4).trans (by rw [HG.out]; rfl)
            have HO2 := Lib.hid (own_step HO.out hbk)
            have hbz := bel hbr hbk
            rw [← HFC.out]
            rw [← HCI.out] at e0
            generalize cs[i] = c at *
            generalize fS c = n at *
            cases ha : amV n
            · have HE2 : Hid (E = 2) := Lib.hid (by rw [HE.out, HNO.out ha])
              have HL2 : Hid (L = []) := Lib.hid (by rw [HL.out, HE2.out]; rfl)
              have HA := Lib.hid ha
              clear ha
              go_wp2_with (go_at_call 61; refine (cramount_any _ _).mono ?_; rintro e w2 ⟨rfl, rfl⟩; rw [HA.out])
              go_ret2
              exact ⟨_, by rw [HE2.out]; rfl, by rw [HL2.out]; exact World.ownsRow_nil _ _ _ _, hbx⟩
            · have HA := Lib.hid ha
              have HNX2 := Lib.hid (HNX.out ha)
              clear ha HNX HNO
              by_cases h0 : n = 0
              · have HF : Hid (Cr.caL fS (cs.take (i + 1)) = Cr.caL fS (cs.take i)) := Lib.hid (by rw [HCT.out, if_pos h0])
                have hn0 : (n != 0) = false := by simpa using h0
                clear h0
                go_wp2_with (go_at_call 61; refine (cramount_any _ _).mono ?_; rintro e w2 ⟨rfl, rfl⟩; rw [HA.out])
                go_roundw
                case rel => exact ⟨i + 1, by omega, by go_num, by rw [HF.out]; exact HO2.out, HNX2.out, hbz⟩
                case measure => simp [intOf]; omega
              · have HF : Hid (Cr.caL fS (cs.take (i + 1)) = Cr.caL fS (cs.take i) ++ [⟨c, n⟩]) := Lib.hid (by rw [HCT.out, if_neg h0])
                have hn0 : (n != 0) = true := by simpa using h0
                clear h0
                have hz8 := hbz.size
                go_wp2_with (first
                  | (go_at_call 61; refine (cramount_any _ _).mono ?_; rintro e w2 ⟨rfl, rfl⟩; rw [HA.out])
                  | (at_builtin; refine wpList_append_rec Bal.cells 2 (fun _ => rfl) Bal.one rfl (.tmp 65) (.tmp 74) 72 rfl w2.heap.size 126 i0 (.agg #[.int .i64 0, .int .i64 0]) 16 Tryz.underlying72 hi0 hz0 hz1 hz2 rfl (by decide) _ (Cr.caL fS (cs.take i)) rfl (HO2.out.alloc _) wr.heap.size 1 ⟨c, n⟩ #[.int .i64 c, .int .i64 n] rfl (Blk.new wr _ _) rfl (by simp only [maxLen]; omega) (by omega) (by simp; omega) ?_))
                intro v4 w4 ho4 hg4
                have hb4 := bel_own (hbz.alloc hz8 _) (by simp; omega) (HO2.out.alloc _) hg4
                have HO4 := Lib.hid ho4
                clear hg4 ho4 g4 e0
                go_wp2_with fail
                go_roundw
                case rel => exact ⟨i + 1, by omega, by go_num, by rw [HF.out, List.length_append]; exact HO4.out, HNX2.out, hb4⟩
                case measure => simp [intOf]; omega
      · have hke : cs.take i = cs := List.take_of_length_le (by have := HCN.out; omega)
        rw [hke] at HO
        have HE2 : Hid (E = 0) := Lib.hid (by rw [HE.out]; exact Cr.caE_yes (fun j hj => HN.out j hj (by have := HCN.out; omega)))
        have HL2 : Hid (L = Cr.caL fS cs) := Lib.hid (by rw [HL.out, HE2.out]; rfl)
        clear hke
        go_wp2_with fail
        go_ret2
        exact ⟨_, by rw [HE2.out]; rfl, by rw [HL2.out]; exact own_base HO.out hb.size, hbw⟩
  · have hve : ve ≠ 0 := by simpa using hx
    have HE1 : Hid (E = ve) := Lib.hid (by rw [HE.out, if_neg hve])
    have HL1 : Hid (L = []) := Lib.hid (by rw [HL.out, if_neg (by rw [HE1.out]; exact hve)])
    clear hve
    go_enter Tryz.func28, Tryz.ntmps28
    go_wp2_with (first
      | (refine wpList_load_blk 29 (.tmp 3) rfl (w.heap.size) rfl (by kernel_rfl) (HB).out Tryz.underlying29 hgi ?_)
      | (go_at_call 59; refine (K1.out _ (H.out.step hb) (Rd.now HR.out hb)).mono ?_; rintro e w2 ⟨rfl, hb9⟩; replace hb := bel hb hb9; clear hb9))
    go_ret2
    exact ⟨_, by rw [HE1.out]; rfl, by rw [HL1.out]; exact World.ownsRow_nil _ _ _ _, hb⟩
end
end Go.Proofs.YthfbpbbepogllaaGreat
/- The walks of either, amount, known, Path and their references. -/
namespace Go.Proofs.YthfbpbbepogllaaGreat
set_option linter.unusedVariables false
set_option linter.unusedSimpArgs false
open Go.RowKit

def BsPost (l : List Acc) (c : Int) (w : World) (e : Ending) (w' : World) : Prop := ∃ i : Int, e = .returned (.tuple #[.int .i64 i, .bool (Ch.fnB l c)]) ∧ Below w.heap.size w w'
theorem cmp_lt {a b : Int} (h : a < b) : decide (cmpV a b < 0) = true := by unfold cmpV; rw [if_pos h]; rfl
theorem cmp_ge {a b : Int} (h : b ≤ a) : decide (cmpV a b < 0) = false := by unfold cmpV; rw [if_neg (by omega)]; split <;> rfl
theorem cmp_zero (a b : Int) : (cmpV a b == 0) = (a == b) := by
  unfold cmpV
  by_cases h : a < b
  · rw [if_pos h]; have : ¬ a = b := by omega
    simp [this]
  · rw [if_neg h]
    by_cases h2 : b < a
    · rw [if_pos h2]; have : ¬ a = b := by omega
      simp [this]
    · rw [if_neg h2]; have : a = b := by omega
      simp [this]
/-- what a search has found out -/
theorem bs_end (l : List Acc) (c : Int) (i : Nat) (ha : ∀ i j (hj : j < l.length) (hij : i < j), (l[i]'(by omega)).code < l[j].code) (hlo : ∀ k (h : k < i) (h2 : k < l.length), (l[k]'h2).code < c)
    (hhi : ∀ k (h : i ≤ k) (h2 : k < l.length), c ≤ (l[k]'h2).code) : Ch.fnB l c = if h : i < l.length then (l[i].code == c) else false := by
  unfold Ch.fnB
  by_cases h : i < l.length
  · rw [dif_pos h]
    by_cases hc : l[i].code = c
    · rw [Ch.find_at l c i h hc (fun j hj => by have := hlo j hj (by omega); omega)]
      simp [hc]
    · rw [Ch.find_none l c (fun j hj e => by
        rcases Nat.lt_trichotomy j i with h1 | h1 | h1
        · have := hlo j h1 hj; omega
        · subst h1; exact hc e
        · have := ha i j hj h1
          have := hhi i (by omega) h
          omega)]
      simp [hc]
  · rw [dif_neg h, Ch.find_none l c (fun j hj e => by have := hlo j (by omega) hj; omega)]
    rfl
theorem ramount_any (n : Int) (w : World) : Calls Tryz.prog 61 #[.int .i64 n] w (fun e w' => e = .returned (.bool (amV n)) ∧ w = w') := by
  have HE : Hid (amV n = (decide (-1000000000000 ≤ n) && decide (n ≤ 1000000000000))) := Lib.hid rfl
  by_cases h1 : -1000000000000 ≤ n
  · by_cases h2 : n ≤ 1000000000000
    all_goals
      go_enter Tryz.func61, Tryz.ntmps61
      go_wp2_with fail
      go_ret
      exact ⟨ret_bool (by rw [HE.out]; simp [h1, h2] <;> omega), rfl⟩
  · go_enter Tryz.func61, Tryz.ntmps61
    go_wp2_with fail
    go_ret
    exact ⟨ret_bool (by rw [HE.out]; simp [h1] <;> omega), rfl⟩
end Go.Proofs.YthfbpbbepogllaaGreat
/- Charts of accounts: paths, what belongs to an account. No program. -/
namespace Go.Proofs.YthfbpbbepogllaaGreat
set_option linter.unusedVariables false
set_option linter.unusedSimpArgs false
open Go.RowKit
namespace Ch
def pathV (l : List Acc) (c : Int) : List Int := if eitherV l = true then pcl l c else []
theorem path_r (l : List Acc) (c : Int) (h : eitherV l = true) : rcl l c = pathV l c := by
  unfold pathV
  rw [if_pos h]
  obtain ⟨g, _, hv⟩ := either_base h
  exact (valid_path hv c).1
theorem path_no (l : List Acc) (c : Int) (h : eitherV l = false) : pathV l c = [] := by unfold pathV; rw [if_neg (by simp [h])]
theorem path_yes (l : List Acc) (c : Int) (h : eitherV l = true) : pathV l c = pcl l c := by unfold pathV; rw [if_pos h]
theorem fnB_none {l : List Acc} {c : Int} (h : fnB l c = false) : find l c = none := by
  unfold fnB at h
  cases hf : find l c with
  | none => rfl
  | some a => rw [hf] at h; cases h
theorem path_un (l : List Acc) (c : Int) (h : fnB l c = false) : pathV l c = [] := by
  unfold pathV
  rw [pcl_none l c (fnB_none h)]
  split <;> rfl
def und (l : List Acc) (c : Int) (m : List Acc) : List Int := (m.filter fun a => decide (c ∈ pcl l a.code)).map Acc.code
def underV (l : List Acc) (c : Int) : List Int := if eitherV l = true then und l c l else []
theorem und_take (l : List Acc) (c : Int) (k : Nat) (h : k < l.length) : und l c (l.take (k + 1)) = if c ∈ pcl l l[k].code then und l c (l.take k) ++ [l[k].code] else und l c (l.take k) := by
  unfold und
  rw [List.take_succ_eq_append_getElem h, List.filter_append]
  by_cases hp : c ∈ pcl l l[k].code
  · simp [hp]
  · simp [hp]
theorem und_len (l : List Acc) (c : Int) (m : List Acc) : (und l c m).length ≤ m.length := by
  unfold und
  rw [List.length_map]
  exact List.length_filter_le _ _
theorem pcl_codes (l : List Acc) (c x : Int) (h : x ∈ pcl l c) : ∃ a, find l x = some a := by
  have := (up_way l (l.length + 1) [] c (way_nil l)).2 x h
  obtain ⟨a, ha, rfl⟩ := List.mem_map.1 this
  exact find_in l a ha
theorem und_un (l : List Acc) (c : Int) (m : List Acc) (h : find l c = none) : und l c m = [] := by
  unfold und
  have : (m.filter fun a => decide (c ∈ pcl l a.code)) = [] := by
    rw [List.filter_eq_nil_iff]
    intro a _
    simp only [decide_eq_true_eq]
    intro hm
    obtain ⟨b, hb⟩ := pcl_codes l _ c hm
    rw [h] at hb
    cases hb
  rw [this]; rfl
theorem under_no (l : List Acc) (c : Int) (h : eitherV l = false) : underV l c = [] := by unfold underV; rw [if_neg (by simp [h])]
theorem under_yes (l : List Acc) (c : Int) (h : eitherV l = true) : underV l c = und l c l := by unfold underV; rw [if_pos h]
theorem under_un (l : List Acc) (c : Int) (h : fnB l c = false) : underV l c = [] := by
  unfold underV
  rw [und_un l c l (fnB_none h)]
  split <;> rfl
theorem underV_len (l : List Acc) (c : Int) : (underV l c).length ≤ l.length := by
  unfold underV
  split
  · exact und_len l c l
  · simp
theorem pathV_len (l : List Acc) (c : Int) : (pathV l c).length ≤ l.length := by
  unfold pathV
  split
  · exact pcl_len l c
  · simp
end Ch
end Go.Proofs.YthfbpbbepogllaaGreat
/- The walks of Path and Under, of both. -/
namespace Go.Proofs.YthfbpbbepogllaaGreat
set_option linter.unusedVariables false
set_option linter.unusedSimpArgs false
open Go.RowKit

theorem rfind_gen (l : List Acc) (c : Int) (A : Option Addr) (cap : Nat) (w : World) (hr : Rd w w.heap.size 4 A l.length (Ch.cells l)) (hn : l.length ≤ 300000) :
    Calls Tryz.prog 126 #[.slice A l.length cap, .int .i64 c] w (fun e w' => e = .returned (.tuple #[.agg #[.int .i64 (Ch.fnV l c).code, .int .i64 (Ch.fnV l c).kind, .int .i64 (Ch.fnV l c).basis, .int .i64 (Ch.fnV l c).parent], .bool (Ch.fnB l c)]) ∧ Below w.heap.size w w') :=
  (rfind_any l c A cap w hr hn).mono (fun _ _ h => h)
theorem nil_ints (base : Nat) (w w' : World) (h : Below w.heap.size w w') (l : List Int) (hl : l = []) : OwnInts base l w (.returned (.slice none 0 0)) w' := ⟨_, rfl, by subst hl; exact World.ownsRow_nil _ _ _ _, h⟩

def IdxPost (w : World) (e : Ending) (w' : World) : Prop := ∃ k : Nat, e = .returned (.int .i64 k) ∧ w = w'
section
variable (l : List Acc) (c : Int) (A : Option Addr) (cap : Nat) (w : World) (hr : Rd w w.heap.size 4 A l.length (Ch.cells l)) (hn : l.length ≤ 300000) (hwf : ∀ a ∈ l, (Lit.int .i64 a.code).wf = true)
include hr hn hwf
omit hwf in
omit hwf in
end
end Go.Proofs.YthfbpbbepogllaaGreat
/- Charts of accounts: balances and their sums. No program. -/
namespace Go.Proofs.YthfbpbbepogllaaGreat
set_option linter.unusedVariables false
set_option linter.unusedSimpArgs false
open Go.RowKit
namespace Ch
def balsV (l : List Acc) (b : List Bal) : Bool := allAt b.length (fun j => fnB l (b.getD j Bal.zero).account && ascAt b j)
theorem bals_eq (l : List Acc) (b : List Bal) : balsV l b = (allAt b.length (fun j => fnB l (b.getD j Bal.zero).account) && ascV b) := allAt_and
theorem bals_asc {l : List Acc} {b : List Bal} (h : balsV l b = true) : ascV b = true := by
  rw [bals_eq] at h
  simp only [Bool.and_eq_true] at h
  exact h.2
theorem bals_found {l : List Acc} {b : List Bal} (h : balsV l b = true) {x : Bal} (hx : x ∈ b) : fnB l x.account = true := by
  obtain ⟨j, hj, rfl⟩ := List.mem_iff_getElem.1 hx
  have := allAt_at h hj
  simp only [Bool.and_eq_true] at this
  rw [Bal.getD_at b j hj] at this
  exact this.1
/-- the sum of the balances whose accounts belong to an account -/
def sumAt (l : List Acc) (m : List Bal) (c : Int) : Int := (m.map fun b => if c ∈ pcl l b.account then b.amount else 0).sum
theorem sumAt_take (l : List Acc) (m : List Bal) (k : Nat) (h : k < m.length) (c : Int) : sumAt l (m.take (k + 1)) c = sumAt l (m.take k) c + if c ∈ pcl l m[k].account then m[k].amount else 0 := by
  unfold sumAt
  rw [List.take_succ_eq_append_getElem h, List.map_append, List.sum_append]
  simp
theorem sumAt_bd (l : List Acc) (m : List Bal) (c : Int) (h : ∀ x ∈ m, amV x.amount = true) : -(1000000000000 * m.length) ≤ sumAt l m c ∧ sumAt l m c ≤ 1000000000000 * m.length := by
  induction m with
  | nil => simp [sumAt]
  | cons x m ih =>
    have h1 := ih (fun y hy => h y (by simp [hy]))
    have h2 := amV_is (h x (by simp))
    have : sumAt l (x :: m) c = (if c ∈ pcl l x.account then x.amount else 0) + sumAt l m c := by simp [sumAt]
    rw [this]
    simp only [List.length_cons]
    split <;> omega
/-- .. a part of one more balance -/
def sumPart (l : List Acc) (m : List Bal) (x : Bal) (p : List Int) (c : Int) : Int := sumAt l m c + if c ∈ p then x.amount else 0
theorem sumPart_nil (l : List Acc) (m : List Bal) (x : Bal) : sumPart l m x [] = sumAt l m := by
  funext c
  simp [sumPart]
theorem sumPart_all (l : List Acc) (m : List Bal) (k : Nat) (h : k < m.length) : sumPart l (m.take k) m[k] (pcl l m[k].account) = sumAt l (m.take (k + 1)) := by
  funext c
  rw [sumAt_take l m k h]
  rfl
theorem sumPart_at (l : List Acc) (m : List Bal) (x : Bal) (p : List Int) (j : Nat) (hj : j < p.length) (hd : p.Nodup) : sumPart l m x (p.take j) p[j] = sumAt l m p[j] := by
  unfold sumPart
  rw [if_neg]
  · omega
  · intro h
    obtain ⟨i, hi, e⟩ := List.mem_iff_getElem.1 h
    simp only [List.length_take] at hi
    rw [List.getElem_take] at e
    exact List.pairwise_iff_getElem.1 hd i j (by omega) hj (by omega) e
theorem mem_take_succ (p : List Int) (j : Nat) (hj : j < p.length) (d : Int) : d ∈ p.take (j + 1) ↔ d ∈ p.take j ∨ d = p[j] := by
  rw [List.take_succ_eq_append_getElem hj, List.mem_append, List.mem_singleton]
theorem sumPart_step (l : List Acc) (m : List Bal) (x : Bal) (p : List Int) (j : Nat) (hj : j < p.length) (hd : p.Nodup) :
    (fun d => if d = p[j] then sumPart l m x (p.take j) p[j] + x.amount else sumPart l m x (p.take j) d) = sumPart l m x (p.take (j + 1)) := by
  funext d
  rw [sumPart_at l m x p j hj hd]
  unfold sumPart
  by_cases h : d = p[j]
  · rw [if_pos h, if_pos ((mem_take_succ p j hj d).2 (.inr h)), h]
  · rw [if_neg h]
    by_cases h2 : d ∈ p.take j
    · rw [if_pos h2, if_pos ((mem_take_succ p j hj d).2 (.inl h2))]
    · rw [if_neg h2, if_neg (fun h3 => by rcases (mem_take_succ p j hj d).1 h3 with h4 | h4 <;> contradiction)]
theorem sumPart_bd (l : List Acc) (m : List Bal) (x : Bal) (p : List Int) (c : Int) (h : ∀ x ∈ m, amV x.amount = true) (hx : amV x.amount = true) : -(1000000000000 * (m.length + 1)) ≤ sumPart l m x p c ∧ sumPart l m x p c ≤ 1000000000000 * (m.length + 1) := by
  have h1 := sumAt_bd l m c h
  have h2 := amV_is hx
  unfold sumPart
  split <;> omega
/-- the rolled balances of some accounts -/
def rollL (l : List Acc) (b : List Bal) (m : List Acc) : List Bal := (m.filter fun a => sumAt l b a.code != 0).map fun a => ⟨a.code, sumAt l b a.code⟩
def rollOk (l : List Acc) (b : List Bal) : Bool := allAt l.length (fun j => amV (sumAt l b (l.getD j zero).code))
def rollE (l : List Acc) (b : List Bal) : Int := if eitherV l && balsV l b then (if rollOk l b then 0 else 2) else 1
def rollV (l : List Acc) (b : List Bal) : List Bal := if eitherV l && balsV l b then (if rollOk l b then rollL l b l else []) else []
theorem rollL_take (l : List Acc) (b : List Bal) (m : List Acc) (k : Nat) (h : k < m.length) : rollL l b (m.take (k + 1)) = if sumAt l b m[k].code = 0 then rollL l b (m.take k) else rollL l b (m.take k) ++ [⟨m[k].code, sumAt l b m[k].code⟩] := by
  unfold rollL
  rw [List.take_succ_eq_append_getElem h, List.filter_append]
  by_cases hp : sumAt l b m[k].code = 0
  · simp [hp]
  · simp [hp]
theorem rollL_len (l : List Acc) (b : List Bal) (m : List Acc) : (rollL l b m).length ≤ m.length := by
  unfold rollL
  rw [List.length_map]
  exact List.length_filter_le _ _
theorem roll_arg {l : List Acc} {b : List Bal} (h : eitherV l = false ∨ balsV l b = false) : rollE l b = 1 ∧ rollV l b = [] := by
  unfold rollE rollV
  rcases h with h | h <;> simp [h]
theorem roll_range {l : List Acc} {b : List Bal} (h1 : eitherV l = true) (h2 : balsV l b = true) {k : Nat} (hk : k < l.length) (h : amV (sumAt l b l[k].code) = false) : rollE l b = 2 ∧ rollV l b = [] := by
  have : rollOk l b = false := allAt_no hk (by rw [getD_at l k hk]; exact h)
  unfold rollE rollV
  simp [h1, h2, this]
theorem roll_fine {l : List Acc} {b : List Bal} (h1 : eitherV l = true) (h2 : balsV l b = true) (h : ∀ j (hj : j < l.length), amV (sumAt l b l[j].code) = true) : rollE l b = 0 ∧ rollV l b = rollL l b l := by
  have : rollOk l b = true := allAt_yes fun j hj => by rw [getD_at l j hj]; exact h j hj
  unfold rollE rollV
  simp [h1, h2, this]
theorem rollV_len (l : List Acc) (b : List Bal) : (rollV l b).length ≤ l.length := by
  unfold rollV
  split
  · split
    · exact rollL_len l b l
    · simp
  · simp
end Ch
end Go.Proofs.YthfbpbbepogllaaGreat
/- The walks of balances, Ascending, Balances. -/
namespace Go.Proofs.YthfbpbbepogllaaGreat
set_option linter.unusedVariables false
set_option linter.unusedSimpArgs false
open Go.RowKit

end Go.Proofs.YthfbpbbepogllaaGreat
/- The walk of Roll. -/
namespace Go.Proofs.YthfbpbbepogllaaGreat
set_option linter.unusedVariables false
set_option linter.unusedSimpArgs false
open Go.RowKit

theorem bal_info : (Tryz.prog.info? 126).map (fun i => (i.zero, i.size, i.bytes)) = some (some (.agg #[.int .i64 0, .int .i64 0]), 2, 16) := by kernel_rfl
def RollPost (base : Nat) (L : List Bal) (E : Int) (w : World) (e : Ending) (w' : World) : Prop :=
  ∃ v, e = .returned (.tuple #[v, .int .i64 E]) ∧ w'.ownsRow base 126 2 v L.length (cellsOf Bal.cells L) ∧ Below w.heap.size w w'
theorem roll_nil (base : Nat) (L : List Bal) (E x : Int) (w w' : World) (h : Below w.heap.size w w') (hL : x = E ∧ L = []) : RollPost base L E w (.returned (.tuple #[.slice none 0 0, .int .i64 x])) w' := by
  obtain ⟨rfl, rfl⟩ := hL
  exact ⟨_, rfl, World.ownsRow_nil _ _ _ _, h⟩
theorem SumW.blk_ne {P : Program} {k e : TypeId} {w : World} {b n : Nat} {f : Int → Int} {g : Nat} {E : TypeId} {cs : Array Value} (h : SumW P k e w b n f) (hr : Blk w g E cs) : b ≠ g := by
  obtain ⟨D, ⟨es, cl, hb, _⟩, _⟩ := h
  rintro rfl
  unfold Blk at hr
  rw [hb] at hr
  simp at hr
theorem sum_start (l : List Acc) (b : List Bal) : Ch.sumAt l (b.take 0) = fun _ => 0 := by
  funext c
  simp [Ch.sumAt]

end Go.Proofs.YthfbpbbepogllaaGreat
/- The walk of the reference's Roll. -/
namespace Go.Proofs.YthfbpbbepogllaaGreat
set_option linter.unusedVariables false
set_option linter.unusedSimpArgs false
open Go.RowKit

theorem rclimb_p (l : List Acc) (c : Int) (A : Option Addr) (cap : Nat) (w : World) (hr : Rd w w.heap.size 4 A l.length (Ch.cells l)) (hn : l.length ≤ 300000) (h : Ch.eitherV l = true) :
    Calls Tryz.prog 128 #[.slice A l.length cap, .int .i64 c] w (OwnInts w.heap.size (Ch.pcl l c) w) := by
  rw [← Ch.path_yes l c h, ← Ch.path_r l c h]
  exact rclimb_any l c A cap w hr hn
end Go.Proofs.YthfbpbbepogllaaGreat
