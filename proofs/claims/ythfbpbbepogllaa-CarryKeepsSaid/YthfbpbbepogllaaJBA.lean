/- Texts of this claim, put together. -/
import Derived.Test.YthfbpbbepogllaaJAZ
import Derived.Test.YthfbpbbepogllaaJAR
import Derived.Test.YthfbpbbepogllaaJAX
import Derived.Test.YthfbpbbepogllaaJAY
/- Pairs of a seller and a buyer as keys. -/
namespace Go.Proofs.Ythfbpbbepogllaa
set_option linter.unusedVariables false
set_option linter.unusedSimpArgs false
open Go.RowKit
open Go.Maps (Keyed)
open Go.WideMaps (KeyLaw)

theorem law_pair : KeyLaw Try.prog 83 := deep_law_laid (by kernel_rfl) (m := 3) (by decide) (of_decide_eq_true (by kernel_rfl)) (by kernel_rfl) (by kernel_rfl)
theorem keyed_pair : Keyed Try.prog 83 := Keyed.of_law law_pair
def pairV (a b : Int) : Value := .agg #[.int .i64 a, .int .i64 b]
theorem pair_inj {a b c d : Int} (h : pairV a b = pairV c d) : a = c ∧ b = d := by unfold pairV at h; simpa using h
theorem pair_key {a b : Int} (ha : (Lit.int .i64 a).wf = true) (hb : (Lit.int .i64 b).wf = true) : ∃ l, keyOf Try.prog 83 (pairV a b) = some l := by
  have h1 : (Try.prog).keyType 83 = true := by kernel_rfl
  have h2 : (Try.prog).cellsOf 83 = 2 := by kernel_rfl
  have h3 : (Try.prog).cellsOf 3 = 1 := by kernel_rfl
  unfold keyOf pairV
  rw [Try.underlying83]
  simp only [h1, Value.formed, Try.underlying83, h2, Bool.true_and]
  unfold Program.keyLits
  rw [Try.underlying83]
  simp [h2, h3, Value.cells, show List.range 2 = [0, 1] from rfl, int_lits _ _ ha, int_lits _ _ hb]
open Classical in
/-- what the sums in the map say of a key -/
noncomputable def Iv.says (q : Int) (l : List StkR) (v : Value) : Int := ((l.filter fun x => x.period == q && decide (pairV x.seller x.buyer = v)).map Iv.one).sum
theorem iv_says (q a b : Int) (l : List StkR) : Iv.says q l (pairV a b) = Iv.sum a b q l := by
  unfold Iv.says Iv.sum
  congr 2
  apply List.filter_congr
  intro x _
  unfold Iv.hit
  congr 1
  rw [Bool.eq_iff_iff]
  simp only [decide_eq_true_eq, Bool.and_eq_true, beq_iff_eq]
  exact ⟨fun h => pair_inj h, fun h => by rw [h.1, h.2]⟩
theorem iv_says_nil (q : Int) (v : Value) : Iv.says q [] v = 0 := rfl
open Classical in
theorem iv_says_take (q : Int) (l : List StkR) (k : Nat) (hk : k < l.length) (v : Value) (h : ¬ (l[k].period = q ∧ pairV l[k].seller l[k].buyer = v)) : Iv.says q (l.take (k + 1)) v = Iv.says q (l.take k) v := by
  unfold Iv.says
  rw [List.take_add_one, List.getElem?_eq_getElem hk, Option.toList_some, List.filter_append, List.map_append, List.sum_append]
  have : (l[k].period == q && decide (pairV l[k].seller l[k].buyer = v)) = false := by
    rw [Bool.eq_false_iff]
    intro h2
    simp only [decide_eq_true_eq, Bool.and_eq_true, beq_iff_eq] at h2
    exact h h2
  simp [List.filter, this]
end Go.Proofs.Ythfbpbbepogllaa
/- 'm[k] += x' upon sums in a map of the call's own. Over any program. -/
namespace Go.Proofs.Ythfbpbbepogllaa
set_option linter.unusedVariables false
set_option linter.unusedSimpArgs false
open Go.RowKit Go.WideElems
open Go.Maps (Keyed)
open Go.WideMaps (KeyLaw)
open Go.ChangeMaps (setBlock heap_setBlock_same heap_setBlock_other)

section
variable {P : Program} {k e t : TypeId} {w : World} {b n : Nat} {f g : Value → Int}
/-- a map of the call's own that grows leaves what lies below -/
theorem below_grown {B : Nat} {w0 w w' : World} (h : Below B w0 w) (hb : B ≤ b) (hl : b < w.heap.size) (hg : w.grownBy w' (some b)) : Below B w0 w' :=
  ⟨hg.os.trans h.os, hg.tape.trans h.tape, hg.output.trans h.output, Nat.le_trans h.size hg.size, fun i hi => (hg.block i (by omega) (by simp; omega)).trans (h.block i hi)⟩
/-- the entry, and the store that waits for it -/
theorem KSum.entry (K : KeyLaw P k) (hK : Keyed P k) (he : P.underlying e = some (.int .i64)) (ht : P.underlying t = some (.map k e)) (hz : ∀ u : World, (zeroValue e).run P u = .ok (.int .i64 0) u) (h : KSum P k e w b n f) (hn : n < maxLen)
    {v : Value} {l : Lit} (hl : keyOf P k v = some l) {x : Int} (hx : (Lit.int .i64 x).wf = true) (hg : g v = x) (hgo : ∀ u lu, keyOf P k u = some lu → u ≠ v → g u = f u) :
    ∃ (v0 : Value) (st : Nat) (wX : World), (Instr.mapEntry t (.map (some b)) v).run P w = .ok (.tuple #[v0, goInt st]) wX ∧ w.grownBy wX (some b) ∧ KSum P k e wX b (n + 1) f ∧
      ∀ w2 : World, w2.heap = wX.heap → ∃ w3, (Instr.entryStore t (.map (some b)) (goInt st) (.int .i64 x)).run P w2 = .ok () w3 ∧ KSum P k e w3 b (n + 1) g ∧ w2.grownBy w3 (some b) := by
  obtain ⟨D, hO, hM, hD⟩ := h
  obtain ⟨es, cl, hb, F, hsz, hDD⟩ := id hO
  obtain ⟨v0, st, es1, cl1, hE, hor, hS⟩ := entry_then_store K ht hz hb F hl
  obtain ⟨v1, st1, wX, u1, u2, u3⟩ := entry_update K ht hz hb F hl
  have hS0 : KSum P k e w b n f := ⟨D, hO, hM, hD⟩
  obtain ⟨l1, l2⟩ := hS0.look hK he ht (hz w) hl
  rw [l1] at u3
  injection u3 with u3 _
  subst u3
  have pl : ∀ y : Int, (Lit.int .i64 y).wf = true → plainElem (H := Unit) P e (.int .i64 y) = some (.lit (.int .i64 y), []) := fun y hy => by simp [plainElem, he, hy]
  obtain ⟨wY, y1, y2, y3⟩ := hO.update hK ht hn hl (pl _ l2)
  rw [u2] at y1
  injection y1 with _ y1
  subst y1
  refine ⟨_, st1, wX, u1, y3, KSum.put hK hM hD hl rfl (fun _ _ _ _ => rfl) y2, fun w2 hw2 => ?_⟩
  rw [hE] at u1
  injection u1 with u4 u5
  have hst : st = st1 := by
    have := u4
    simp [goInt] at this
    omega
  subst hst
  have hX : wX.heap[b]? = some (.map es1 cl1) := by rw [← u5]; exact heap_setBlock_same hb _
  have h2 : w2.heap[b]? = some (.map es1 cl1) := by rw [hw2]; exact hX
  obtain ⟨es', cl', r1, r2⟩ := hS w2 (.int .i64 x) h2
  refine ⟨_, r1, ?_, ⟨rfl, rfl, rfl, by simp [setBlock], fun i _ hne => heap_setBlock_other h2 _ (fun e => hne (by rw [e]))⟩⟩
  obtain ⟨wZ, z1, z2, z3⟩ := hO.update hK ht hn hl (pl _ hx)
  rw [r2] at z1
  injection z1 with _ z1
  have hZ : KSum P k e wZ b (n + 1) g := KSum.put hK hM hD hl hg hgo z2
  refine hZ.same ?_
  rw [← z1]
  exact (heap_setBlock_same h2 _).trans (heap_setBlock_same hb _).symm
end
end Go.Proofs.Ythfbpbbepogllaa
/- The walk of inventory's profits. -/
namespace Go.Proofs.Ythfbpbbepogllaa
set_option linter.unusedVariables false
set_option linter.unusedSimpArgs false
open Go.RowKit

section
variable (p : Int) (w : World)
/-- the map of the sums -/
def SumPost (q : Int) (l : List StkR) (w : World) (e : Ending) (w' : World) : Prop :=
  ∃ g, e = .returned (.map (some g)) ∧ KSum Try.prog 83 3 w' g l.length (Iv.says q l) ∧ w.heap.size ≤ g ∧ Below w.heap.size w w'
set_option maxRecDepth 100000 in
set_option maxHeartbeats 8000000 in
theorem iprofits_any (l : List StkR) (A : Option Addr) (lc : Nat) (q : Int) (n : Nat) (hS : SIn w l A) (hok : l.all (Iv.ok p n) = true) (hn : l.length ≤ 200) (hnn : n ≤ 1000) :
    Calls Try.prog 18 #[.slice A l.length lc, .int .i64 q] w (SumPost q l w) := by
  unfold SumPost
  have HS := Lib.hid hS
  have HOK := Lib.hid hok
  have hb0 : Below w.heap.size w (w.alloc (.map #[] 0)) := (Below.refl _ _).alloc (Nat.le_refl _) _
  have HK0 := Lib.hid (KSum.made (P := Try.prog) (k := 83) (e := 3) w)
  clear hS hok
  have hmm := @run_makeMap Try.prog
  go_enter Try.func18, Try.ntmps18
  go_wp2_with fail
  generalize w.alloc (.map #[] 0) = W0 at *
  go_loopw [13] (fun t wr => ∃ k : Nat, k ≤ l.length ∧ t = .int .i64 k ∧ KSum Try.prog 83 3 wr w.heap.size k (Iv.says q (l.take k)) ∧ Below w.heap.size w wr) (fun t _ => l.length - (intOf t).toNat)
  case atStart => exact ⟨0, by omega, rfl, HK0.out, hb0⟩
  case round =>
    clear hb0 HK0
    obtain ⟨k, hk, rfl, hK, hb⟩ := hrel
    have HK := Lib.hid hK
    have hgl := hK.lt
    clear hK
    by_cases hlt : k < l.length
    · obtain ⟨b0, o, hA, hbo, f0, f1, f2, f3, f4⟩ := StkR.at_ (Rd.now HS.out.rd hb) hlt
      subst hA
      have hox : Iv.ok p n l[k] = true := List.all_eq_true.1 HOK.out _ (List.getElem_mem hlt)
      obtain ⟨m0, m1⟩ := iv_mul hox
      have KR := Lib.hid (fun W => rnd_any (l[k].amount * l[k].margin) W m0 (by omega))
      have HST := Lib.hid (iv_says_take q l k hlt)
      have HSUM0 : Hid (l[k].period = q → Iv.says q (l.take (k + 1)) (pairV l[k].seller l[k].buyer) = Iv.says q (l.take k) (pairV l[k].seller l[k].buyer) + rndV (l[k].amount * l[k].margin)) := Lib.hid (fun he => by
        rw [iv_says, iv_says, iv_sum_take _ _ _ l k hlt, if_pos (by unfold Iv.hit; simp [he])]
        rfl)
      have HSV : Hid (0 ≤ Iv.says q (l.take k) (pairV l[k].seller l[k].buyer) ∧ Iv.says q (l.take k) (pairV l[k].seller l[k].buyer) ≤ 200000000000000) := Lib.hid (by
        rw [iv_says]
        have h1 := iv_sum_in (p := p) (n := n) l[k].seller l[k].buyer q (l.take k) (List.all_eq_true.2 fun x hx => List.all_eq_true.1 HOK.out x (List.mem_of_mem_take hx))
        have h2 : (l.take k).length ≤ 200 := by rw [List.length_take]; omega
        omega)
      have HRV : Hid (0 ≤ rndV (l[k].amount * l[k].margin) ∧ rndV (l[k].amount * l[k].margin) ≤ 1000000000000) := Lib.hid (iv_one hox)
      have HWS : Hid ((Lit.int .i64 l[k].seller).wf = true ∧ (Lit.int .i64 l[k].buyer).wf = true) := Lib.hid (by
        obtain ⟨_, _, h1, h2, _⟩ := iv_ok.1 hox
        have h3 := iv_ent.1 h1
        have h4 := iv_ent.1 h2
        exact ⟨wf64 (by omega) (by omega), wf64 (by omega) (by omega)⟩)
      clear hox
      generalize hxx : l[k] = x at *
      have HXX := Lib.hid hxx
      clear hxx
      obtain ⟨e, xs, xb, am, mg⟩ := x
      dsimp only at *
      unfold RndPost at KR
      generalize rndV (am * mg) = r at *
      have hbn := hb.alloc hb.size (.cells #[.int .i64 e, .int .i64 xs, .int .i64 xb, .int .i64 am, .int .i64 mg] 42)
      have HKn := Lib.hid (HK.out.alloc (.cells #[.int .i64 e, .int .i64 xs, .int .i64 xb, .int .i64 am, .int .i64 mg] 42))
      have HBn := Lib.hid (Blk.new wr 42 #[.int .i64 e, .int .i64 xs, .int .i64 xb, .int .i64 am, .int .i64 mg])
      cases c1 : (e == q)
      · have hne : e ≠ q := by simpa using c1
        have HE : Hid (Iv.says q (l.take (k + 1)) = Iv.says q (l.take k)) := Lib.hid (funext fun v => HST.out v (fun h => hne h.1))
        clear hne
        go_wp2_with fail
        go_roundw
        case rel => exact ⟨k + 1, by omega, by go_num, by rw [HE.out]; exact HKn.out.more (by omega), hbn⟩
        case measure => simp [intOf]; omega
      · have hm : IntKind.i64.wrap (am * mg) = am * mg := IntWalk.i64_in _ (by omega)
        go_wp2_with (go_at_call 37; refine (KR.out _).mono ?_; rintro en w3 ⟨rfl, hb9⟩; have hb3 := bel hbn hb9; have HK3 := Lib.hid (HKn.out.step hb9); have HB3 := Lib.hid (HBn.out.step hb9); clear hb9)
        have hne : some wr.heap.size ≠ some w.heap.size := by intro e1; injection e1 with e1; omega
        have p1 : ∀ d : LaterS (fun w' => w3.grownBy w' (some w.heap.size) ∧ KSum Try.prog 83 3 w' w.heap.size (k + 1) (Iv.says q (l.take k))), d.now.cell? ⟨wr.heap.size, 1, none⟩ = some (.int .i64 xs) := fun d => (HB3.out.grown d.is.1 hne).cell 1
        have p2 : ∀ d : LaterS (fun w' => w3.grownBy w' (some w.heap.size) ∧ KSum Try.prog 83 3 w' w.heap.size (k + 1) (Iv.says q (l.take k))), d.now.cell? ⟨wr.heap.size, 2, none⟩ = some (.int .i64 xb) := fun d => (HB3.out.grown d.is.1 hne).cell 2
        refine relS_begin (n := 12) (fun w' => w3.grownBy w' (some w.heap.size) ∧ KSum Try.prog 83 3 w' w.heap.size (k + 1) (Iv.says q (l.take k))) 11 (by kernel_rfl) rfl ?_
        have hC : ∃ d : LaterS (fun w' => w3.grownBy w' (some w.heap.size) ∧ KSum Try.prog 83 3 w' w.heap.size (k + 1) (Iv.says q (l.take k))), w3.drew = d.now := LaterS.of ⟨(grown_below (Below.refl _ w3).drew _), (HK3.out.step (Below.refl _ w3).drew).more (by omega)⟩
        haveI : Nonempty (LaterS (fun w' => w3.grownBy w' (some w.heap.size) ∧ KSum Try.prog 83 3 w' w.heap.size (k + 1) (Iv.says q (l.take k)))) := by obtain ⟨d, _⟩ := hC; exact ⟨d⟩
        have hkey := pair_key (a := xs) (b := xb) HWS.out.1 HWS.out.2
        have HSUM : Hid (Iv.says q (l.take (k + 1)) (pairV xs xb) = Iv.says q (l.take k) (pairV xs xb) + r) := Lib.hid (HSUM0.out (by simpa using c1))
        have hsv0 := HSV.out.1
        have hsv1 := HSV.out.2
        have hr0 := HRV.out.1
        have hr1 := HRV.out.2
        obtain ⟨kl, hkl⟩ := hkey
        have hL6 : ∀ d : LaterS (fun w' => w3.grownBy w' (some w.heap.size) ∧ KSum Try.prog 83 3 w' w.heap.size (k + 1) (Iv.says q (l.take k))), (Instr.lookup 81 (.map (some w.heap.size)) (.agg #[.int .i64 xs, .int .i64 xb]) false).run Try.prog d.now = .ok (.int .i64 (Iv.says q (l.take k) (pairV xs xb))) d.now := fun d => (d.is.2.look keyed_pair Try.underlying3 Try.underlying81 (zero_int _) hkl).1
        generalize hsv : Iv.says q (l.take k) (pairV xs xb) = sv at *
        have hw6 : IntKind.i64.wrap (sv + r) = sv + r := IntWalk.i64_in _ (by omega)
        refine relS_want (i := 0) rfl rfl (by kernel_rfl) (by kernel_rfl) (by kernel_rfl) rfl rfl (by kernel_rfl) (by kernel_rfl) (fun _ _ _ _ h => h) hC ?_
        intro K hK
        go_big_quiet_op
        go_big_quiet_on
        refine relS_want (i := 1) rfl rfl (by kernel_rfl) (by kernel_rfl) (by kernel_rfl) rfl rfl (by kernel_rfl) (by kernel_rfl) (fun _ _ _ _ h => h) hC ?_
        intro K hK
        go_big_quiet_op
        go_big_quiet_on
        refine relS_want (i := 2) rfl rfl (by kernel_rfl) (by kernel_rfl) (by kernel_rfl) rfl rfl (by kernel_rfl) (by kernel_rfl) (fun _ _ _ _ h => h) hC ?_
        intro K hK
        go_big_quiet_op
        go_big_quiet_on
        refine relS_want (i := 3) rfl rfl (by kernel_rfl) (by kernel_rfl) (by kernel_rfl) rfl rfl (by kernel_rfl) (by kernel_rfl) (fun _ _ _ _ h => h) hC ?_
        intro K hK
        go_big_quiet_op
        go_big_quiet_on
        refine relS_want (i := 4) rfl rfl (by kernel_rfl) (by kernel_rfl) (by kernel_rfl) rfl rfl (by kernel_rfl) (by kernel_rfl) (fun _ _ _ _ h => h) hC ?_
        intro K hK
        go_big_quiet_op
        go_big_quiet_on
        refine relS_want (i := 5) rfl rfl (by kernel_rfl) (by kernel_rfl) (by kernel_rfl) rfl rfl (by kernel_rfl) (by kernel_rfl) (fun _ _ _ _ h => h) hC ?_
        intro K hK
        go_big_quiet_op
        go_big_quiet_on
        refine relS_want (i := 7) rfl rfl (by kernel_rfl) (by kernel_rfl) (by kernel_rfl) rfl rfl (by kernel_rfl) (by kernel_rfl) (fun _ _ _ _ h => h) hC ?_
        intro K hK
        go_big_quiet_op
        go_big_quiet_on
        refine relS_want (i := 6) rfl rfl (by kernel_rfl) (by kernel_rfl) (by kernel_rfl) rfl rfl (by kernel_rfl) (by kernel_rfl) (fun _ _ _ _ h => h) hC ?_
        intro K hK
        go_big_quiet_op
        go_big_quiet_on
        refine relS_want (i := 8) rfl rfl (by kernel_rfl) (by kernel_rfl) (by kernel_rfl) rfl rfl (by kernel_rfl) (by kernel_rfl) (fun _ _ _ _ h => h) hC ?_
        intro K hK
        go_big_quiet_op
        go_big_quiet_on
        clear p1 p2 hL6
        obtain ⟨v0, st, wX, e1, e2, e3, e4⟩ := KSum.entry law_pair keyed_pair Try.underlying3 Try.underlying81 zero_int (HK3.out.step (Below.refl _ w3).drew) (by unfold maxLen; omega) hkl (x := sv + r) (g := Iv.says q (l.take (k + 1))) (wf64 (by omega) (by omega)) HSUM.out (fun u lu _ hne => HST.out u (fun h => hne h.2.symm))
        obtain ⟨w9, f1, f2, f3⟩ := e4 wX rfl
        have hbe := below_grown hb3 (Nat.le_refl _) HK3.out.lt (((grown_below (Below.refl _ w3).drew _).trans e2).trans f3)
        clear f3
        have F2 := Lib.hid f2
        have E3 := Lib.hid e3
        clear e4 f2 e3
        unfold pairV at e1
        have hSX := LaterS.of (S := fun w' => w3.grownBy w' (some w.heap.size) ∧ KSum Try.prog 83 3 w' w.heap.size (k + 1) (Iv.says q (l.take k))) ⟨(grown_below (Below.refl _ w3).drew _).trans e2, E3.out⟩
        unfold goInt at e1 f1
        refine relS_call (i := 9) (by kernel_rfl) rfl rfl ?_
        intro K hK
        go_simp
        refine hK _ _ (.inr (.inr hSX)) ?_
        clear hK K e1
        try simp only [Act.put, List.setIfInBounds_toArray, List.set_cons_zero, List.set_cons_succ]
        refine relS_call (i := 10) (by kernel_rfl) rfl rfl ?_
        intro K hK
        go_simp
        refine hK _ _ (.inr (.inr hSX)) ?_
        clear hK K
        try simp only [Act.put, List.setIfInBounds_toArray, List.set_cons_zero, List.set_cons_succ]
        refine relS_call (i := 11) (by kernel_rfl) rfl rfl ?_
        intro K hK
        go_simp
        refine hK _ _ (.inr (.inl rfl)) ?_
        clear hK K
        try simp only [Act.put, List.setIfInBounds_toArray, List.set_cons_zero, List.set_cons_succ]
        refine wpAnyT_done (by kernel_rfl) ?_ _
        go_wp2_with fail
        go_roundw
        case rel => exact ⟨k + 1, by omega, by go_num, F2.out, hbe⟩
        case measure => simp [intOf]; omega
    · have hke : l.take k = l := List.take_of_length_le (by omega)
      rw [hke] at HK
      clear hke
      go_wp2_with fail
      go_ret
      exact ⟨w.heap.size, rfl, HK.out.more hk, Nat.le_refl _, hb⟩
end
end Go.Proofs.Ythfbpbbepogllaa
