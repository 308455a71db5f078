/- Texts of this claim, put together. -/
import Derived.Test.YtnddoehhcpejjaaGreatJAV
import Derived.Test.YtnddoehhcpejjaaGreatJAT
import Derived.Test.YtnddoehhcpejjaaGreatJAS
import Derived.Deep.DeepCutAuto
import Derived.BigRegion
/- LibW's region: an operation that yields the same in every world is taken first, whether the tail store waits for it or not. Over any program. -/
namespace Go.Proofs.YtnddoehhcpejjaaGreat
set_option linter.unusedVariables false
set_option linter.unusedSimpArgs false
open Go.RowKit

section
variable {P : Program} {ops : Array Oper} {Q : Exit → Act → World → Prop} {S : World → Prop}
theorem wpAnyT_first2 {t i : Nat} {oi : Oper} {v : Value} (hit : i ≠ t) (hi : ops[i]? = some oi) (hsel : ∀ (j : Nat) (o : Oper) cs b, ops[j]? = some o → o.op ≠ .select cs b)
    (hQ : ∀ c a w, Q (.panic c) (a.put oi.dst v) w → Q (.panic c) a w) :
    ∀ (fuel : Nat) (listed : Array Bool) (a : Act) (w : World),
      (∀ j oj, ops[j]? = some oj → j ≠ i → listed.getD j true = false → (∀ e ∈ oj.after, Region.binds .any e = true → e.on ≠ i) → oi.apart ops oj = true) →
      i ∈ Region.ready .any ops listed → YieldsIf P ops (fun _ => True) oi v a → (listed.getD t false = true ∨ S w) →
      wpAnyT P ops Q S t fuel (listed.setIfInBounds i true) (a.put oi.dst v) w → wpAnyT P ops Q S t (fuel + 1) listed a w := by
  intro fuel
  induction fuel with
  | zero =>
    intro listed a w _ hr hy hS H
    refine ⟨fun h => (by rw [h] at hr; cases hr), fun j hj => ?_⟩
    by_cases hji : j = i
    · subst hji
      refine hy.wpOp hi trivial ⟨?_, H⟩
      rcases hS with h | h
      · exact .inl h
      · exact .inr (.inr h)
    · have := ready_mono hj hji
      rw [H.1] at this
      cases this
  | succ fuel ih =>
    intro listed a w hfree hr hy hS H
    refine ⟨fun h => (by rw [h] at hr; cases hr), fun j hj => ?_⟩
    by_cases hji : j = i
    · subst hji
      refine hy.wpOp hi trivial ⟨?_, H⟩
      rcases hS with h | h
      · exact .inl h
      · exact .inr (.inr h)
    · have h1 := H.2 j (ready_mono hj hji)
      obtain ⟨hjun, oj, hoj, hall⟩ := mem_ready.1 hj
      have hnot : ∀ e ∈ oj.after, Region.binds .any e = true → e.on ≠ i := fun e he hb heq => by
        have h1 := hall e he hb
        have h0 := (mem_ready.1 hr).1
        rw [heq] at h1
        rcases Nat.lt_or_ge i listed.size with h' | h'
        · simp [h'] at h0 h1; rw [h0] at h1; cases h1
        · simp [Array.getElem?_eq_none h'] at h1
      have h2 := wpOp_putIf hoj (hfree j oj hoj hji hjun hnot) (fun cs b => hsel i oi cs b hi) (fun cs b => hsel j oj cs b hoj) hQ hy h1
      have hfree' : ∀ k ok, ops[k]? = some ok → k ≠ i → (listed.setIfInBounds j true).getD k true = false →
          (∀ e ∈ ok.after, Region.binds .any e = true → e.on ≠ i) → oi.apart ops ok = true := fun k ok hk hki hun hno => by
        refine hfree k ok hk hki ?_ hno
        by_cases hjk : j = k
        · subst hjk; exact hjun
        · rw [getD_set_ne true hjk] at hun; exact hun
      refine wpOp_mono (fun a' w' h3 => ?_) h2
      have hlt : j < listed.size := by
        rcases Nat.lt_or_ge j listed.size with h' | h'
        · exact h'
        · simp [Array.getElem?_eq_none h'] at hjun
      have hS' : (listed.setIfInBounds j true).getD t false = true ∨ S w' := by
        rcases h3.2.1 with h | h | h
        · rw [getD_false_ne hit] at h
          exact .inl (getD_set_true h)
        · subst h
          exact .inl (by simp [hlt])
        · exact .inr h
      refine ⟨?_, ih (listed.setIfInBounds j true) a' w' hfree' (ready_mono hr (Ne.symm hji)) h3.1 hS' ?_⟩
      · rcases h3.2.1 with h | h | h
        · rw [getD_false_ne hit] at h; exact .inl h
        · exact .inr (.inl h)
        · exact .inr (.inr h)
      rw [Array.setIfInBounds_comm _ _ hji]
      exact h3.2.2
end
def AnyW : World → Prop := fun _ => True
instance instAnyW : Nonempty (LaterS AnyW) := ⟨⟨default, trivial⟩⟩
section
variable {P : Program} {ops : Array Oper} {Q : Exit → Act → World → Prop} {t : Nat} {S : World → Prop} {w : World} {i fuel : Nat} {o : Oper} {a : Act} {listed : Array Bool}
theorem relT_pure {rest : List Oper} (hl : ops.toList.drop i = o :: rest) (hp : plainB o.op = true) (hs : Region.noSelect ops = true) (hf : Region.free .any ops listed i = true) (hr : (Region.ready .any ops listed).contains i = true)
    (hw : Region.wanted o (yielded ops a.tmps) = true) (hit : decide (i ≠ t) = true) (hQ : ∀ c a v w, Q (.panic c) (Act.put a o.dst v) w → Q (.panic c) a w) (hS : listed.getD t false = true ∨ S w)
    (h : ∀ K : Act → Prop, (∀ a', wpAnyT P ops Q S t fuel (listed.setIfInBounds i true) a' w → K a') → o.quiet P a (fun w' => ∃ d : LaterS AnyW, w' = d.now) K) :
    wpAnyT P ops Q S t (fuel + 1) listed a w := by
  obtain ⟨v, h1, h2⟩ := h (fun a' => wpAnyT P ops Q S t fuel (listed.setIfInBounds i true) a' w) (fun _ h => h)
  refine wpAnyT_first2 (v := v) (of_decide_eq_true hit) (drop_at hl) (Region.noSelect_spec hs) (fun c a w h => hQ c a _ w h) fuel listed a w (Region.free_spec (drop_at hl) hf) (by simpa using hr) (.inl ⟨hw, fun w' _ => ?_⟩) hS h2
  have h3 := h1 w' (LaterS.of (S := AnyW) trivial)
  unfold Oper.quietAt at h3
  generalize hx : (execOp a.eval o).run P w' = r at h3
  cases r with
  | ok n w2 =>
    obtain ⟨u, rfl⟩ := plain_value hp hx
    simp only [Oper.quietUpon] at h3
    rw [h3.1, h3.2]
  | halt x w2 => simp only [Oper.quietUpon] at h3
end
end Go.Proofs.YtnddoehhcpejjaaGreat
/- The walk of a group's copy. -/
namespace Go.Proofs.YtnddoehhcpejjaaGreat
set_option linter.unusedVariables false
set_option linter.unusedSimpArgs false
open Go.RowKit

def zeroGr : Array Value := #[.string ⟨#[]⟩, .int .i64 0, .int .i64 0, .int .i64 0, .slice none 0 0, .int .i64 0, .int .i64 0, .int .i64 0, .int .i64 0, .int .i64 0, .int .i64 0, .int .i64 0, .int .i64 0, .int .i64 0, .int .i64 0, .int .i64 0, .int .i64 0, .int .i64 0, .int .i64 0, .int .i64 0, .slice none 0 0]
/-- an entity whose lists lie in none of some blocks -/
structure EOk (N : Nat → Prop) (w : World) (x : EntR) : Prop where
  nm : x.name.size ≤ maxLen
  cu : x.currency.size ≤ maxLen
  ch : RdN N w 4 x.chart.A x.chart.l.length (cellsOf Acc.cells x.chart.l)
  ch1 : x.chart.l.length ≤ x.chart.cap ∧ x.chart.cap ≤ maxLen
  ch2 : ∀ a ∈ x.chart.l, Acc.Ok w a
  li : RdN N w 3 x.links.A x.links.l.length (cellsOf LinkR.cells x.links.l)
  li1 : x.links.l.length ≤ x.links.cap ∧ x.links.cap ≤ maxLen
  li2 : ∀ a ∈ x.links.l, LinkR.Ok w a
theorem EOk.turn {N : Nat → Prop} {w w' : World} {x : EntR} (h : EOk N w x) (ht : ApartW N w w') : EOk N w' x := ⟨h.nm, h.cu, h.ch.turn ht, h.ch1, h.ch2, h.li.turn ht, h.li1, h.li2⟩
theorem EOk.ok {N : Nat → Prop} {w : World} {x : EntR} (h : EOk N w x) : x.Ok w := ⟨h.nm, h.cu, ⟨⟨h.ch.rd, h.ch1⟩, h.ch2⟩, ⟨⟨h.li.rd, h.li1⟩, h.li2⟩, trivial⟩
theorem EOk.of {N : Nat → Prop} {w w' : World} {x : EntR} (h : x.Ok w) (hb : Below w.heap.size w w') (hN : ∀ b, b < w.heap.size → ¬ N b) : EOk N w' x :=
  ⟨h.1, h.2.1, .of_rd (h.2.2.1.1.1.below hb (Nat.le_refl _)) hb.size hN, h.2.2.1.1.2, h.2.2.1.2, .of_rd (h.2.2.2.1.1.1.below hb (Nat.le_refl _)) hb.size hN, h.2.2.2.1.1.2, h.2.2.2.1.2⟩
/-- what a copy of a group is -/
def GrpPost (cur : ByteArray) (y m p : Int) (cl : List Acc) (ro : RolesR) (el : List EntR) (w : World) (e : Ending) (w' : World) : Prop :=
  ∃ (cA2 : Option Addr) (cc2 : Nat) (el2 : List EntR) (eA2 : Option Addr) (ec2 : Nat), e = .returned (.agg (gcArr cur y m p cl.length cA2 cc2 ro el.length eA2 ec2)) ∧ GIn w' cl cA2 el2 eA2 ∧ el2.map bare = el.map bare ∧ Below w.heap.size w w'
theorem own_far {w : World} {base : Nat} {e : TypeId} {sz : Nat} {v : Value} {n : Nat} {xs : List Value} (h : w.ownsRow base e sz v n xs) {g : Nat} (hg : v.ownBlock ≠ some g) (cs : Array Value) : (w.setRow g cs).ownsRow base e sz v n xs :=
  ⟨h.1, h.2.imp id fun ⟨g', cap, cur, h1, h2, h3, h4⟩ => ⟨g', cap, cur, h1, h2, (setRow_other w g g' cs (fun e => hg (by rw [h1, e]; rfl))).trans h3, h4⟩⟩
section
variable (gcs : Array Value) (cur : ByteArray) (y m p : Int) (cl : List Acc) (cA : Option Addr) (cc : Nat) (ro : RolesR) (el : List EntR) (eA : Option Addr) (ec : Nat) (w : World)
set_option maxRecDepth 100000 in
set_option maxHeartbeats 16000000 in
theorem gcopy_any (HG : Hid (gcs = #[.string cur, .int .i64 y, .int .i64 m, .int .i64 p, .slice cA cl.length cc, .int .i64 ro.investment, .int .i64 ro.goodwill, .int .i64 ro.associates, .int .i64 ro.inventory, .int .i64 ro.reserve, .int .i64 ro.minority, .int .i64 ro.retained, .int .i64 ro.acquired, .int .i64 ro.owners, .int .i64 ro.disposal, .int .i64 ro.associateProfit, .int .i64 ro.dividends, .int .i64 ro.minorityProfit, .int .i64 ro.difference, .int .i64 ro.margin, .slice eA el.length ec])) (h : GIn w cl cA el eA) (hF : FewOk cur cl el) (h1 : 1 ≤ el.length) : Calls Tryz.prog 39 #[.agg gcs] w (GrpPost cur y m p cl ro el w) := by
  have hcl := hF.ch
  have hel := hF.en
  have HF := Lib.hid hF
  have H := Lib.hid h
  clear h hF
  have hgi : (Tryz.prog.info? 29).map (·.size) = some gcs.size := by rw [HG.out]; exact grp_size
  have hg21 : (Tryz.prog.info? 29).map (·.size) = some 21 := grp_size
  have hb : Below w.heap.size w ((w.alloc (.cells gcs 29)).alloc (.cells zeroGr 29)) := ((Below.refl _ _).alloc (Nat.le_refl _) _).alloc (by simp) _
  have HB := Lib.hid ((Blk.new w 29 gcs).alloc (.cells zeroGr 29))
  have HZ := Lib.hid (blk_new2 w (.cells gcs 29) 29 zeroGr)
  have hws : w.heap.size + 2 ≤ ((w.alloc (.cells gcs 29)).alloc (.cells zeroGr 29)).heap.size := by simp
  go_enter Tryz.func39, Tryz.ntmps39
  go_upto_region 1 with fail
  change Code.wp _ _ _ _ ((w.alloc (.cells gcs 29)).alloc (.cells zeroGr 29))
  generalize (w.alloc (.cells gcs 29)).alloc (.cells zeroGr 29) = W at *
  have k4 : W.cell? ⟨w.heap.size, 4, none⟩ = some (.slice cA cl.length cc) := (HB.out.cell 4).trans (by rw [HG.out]; rfl)
  have hrc : Rd W W.heap.size 4 cA cl.length (cellsOf Acc.cells cl) := by have := Rd.now H.out.ch hb; rwa [← acc_gen] at this
  have HRC := Lib.hid hrc
  clear hrc
  go_upto_region 2 with (go_at_call 61; refine (cloneAcc_any cl cA cc _ HRC.out (by omega)).mono ?_; rintro e w5 ⟨A2, c2, rfl, ho5, hb9⟩; have HO5 := Lib.hid ho5; have hb5 := bel hb hb9; have HB5 := Lib.hid (HB.out.step hb9); have HZ5 := Lib.hid (HZ.out.step hb9); have hz5 := hb9.size; clear hb9 ho5; have f4 := HB5.out.frozen 4; have g4 : w5.cell? ⟨w.heap.size, 4, none⟩ = some (.slice cA cl.length cc) := (HB5.out.cell 4).trans (by rw [HG.out]; rfl))
  have HB6 := Lib.hid (HB5.out.set_ 4 (.slice A2 cl.length c2))
  have HZ6 := Lib.hid (HZ5.out.far (p := ⟨w.heap.size, 4, none⟩) (by show w.heap.size + 1 ≠ w.heap.size; omega) (.slice A2 cl.length c2))
  have HO6 : Hid (OwnL Acc.cells W.heap.size 121 4 (w5.setCell ⟨w.heap.size, 4, none⟩ (.slice A2 cl.length c2)) ⟨cl, A2, c2⟩) := Lib.hid (ownsRow_setCell_below HO5.out (a := ⟨w.heap.size, 4, none⟩) (by show w.heap.size < _; omega) _)
  have hb6 := hb5.setCell (p := ⟨w.heap.size, 4, none⟩) (Nat.le_refl _) (.slice A2 cl.length c2)
  have k20 : (w5.setCell ⟨w.heap.size, 4, none⟩ (.slice A2 cl.length c2)).cell? ⟨w.heap.size, 20, none⟩ = some (.slice eA el.length ec) := (HB6.out.cell 20).trans (by rw [HG.out]; rfl)
  have hz6 : W.heap.size ≤ (w5.setCell ⟨w.heap.size, 4, none⟩ (.slice A2 cl.length c2)).heap.size := by simpa using hz5
  clear HB5 HZ5 HO5 hb5 f4 g4 k4 hb HB HZ hz5
  generalize w5.setCell ⟨w.heap.size, 4, none⟩ (.slice A2 cl.length c2) = w6 at *
  have HRE := Lib.hid (Rd.now H.out.en hb6)
  go_upto_region 3 with (go_at_call 62; refine (cloneEnt_any el eA ec _ HRE.out (by omega)).mono ?_; rintro e w7 ⟨A3, c3, rfl, ho7, hb9⟩; have HE7 := Lib.hid ho7; have hb7 := bel hb6 hb9; have HB7 := Lib.hid (HB6.out.step hb9); have HZ7 := Lib.hid (HZ6.out.step hb9); have hz7 := hb9.size; have HO7 : Hid (OwnL Acc.cells W.heap.size 121 4 w7 ⟨cl, A2, c2⟩) := Lib.hid (own_step HO6.out hb9); clear hb9 ho7; have f20 := HB7.out.frozen 20; have g20 : w7.cell? ⟨w.heap.size, 20, none⟩ = some (.slice eA el.length ec) := (HB7.out.cell 20).trans (by rw [HG.out]; rfl))
  have HB8 := Lib.hid (HB7.out.set_ 20 (.slice A3 el.length c3))
  have HZ8 := Lib.hid (HZ7.out.far (p := ⟨w.heap.size, 20, none⟩) (by show w.heap.size + 1 ≠ w.heap.size; omega) (.slice A3 el.length c3))
  have HO8 : Hid (OwnL Acc.cells W.heap.size 121 4 (w7.setCell ⟨w.heap.size, 20, none⟩ (.slice A3 el.length c3)) ⟨cl, A2, c2⟩) := Lib.hid (ownsRow_setCell_below HO7.out (a := ⟨w.heap.size, 20, none⟩) (by show w.heap.size < _; omega) _)
  have HE8 : Hid (OwnL EntR.cells w6.heap.size 90 5 (w7.setCell ⟨w.heap.size, 20, none⟩ (.slice A3 el.length c3)) ⟨el, A3, c3⟩) := Lib.hid (ownsRow_setCell_below HE7.out (a := ⟨w.heap.size, 20, none⟩) (by show w.heap.size < _; omega) _)
  have hb8 := hb7.setCell (p := ⟨w.heap.size, 20, none⟩) (Nat.le_refl _) (.slice A3 el.length c3)
  clear HB7 HZ7 HO7 HE7 hb7 f20 g20 k20 HB6 HZ6 HO6 hb6 hz7
  generalize w7.setCell ⟨w.heap.size, 20, none⟩ (.slice A3 el.length c3) = w8 at *
  have HG2 : Hid ((gcs.setIfInBounds 4 (.slice A2 cl.length c2)).setIfInBounds 20 (.slice A3 el.length c3) = gcArr cur y m p cl.length A2 c2 ro el.length A3 c3) := Lib.hid (by rw [gc_arr HG.out]; exact gc_set)
  rw [HG2.out] at HB8
  obtain ⟨g, cap, cur8, hA3, hg0, hBg, hnc, hcs⟩ := own_blk HE8.out h1
  have hA3' : A3 = some ⟨g, 0, none⟩ := by injection hA3 with h _ _
  have hc3' : c3 = cap := by injection hA3 with _ _ h
  subst hA3' hc3'
  clear hA3
  obtain ⟨N, hN⟩ : ∃ N : Nat → Prop, N = fun b => b = g ∨ b = w.heap.size ∨ b = w.heap.size + 1 := ⟨_, rfl⟩
  have HNN : Hid (∀ b, N b ↔ (b = g ∨ b = w.heap.size ∨ b = w.heap.size + 1)) := Lib.hid (fun b => by rw [hN])
  clear hN
  have HCH8 : Hid (RdN N w8 4 A2 cl.length (cellsOf Acc.cells cl)) := Lib.hid (RdN.of_own (c := c2) HO8.out (fun b t cs hbb hB ht hn => by
    rcases (HNN.out b).1 hn with e | e | e
    · subst e; exact hB.ne hBg (by rw [ht]; decide) rfl
    · omega
    · omega))
  have HEK8 : Hid (∀ x ∈ el, EOk N w8 x) := Lib.hid (fun x hx => EOk.of (H.out.ok x hx) hb8 (fun b hbb hn => by
    rcases (HNN.out b).1 hn with e | e | e <;> omega))
  have HOE8 : Hid (w8.ownsRow (w.heap.size + 2) 90 5 (.slice (some ⟨g, 0, none⟩) el.length c3) el.length (cellsOf EntR.cells el)) := Lib.hid (own_base HE8.out (by omega))
  have hgw : w.heap.size + 2 ≤ g := by omega
  clear HE8 HO8 hBg hcs hg0 hz6 hws HRE HRC
  have k20 : w8.cell? ⟨w.heap.size, 20, none⟩ = some (.slice (some ⟨g, 0, none⟩) el.length c3) := (HB8.out.cell 20).trans rfl
  go_wp2_with fail
  clear k20
  go_loopw [16] (fun t wr => ∃ (i : Nat) (L : List EntR), i ≤ el.length ∧ L.map bare = el.map bare ∧ t = .int .i64 i ∧ wr.ownsRow (w.heap.size + 2) 90 5 (.slice (some ⟨g, 0, none⟩) el.length c3) el.length (cellsOf EntR.cells L) ∧ (∀ x ∈ L, EOk N wr x) ∧ RdN N wr 4 A2 cl.length (cellsOf Acc.cells cl) ∧ Blk wr w.heap.size 29 (gcArr cur y m p cl.length A2 c2 ro el.length (some ⟨g, 0, none⟩) c3) ∧ Blk wr (w.heap.size + 1) 29 zeroGr ∧ Below w.heap.size w wr) (fun t _ => el.length - (intOf t).toNat)
  case atStart => exact ⟨0, el, by omega, rfl, rfl, HOE8.out, HEK8.out, HCH8.out, HB8.out, HZ8.out, hb8⟩
  case round =>
    clear hb8 HB8 HZ8 HOE8 HEK8 HCH8
    obtain ⟨i, L, hi, hbare, rfl, ho, hek, hch, hB, hZ, hb⟩ := hrel
    have HBARE := Lib.hid hbare
    have HO := Lib.hid ho
    have HEK := Lib.hid hek
    have HCH := Lib.hid hch
    have HB := Lib.hid hB
    have HZ := Lib.hid hZ
    have hL := bare_len hbare
    have hz := hb.size
    clear hbare ho hek hch hB hZ
    have k20 : wr.cell? ⟨w.heap.size, 20, none⟩ = some (.slice (some ⟨g, 0, none⟩) el.length c3) := (HB.out.cell 20).trans rfl
    by_cases hlt : i < el.length
    · have hi' : i < L.length := by omega
      obtain ⟨A', c', he, hr⟩ := Rd.of_own HO.out
      injection he with e1 e2 e3
      subst e1 e3
      clear e2
      have hr2 : Rd wr wr.heap.size 5 (some ⟨g, 0, none⟩) L.length (cellsOf EntR.cells L) := by rw [hL]; exact hr
      obtain ⟨b, o, hA, hbo, f0, f1, f2, f3, f4⟩ := EntR.at_ hr2 hi'
      injection hA with hA
      injection hA with hA1 hA2
      subst hA1 hA2
      have hok := HEK.out _ (List.getElem_mem hi')
      obtain ⟨hn1, hn2⟩ := (few_bare HBARE.out HF.out).ents i hi'
      have HES := Lib.hid (ents_set L i hi')
      have HBS := Lib.hid (fun y => bare_set (L := L) (i := i) hi' (y := y))
      have HL := Lib.hid hL
      clear hr hr2 f0 f1 f4 hL
      generalize L[i] = x at *
      obtain ⟨xn, xu, ⟨l1, A1, c1⟩, ⟨l2, A4, c4⟩, xj⟩ := x
      dsimp only [Sl.val] at *
      rw [Nat.zero_add] at f2 f3
      have HOK := Lib.hid hok
      clear hok
      go_upto_region 7 with fail
      have q2 : ∀ d : LaterB wr.heap.size wr, d.now.cell? ⟨g, i * 5 + 2, none⟩ = some (.slice A1 l1.length c1) := fun d => d.cell hbo f2
      have q3 : ∀ d : LaterB wr.heap.size wr, d.now.cell? ⟨g, i * 5 + 3, none⟩ = some (.slice A4 l2.length c4) := fun d => d.cell hbo f3
      refine relT_begin (n := 18) wr.heap.size 14 wr (by kernel_rfl) rfl ?_
      have hC : NearB wr.heap.size wr wr.drew := NearB.of (Below.refl _ _).drew
      refine relT_want (i := 0) rfl rfl (by kernel_rfl) (by kernel_rfl) (by kernel_rfl) rfl rfl (by kernel_rfl) (by kernel_rfl) (fun _ _ _ _ h => h) hC ?_
      intro K hK
      go_big_quiet_op
      go_big_quiet_on
      refine relT_want (i := 2) rfl rfl (by kernel_rfl) (by kernel_rfl) (by kernel_rfl) rfl rfl (by kernel_rfl) (by kernel_rfl) (fun _ _ _ _ h => h) hC ?_
      intro K hK
      go_big_quiet_op
      go_big_quiet_on
      refine relT_want (i := 3) rfl rfl (by kernel_rfl) (by kernel_rfl) (by kernel_rfl) rfl rfl (by kernel_rfl) (by kernel_rfl) (fun _ _ _ _ h => h) hC ?_
      intro K hK
      go_big_quiet_op
      go_big_quiet_on
      refine relT_want (i := 4) rfl rfl (by kernel_rfl) (by kernel_rfl) (by kernel_rfl) rfl rfl (by kernel_rfl) (by kernel_rfl) (fun _ _ _ _ h => h) hC ?_
      intro K hK
      go_big_quiet_op
      go_big_quiet_on
      refine relT_want (i := 5) rfl rfl (by kernel_rfl) (by kernel_rfl) (by kernel_rfl) rfl rfl (by kernel_rfl) (by kernel_rfl) (fun _ _ _ _ h => h) hC ?_
      intro K hK
      go_big_quiet_op
      go_big_quiet_on
      refine relT_pure (i := 1) rfl rfl (by kernel_rfl) (by kernel_rfl) (by kernel_rfl) rfl rfl (fun _ _ _ _ h => h) (.inr hC) ?_
      intro K hK
      go_big_quiet_op
      go_big_quiet_on
      refine relT_pure (i := 7) rfl rfl (by kernel_rfl) (by kernel_rfl) (by kernel_rfl) rfl rfl (fun _ _ _ _ h => h) (.inr hC) ?_
      intro K hK
      go_big_quiet_op
      go_big_quiet_on
      refine relT_pure (i := 8) rfl rfl (by kernel_rfl) (by kernel_rfl) (by kernel_rfl) rfl rfl (fun _ _ _ _ h => h) (.inr hC) ?_
      intro K hK
      go_big_quiet_op
      go_big_quiet_on
      refine relT_pure (i := 9) rfl rfl (by kernel_rfl) (by kernel_rfl) (by kernel_rfl) rfl rfl (fun _ _ _ _ h => h) (.inr hC) ?_
      intro K hK
      go_big_quiet_op
      go_big_quiet_on
      refine relT_want (i := 10) rfl rfl (by kernel_rfl) (by kernel_rfl) (by kernel_rfl) rfl rfl (by kernel_rfl) (by kernel_rfl) (fun _ _ _ _ h => h) hC ?_
      intro K hK
      go_big_quiet_op
      go_big_quiet_on
      refine relT_call (i := 6) (by kernel_rfl) rfl rfl ?_
      intro K hK
      go_simp
      go_at_call 61
      refine (cloneAcc_any l1 A1 c1 _ (Rd.now HOK.out.ch.rd hC.below) (by omega)).mono ?_
      rintro e w5 ⟨A5, c5, rfl, ho5, hb9⟩
      have hC5 : Below wr.heap.size wr w5 := bel hC.below hb9
      have HO5 : Hid (OwnL Acc.cells wr.heap.size 121 4 w5 ⟨l1, A5, c5⟩) := Lib.hid (ho5.base_ hC.below.size)
      clear ho5 hb9
      (try go_wp2_with fail)
      refine hK _ _ (.inr (.inr (NearB.of hC5))) ?_
      clear hK K hC
      (try simp only [Act.put, List.setIfInBounds_toArray, List.set_cons_zero, List.set_cons_succ])
      refine relT_call (i := 11) (by kernel_rfl) rfl rfl ?_
      intro K hK
      go_simp
      go_at_call 63
      refine (cloneLink_any l2 A4 c4 _ (Rd.now HOK.out.li.rd hC5) (by omega)).mono ?_
      rintro e w6 ⟨A6, c6, rfl, ho6, hb9⟩
      have hC6 : Below wr.heap.size wr w6 := bel hC5 hb9
      have HO6 : Hid (OwnL LinkR.cells wr.heap.size 126 3 w6 ⟨l2, A6, c6⟩) := Lib.hid (ho6.base_ hC5.size)
      replace HO5 : Hid (OwnL Acc.cells wr.heap.size 121 4 w6 ⟨l1, A5, c5⟩) := Lib.hid (own_step HO5.out hb9)
      clear ho6 hb9 hC5
      (try go_wp2_with fail)
      have hC : NearB wr.heap.size wr w6 := NearB.of hC6
      refine hK _ _ (.inr (.inr hC)) ?_
      clear hK K
      (try simp only [Act.put, List.setIfInBounds_toArray, List.set_cons_zero, List.set_cons_succ])
      refine relT_call (i := 12) (by kernel_rfl) rfl rfl ?_
      intro K hK
      go_simp
      refine hK _ _ (.inr (.inr hC)) ?_
      clear hK K
      (try simp only [Act.put, List.setIfInBounds_toArray, List.set_cons_zero, List.set_cons_succ])
      refine relT_call (i := 13) (by kernel_rfl) rfl rfl ?_
      intro K hK
      go_simp
      refine hK _ _ (.inr (.inr hC)) ?_
      clear hK K
      (try simp only [Act.put, List.setIfInBounds_toArray, List.set_cons_zero, List.set_cons_succ])
      refine relT_call (i := 14) (by kernel_rfl) rfl rfl ?_
      intro K hK
      have HW6 := Lib.hid (own_step HO.out hC6)
      have x2 : w6.cell? ⟨g, i * 5 + 2, none⟩ = some (.slice A1 l1.length c1) := (hC6.cell (p := ⟨g, i * 5 + 2, none⟩) hbo).trans f2
      have x3 : w6.cell? ⟨g, i * 5 + 3, none⟩ = some (.slice A4 l2.length c4) := (hC6.cell (p := ⟨g, i * 5 + 3, none⟩) hbo).trans f3
      have z2 : w6.frozen? ⟨g, i * 5 + 2, none⟩ = false := HW6.out.frozenAt _
      go_simp
      refine hK _ _ (.inr (.inl rfl)) ?_
      clear hK K q2 q3
      obtain ⟨ho7, hg7⟩ := HW6.out.stored (i * 5 + 2) (.slice A5 l1.length c5)
      have y3 : (w6.setCell ⟨g, i * 5 + 2, none⟩ (.slice A5 l1.length c5)).cell? ⟨g, i * 5 + 3, none⟩ = some (.slice A4 l2.length c4) := (cell_ne w6 g _ _ _ (by omega)).trans x3
      clear x2 x3 z2 hC
      generalize w6.setCell ⟨g, i * 5 + 2, none⟩ (.slice A5 l1.length c5) = w7 at *
      have HW7 := Lib.hid ho7
      have HG7 := Lib.hid hg7
      clear ho7 hg7
      (try simp only [Act.put, List.setIfInBounds_toArray, List.set_cons_zero, List.set_cons_succ])
      refine relT_call (i := 15) (by kernel_rfl) rfl rfl ?_
      intro K hK
      go_simp
      refine hK _ _ (.inl rfl) ?_
      clear hK K
      (try simp only [Act.put, List.setIfInBounds_toArray, List.set_cons_zero, List.set_cons_succ])
      refine relT_call (i := 16) (by kernel_rfl) rfl rfl ?_
      intro K hK
      go_simp
      refine hK _ _ (.inl rfl) ?_
      clear hK K
      (try simp only [Act.put, List.setIfInBounds_toArray, List.set_cons_zero, List.set_cons_succ])
      refine relT_call (i := 17) (by kernel_rfl) rfl rfl ?_
      intro K hK
      have z3 : w7.frozen? ⟨g, i * 5 + 3, none⟩ = false := HW7.out.frozenAt _
      go_simp
      refine hK _ _ (.inl rfl) ?_
      clear hK K
      obtain ⟨ho8, hg8⟩ := HW7.out.stored (i * 5 + 3) (.slice A6 l2.length c6)
      generalize w7.setCell ⟨g, i * 5 + 3, none⟩ (.slice A6 l2.length c6) = wz at *
      clear y3 z3 f2 f3
      have hes := HES.out ⟨l1, A5, c5⟩ ⟨l2, A6, c6⟩
      dsimp only [Sl.val] at hes
      rw [hes] at ho8
      have HOZ := Lib.hid ho8
      have hNg : N g := (HNN.out g).2 (.inl rfl)
      have hap : ApartW N wr wz := (ApartW.of_below hC6).trans ((ApartW.of_grown HG7.out hNg).trans (ApartW.of_grown hg8 hNg))
      have hap6 : ApartW N w6 wz := (ApartW.of_grown HG7.out hNg).trans (ApartW.of_grown hg8 hNg)
      have hB7 := ((HB.out.step hC6).grown HG7.out (by simp; omega)).grown hg8 (by simp; omega)
      have hZ7 := ((HZ.out.step hC6).grown HG7.out (by simp; omega)).grown hg8 (by simp; omega)
      have hbz : Below w.heap.size w wz := Below.grown (Below.grown (bel hb hC6) HG7.out (by have := hC6.size; omega) (fun j hj => by injection hj with hj; omega)) hg8 (by have := hC6.size; have := HG7.out.size; omega) (fun j hj => by injection hj with hj; omega)
      have hNw : ∀ b, wr.heap.size ≤ b → ¬ N b := fun b hb hn => by
        rcases (HNN.out b).1 hn with e | e | e <;> omega
      have hy : EOk N wz ⟨xn, xu, ⟨l1, A5, c5⟩, ⟨l2, A6, c6⟩, xj⟩ := ⟨HOK.out.nm, HOK.out.cu, (RdN.of_own (c := c5) HO5.out (fun b t cs hbb _ _ => hNw b hbb)).turn hap6, HO5.out.lies.2, HOK.out.ch2, (RdN.of_own (c := c6) HO6.out (fun b t cs hbb _ _ => hNw b hbb)).turn hap6, HO6.out.lies.2, HOK.out.li2⟩
      have hEK : ∀ x ∈ L.set i ⟨xn, xu, ⟨l1, A5, c5⟩, ⟨l2, A6, c6⟩, xj⟩, EOk N wz x := fun x hx => by
        rcases List.mem_or_eq_of_mem_set hx with h | h
        · exact (HEK.out x h).turn hap
        · subst h; exact hy
      have hbs : (L.set i ⟨xn, xu, ⟨l1, A5, c5⟩, ⟨l2, A6, c6⟩, xj⟩).map bare = el.map bare := (HBS.out ⟨xn, xu, ⟨l1, A5, c5⟩, ⟨l2, A6, c6⟩, xj⟩ rfl).trans HBARE.out
      have HEKZ := Lib.hid hEK
      have HBSZ := Lib.hid hbs
      have HBZ := Lib.hid hB7
      have HZZ := Lib.hid hZ7
      have HCHZ := Lib.hid (HCH.out.turn hap)
      generalize L.set i ⟨xn, xu, ⟨l1, A5, c5⟩, ⟨l2, A6, c6⟩, xj⟩ = L2 at *
      clear hEK hbs hB7 hZ7 hy hap hap6 hg8 ho8 hes hNw hNg
      (try simp only [Act.put, List.setIfInBounds_toArray, List.set_cons_zero, List.set_cons_succ])
      refine wpAnyT_done (by kernel_rfl) ?_ _
      go_wp2_with fail
      go_roundw
      case rel =>
        exact ⟨i + 1, L2, by omega, HBSZ.out, by go_num, HOZ.out, HEKZ.out, HCHZ.out, HBZ.out, HZZ.out, hbz⟩
      case measure => simp [intOf]; omega
    · have HSZ := Lib.hid (gc_one cur y m p cl.length A2 c2 ro el.length (some ⟨g, 0, none⟩) c3)
      have HSI : Hid ((gcArr cur y m p cl.length A2 c2 ro el.length (some ⟨g, 0, none⟩) c3).size = 21) := Lib.hid rfl
      have HXX : Hid (∃ X, X = gcArr cur y m p cl.length A2 c2 ro el.length (some ⟨g, 0, none⟩) c3) := Lib.hid ⟨_, rfl⟩
      obtain ⟨X, hX⟩ := HXX.out
      have HXE := Lib.hid hX
      rw [← hX] at HSZ HSI HB
      clear hX HXX k20
      have hgz : (Tryz.prog.info? 29).map (·.size) = some X.size := by rw [HSI.out]; exact hg21
      go_wp2_with (first
        | (refine wpList_load_blk 29 (.tmp 1) rfl w.heap.size rfl (by kernel_rfl) HB.out Tryz.underlying29 hgz ?_)
        | (refine wpList_store_row rfl 29 (.tmp 2) (.tmp 40) rfl (w.heap.size + 1) X rfl rfl 29 zeroGr HZ.out hgz (by rw [HSI.out]; rfl) HSZ.out ?_))
      refine bodyPost_ret (v := .agg X) (results_cell_row Tryz.results39 _ _ (w.heap.size + 1) 29 X (0, 0) _ rfl (blk_row HZ.out _) Tryz.underlying29 rfl hgz) rfl ?_
      have hap : ApartW N wr (wr.setRow (w.heap.size + 1) X) := ApartW.setRow ((HNN.out _).2 (.inr (.inr rfl))) X
      have hne : g ≠ w.heap.size + 1 := by omega
      refine ⟨A2, c2, L, some ⟨g, 0, none⟩, c3, by rw [HXE.out], ⟨?_, ?_, fun x hx => ((HEK.out x hx).turn hap).ok, H.out.wf⟩, HBARE.out, below_row hb (by omega)⟩
      · have := (HCH.out.turn hap).rd
        rwa [acc_gen] at this
      · obtain ⟨A', c', he, hr⟩ := Rd.of_own (own_far HO.out (fun hg => hne (by injection hg)) X)
        injection he with e1 e2 e3
        subst e1 e3
        rw [hL]
        exact hr
end
end Go.Proofs.YtnddoehhcpejjaaGreat
/- 'm[k] += x' upon sums in a map of the call's own. Over any program. -/
namespace Go.Proofs.YtnddoehhcpejjaaGreat
set_option linter.unusedVariables false
set_option linter.unusedSimpArgs false
open Go.RowKit Go.WideElems
open Go.Maps (Keyed)
open Go.WideMaps (KeyLaw)
open Go.ChangeMaps (setBlock heap_setBlock_same heap_setBlock_other)

section
variable {P : Program} {k e t : TypeId} {w : World} {b n : Nat} {f g : Value → Int}
/-- a map of the call's own that grows leaves what lies below -/
theorem below_grown {B : Nat} {w0 w w' : World} (h : Below B w0 w) (hb : B ≤ b) (hl : b < w.heap.size) (hg : w.grownBy w' (some b)) : Below B w0 w' :=
  ⟨hg.os.trans h.os, hg.tape.trans h.tape, hg.output.trans h.output, Nat.le_trans h.size hg.size, fun i hi => (hg.block i (by omega) (by simp; omega)).trans (h.block i hi)⟩
/-- the entry, and the store that waits for it -/
theorem KSum.entry (K : KeyLaw P k) (hK : Keyed P k) (he : P.underlying e = some (.int .i64)) (ht : P.underlying t = some (.map k e)) (hz : ∀ u : World, (zeroValue e).run P u = .ok (.int .i64 0) u) (h : KSum P k e w b n f) (hn : n < maxLen)
    {v : Value} {l : Lit} (hl : keyOf P k v = some l) {x : Int} (hx : (Lit.int .i64 x).wf = true) (hg : g v = x) (hgo : ∀ u lu, keyOf P k u = some lu → u ≠ v → g u = f u) :
    ∃ (v0 : Value) (st : Nat) (wX : World), (Instr.mapEntry t (.map (some b)) v).run P w = .ok (.tuple #[v0, goInt st]) wX ∧ w.grownBy wX (some b) ∧ KSum P k e wX b (n + 1) f ∧
      ∀ w2 : World, w2.heap = wX.heap → ∃ w3, (Instr.entryStore t (.map (some b)) (goInt st) (.int .i64 x)).run P w2 = .ok () w3 ∧ KSum P k e w3 b (n + 1) g ∧ w2.grownBy w3 (some b) := by
  obtain ⟨D, hO, hM, hD⟩ := h
  obtain ⟨es, cl, hb, F, hsz, hDD⟩ := id hO
  obtain ⟨v0, st, es1, cl1, hE, hor, hS⟩ := entry_then_store K ht hz hb F hl
  obtain ⟨v1, st1, wX, u1, u2, u3⟩ := entry_update K ht hz hb F hl
  have hS0 : KSum P k e w b n f := ⟨D, hO, hM, hD⟩
  obtain ⟨l1, l2⟩ := hS0.look hK he ht (hz w) hl
  rw [l1] at u3
  injection u3 with u3 _
  subst u3
  have pl : ∀ y : Int, (Lit.int .i64 y).wf = true → plainElem (H := Unit) P e (.int .i64 y) = some (.lit (.int .i64 y), []) := fun y hy => by simp [plainElem, he, hy]
  obtain ⟨wY, y1, y2, y3⟩ := hO.update hK ht hn hl (pl _ l2)
  rw [u2] at y1
  injection y1 with _ y1
  subst y1
  refine ⟨_, st1, wX, u1, y3, KSum.put hK hM hD hl rfl (fun _ _ _ _ => rfl) y2, fun w2 hw2 => ?_⟩
  rw [hE] at u1
  injection u1 with u4 u5
  have hst : st = st1 := by
    have := u4
    simp [goInt] at this
    omega
  subst hst
  have hX : wX.heap[b]? = some (.map es1 cl1) := by rw [← u5]; exact heap_setBlock_same hb _
  have h2 : w2.heap[b]? = some (.map es1 cl1) := by rw [hw2]; exact hX
  obtain ⟨es', cl', r1, r2⟩ := hS w2 (.int .i64 x) h2
  refine ⟨_, r1, ?_, ⟨rfl, rfl, rfl, by simp [setBlock], fun i _ hne => heap_setBlock_other h2 _ (fun e => hne (by rw [e]))⟩⟩
  obtain ⟨wZ, z1, z2, z3⟩ := hO.update hK ht hn hl (pl _ hx)
  rw [r2] at z1
  injection z1 with _ z1
  have hZ : KSum P k e wZ b (n + 1) g := KSum.put hK hM hD hl hg hgo z2
  refine hZ.same ?_
  rw [← z1]
  exact (heap_setBlock_same h2 _).trans (heap_setBlock_same hb _).symm
end
end Go.Proofs.YtnddoehhcpejjaaGreat
