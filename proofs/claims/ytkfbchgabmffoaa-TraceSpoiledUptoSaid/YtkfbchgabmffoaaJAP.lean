/- Texts of this claim, put together. -/
import Derived.Test.YtkfbchgabmffoaaJAO
import Derived.Test.YtkfbchgabmffoaaJAA
import Derived.ProofKit
import Derived.OpenShut
import Derived.ChangeSame
/- The walks of TraceCheck and TraceLines. -/
namespace Go.Proofs.Ytkfbchgabmffoaa
set_option linter.unusedVariables false
set_option linter.unusedSimpArgs false
open Go.RowKit

/-- what the bound on the reading gives -/
structure TIn (w : World) (I : List ItemR) (AI : Option Addr) (cI : Nat) (P : List PostR) (AP : Option Addr) (cP : Nat) (T : List Bal) (AT : Option Addr) (cT : Nat) : Prop where
  rin : RIn w I AI P AP T AT
  all : (allB I P).length ≤ 400000
  it : I.length ≤ 400000
  po : P.length ≤ 400000
  to : T.length ≤ 400000
  ci : I.length ≤ cI
  cp : P.length ≤ cP
  ct : T.length ≤ cT
section
variable (per : Int) (I : List ItemR) (AI : Option Addr) (cI : Nat) (P : List PostR) (AP : Option Addr) (cP : Nat) (T : List Bal) (AT : Option Addr) (cT : Nat) (w : World)
set_option maxRecDepth 100000 in
set_option maxHeartbeats 4000000 in
theorem law_TraceCheck (h : TIn w I AI cI P AP cP T AT cT) : Calls Try.prog 4 #[.agg #[.int .i64 per, .slice AI I.length cI, .slice AP P.length cP, .slice AT T.length cT]] w fun e w' => e = .returned (.bool true) ∧ Below w.heap.size w w' := by
  have hb : Below w.heap.size w (w.alloc (.cells #[.int .i64 per, .slice AI I.length cI, .slice AP P.length cP, .slice AT T.length cT] 26)) := (Below.refl _ _).alloc (Nat.le_refl _) _
  have HB := Lib.hid (Blk.new w 26 #[.int .i64 per, .slice AI I.length cI, .slice AP P.length cP, .slice AT T.length cT])
  have H := Lib.hid h.rin
  have HT := Lib.hid h
  clear h
  go_enter Try.func4, Try.ntmps4
  go_wp2_with fail
  refine (tr_awake _).mono ?_
  rintro e w2 ⟨rfl, hb9⟩
  replace hb := bel hb hb9
  replace HB := Lib.hid (HB.out.step hb9)
  clear hb9
  have hBl := (HB).out.lt
  have p0 : ∀ d : Later w2, _ := fun d => d.cell hBl ((HB).out.cell 0)
  have p1 : ∀ d : Later w2, _ := fun d => d.cell hBl ((HB).out.cell 1)
  have p2 : ∀ d : Later w2, _ := fun d => d.cell hBl ((HB).out.cell 2)
  have p3 : ∀ d : Later w2, _ := fun d => d.cell hBl ((HB).out.cell 3)
  cases hs : smallT I P T
  · have HS := Lib.hid hs
    clear hs
    go_wp2_with fail
    refine wp_region_later (by kernel_rfl) (by kernel_rfl) ?_
    (repeat (go_big_quiet_step ((fail)))); go_big_quiet_step ((go_at_call 9; exact Later.call _ (HS.out ▸ tsmall_any per I AI cI P AP cP T AT cT _ (H.out.step (bel hb (Later.below _))) HT.out.all HT.out.it HT.out.po HT.out.to)))
    (repeat (go_big_quiet_step ((fail)))); refine wpQuiet_nil ?_; rintro _ ⟨dq, rfl⟩
    have hbe := bel hb dq.below
    go_wp2_with fail
    go_ret
    exact ⟨rfl, hbe⟩
  · have HS := Lib.hid hs
    have OK := smallT_ok hs
    have HOK := Lib.hid OK
    have n1 : (allB I P).length ≤ 1000000 := by have := OK.all; omega
    have n2 : I.length ≤ 1000000 := by have := OK.items; omega
    have n3 : P.length ≤ 1000000 := by have := OK.postings; omega
    have n4 : T.length ≤ 1000000 := by have := OK.all; omega
    have N1 := Lib.hid n1
    clear hs OK n1
    obtain ⟨c, hc⟩ : ∃ c, c = checkV I P T := ⟨_, rfl⟩
    have HK1 := Lib.hid (fun W h => tcheck_any per I AI cI P AP cP T AT cT W h N1.out n2 n3 n4)
    have HK2 := Lib.hid (fun W h => rtcheck_any per I AI cI P AP cP T AT cT W h N1.out n2 HT.out.ci n3 n4)
    rw [← hc] at HK1 HK2
    clear hc
    have hcc : (c == c) = true := by simp
    go_wp2_with fail
    refine wp_region_later (by kernel_rfl) (by kernel_rfl) ?_
    (repeat (go_big_quiet_step ((fail)))); go_big_quiet_step ((go_at_call 9; exact Later.call _ (HS.out ▸ tsmall_any per I AI cI P AP cP T AT cT _ (H.out.step (bel hb (Later.below _))) HT.out.all HT.out.it HT.out.po HT.out.to)))
    (repeat (go_big_quiet_step ((fail)))); go_big_quiet_step ((go_at_call 14; exact Later.call _ (HK1.out _ (H.out.step (bel hb (Later.below _))))))
    (repeat (go_big_quiet_step ((fail)))); go_big_quiet_step ((go_at_call 15; exact Later.call _ (HK2.out _ (H.out.step (bel hb (Later.below _))))))
    (repeat (go_big_quiet_step ((fail)))); refine wpQuiet_nil ?_; rintro _ ⟨dq, rfl⟩
    have hbe := bel hb dq.below
    go_wp2_with fail
    go_ret
    exact ⟨rfl, hbe⟩
set_option maxRecDepth 100000 in
set_option maxHeartbeats 4000000 in
theorem law_TraceLines (f t : Int) (h : TIn w I AI cI P AP cP T AT cT) : Calls Try.prog 3 #[.agg #[.int .i64 per, .slice AI I.length cI, .slice AP P.length cP, .slice AT T.length cT], .int .i64 f, .int .i64 t] w fun e w' => e = .returned (.bool true) ∧ Below w.heap.size w w' := by
  have hb : Below w.heap.size w (w.alloc (.cells #[.int .i64 per, .slice AI I.length cI, .slice AP P.length cP, .slice AT T.length cT] 26)) := (Below.refl _ _).alloc (Nat.le_refl _) _
  have HB := Lib.hid (Blk.new w 26 #[.int .i64 per, .slice AI I.length cI, .slice AP P.length cP, .slice AT T.length cT])
  have H := Lib.hid h.rin
  have HT := Lib.hid h
  clear h
  go_enter Try.func3, Try.ntmps3
  go_wp2_with fail
  refine (tr_awake _).mono ?_
  rintro e w2 ⟨rfl, hb9⟩
  replace hb := bel hb hb9
  replace HB := Lib.hid (HB.out.step hb9)
  clear hb9
  have e0 : (w2).cell? ⟨w.heap.size, 0, none⟩ = some (.int .i64 per) := (HB).out.cell 0
  have e1 : (w2).cell? ⟨w.heap.size, 1, none⟩ = some (.slice AI I.length cI) := (HB).out.cell 1
  have e2 : (w2).cell? ⟨w.heap.size, 2, none⟩ = some (.slice AP P.length cP) := (HB).out.cell 2
  have e3 : (w2).cell? ⟨w.heap.size, 3, none⟩ = some (.slice AT T.length cT) := (HB).out.cell 3
  cases hs : smallT I P T
  · have HS := Lib.hid hs
    clear hs
    go_wp2_with fail
    refine (tsmall_any per I AI cI P AP cP T AT cT _ (H.out.step hb) HT.out.all HT.out.it HT.out.po HT.out.to).mono ?_
    rintro e w3 ⟨rfl, hb9⟩
    replace hb := bel hb hb9
    replace HB := Lib.hid (HB.out.step hb9)
    rw [HS.out]
    clear hb9
    go_wp2_with fail
    go_ret
    exact ⟨rfl, hb⟩
  · have HS := Lib.hid hs
    have OK := smallT_ok hs
    clear hs
    have n1 : (allB I P).length ≤ 1000000 := by have := OK.all; omega
    have n2 : I.length ≤ 1000000 := by have := OK.items; omega
    have n3 : P.length ≤ 1000000 := by have := OK.postings; omega
    have n4 : T.length ≤ 1000000 := by have := OK.all; omega
    have N1 := Lib.hid n1
    have HOK := Lib.hid OK
    clear OK n1
    go_wp2_with fail
    refine (tsmall_any per I AI cI P AP cP T AT cT _ (H.out.step hb) HT.out.all HT.out.it HT.out.po HT.out.to).mono ?_
    rintro e w3 ⟨rfl, hb9⟩
    replace hb := bel hb hb9
    replace HB := Lib.hid (HB.out.step hb9)
    rw [HS.out]
    clear hb9
    clear e0 e1 e2 e3
    have e0 : (w3).cell? ⟨w.heap.size, 0, none⟩ = some (.int .i64 per) := (HB).out.cell 0
    have e1 : (w3).cell? ⟨w.heap.size, 1, none⟩ = some (.slice AI I.length cI) := (HB).out.cell 1
    have e2 : (w3).cell? ⟨w.heap.size, 2, none⟩ = some (.slice AP P.length cP) := (HB).out.cell 2
    have e3 : (w3).cell? ⟨w.heap.size, 3, none⟩ = some (.slice AT T.length cT) := (HB).out.cell 3
    obtain ⟨L, hL⟩ : ∃ L, L = linesV f t I P := ⟨_, rfl⟩
    have hlL : L.length ≤ 1000000 := by rw [hL]; have := lines_len f t I P; have := N1.out; omega
    have HLL := Lib.hid hL
    clear hL
    go_wp2_with fail
    refine (lines_any per I AI cI P AP cP T AT cT f t _ (H.out.step hb) N1.out n2 n3 n4 HOK.out.parts).mono ?_
    rintro e w4 ⟨v4, rfl, ho4, hb9⟩
    rw [← HLL.out] at ho4
    replace hb := bel hb hb9
    replace HB := Lib.hid (HB.out.step hb9)
    clear hb9 e0 e1 e2 e3
    have e0 : (w4).cell? ⟨w.heap.size, 0, none⟩ = some (.int .i64 per) := (HB).out.cell 0
    have e1 : (w4).cell? ⟨w.heap.size, 1, none⟩ = some (.slice AI I.length cI) := (HB).out.cell 1
    have e2 : (w4).cell? ⟨w.heap.size, 2, none⟩ = some (.slice AP P.length cP) := (HB).out.cell 2
    have e3 : (w4).cell? ⟨w.heap.size, 3, none⟩ = some (.slice AT T.length cT) := (HB).out.cell 3
    obtain ⟨A4, c4, rfl, hrx⟩ := Rd.of_own ho4
    have H4 := Lib.hid hrx
    clear hrx ho4
    go_wp2_with fail
    refine (rlines_any per I AI cI P AP cP T AT cT f t _ (H.out.step hb) N1.out n2 n3 n4).mono ?_
    rintro e w5 ⟨v5, rfl, ho5, hb9⟩
    rw [← HLL.out] at ho5
    replace hb := bel hb hb9
    replace HB := Lib.hid (HB.out.step hb9)
    replace H4 := Lib.hid (Rd.now (H4).out hb9)
    clear hb9 e0 e1 e2 e3
    obtain ⟨A5, c5, rfl, hrx⟩ := Rd.of_own ho5
    have H5 := Lib.hid hrx
    clear hrx ho5
    have hBl := (HB).out.lt
    have p0 : ∀ d : Later w5, _ := fun d => d.cell hBl ((HB).out.cell 0)
    have p1 : ∀ d : Later w5, _ := fun d => d.cell hBl ((HB).out.cell 1)
    have p2 : ∀ d : Later w5, _ := fun d => d.cell hBl ((HB).out.cell 2)
    have p3 : ∀ d : Later w5, _ := fun d => d.cell hBl ((HB).out.cell 3)
    have hne : ((L.length : Int) != (L.length : Int)) = false := by simp
    have hne2 : (L.length != L.length) = false := by simp
    obtain ⟨g, hg⟩ : ∃ g, g = figW f t T := ⟨_, rfl⟩
    have HK1 := Lib.hid (fun W h => tfig_any per (.slice AI I.length cI) (.slice AP P.length cP) T AT cT f t W h n4)
    have HK2 := Lib.hid (fun W h => rtfig_any per (.slice AI I.length cI) (.slice AP P.length cP) T AT cT f t W h n4)
    rw [← hg] at HK1 HK2
    clear hg
    have hgg : (g != g) = false := by simp
    go_wp2_with fail
    refine wp_region_later (by kernel_rfl) (by kernel_rfl) ?_
    (repeat (go_big_quiet_step ((fail)))); go_big_quiet_step ((go_at_call 12; exact Later.call _ (HK1.out _ (Rd.now H.out.to (bel hb (Later.below _))))))
    (repeat (go_big_quiet_step ((fail)))); go_big_quiet_step ((go_at_call 13; exact Later.call _ (HK2.out _ (Rd.now H.out.to (bel hb (Later.below _))))))
    (repeat (go_big_quiet_step ((fail)))); refine wpQuiet_nil ?_; rintro _ ⟨dq, rfl⟩
    have H4d := Lib.hid (Rd.now H4.out dq.below)
    have H5d := Lib.hid (Rd.now H5.out dq.below)
    have hbd := bel hb dq.below
    clear p0 p1 p2 p3 hBl H4 H5 hgg hne hne2 hb HB
    generalize dq.now = wd at *
    go_wp2_with fail
    go_loopw [9] (fun x wr => ∃ k : Nat, k ≤ L.length ∧ x = .int .i64 k ∧ Below wd.heap.size wd wr) (fun x _ => L.length - (intOf x).toNat)
    case atStart => exact ⟨0, by omega, rfl, Below.refl _ _⟩
    case round =>
      obtain ⟨k, hk, rfl, hbr⟩ := hrel
      have hbw := bel hbd hbr
      by_cases hlt : k < L.length
      · obtain ⟨b, o, hA, hbo, f0, f1, f2, f3, f4, f5⟩ := SrcR.at_ (Rd.now H4d.out hbr) hlt
        obtain ⟨b', o', hA', hbo', g0, g1, g2, g3, g4, g5⟩ := SrcR.at_ (Rd.now H5d.out hbr) hlt
        subst hA hA'
        have c0 := fun d : Later wr => d.cell hbo f0
        have c1 := fun d : Later wr => d.cell hbo f1
        have c2 := fun d : Later wr => d.cell hbo f2
        have c3 := fun d : Later wr => d.cell hbo f3
        have c4 := fun d : Later wr => d.cell hbo f4
        have c5 := fun d : Later wr => d.cell hbo f5
        have d0 := fun d : Later wr => d.cell hbo' g0
        have d1 := fun d : Later wr => d.cell hbo' g1
        have d2 := fun d : Later wr => d.cell hbo' g2
        have d3 := fun d : Later wr => d.cell hbo' g3
        have d4 := fun d : Later wr => d.cell hbo' g4
        have d5 := fun d : Later wr => d.cell hbo' g5
        clear f0 f1 f2 f3 f4 f5 g0 g1 g2 g3 g4 g5
        go_wp2_with fail
        refine wp_region_later (by kernel_rfl) (by kernel_rfl) ?_; (repeat (go_big_quiet_step ((fail)))); refine wpQuiet_nil ?_; rintro _ ⟨dq, rfl⟩
        have hbe := bel hbr dq.below
        clear c0 c1 c2 c3 c4 c5 d0 d1 d2 d3 d4 d5
        go_wp2_with fail
        go_roundw
        case rel => exact ⟨k + 1, by omega, by go_num, hbe⟩
        case measure => simp [intOf]; omega
      · go_wp2_with fail
        go_ret
        exact ⟨rfl, hbw⟩
end
end Go.Proofs.Ytkfbchgabmffoaa
/- The row's last step where the walk ends in a world of which 'Below' is known. Over any program. -/
namespace Go.Proofs.Ytkfbchgabmffoaa
set_option linter.unusedVariables false
set_option linter.unusedSimpArgs false
open Go.RowKit Go.WideShapes Go.ChangeShapes

section
variable {H : Type} {enc : TypeId × Value → H} {P : Program}
theorem post_of_below {f : Func} {s : ChangeSpec} {apart fresh handsOn again : Bool} {W W' : World} {args : Array Value} {v : Value} {ds gs : List (DataW H)} {before pa pv : List MemPlace}
    (hW : DataW.Whole enc P f.params.toList s.vars apart W args.toList ds gs before)
    (hres : ∀ (b : Nat) (sp : Nat → Bool) (hd : Bool), DataW.TrodAll enc P W' b sp hd f.resultTypes.toList (v.resultList f.resultTypes.size) (s.fn H (ds ++ gs)).results [])
    (hargs : ∀ sp : Nat → Bool, (∀ p ∈ before, sp p.block = true) → DataW.TrodAll enc P W' 0 sp true f.params.toList args.toList (s.fn H (ds ++ gs)).args pa)
    (hvars : ∀ sp : Nat → Bool, (∀ p ∈ before, sp p.block = true) → DataW.TrodVars enc P W' sp s.vars (s.fn H (ds ++ gs)).vars pv)
    (hps : before = pa ++ pv) (hb : Below W.heap.size W W')
    (hok : ∀ (j : Nat) (t : TypeId) (r : Value), f.resultTypes[j]? = some t → (v.resultList f.resultTypes.size)[j]? = some r → Value.okWide P W' .any 0 t r) :
    s.post enc P f apart fresh handsOn again W args v W' := by
  have hlt : ∀ p ∈ before, p.block < W.heap.size := fun p hp => hW.lt p hp
  have hold : ∀ p ∈ before, (fun b => decide (b < W.heap.size)) p.block = true := fun p hp => by simpa using hlt p hp
  refine ⟨ds, gs, before, [], pa, pv, hW, hres _ _ _, hargs _ hold, hvars _ hold, World.keptBut_mono (fun p hp => ⟨hp, ?_⟩) (hb.frame (· ∈ before)), fun _ => ?_⟩
  · rw [hps, List.mem_append] at hp
    exact Or.inr hp
  · obtain ⟨_, _, _, _, _, hz, hn⟩ := hW
    refine ⟨hok, _, _, ([] ++ pa) ++ pv, ⟨[] ++ pa, pv, trodAll_append (hargs _ (fun _ _ => rfl)) (hres _ _ _), hvars _ (fun _ _ => rfl), rfl, ?_, ?_⟩, ?_⟩
    · intro b off hp
      have hin : MemPlace.cell b off ∈ before := by rw [hps]; simpa using hp
      rw [hb.frozen (hlt _ hin)]
      exact hz b off hin
    · intro ha
      have := hn ha
      rw [hps] at this
      simpa using this
    · intro p hp _
      rw [hps]
      simpa using hp

/-- Arguments read as they did where nothing below the old heap has turned. -/
theorem trodAll_stays {W W' : World} {sp : Nat → Bool} (hl : laidOutB P = true) :
    ∀ (ts : List TypeId) (vs : List Value) (ds : List (DataW H)) (ps : List MemPlace), (ts.all fun t => P.readableRec t && decide (t < P.types.size)) = true →
      DataW.TrodAll enc P W 0 (fun _ => true) true ts vs ds ps → (∀ x ∈ ps, W.sameAt W' x) → (∀ x ∈ ps, sp x.block = true) → DataW.TrodAll enc P W' 0 sp true ts vs ds ps := by
  intro ts
  induction ts with
  | nil =>
    intro vs ds ps _ h _ _
    cases vs <;> cases ds <;> simp_all [DataW.TrodAll]
  | cons t ts ih =>
    intro vs ds ps hr h hs hp
    cases vs with
    | nil => simp [DataW.TrodAll] at h
    | cons v vs =>
      cases ds with
      | nil => simp [DataW.TrodAll] at h
      | cons d ds =>
        obtain ⟨p, q, h1, h2, rfl⟩ := h
        simp only [List.all_cons, Bool.and_eq_true, decide_eq_true_eq] at hr
        refine ⟨p, q, WideElems.Trod_stays hl hr.1.1 hr.1.2 h1 (fun x hx => hs x (by simp [hx])) (fun x hx => hp x (by simp [hx])), ?_, rfl⟩
        exact ih vs ds q (by rw [List.all_eq_true]; intro t ht; have := List.all_eq_true.1 hr.2 t ht; simpa using this) h2 (fun x hx => hs x (by simp [hx])) (fun x hx => hp x (by simp [hx]))

/-- A law that answers true, whatever it is called with, and changes nothing that was there: the row's step. -/
theorem law_lifted {a : Assume} {C : Checked} {os : Os} {f : FuncId} {fn : Func} {s : ChangeSpec} {apart fresh handsOn again : Bool} {ts : List TypeId} {tb : TypeId}
    (own : ownKnob C.prog.godebug = none) (started : os.Started) (noInit : C.prog.inits.idxOf? f = none) (hfn : C.prog.funcs[f]? = some fn)
    (witness : ∃ (w : World) (tape : Tape) (i : Input), w.os = os ∧ (w.forCall tape i).Shaped C.prog ∧ i.vars = [] ∧ Input.okWide C.prog (w.forCall tape i) .any w.heap.size f i ∧
      s.pre6 enc C.prog fn [] apart (w.forCall tape i).memory i.args ∧ a.holds C.prog (lone (Frame.enter C.prog f i.args .normal) [] (w.forCall tape i)))
    (hl : laidOutB C.prog = true) (hp : fn.params.toList = ts) (hts : (ts.all fun t => C.prog.readableRec t && decide (t < C.prog.types.size)) = true)
    (hr : fn.resultTypes = #[tb]) (hb : C.prog.underlying tb = some .bool) (hvars : s.vars = [])
    (hspec : ∀ ds : List (DataW H), ds.length = ts.length → s.fn H ds = { results := [.lit (.bool true)], args := ds })
    (walk : ∀ (W : World) (base : Nat) (args : Array Value) (ds : List (DataW H)) (p : List MemPlace),
      (∀ (j : Nat) t v, ts[j]? = some t → args[j]? = some v → Value.okWide C.prog W .any base t v) →
      DataW.TrodAll enc C.prog W 0 (fun _ => true) true ts args.toList ds p →
      Calls C.prog f args W fun e W' => e = .returned (.bool true) ∧ Below W.heap.size W W') :
    ReturnsInHanded a C os f .any (s.pre6 enc C.prog fn [] apart) (s.post enc C.prog fn apart fresh handsOn again) := by
  refine returnsInHanded_of_change own started noInit hfn witness ?_
  intro W base args ds gs before hval hW _ _
  have hW' := hW
  obtain ⟨p, q, hA, hV, rfl, hfz, hnd⟩ := hW
  rw [hp] at hA
  rw [hvars] at hV
  obtain ⟨rfl, rfl⟩ : gs = [] ∧ q = [] := by
    cases gs with
    | nil => exact ⟨rfl, by simpa [DataW.TrodVars] using hV⟩
    | cons g gs => simp [DataW.TrodVars] at hV
  have hlen : ∀ (ts : List TypeId) (vs : List Value) (ds : List (DataW H)) (ps : List MemPlace), DataW.TrodAll enc C.prog W 0 (fun _ => true) true ts vs ds ps → ds.length = ts.length := by
    intro ts
    induction ts with
    | nil => intro vs ds ps h; cases vs <;> cases ds <;> simp_all [DataW.TrodAll]
    | cons t ts ih =>
      intro vs ds ps h
      cases vs with
      | nil => simp [DataW.TrodAll] at h
      | cons v vs =>
        cases ds with
        | nil => simp [DataW.TrodAll] at h
        | cons d ds => obtain ⟨_, _, _, h2, _⟩ := h; simp [ih _ _ _ h2]
  have hs := hspec ds (hlen _ _ _ _ hA)
  refine (walk W base args ds p (fun j t v ht hv => hval j t v (by rw [← ht, ← hp]; simp) hv) hA).mono fun e W' ⟨he, hbel⟩ => ?_
  refine ⟨_, he, ?_⟩
  have hlt : ∀ x ∈ p, x.block < W.heap.size := fun x hx => hW'.lt x (by simpa using hx)
  refine post_of_below (pa := p) (pv := []) hW' ?_ ?_ ?_ rfl hbel ?_
  · intro b sp hd
    rw [hr]
    simp only [List.append_nil]
    rw [hs]
    exact trodAll_cons_mk (shut_bool hb _) trodAll_mk0
  · intro sp hsp
    simp only [List.append_nil]
    rw [hs, hp]
    exact trodAll_stays hl ts _ _ _ hts hA (fun x hx => hbel.same (hlt x hx)) (fun x hx => hsp x (by simpa using hx))
  · intro sp _
    rw [hvars]
    simp only [List.append_nil]
    rw [hs]
    exact rfl
  · exact ok_one hr rfl (okWide_bool_mk hb _)
end
end Go.Proofs.Ytkfbchgabmffoaa
