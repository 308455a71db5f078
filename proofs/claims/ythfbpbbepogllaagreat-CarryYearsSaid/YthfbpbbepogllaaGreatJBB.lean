/- Texts of this claim, put together. -/
import Derived.Test.YthfbpbbepogllaaGreatJAA
import Derived.ProofKit
import Derived.OpenShut
import Derived.ChangeSame
/- The row's last step where the walk ends in a world of which 'Below' is known. Over any program. -/
namespace Go.Proofs.YthfbpbbepogllaaGreat
set_option linter.unusedVariables false
set_option linter.unusedSimpArgs false
open Go.RowKit Go.WideShapes Go.ChangeShapes

section
variable {H : Type} {enc : TypeId × Value → H} {P : Program}
theorem post_of_below {f : Func} {s : ChangeSpec} {apart fresh handsOn again : Bool} {W W' : World} {args : Array Value} {v : Value} {ds gs : List (DataW H)} {before pa pv : List MemPlace}
    (hW : DataW.Whole enc P f.params.toList s.vars apart W args.toList ds gs before)
    (hres : ∀ (b : Nat) (sp : Nat → Bool) (hd : Bool), DataW.TrodAll enc P W' b sp hd f.resultTypes.toList (v.resultList f.resultTypes.size) (s.fn H (ds ++ gs)).results [])
    (hargs : ∀ sp : Nat → Bool, (∀ p ∈ before, sp p.block = true) → DataW.TrodAll enc P W' 0 sp true f.params.toList args.toList (s.fn H (ds ++ gs)).args pa)
    (hvars : ∀ sp : Nat → Bool, (∀ p ∈ before, sp p.block = true) → DataW.TrodVars enc P W' sp s.vars (s.fn H (ds ++ gs)).vars pv)
    (hps : before = pa ++ pv) (hb : Below W.heap.size W W')
    (hok : ∀ (j : Nat) (t : TypeId) (r : Value), f.resultTypes[j]? = some t → (v.resultList f.resultTypes.size)[j]? = some r → Value.okWide P W' .any 0 t r) :
    s.post enc P f apart fresh handsOn again W args v W' := by
  have hlt : ∀ p ∈ before, p.block < W.heap.size := fun p hp => hW.lt p hp
  have hold : ∀ p ∈ before, (fun b => decide (b < W.heap.size)) p.block = true := fun p hp => by simpa using hlt p hp
  refine ⟨ds, gs, before, [], pa, pv, hW, hres _ _ _, hargs _ hold, hvars _ hold, World.keptBut_mono (fun p hp => ⟨hp, ?_⟩) (hb.frame (· ∈ before)), fun _ => ?_⟩
  · rw [hps, List.mem_append] at hp
    exact Or.inr hp
  · obtain ⟨_, _, _, _, _, hz, hn⟩ := hW
    refine ⟨hok, _, _, ([] ++ pa) ++ pv, ⟨[] ++ pa, pv, trodAll_append (hargs _ (fun _ _ => rfl)) (hres _ _ _), hvars _ (fun _ _ => rfl), rfl, ?_, ?_⟩, ?_⟩
    · intro b off hp
      have hin : MemPlace.cell b off ∈ before := by rw [hps]; simpa using hp
      rw [hb.frozen (hlt _ hin)]
      exact hz b off hin
    · intro ha
      have := hn ha
      rw [hps] at this
      simpa using this
    · intro p hp _
      rw [hps]
      simpa using hp

/-- Arguments read as they did where nothing below the old heap has turned. -/
theorem trodAll_stays {W W' : World} {sp : Nat → Bool} (hl : laidOutB P = true) :
    ∀ (ts : List TypeId) (vs : List Value) (ds : List (DataW H)) (ps : List MemPlace), (ts.all fun t => P.readableRec t && decide (t < P.types.size)) = true →
      DataW.TrodAll enc P W 0 (fun _ => true) true ts vs ds ps → (∀ x ∈ ps, W.sameAt W' x) → (∀ x ∈ ps, sp x.block = true) → DataW.TrodAll enc P W' 0 sp true ts vs ds ps := by
  intro ts
  induction ts with
  | nil =>
    intro vs ds ps _ h _ _
    cases vs <;> cases ds <;> simp_all [DataW.TrodAll]
  | cons t ts ih =>
    intro vs ds ps hr h hs hp
    cases vs with
    | nil => simp [DataW.TrodAll] at h
    | cons v vs =>
      cases ds with
      | nil => simp [DataW.TrodAll] at h
      | cons d ds =>
        obtain ⟨p, q, h1, h2, rfl⟩ := h
        simp only [List.all_cons, Bool.and_eq_true, decide_eq_true_eq] at hr
        refine ⟨p, q, WideElems.Trod_stays hl hr.1.1 hr.1.2 h1 (fun x hx => hs x (by simp [hx])) (fun x hx => hp x (by simp [hx])), ?_, rfl⟩
        exact ih vs ds q (by rw [List.all_eq_true]; intro t ht; have := List.all_eq_true.1 hr.2 t ht; simpa using this) h2 (fun x hx => hs x (by simp [hx])) (fun x hx => hp x (by simp [hx]))

/-- A law that answers true, whatever it is called with, and changes nothing that was there: the row's step. -/
theorem law_lifted {a : Assume} {C : Checked} {os : Os} {f : FuncId} {fn : Func} {s : ChangeSpec} {apart fresh handsOn again : Bool} {ts : List TypeId} {tb : TypeId}
    (own : ownKnob C.prog.godebug = none) (started : os.Started) (noInit : C.prog.inits.idxOf? f = none) (hfn : C.prog.funcs[f]? = some fn)
    (witness : ∃ (w : World) (tape : Tape) (i : Input), w.os = os ∧ (w.forCall tape i).Shaped C.prog ∧ i.vars = [] ∧ Input.okWide C.prog (w.forCall tape i) .any w.heap.size f i ∧
      s.pre6 enc C.prog fn [] apart (w.forCall tape i).memory i.args ∧ a.holds C.prog (lone (Frame.enter C.prog f i.args .normal) [] (w.forCall tape i)))
    (hl : laidOutB C.prog = true) (hp : fn.params.toList = ts) (hts : (ts.all fun t => C.prog.readableRec t && decide (t < C.prog.types.size)) = true)
    (hr : fn.resultTypes = #[tb]) (hb : C.prog.underlying tb = some .bool) (hvars : s.vars = [])
    (hspec : ∀ ds : List (DataW H), ds.length = ts.length → s.fn H ds = { results := [.lit (.bool true)], args := ds })
    (walk : ∀ (W : World) (base : Nat) (args : Array Value) (ds : List (DataW H)) (p : List MemPlace),
      (∀ (j : Nat) t v, ts[j]? = some t → args[j]? = some v → Value.okWide C.prog W .any base t v) →
      DataW.TrodAll enc C.prog W 0 (fun _ => true) true ts args.toList ds p →
      Calls C.prog f args W fun e W' => e = .returned (.bool true) ∧ Below W.heap.size W W') :
    ReturnsInHanded a C os f .any (s.pre6 enc C.prog fn [] apart) (s.post enc C.prog fn apart fresh handsOn again) := by
  refine returnsInHanded_of_change own started noInit hfn witness ?_
  intro W base args ds gs before hval hW _ _
  have hW' := hW
  obtain ⟨p, q, hA, hV, rfl, hfz, hnd⟩ := hW
  rw [hp] at hA
  rw [hvars] at hV
  obtain ⟨rfl, rfl⟩ : gs = [] ∧ q = [] := by
    cases gs with
    | nil => exact ⟨rfl, by simpa [DataW.TrodVars] using hV⟩
    | cons g gs => simp [DataW.TrodVars] at hV
  have hlen : ∀ (ts : List TypeId) (vs : List Value) (ds : List (DataW H)) (ps : List MemPlace), DataW.TrodAll enc C.prog W 0 (fun _ => true) true ts vs ds ps → ds.length = ts.length := by
    intro ts
    induction ts with
    | nil => intro vs ds ps h; cases vs <;> cases ds <;> simp_all [DataW.TrodAll]
    | cons t ts ih =>
      intro vs ds ps h
      cases vs with
      | nil => simp [DataW.TrodAll] at h
      | cons v vs =>
        cases ds with
        | nil => simp [DataW.TrodAll] at h
        | cons d ds => obtain ⟨_, _, _, h2, _⟩ := h; simp [ih _ _ _ h2]
  have hs := hspec ds (hlen _ _ _ _ hA)
  refine (walk W base args ds p (fun j t v ht hv => hval j t v (by rw [← ht, ← hp]; simp) hv) hA).mono fun e W' ⟨he, hbel⟩ => ?_
  refine ⟨_, he, ?_⟩
  have hlt : ∀ x ∈ p, x.block < W.heap.size := fun x hx => hW'.lt x (by simpa using hx)
  refine post_of_below (pa := p) (pv := []) hW' ?_ ?_ ?_ rfl hbel ?_
  · intro b sp hd
    rw [hr]
    simp only [List.append_nil]
    rw [hs]
    exact trodAll_cons_mk (shut_bool hb _) trodAll_mk0
  · intro sp hsp
    simp only [List.append_nil]
    rw [hs, hp]
    exact trodAll_stays hl ts _ _ _ hts hA (fun x hx => hbel.same (hlt x hx)) (fun x hx => hsp x (by simpa using hx))
  · intro sp _
    rw [hvars]
    simp only [List.append_nil]
    rw [hs]
    exact rfl
  · exact ok_one hr rfl (okWide_bool_mk hb _)
end
end Go.Proofs.YthfbpbbepogllaaGreat
