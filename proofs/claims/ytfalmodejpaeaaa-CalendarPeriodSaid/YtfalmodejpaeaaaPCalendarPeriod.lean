/- 'CalendarPeriod' answers true for every input, and every argument reads behind the call as it did before. No condition. -/
import Derived.Test.YtfalmodejpaeaaaCalLaws
import Derived.Lib.SmallJoins
import Derived.Test.YtfalmodejpaeaaaRows
import Derived.Test.YtfalmodejpaeaaaLibB
namespace Go.Proofs.Ytfalmodejpaeaaa.calendarPeriod
open Go.ChangeShapes Go.WideShapes Go.ChangeAt Go.RowKit Go.Proofs.Ytfalmodejpaeaaa
open Go.ChangeMaps (open_string)
set_option linter.unusedVariables false
theorem own : ownKnob Try.prog.godebug = none := by kernel_rfl
theorem laidOut : laidOutB Try.prog = true := by kernel_rfl
theorem readable : (([23, 3] : List TypeId).all fun t => Program.readableRec Try.prog t && decide (t < Try.prog.types.size)) = true := by kernel_rfl
theorem params_ : Try.f7.params.toList = [23, 3] := by rw [Try.params7]
theorem walk_ {H : Type} {enc : TypeId × Value → H} (W : World) (base : Nat) (args : Array Value) (ds : List (DataW H)) (p : List MemPlace)
    (hval : ∀ (j : Nat) t v, ([23, 3] : List TypeId)[j]? = some t → args[j]? = some v → Value.okWide Try.prog W .any base t v)
    (hA : DataW.TrodAll enc Try.prog W 0 (fun _ => true) true [23, 3] args.toList ds p) :
    Calls Try.prog 7 args W fun e W' => e = .returned (.bool true) ∧ Below W.heap.size W W' := by
  obtain ⟨v0, vs0, d0, ds0, p0, q0, hargs, rfl, rfl, h0, r0⟩ := trodAll_cons hA
  obtain ⟨v1, vs1, d1, ds1, p1, q1, rfl, rfl, rfl, h1, r1⟩ := trodAll_cons r0
  obtain ⟨rfl, rfl, rfl⟩ := trodAll_nil r1
  obtain rfl : args = #[v0, v1] := by cases args; simp_all
  have hv0 := hval 0 23 v0 rfl rfl
  obtain ⟨d, rfl, _, _, w1⟩ := open_int Try.underlying3 (hval 1 3 v1 rfl rfl) h1
  have bd1 := bounds_i64 w1
  obtain ⟨c0, c1, c2, y0, y1, y2, m, rfl, _, _, t0, t1, t2⟩ := Joins.open_agg3 (Try.underlying23) (by kernel_rfl) (by kernel_rfl) hv0 h0
  obtain ⟨Y, e0, _, _⟩ := DataW.trod_int Try.underlying3 t0
  obtain ⟨M, e1, _, _⟩ := DataW.trod_int Try.underlying3 t1
  obtain ⟨P, e2, _, _⟩ := DataW.trod_int Try.underlying3 t2
  simp at e0 e1 e2
  subst e0 e1 e2
  exact law_CalendarPeriod Y M P d W
set_option maxRecDepth 100000 in
theorem lifted (os : Os) (started : os.Started) (H : Type) (enc : TypeId × Value → H) :
    ReturnsInHanded {} Try.checked os 7 .any (Rows.calendarPeriodSpec.pre6 enc Try.prog Try.f7 Rows.calendarPeriodRow.domain false) (Rows.calendarPeriodSpec.post enc Try.prog Try.f7 false true false false) :=
  law_lifted (C := Try.checked) own started (by kernel_rfl) Try.func7
    (ChangeSpec.witness6 (enc := enc) (C := Try.checked) false ⟨#[], #[.agg #[.int .i64 0, .int .i64 0, .int .i64 0], .int .i64 0], []⟩ 8 (by kernel_rfl) (by kernel_rfl) (by kernel_rfl) (by kernel_rfl))
    laidOut params_ readable rfl Try.underlying4 rfl
    (fun ds h => by match ds, h with | [_, _], _ => rfl)
    (fun W base args ds p hval hA => walk_ W base args ds p hval hA)
theorem over : Rows.calendarPeriodRow.holds Try.pinned (OpenSpec.ofChange Rows.calendarPeriodSpec) :=
  OpenClaim.holds_of_wide 7 Try.f7 rfl rfl rfl rfl rfl rfl rfl ⟨rfl, rfl, rfl, rfl, rfl⟩ rfl rfl rfl rfl rfl (by kernel_rfl) Try.func7 (by kernel_rfl)
    (of_decide_eq_true (by kernel_rfl)) (by unfold Func.isWrapper; first | (rw [if_pos (by decide +kernel)]; kernel_rfl) | (rw [if_neg (by decide +kernel)]; exact ⟨rfl, rfl⟩))
    (fun os started H enc _ => lifted os started H enc)
theorem proved : Rows.CalendarPeriodSaid := over
#print axioms proved
end Go.Proofs.Ytfalmodejpaeaaa.calendarPeriod
