/- 'DateParse' answers true for every input, and every argument reads behind the call as it did before. No condition. -/
import Derived.Test.YtaglhkjfbdafjaaDateLawsC
import Derived.Test.YtaglhkjfbdafjaaRows
import Derived.Test.YtaglhkjfbdafjaaLibB
namespace Go.Proofs.Ytaglhkjfbdafjaa.dateParse
open Go.ChangeShapes Go.WideShapes Go.ChangeAt Go.RowKit Go.Proofs.Ytaglhkjfbdafjaa
open Go.ChangeMaps (open_string)
set_option linter.unusedVariables false
theorem own : ownKnob Try.prog.godebug = none := by kernel_rfl
theorem laidOut : laidOutB Try.prog = true := by kernel_rfl
theorem readable : (([9] : List TypeId).all fun t => Program.readableRec Try.prog t && decide (t < Try.prog.types.size)) = true := by kernel_rfl
theorem params_ : Try.f9.params.toList = [9] := by rw [Try.params9]
theorem walk_ {H : Type} {enc : TypeId × Value → H} (W : World) (base : Nat) (args : Array Value) (ds : List (DataW H)) (p : List MemPlace)
    (hval : ∀ (j : Nat) t v, ([9] : List TypeId)[j]? = some t → args[j]? = some v → Value.okWide Try.prog W .any base t v)
    (hA : DataW.TrodAll enc Try.prog W 0 (fun _ => true) true [9] args.toList ds p) :
    Calls Try.prog 9 args W fun e W' => e = .returned (.bool true) ∧ Below W.heap.size W W' := by
  obtain ⟨v0, vs0, d0, ds0, p0, q0, hargs, rfl, rfl, h0, r0⟩ := trodAll_cons hA
  obtain ⟨rfl, rfl, rfl⟩ := trodAll_nil r0
  obtain rfl : args = #[v0] := by cases args; simp_all
  obtain ⟨s, rfl, _, _, hm0⟩ := open_string Try.underlying9 (hval 0 9 v0 rfl rfl) h0
  exact law_DateParse s W (by simp only [maxLen] at hm0; omega)
set_option maxRecDepth 100000 in
theorem lifted (os : Os) (started : os.Started) (H : Type) (enc : TypeId × Value → H) :
    ReturnsInHanded {} Try.checked os 9 .any (Rows.dateParseSpec.pre6 enc Try.prog Try.f9 Rows.dateParseRow.domain false) (Rows.dateParseSpec.post enc Try.prog Try.f9 false true false false) :=
  law_lifted (C := Try.checked) own started (by kernel_rfl) Try.func9
    (ChangeSpec.witness6 (enc := enc) (C := Try.checked) false ⟨#[], #[.string ⟨#[]⟩], []⟩ 8 (by kernel_rfl) (by kernel_rfl) (by kernel_rfl) (by kernel_rfl))
    laidOut params_ readable rfl Try.underlying4 rfl
    (fun ds h => by match ds, h with | [_], _ => rfl)
    (fun W base args ds p hval hA => walk_ W base args ds p hval hA)
theorem over : Rows.dateParseRow.holds Try.pinned (OpenSpec.ofChange Rows.dateParseSpec) :=
  OpenClaim.holds_of_wide 9 Try.f9 rfl rfl rfl rfl rfl rfl rfl ⟨rfl, rfl, rfl, rfl, rfl⟩ rfl rfl rfl rfl rfl (by kernel_rfl) Try.func9 (by kernel_rfl)
    (of_decide_eq_true (by kernel_rfl)) (by unfold Func.isWrapper; first | (rw [if_pos (by decide +kernel)]; kernel_rfl) | (rw [if_neg (by decide +kernel)]; exact ⟨rfl, rfl⟩))
    (fun os started H enc _ => lifted os started H enc)
theorem proved : Rows.DateParseSaid := over
#print axioms proved
end Go.Proofs.Ytaglhkjfbdafjaa.dateParse
