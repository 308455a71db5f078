/- 'PostingUndone' answers true for every input, and every argument reads behind the call as it did before. No condition. -/
import Derived.Test.YthenamibehbdnaaTotLawsB
import Derived.Test.YthenamibehbdnaaApi
import Derived.Test.YthenamibehbdnaaRows
import Derived.Test.YthenamibehbdnaaLibB
namespace Go.Proofs.Ythenamibehbdnaa.postingUndone
open Go.ChangeShapes Go.WideShapes Go.ChangeAt Go.RowKit Go.Proofs.Ythenamibehbdnaa
open Go.ChangeMaps (open_string)
set_option linter.unusedVariables false
theorem own : ownKnob Try.prog.godebug = none := by kernel_rfl
theorem laidOut : laidOutB Try.prog = true := by kernel_rfl
theorem readable : (([43, 45] : List TypeId).all fun t => Program.readableRec Try.prog t && decide (t < Try.prog.types.size)) = true := by kernel_rfl
theorem params_ : Try.f6.params.toList = [43, 45] := by rw [Try.params6]
set_option maxRecDepth 100000 in
theorem walk_ {H : Type} {enc : TypeId × Value → H} (W : World) (base : Nat) (args : Array Value) (ds : List (DataW H)) (p : List MemPlace)
    (hval : ∀ (j : Nat) t v, ([43, 45] : List TypeId)[j]? = some t → args[j]? = some v → Value.okWide Try.prog W .any base t v)
    (hA : DataW.TrodAll enc Try.prog W 0 (fun _ => true) true [43, 45] args.toList ds p) :
    Calls Try.prog 6 args W fun e W' => e = .returned (.bool true) ∧ Below W.heap.size W W' := by
  obtain ⟨v0, vs0, d0, ds0, p0, q0, hargs, rfl, rfl, h0, r0⟩ := trodAll_cons hA
  obtain ⟨v1, vs1, d1, ds1, p1, q1, rfl, rfl, rfl, h1, r1⟩ := trodAll_cons r0
  obtain ⟨rfl, rfl, rfl⟩ := trodAll_nil r1
  obtain rfl : args = #[v0, v1] := by cases args; simp_all
  have hv0 := hval 0 43 v0 rfl rfl
  have hv1 := hval 1 45 v1 rfl rfl
  obtain ⟨⟨per, ⟨I, AI, cI⟩, ⟨P, AP, cP⟩, ⟨T, AT, cT⟩⟩, rfl, hO⟩ := opens_agg Try.underlying43 opens_ResR hv0 h0
  have hOI := hO.2.1
  have hOP := hO.2.2.1
  have hOT := hO.2.2.2
  have hlI := Nat.le_trans hOI.1.2.1 hOI.1.2.2
  have hlP := Nat.le_trans hOP.1.2.1 hOP.1.2.2
  have hlT := Nat.le_trans hOT.1.2.1 hOT.1.2.2
  obtain ⟨⟨a1, a2, a3, a4, ⟨m, A, cap⟩⟩, rfl, hO1⟩ := opens_agg Try.underlying45 opens_PostR hv1 h1
  exact law_PostingUndone per I AI cI P AP cP _ a1 a2 a3 a4 m A cap W hOI.1.1 hOP.1.1 hOP.2 hOI.2 hlI hlP hO1
set_option maxRecDepth 100000 in
theorem lifted (os : Os) (started : os.Started) (H : Type) (enc : TypeId × Value → H) :
    ReturnsInHanded {} Try.checked os 6 .any (Rows.postingUndoneSpec.pre6 enc Try.prog Try.f6 Rows.postingUndoneRow.domain false) (Rows.postingUndoneSpec.post enc Try.prog Try.f6 false true false false) :=
  law_lifted (C := Try.checked) own started (by kernel_rfl) Try.func6
    (ChangeSpec.witness6 (enc := enc) (C := Try.checked) false ⟨#[], #[.agg #[.int .i64 0, .slice none 0 0, .slice none 0 0, .slice none 0 0], .agg #[.int .i64 0, .int .i64 0, .int .i64 0, .int .i64 0, .slice none 0 0]], []⟩ 8 (by kernel_rfl) (by kernel_rfl) (by kernel_rfl) (by kernel_rfl))
    laidOut params_ readable rfl Try.underlying4 rfl
    (fun ds h => by match ds, h with | [_, _], _ => rfl)
    (fun W base args ds p hval hA => walk_ W base args ds p hval hA)
theorem over : Rows.postingUndoneRow.holds Try.pinned (OpenSpec.ofChange Rows.postingUndoneSpec) :=
  OpenClaim.holds_of_wide 6 Try.f6 rfl rfl rfl rfl rfl rfl rfl ⟨rfl, rfl, rfl, rfl, rfl⟩ rfl rfl rfl rfl rfl (by kernel_rfl) Try.func6 (by kernel_rfl)
    (of_decide_eq_true (by kernel_rfl)) (by unfold Func.isWrapper; first | (rw [if_pos (by decide +kernel)]; kernel_rfl) | (rw [if_neg (by decide +kernel)]; exact ⟨rfl, rfl⟩))
    (fun os started H enc _ => lifted os started H enc)
theorem proved : Rows.PostingUndoneSaid := over
#print axioms proved
end Go.Proofs.Ythenamibehbdnaa.postingUndone
