/- 'TraceCheck' answers true for every input, and every argument reads behind the call as it did before. No condition. -/
import Derived.Test.YtkfbchgabmffoaaJAQ
import Derived.Test.YtkfbchgabmffoaaRows
namespace Go.Proofs.Ytkfbchgabmffoaa.traceCheck
open Go.ChangeShapes Go.WideShapes Go.ChangeAt Go.RowKit Go.Proofs.Ytkfbchgabmffoaa
open Go.ChangeMaps (open_string)
set_option linter.unusedVariables false
theorem own : ownKnob Try.prog.godebug = none := by kernel_rfl
theorem laidOut : laidOutB Try.prog = true := by kernel_rfl
theorem readable : (([26] : List TypeId).all fun t => Program.readableRec Try.prog t && decide (t < Try.prog.types.size)) = true := by kernel_rfl
theorem params_ : Try.f4.params.toList = [26] := by rw [Try.params4]
set_option maxRecDepth 100000 in
theorem walk_ {H : Type} {enc : TypeId × Value → H} (W : World) (base : Nat) (args : Array Value) (ds : List (DataW H)) (p : List MemPlace) (hk : Rows.uptoSmall H ds = true)
    (hval : ∀ (j : Nat) t v, ([26] : List TypeId)[j]? = some t → args[j]? = some v → Value.okWide Try.prog W .any base t v)
    (hA : DataW.TrodAll enc Try.prog W 0 (fun _ => true) true [26] args.toList ds p) :
    Calls Try.prog 4 args W fun e W' => e = .returned (.bool true) ∧ Below W.heap.size W W' := by
  obtain ⟨v0, vs0, d0, ds0, p0, q0, hargs, rfl, rfl, h0, r0⟩ := trodAll_cons hA
  obtain ⟨rfl, rfl, rfl⟩ := trodAll_nil r0
  obtain rfl : args = #[v0] := by cases args; simp_all
  have hv0 := hval 0 26 v0 rfl rfl
  have hbk := bulk_all hk
  obtain ⟨⟨per, ⟨I, AI, cI⟩, ⟨P, AP, cP⟩, ⟨T, AT, cT⟩⟩, rfl, hO, hM⟩ := opensM_agg Try.underlying26 opensM_ResR hv0 h0
  have hT := tin_of hO hM (Nat.le_trans (bulk_le (by simp)) hbk)
  exact law_TraceCheck per I AI cI P AP cP T AT cT W hT
set_option maxRecDepth 100000 in
theorem lifted (os : Os) (started : os.Started) (H : Type) (enc : TypeId × Value → H) (F : Stop.Interp) :
    ReturnsInHanded {} Try.checked os 4 .any ((Rows.OpenSpec.upto Rows.traceCheckSpec).pre6 enc Try.prog Try.f4 Rows.traceCheckUptoRow.domain false) (((Rows.OpenSpec.upto Rows.traceCheckSpec).at F).post enc Try.prog Try.f4 false true false false) := by
  refine returnsInHanded_of_cond (C := Try.checked) (s := Rows.OpenSpec.upto Rows.traceCheckSpec) (k := Rows.uptoSmall) rfl own started (by kernel_rfl) Try.func4
    (OpenSpec.witness (enc := enc) (C := Try.checked) (s := Rows.OpenSpec.upto Rows.traceCheckSpec) (k := Rows.uptoSmall) rfl false ⟨#[], #[.agg #[.int .i64 0, .slice none 0 0, .slice none 0 0, .slice none 0 0]], []⟩ 8 (by kernel_rfl) (by kernel_rfl) (by kernel_rfl)
      (x := ([.agg [.lit (.int .i64 0), .nil, .nil, .nil]], [], [])) (by kernel_rfl) rfl (by kernel_rfl)) ?_
  intro W base args ds gs before hval hW _ hk _
  exact law_contract (C := Try.checked) (f := 4) (fn := Try.f4) (s := Rows.traceCheckSpec) (ts := [26]) laidOut params_ readable rfl Try.underlying4 rfl (fun ds h => by match ds, h with | [_], _ => rfl)
    (fun W base args ds p hk hval hA => walk_ W base args ds p hk hval hA) W base args ds gs before hval hW hk
theorem proved : Rows.TraceCheckUptoSaid :=
  OpenClaim.holds_of_cond 4 Try.f4 rfl rfl rfl rfl rfl rfl rfl ⟨rfl, rfl, rfl, rfl, rfl⟩ rfl rfl rfl rfl rfl (by kernel_rfl) Try.func4 (by kernel_rfl)
    (of_decide_eq_true (by kernel_rfl)) (by unfold Func.isWrapper; first | (rw [if_pos (by decide +kernel)]; kernel_rfl) | (rw [if_neg (by decide +kernel)]; exact ⟨rfl, rfl⟩))
    (fun os started H enc _ F => lifted os started H enc F)
#print axioms proved
end Go.Proofs.Ytkfbchgabmffoaa.traceCheck
