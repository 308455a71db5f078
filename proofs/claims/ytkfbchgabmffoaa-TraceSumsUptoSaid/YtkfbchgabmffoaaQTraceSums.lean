/- 'TraceSums' answers true for every input, and every argument reads behind the call as it did before. No condition. -/
import Derived.Test.YtkfbchgabmffoaaJAQ
import Derived.Test.YtkfbchgabmffoaaTrcLawsDZ
import Derived.Test.YtkfbchgabmffoaaRows
namespace Go.Proofs.Ytkfbchgabmffoaa.traceSums
open Go.ChangeShapes Go.WideShapes Go.ChangeAt Go.RowKit Go.Proofs.Ytkfbchgabmffoaa
open Go.ChangeMaps (open_string)
set_option linter.unusedVariables false
theorem own : ownKnob Try.prog.godebug = none := by kernel_rfl
theorem laidOut : laidOutB Try.prog = true := by kernel_rfl
theorem readable : (([26, 3, 3] : List TypeId).all fun t => Program.readableRec Try.prog t && decide (t < Try.prog.types.size)) = true := by kernel_rfl
theorem params_ : Try.f5.params.toList = [26, 3, 3] := by rw [Try.params5]
set_option maxRecDepth 100000 in
theorem walk_ {H : Type} {enc : TypeId × Value → H} (W : World) (base : Nat) (args : Array Value) (ds : List (DataW H)) (p : List MemPlace) (hk : Rows.uptoSmall H ds = true)
    (hval : ∀ (j : Nat) t v, ([26, 3, 3] : List TypeId)[j]? = some t → args[j]? = some v → Value.okWide Try.prog W .any base t v)
    (hA : DataW.TrodAll enc Try.prog W 0 (fun _ => true) true [26, 3, 3] args.toList ds p) :
    Calls Try.prog 5 args W fun e W' => e = .returned (.bool true) ∧ Below W.heap.size W W' := by
  obtain ⟨v0, vs0, d0, ds0, p0, q0, hargs, rfl, rfl, h0, r0⟩ := trodAll_cons hA
  obtain ⟨v1, vs1, d1, ds1, p1, q1, rfl, rfl, rfl, h1, r1⟩ := trodAll_cons r0
  obtain ⟨v2, vs2, d2, ds2, p2, q2, rfl, rfl, rfl, h2, r2⟩ := trodAll_cons r1
  obtain ⟨rfl, rfl, rfl⟩ := trodAll_nil r2
  obtain rfl : args = #[v0, v1, v2] := by cases args; simp_all
  have hv0 := hval 0 26 v0 rfl rfl
  obtain ⟨f, rfl, _, _, w1⟩ := open_int Try.underlying3 (hval 1 3 v1 rfl rfl) h1
  have bd1 := bounds_i64 w1
  obtain ⟨t, rfl, _, _, w2⟩ := open_int Try.underlying3 (hval 2 3 v2 rfl rfl) h2
  have bd2 := bounds_i64 w2
  have hbk := bulk_all hk
  obtain ⟨⟨per, ⟨I, AI, cI⟩, ⟨P, AP, cP⟩, ⟨T, AT, cT⟩⟩, rfl, hO, hM⟩ := opensM_agg Try.underlying26 opensM_ResR hv0 h0
  have hT := tin_of hO hM (Nat.le_trans (bulk_le (by simp)) hbk)
  exact law_TraceSums per I AI cI P AP cP T AT cT W f t hT
set_option maxRecDepth 100000 in
theorem lifted (os : Os) (started : os.Started) (H : Type) (enc : TypeId × Value → H) (F : Stop.Interp) :
    ReturnsInHanded {} Try.checked os 5 .any ((Rows.OpenSpec.upto Rows.traceSumsSpec).pre6 enc Try.prog Try.f5 Rows.traceSumsUptoRow.domain false) (((Rows.OpenSpec.upto Rows.traceSumsSpec).at F).post enc Try.prog Try.f5 false true false false) := by
  refine returnsInHanded_of_cond (C := Try.checked) (s := Rows.OpenSpec.upto Rows.traceSumsSpec) (k := Rows.uptoSmall) rfl own started (by kernel_rfl) Try.func5
    (OpenSpec.witness (enc := enc) (C := Try.checked) (s := Rows.OpenSpec.upto Rows.traceSumsSpec) (k := Rows.uptoSmall) rfl false ⟨#[], #[.agg #[.int .i64 0, .slice none 0 0, .slice none 0 0, .slice none 0 0], .int .i64 0, .int .i64 0], []⟩ 8 (by kernel_rfl) (by kernel_rfl) (by kernel_rfl)
      (x := ([.agg [.lit (.int .i64 0), .nil, .nil, .nil], .lit (.int .i64 0), .lit (.int .i64 0)], [], [])) (by kernel_rfl) rfl (by kernel_rfl)) ?_
  intro W base args ds gs before hval hW _ hk _
  exact law_contract (C := Try.checked) (f := 5) (fn := Try.f5) (s := Rows.traceSumsSpec) (ts := [26, 3, 3]) laidOut params_ readable rfl Try.underlying4 rfl (fun ds h => by match ds, h with | [_, _, _], _ => rfl)
    (fun W base args ds p hk hval hA => walk_ W base args ds p hk hval hA) W base args ds gs before hval hW hk
theorem proved : Rows.TraceSumsUptoSaid :=
  OpenClaim.holds_of_cond 5 Try.f5 rfl rfl rfl rfl rfl rfl rfl ⟨rfl, rfl, rfl, rfl, rfl⟩ rfl rfl rfl rfl rfl (by kernel_rfl) Try.func5 (by kernel_rfl)
    (of_decide_eq_true (by kernel_rfl)) (by unfold Func.isWrapper; first | (rw [if_pos (by decide +kernel)]; kernel_rfl) | (rw [if_neg (by decide +kernel)]; exact ⟨rfl, rfl⟩))
    (fun os started H enc _ F => lifted os started H enc F)
#print axioms proved
end Go.Proofs.Ytkfbchgabmffoaa.traceSums
