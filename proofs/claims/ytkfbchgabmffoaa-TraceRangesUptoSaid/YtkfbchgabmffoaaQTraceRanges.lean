/- 'TraceRanges' answers true for every input, and every argument reads behind the call as it did before. No condition. -/
import Derived.Test.YtkfbchgabmffoaaJAQ
import Derived.Test.YtkfbchgabmffoaaTrcLawsEZ
import Derived.Test.YtkfbchgabmffoaaJAE
import Derived.Test.YtkfbchgabmffoaaRows
namespace Go.Proofs.Ytkfbchgabmffoaa.traceRanges
open Go.ChangeShapes Go.WideShapes Go.ChangeAt Go.RowKit Go.Proofs.Ytkfbchgabmffoaa
open Go.ChangeMaps (open_string)
set_option linter.unusedVariables false
theorem own : ownKnob Try.prog.godebug = none := by kernel_rfl
theorem laidOut : laidOutB Try.prog = true := by kernel_rfl
theorem readable : (([26, 41] : List TypeId).all fun t => Program.readableRec Try.prog t && decide (t < Try.prog.types.size)) = true := by kernel_rfl
theorem params_ : Try.f6.params.toList = [26, 41] := by rw [Try.params6]
set_option maxRecDepth 100000 in
theorem walk_ {H : Type} {enc : TypeId × Value → H} (W : World) (base : Nat) (args : Array Value) (ds : List (DataW H)) (p : List MemPlace) (hk : Rows.uptoSmall H ds = true)
    (hval : ∀ (j : Nat) t v, ([26, 41] : List TypeId)[j]? = some t → args[j]? = some v → Value.okWide Try.prog W .any base t v)
    (hA : DataW.TrodAll enc Try.prog W 0 (fun _ => true) true [26, 41] args.toList ds p) :
    Calls Try.prog 6 args W fun e W' => e = .returned (.bool true) ∧ Below W.heap.size W W' := by
  obtain ⟨v0, vs0, d0, ds0, p0, q0, hargs, rfl, rfl, h0, r0⟩ := trodAll_cons hA
  obtain ⟨v1, vs1, d1, ds1, p1, q1, rfl, rfl, rfl, h1, r1⟩ := trodAll_cons r0
  obtain ⟨rfl, rfl, rfl⟩ := trodAll_nil r1
  obtain rfl : args = #[v0, v1] := by cases args; simp_all
  have hv0 := hval 0 26 v0 rfl rfl
  have hv1 := hval 1 41 v1 rfl rfl
  have hbk := bulk_all hk
  obtain ⟨⟨per, ⟨I, AI, cI⟩, ⟨P, AP, cP⟩, ⟨T, AT, cT⟩⟩, rfl, hO, hM⟩ := opensM_agg Try.underlying26 opensM_ResR hv0 h0
  have hT := tin_of hO hM (Nat.le_trans (bulk_le (by simp)) hbk)
  obtain ⟨c0, c1, c2, y0, y1, y2, n, rfl, t0, t1, t2⟩ := open_arr3 Try.underlying41 (by kernel_rfl) (by kernel_rfl) hv1 h1
  obtain ⟨a, e0, _, w0⟩ := DataW.trod_int Try.underlying40 t0
  obtain ⟨b, e1, _, w1⟩ := DataW.trod_int Try.underlying40 t1
  obtain ⟨c, e2, _, w2⟩ := DataW.trod_int Try.underlying40 t2
  simp at e0 e1 e2
  subst e0 e1 e2
  have k0 := bounds_u16 w0
  have k1 := bounds_u16 w1
  have k2 := bounds_u16 w2
  exact law_TraceRanges per I AI cI P AP cP T AT cT W a b c k0.1 k0.2 k1.1 k1.2 k2.1 k2.2 hT
set_option maxRecDepth 100000 in
theorem lifted (os : Os) (started : os.Started) (H : Type) (enc : TypeId × Value → H) (F : Stop.Interp) :
    ReturnsInHanded {} Try.checked os 6 .any ((Rows.OpenSpec.upto Rows.traceRangesSpec).pre6 enc Try.prog Try.f6 Rows.traceRangesUptoRow.domain false) (((Rows.OpenSpec.upto Rows.traceRangesSpec).at F).post enc Try.prog Try.f6 false true false false) := by
  refine returnsInHanded_of_cond (C := Try.checked) (s := Rows.OpenSpec.upto Rows.traceRangesSpec) (k := Rows.uptoSmall) rfl own started (by kernel_rfl) Try.func6
    (OpenSpec.witness (enc := enc) (C := Try.checked) (s := Rows.OpenSpec.upto Rows.traceRangesSpec) (k := Rows.uptoSmall) rfl false ⟨#[], #[.agg #[.int .i64 0, .slice none 0 0, .slice none 0 0, .slice none 0 0], .agg #[.int .u16 0, .int .u16 0, .int .u16 0]], []⟩ 8 (by kernel_rfl) (by kernel_rfl) (by kernel_rfl)
      (x := ([.agg [.lit (.int .i64 0), .nil, .nil, .nil], .agg [.lit (.int .u16 0), .lit (.int .u16 0), .lit (.int .u16 0)]], [], [])) (by kernel_rfl) rfl (by kernel_rfl)) ?_
  intro W base args ds gs before hval hW _ hk _
  exact law_contract (C := Try.checked) (f := 6) (fn := Try.f6) (s := Rows.traceRangesSpec) (ts := [26, 41]) laidOut params_ readable rfl Try.underlying4 rfl (fun ds h => by match ds, h with | [_, _], _ => rfl)
    (fun W base args ds p hk hval hA => walk_ W base args ds p hk hval hA) W base args ds gs before hval hW hk
theorem proved : Rows.TraceRangesUptoSaid :=
  OpenClaim.holds_of_cond 6 Try.f6 rfl rfl rfl rfl rfl rfl rfl ⟨rfl, rfl, rfl, rfl, rfl⟩ rfl rfl rfl rfl rfl (by kernel_rfl) Try.func6 (by kernel_rfl)
    (of_decide_eq_true (by kernel_rfl)) (by unfold Func.isWrapper; first | (rw [if_pos (by decide +kernel)]; kernel_rfl) | (rw [if_neg (by decide +kernel)]; exact ⟨rfl, rfl⟩))
    (fun os started H enc _ F => lifted os started H enc F)
#print axioms proved
end Go.Proofs.Ytkfbchgabmffoaa.traceRanges
