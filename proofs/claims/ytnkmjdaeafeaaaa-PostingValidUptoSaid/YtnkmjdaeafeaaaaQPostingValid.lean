/- 'PostingValid' answers true for every input, and every argument reads behind the call as it did before. No condition. -/
import Derived.Test.YtnkmjdaeafeaaaaJAS
import Derived.Test.YtnkmjdaeafeaaaaRows
namespace Go.Proofs.Ytnkmjdaeafeaaaa.postingValid
open Go.ChangeShapes Go.WideShapes Go.ChangeAt Go.RowKit Go.Proofs.Ytnkmjdaeafeaaaa
open Go.ChangeMaps (open_string)
set_option linter.unusedVariables false
theorem own : ownKnob Try.prog.godebug = none := by kernel_rfl
theorem laidOut : laidOutB Try.prog = true := by kernel_rfl
theorem readable : (([29, 55] : List TypeId).all fun t => Program.readableRec Try.prog t && decide (t < Try.prog.types.size)) = true := by kernel_rfl
theorem params_ : Try.f5.params.toList = [29, 55] := by rw [Try.params5]
set_option maxRecDepth 100000 in
theorem walk_ {H : Type} {enc : TypeId × Value → H} (W : World) (base : Nat) (args : Array Value) (ds : List (DataW H)) (p : List MemPlace) (hk : Rows.uptoSmall H ds = true)
    (hval : ∀ (j : Nat) t v, ([29, 55] : List TypeId)[j]? = some t → args[j]? = some v → Value.okWide Try.prog W .any base t v)
    (hA : DataW.TrodAll enc Try.prog W 0 (fun _ => true) true [29, 55] args.toList ds p) :
    Calls Try.prog 5 args W fun e W' => e = .returned (.bool true) ∧ Below W.heap.size W W' := by
  obtain ⟨v0, vs0, d0, ds0, p0, q0, hargs, rfl, rfl, h0, r0⟩ := trodAll_cons hA
  obtain ⟨v1, vs1, d1, ds1, p1, q1, rfl, rfl, rfl, h1, r1⟩ := trodAll_cons r0
  obtain ⟨rfl, rfl, rfl⟩ := trodAll_nil r1
  obtain rfl : args = #[v0, v1] := by cases args; simp_all
  have hv0 := hval 0 29 v0 rfl rfl
  have hv1 := hval 1 55 v1 rfl rfl
  have hbk := bulk_all hk
  obtain ⟨⟨cur, ⟨y, m, p⟩, ⟨cl, cA, cc⟩, ro, ⟨el, eA, ec⟩⟩, rfl, hO, hM⟩ := opensM_agg Try.underlying29 opensM_GrpR hv0 h0
  have hG := gin_of hO
  have hcs := hO.1
  have hcl := Nat.le_trans hO.2.2.1.1.2.1 hO.2.2.1.1.2.2
  have hel := Nat.le_trans hO.2.2.2.2.1.2.1 hO.2.2.2.2.1.2.2
  have hE := ents_few hM (Nat.le_trans (bulk_le (by simp)) hbk)
  obtain ⟨⟨kd, en, ot, ru, ⟨L, A, c⟩⟩, rfl, hO1⟩ := opens_agg Try.underlying55 opens_PostR hv1 h1
  obtain ⟨hr, hL⟩ := PostR.of hO1
  exact law_PostingValid cur y m p cl cA cc ro el eA ec W kd en ot ru L A c hG hcs hcl hel hE hr hL
set_option maxRecDepth 100000 in
theorem lifted (os : Os) (started : os.Started) (H : Type) (enc : TypeId × Value → H) (F : Stop.Interp) :
    ReturnsInHanded {} Try.checked os 5 .any ((Rows.OpenSpec.upto Rows.postingValidSpec).pre6 enc Try.prog Try.f5 Rows.postingValidUptoRow.domain false) (((Rows.OpenSpec.upto Rows.postingValidSpec).at F).post enc Try.prog Try.f5 false true false false) := by
  refine returnsInHanded_of_cond (C := Try.checked) (s := Rows.OpenSpec.upto Rows.postingValidSpec) (k := Rows.uptoSmall) rfl own started (by kernel_rfl) Try.func5
    (OpenSpec.witness (enc := enc) (C := Try.checked) (s := Rows.OpenSpec.upto Rows.postingValidSpec) (k := Rows.uptoSmall) rfl false ⟨#[], #[.agg #[.string ⟨#[]⟩, .int .i64 0, .int .i64 0, .int .i64 0, .slice none 0 0, .int .i64 0, .int .i64 0, .int .i64 0, .int .i64 0, .int .i64 0, .int .i64 0, .int .i64 0, .int .i64 0, .int .i64 0, .int .i64 0, .int .i64 0, .int .i64 0, .int .i64 0, .int .i64 0, .int .i64 0, .slice none 0 0], .agg #[.int .i64 0, .int .i64 0, .int .i64 0, .int .i64 0, .slice none 0 0]], []⟩ 8 (by kernel_rfl) (by kernel_rfl) (by kernel_rfl)
      (x := ([.agg [.lit (.string []), .agg [.lit (.int .i64 0), .lit (.int .i64 0), .lit (.int .i64 0)], .nil, .agg [.lit (.int .i64 0), .lit (.int .i64 0), .lit (.int .i64 0), .lit (.int .i64 0), .lit (.int .i64 0), .lit (.int .i64 0), .lit (.int .i64 0), .lit (.int .i64 0), .lit (.int .i64 0), .lit (.int .i64 0), .lit (.int .i64 0), .lit (.int .i64 0), .lit (.int .i64 0), .lit (.int .i64 0), .lit (.int .i64 0)], .nil], .agg [.lit (.int .i64 0), .lit (.int .i64 0), .lit (.int .i64 0), .lit (.int .i64 0), .nil]], [], [])) (by kernel_rfl) rfl (by kernel_rfl)) ?_
  intro W base args ds gs before hval hW _ hk _
  exact law_contract (C := Try.checked) (f := 5) (fn := Try.f5) (s := Rows.postingValidSpec) (ts := [29, 55]) laidOut params_ readable rfl Try.underlying4 rfl (fun ds h => by match ds, h with | [_, _], _ => rfl)
    (fun W base args ds p hk hval hA => walk_ W base args ds p hk hval hA) W base args ds gs before hval hW hk
theorem proved : Rows.PostingValidUptoSaid :=
  OpenClaim.holds_of_cond 5 Try.f5 rfl rfl rfl rfl rfl rfl rfl ⟨rfl, rfl, rfl, rfl, rfl⟩ rfl rfl rfl rfl rfl (by kernel_rfl) Try.func5 (by kernel_rfl)
    (of_decide_eq_true (by kernel_rfl)) (by unfold Func.isWrapper; first | (rw [if_pos (by decide +kernel)]; kernel_rfl) | (rw [if_neg (by decide +kernel)]; exact ⟨rfl, rfl⟩))
    (fun os started H enc _ F => lifted os started H enc F)
#print axioms proved
end Go.Proofs.Ytnkmjdaeafeaaaa.postingValid
