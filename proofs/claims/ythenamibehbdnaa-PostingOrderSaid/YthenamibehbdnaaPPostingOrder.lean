/- 'PostingOrder' answers true for every input, and every argument reads behind the call as it did before. No condition. -/
import Derived.Test.YthenamibehbdnaaPostLawsD
import Derived.Test.YthenamibehbdnaaApi
import Derived.Test.YthenamibehbdnaaRows
import Derived.Test.YthenamibehbdnaaLibB
namespace Go.Proofs.Ythenamibehbdnaa.postingOrder
open Go.ChangeShapes Go.WideShapes Go.ChangeAt Go.RowKit Go.Proofs.Ythenamibehbdnaa
open Go.ChangeMaps (open_string)
set_option linter.unusedVariables false
theorem own : ownKnob Try.prog.godebug = none := by kernel_rfl
theorem laidOut : laidOutB Try.prog = true := by kernel_rfl
theorem readable : (([45, 45, 45] : List TypeId).all fun t => Program.readableRec Try.prog t && decide (t < Try.prog.types.size)) = true := by kernel_rfl
theorem params_ : Try.f8.params.toList = [45, 45, 45] := by rw [Try.params8]
set_option maxRecDepth 100000 in
theorem walk_ {H : Type} {enc : TypeId × Value → H} (W : World) (base : Nat) (args : Array Value) (ds : List (DataW H)) (p : List MemPlace)
    (hval : ∀ (j : Nat) t v, ([45, 45, 45] : List TypeId)[j]? = some t → args[j]? = some v → Value.okWide Try.prog W .any base t v)
    (hA : DataW.TrodAll enc Try.prog W 0 (fun _ => true) true [45, 45, 45] args.toList ds p) :
    Calls Try.prog 8 args W fun e W' => e = .returned (.bool true) ∧ Below W.heap.size W W' := by
  obtain ⟨v0, vs0, d0, ds0, p0, q0, hargs, rfl, rfl, h0, r0⟩ := trodAll_cons hA
  obtain ⟨v1, vs1, d1, ds1, p1, q1, rfl, rfl, rfl, h1, r1⟩ := trodAll_cons r0
  obtain ⟨v2, vs2, d2, ds2, p2, q2, rfl, rfl, rfl, h2, r2⟩ := trodAll_cons r1
  obtain ⟨rfl, rfl, rfl⟩ := trodAll_nil r2
  obtain rfl : args = #[v0, v1, v2] := by cases args; simp_all
  have hv0 := hval 0 45 v0 rfl rfl
  have hv1 := hval 1 45 v1 rfl rfl
  have hv2 := hval 2 45 v2 rfl rfl
  obtain ⟨⟨a1, a2, a3, a4, ⟨m, A, k1⟩⟩, rfl, hOa⟩ := opens_agg Try.underlying45 opens_PostR hv0 h0
  obtain ⟨⟨b1, b2, b3, b4, ⟨n, B, k2⟩⟩, rfl, hOb⟩ := opens_agg Try.underlying45 opens_PostR hv1 h1
  obtain ⟨⟨c1, c2, c3, c4, ⟨o, C, k3⟩⟩, rfl, hOc⟩ := opens_agg Try.underlying45 opens_PostR hv2 h2
  have ka := hOa.2.2.2.2.1
  have kb := hOb.2.2.2.2.1
  have kc := hOc.2.2.2.2.1
  exact law_PostingOrder ⟨a1, a2, a3, a4⟩ ⟨b1, b2, b3, b4⟩ ⟨c1, c2, c3, c4⟩ m n o A B C _ _ _ W (Nat.le_trans ka.2.1 ka.2.2) (Nat.le_trans kb.2.1 kb.2.2) (Nat.le_trans kc.2.1 kc.2.2) ka.1 kb.1
set_option maxRecDepth 100000 in
theorem lifted (os : Os) (started : os.Started) (H : Type) (enc : TypeId × Value → H) :
    ReturnsInHanded {} Try.checked os 8 .any (Rows.postingOrderSpec.pre6 enc Try.prog Try.f8 Rows.postingOrderRow.domain false) (Rows.postingOrderSpec.post enc Try.prog Try.f8 false true false false) :=
  law_lifted (C := Try.checked) own started (by kernel_rfl) Try.func8
    (ChangeSpec.witness6 (enc := enc) (C := Try.checked) false ⟨#[], #[.agg #[.int .i64 0, .int .i64 0, .int .i64 0, .int .i64 0, .slice none 0 0], .agg #[.int .i64 0, .int .i64 0, .int .i64 0, .int .i64 0, .slice none 0 0], .agg #[.int .i64 0, .int .i64 0, .int .i64 0, .int .i64 0, .slice none 0 0]], []⟩ 8 (by kernel_rfl) (by kernel_rfl) (by kernel_rfl) (by kernel_rfl))
    laidOut params_ readable rfl Try.underlying4 rfl
    (fun ds h => by match ds, h with | [_, _, _], _ => rfl)
    (fun W base args ds p hval hA => walk_ W base args ds p hval hA)
theorem over : Rows.postingOrderRow.holds Try.pinned (OpenSpec.ofChange Rows.postingOrderSpec) :=
  OpenClaim.holds_of_wide 8 Try.f8 rfl rfl rfl rfl rfl rfl rfl ⟨rfl, rfl, rfl, rfl, rfl⟩ rfl rfl rfl rfl rfl (by kernel_rfl) Try.func8 (by kernel_rfl)
    (of_decide_eq_true (by kernel_rfl)) (by unfold Func.isWrapper; first | (rw [if_pos (by decide +kernel)]; kernel_rfl) | (rw [if_neg (by decide +kernel)]; exact ⟨rfl, rfl⟩))
    (fun os started H enc _ => lifted os started H enc)
theorem proved : Rows.PostingOrderSaid := over
#print axioms proved
end Go.Proofs.Ythenamibehbdnaa.postingOrder
