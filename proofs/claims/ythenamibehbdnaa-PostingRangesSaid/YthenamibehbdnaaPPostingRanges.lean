/- 'PostingRanges' answers true for every input, and every argument reads behind the call as it did before. No condition. -/
import Derived.Test.YthenamibehbdnaaPostLawsC
import Derived.Test.YthenamibehbdnaaLibI
import Derived.Test.YthenamibehbdnaaRows
import Derived.Test.YthenamibehbdnaaLibB
namespace Go.Proofs.Ythenamibehbdnaa.postingRanges
open Go.ChangeShapes Go.WideShapes Go.ChangeAt Go.RowKit Go.Proofs.Ythenamibehbdnaa
open Go.ChangeMaps (open_string)
set_option linter.unusedVariables false
theorem own : ownKnob Try.prog.godebug = none := by kernel_rfl
theorem laidOut : laidOutB Try.prog = true := by kernel_rfl
theorem readable : (([32, 34] : List TypeId).all fun t => Program.readableRec Try.prog t && decide (t < Try.prog.types.size)) = true := by kernel_rfl
theorem params_ : Try.f4.params.toList = [32, 34] := by rw [Try.params4]
set_option maxRecDepth 100000 in
theorem walk_ {H : Type} {enc : TypeId × Value → H} (W : World) (base : Nat) (args : Array Value) (ds : List (DataW H)) (p : List MemPlace)
    (hval : ∀ (j : Nat) t v, ([32, 34] : List TypeId)[j]? = some t → args[j]? = some v → Value.okWide Try.prog W .any base t v)
    (hA : DataW.TrodAll enc Try.prog W 0 (fun _ => true) true [32, 34] args.toList ds p) :
    Calls Try.prog 4 args W fun e W' => e = .returned (.bool true) ∧ Below W.heap.size W W' := by
  obtain ⟨v0, vs0, d0, ds0, p0, q0, hargs, rfl, rfl, h0, r0⟩ := trodAll_cons hA
  obtain ⟨v1, vs1, d1, ds1, p1, q1, rfl, rfl, rfl, h1, r1⟩ := trodAll_cons r0
  obtain ⟨rfl, rfl, rfl⟩ := trodAll_nil r1
  obtain rfl : args = #[v0, v1] := by cases args; simp_all
  have hv0 := hval 0 32 v0 rfl rfl
  have hv1 := hval 1 34 v1 rfl rfl
  obtain ⟨m, A, cap, rfl, hm, hr, hv_⟩ := open_recs Bal.cells Try.underlying32 Try.underlying35 (by kernel_rfl) (by kernel_rfl) Try.underlying3 rfl (by decide) (by kernel_rfl) (fun _ => rfl) Bal.mk_ hv0 h0
  have hwf : ∀ x ∈ m, (Lit.int .i64 x.account).wf = true := fun x hx => hv_ x hx x.account (by simp [Bal.cells])
  obtain ⟨c0, c1, c2, y0, y1, y2, n, rfl, t0, t1, t2⟩ := open_arr3 Try.underlying34 (by kernel_rfl) (by kernel_rfl) hv1 h1
  obtain ⟨a, e0, _, w0⟩ := DataW.trod_int Try.underlying33 t0
  obtain ⟨b, e1, _, w1⟩ := DataW.trod_int Try.underlying33 t1
  obtain ⟨c, e2, _, w2⟩ := DataW.trod_int Try.underlying33 t2
  simp at e0 e1 e2
  subst e0 e1 e2
  have k0 := bounds_u16 w0
  have k1 := bounds_u16 w1
  have k2 := bounds_u16 w2
  obtain ⟨a', rfl⟩ : ∃ a' : Nat, a = a' := ⟨a.toNat, by omega⟩
  obtain ⟨b', rfl⟩ : ∃ b' : Nat, b = b' := ⟨b.toNat, by omega⟩
  obtain ⟨c', rfl⟩ : ∃ c' : Nat, c = c' := ⟨c.toNat, by omega⟩
  exact law_PostingRanges m A cap a' b' c' W hm (by omega) (by omega) (by omega) hr hwf
set_option maxRecDepth 100000 in
theorem lifted (os : Os) (started : os.Started) (H : Type) (enc : TypeId × Value → H) :
    ReturnsInHanded {} Try.checked os 4 .any (Rows.postingRangesSpec.pre6 enc Try.prog Try.f4 Rows.postingRangesRow.domain false) (Rows.postingRangesSpec.post enc Try.prog Try.f4 false true false false) :=
  law_lifted (C := Try.checked) own started (by kernel_rfl) Try.func4
    (ChangeSpec.witness6 (enc := enc) (C := Try.checked) false ⟨#[], #[.slice none 0 0, .agg #[.int .u16 0, .int .u16 0, .int .u16 0]], []⟩ 8 (by kernel_rfl) (by kernel_rfl) (by kernel_rfl) (by kernel_rfl))
    laidOut params_ readable rfl Try.underlying4 rfl
    (fun ds h => by match ds, h with | [_, _], _ => rfl)
    (fun W base args ds p hval hA => walk_ W base args ds p hval hA)
theorem over : Rows.postingRangesRow.holds Try.pinned (OpenSpec.ofChange Rows.postingRangesSpec) :=
  OpenClaim.holds_of_wide 4 Try.f4 rfl rfl rfl rfl rfl rfl rfl ⟨rfl, rfl, rfl, rfl, rfl⟩ rfl rfl rfl rfl rfl (by kernel_rfl) Try.func4 (by kernel_rfl)
    (of_decide_eq_true (by kernel_rfl)) (by unfold Func.isWrapper; first | (rw [if_pos (by decide +kernel)]; kernel_rfl) | (rw [if_neg (by decide +kernel)]; exact ⟨rfl, rfl⟩))
    (fun os started H enc _ => lifted os started H enc)
theorem proved : Rows.PostingRangesSaid := over
#print axioms proved
end Go.Proofs.Ythenamibehbdnaa.postingRanges
