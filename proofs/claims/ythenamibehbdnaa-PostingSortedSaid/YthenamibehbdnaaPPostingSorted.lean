/- 'PostingSorted' answers true for every input, and every argument reads behind the call as it did before. No condition. -/
import Derived.Test.YthenamibehbdnaaPostLawsB
import Derived.Test.YthenamibehbdnaaLibI
import Derived.Test.YthenamibehbdnaaRows
import Derived.Test.YthenamibehbdnaaLibB
namespace Go.Proofs.Ythenamibehbdnaa.postingSorted
open Go.ChangeShapes Go.WideShapes Go.ChangeAt Go.RowKit Go.Proofs.Ythenamibehbdnaa
open Go.ChangeMaps (open_string)
set_option linter.unusedVariables false
theorem own : ownKnob Try.prog.godebug = none := by kernel_rfl
theorem laidOut : laidOutB Try.prog = true := by kernel_rfl
theorem readable : (([22, 5] : List TypeId).all fun t => Program.readableRec Try.prog t && decide (t < Try.prog.types.size)) = true := by kernel_rfl
theorem params_ : Try.f3.params.toList = [22, 5] := by rw [Try.params3]
set_option maxRecDepth 100000 in
theorem walk_ {H : Type} {enc : TypeId × Value → H} (W : World) (base : Nat) (args : Array Value) (ds : List (DataW H)) (p : List MemPlace)
    (hval : ∀ (j : Nat) t v, ([22, 5] : List TypeId)[j]? = some t → args[j]? = some v → Value.okWide Try.prog W .any base t v)
    (hA : DataW.TrodAll enc Try.prog W 0 (fun _ => true) true [22, 5] args.toList ds p) :
    Calls Try.prog 3 args W fun e W' => e = .returned (.bool true) ∧ Below W.heap.size W W' := by
  obtain ⟨v0, vs0, d0, ds0, p0, q0, hargs, rfl, rfl, h0, r0⟩ := trodAll_cons hA
  obtain ⟨v1, vs1, d1, ds1, p1, q1, rfl, rfl, rfl, h1, r1⟩ := trodAll_cons r0
  obtain ⟨rfl, rfl, rfl⟩ := trodAll_nil r1
  obtain rfl : args = #[v0, v1] := by cases args; simp_all
  have hv0 := hval 0 22 v0 rfl rfl
  obtain ⟨a, rfl, _, _, w1⟩ := open_int Try.underlying5 (hval 1 5 v1 rfl rfl) h1
  have bd1 := bounds_u8 w1
  obtain ⟨m, A, cap, rfl, hm, hr, hv_⟩ := open_recs Bal.cells Try.underlying22 Try.underlying26 (by kernel_rfl) (by kernel_rfl) Try.underlying3 rfl (by decide) (by kernel_rfl) (fun _ => rfl) Bal.mk_ hv0 h0
  have hwf : ∀ x ∈ m, (Lit.int .i64 x.account).wf = true := fun x hx => hv_ x hx x.account (by simp [Bal.cells])
  have hcap := (open_cap Try.underlying22 Try.underlying26 (by kernel_rfl) (by kernel_rfl) h0).1
  obtain ⟨a', rfl⟩ : ∃ a' : Nat, a = a' := ⟨a.toNat, by omega⟩
  exact law_PostingSorted m A cap a' W hm hcap (by omega) hr hwf
set_option maxRecDepth 100000 in
theorem lifted (os : Os) (started : os.Started) (H : Type) (enc : TypeId × Value → H) :
    ReturnsInHanded {} Try.checked os 3 .any (Rows.postingSortedSpec.pre6 enc Try.prog Try.f3 Rows.postingSortedRow.domain false) (Rows.postingSortedSpec.post enc Try.prog Try.f3 false true false false) :=
  law_lifted (C := Try.checked) own started (by kernel_rfl) Try.func3
    (ChangeSpec.witness6 (enc := enc) (C := Try.checked) false ⟨#[], #[.slice none 0 0, .int .u8 0], []⟩ 8 (by kernel_rfl) (by kernel_rfl) (by kernel_rfl) (by kernel_rfl))
    laidOut params_ readable rfl Try.underlying4 rfl
    (fun ds h => by match ds, h with | [_, _], _ => rfl)
    (fun W base args ds p hval hA => walk_ W base args ds p hval hA)
theorem over : Rows.postingSortedRow.holds Try.pinned (OpenSpec.ofChange Rows.postingSortedSpec) :=
  OpenClaim.holds_of_wide 3 Try.f3 rfl rfl rfl rfl rfl rfl rfl ⟨rfl, rfl, rfl, rfl, rfl⟩ rfl rfl rfl rfl rfl (by kernel_rfl) Try.func3 (by kernel_rfl)
    (of_decide_eq_true (by kernel_rfl)) (by unfold Func.isWrapper; first | (rw [if_pos (by decide +kernel)]; kernel_rfl) | (rw [if_neg (by decide +kernel)]; exact ⟨rfl, rfl⟩))
    (fun os started H enc _ => lifted os started H enc)
theorem proved : Rows.PostingSortedSaid := over
#print axioms proved
end Go.Proofs.Ythenamibehbdnaa.postingSorted
