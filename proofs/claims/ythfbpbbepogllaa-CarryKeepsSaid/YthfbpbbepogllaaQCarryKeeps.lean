/- 'CarryKeeps' answers true for every input, and every argument reads behind the call as it did before. No condition. -/
import Derived.Test.YthfbpbbepogllaaCarLawsCZ
import Derived.Test.YthfbpbbepogllaaApiZ
import Derived.Test.YthfbpbbepogllaaRows
import Derived.Test.YthfbpbbepogllaaLibBZ
namespace Go.Proofs.Ythfbpbbepogllaa.carryKeeps
open Go.ChangeShapes Go.WideShapes Go.ChangeAt Go.RowKit Go.Proofs.Ythfbpbbepogllaa
open Go.ChangeMaps (open_string)
set_option linter.unusedVariables false
theorem own : ownKnob Try.prog.godebug = none := by kernel_rfl
theorem laidOut : laidOutB Try.prog = true := by kernel_rfl
theorem readable : (([29, 47, 3] : List TypeId).all fun t => Program.readableRec Try.prog t && decide (t < Try.prog.types.size)) = true := by kernel_rfl
theorem params_ : Try.f4.params.toList = [29, 47, 3] := by rw [Try.params4]
set_option maxRecDepth 100000 in
theorem walk_ {H : Type} {enc : TypeId × Value → H} (W : World) (base : Nat) (args : Array Value) (ds : List (DataW H)) (p : List MemPlace)
    (hval : ∀ (j : Nat) t v, ([29, 47, 3] : List TypeId)[j]? = some t → args[j]? = some v → Value.okWide Try.prog W .any base t v)
    (hA : DataW.TrodAll enc Try.prog W 0 (fun _ => true) true [29, 47, 3] args.toList ds p) :
    Calls Try.prog 4 args W fun e W' => e = .returned (.bool true) ∧ Below W.heap.size W W' := by
  obtain ⟨v0, vs0, d0, ds0, p0, q0, hargs, rfl, rfl, h0, r0⟩ := trodAll_cons hA
  obtain ⟨v1, vs1, d1, ds1, p1, q1, rfl, rfl, rfl, h1, r1⟩ := trodAll_cons r0
  obtain ⟨v2, vs2, d2, ds2, p2, q2, rfl, rfl, rfl, h2, r2⟩ := trodAll_cons r1
  obtain ⟨rfl, rfl, rfl⟩ := trodAll_nil r2
  obtain rfl : args = #[v0, v1, v2] := by cases args; simp_all
  have hv0 := hval 0 29 v0 rfl rfl
  have hv1 := hval 1 47 v1 rfl rfl
  obtain ⟨q, rfl, _, _, w2⟩ := open_int Try.underlying3 (hval 2 3 v2 rfl rfl) h2
  have bd2 := bounds_i64 w2
  obtain ⟨⟨cur, ⟨y, m, p⟩, ⟨cl, cA, cc⟩, ro, ⟨el, eA, ec⟩⟩, rfl, hO⟩ := opens_agg Try.underlying29 opens_GrpR hv0 h0
  have hG := gin_of hO
  have hcs := hO.1
  have hcl := Nat.le_trans hO.2.2.1.1.2.1 hO.2.2.1.1.2.2
  have hel := Nat.le_trans hO.2.2.2.2.1.2.1 hO.2.2.2.2.1.2.2
  obtain ⟨l, lA, lc, rfl, hml, hrl, hvl⟩ := open_recs DatR.cells Try.underlying47 Try.underlying56 (by kernel_rfl) (by kernel_rfl) Try.underlying3 rfl (by decide) (by kernel_rfl) (fun _ => rfl) dat_mk hv1 h1
  exact law_CarryKeeps cur y m p cl cA cc ro el eA ec W l lA lc q hG hcs hcl hel hrl hml
set_option maxRecDepth 100000 in
theorem lifted (os : Os) (started : os.Started) (H : Type) (enc : TypeId × Value → H) :
    ReturnsInHanded {} Try.checked os 4 .any (Rows.carryKeepsSpec.pre6 enc Try.prog Try.f4 Rows.carryKeepsRow.domain false) (Rows.carryKeepsSpec.post enc Try.prog Try.f4 false true false false) :=
  law_lifted (C := Try.checked) own started (by kernel_rfl) Try.func4
    (ChangeSpec.witness6 (enc := enc) (C := Try.checked) false ⟨#[], #[.agg #[.string ⟨#[]⟩, .int .i64 0, .int .i64 0, .int .i64 0, .slice none 0 0, .int .i64 0, .int .i64 0, .int .i64 0, .int .i64 0, .int .i64 0, .int .i64 0, .int .i64 0, .int .i64 0, .int .i64 0, .int .i64 0, .int .i64 0, .int .i64 0, .int .i64 0, .int .i64 0, .int .i64 0, .slice none 0 0], .slice none 0 0, .int .i64 0], []⟩ 8 (by kernel_rfl) (by kernel_rfl) (by kernel_rfl) (by kernel_rfl))
    laidOut params_ readable rfl Try.underlying4 rfl
    (fun ds h => by match ds, h with | [_, _, _], _ => rfl)
    (fun W base args ds p hval hA => walk_ W base args ds p hval hA)
theorem over : Rows.carryKeepsRow.holds Try.pinned (OpenSpec.ofChange Rows.carryKeepsSpec) :=
  OpenClaim.holds_of_wide 4 Try.f4 rfl rfl rfl rfl rfl rfl rfl ⟨rfl, rfl, rfl, rfl, rfl⟩ rfl rfl rfl rfl rfl (by kernel_rfl) Try.func4 (by kernel_rfl)
    (of_decide_eq_true (by kernel_rfl)) (by unfold Func.isWrapper; first | (rw [if_pos (by decide +kernel)]; kernel_rfl) | (rw [if_neg (by decide +kernel)]; exact ⟨rfl, rfl⟩))
    (fun os started H enc _ => lifted os started H enc)
theorem proved : Rows.CarryKeepsSaid := over
#print axioms proved
end Go.Proofs.Ythfbpbbepogllaa.carryKeeps
