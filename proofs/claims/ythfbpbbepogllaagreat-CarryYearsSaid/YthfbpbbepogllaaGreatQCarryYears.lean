/- 'CarryYears' answers true for every input, and every argument reads behind the call as it did before. No condition. -/
import Derived.Test.YthfbpbbepogllaaGreatJBM
import Derived.Test.YthfbpbbepogllaaGreatApiZ
import Derived.Test.YthfbpbbepogllaaGreatRows
import Derived.Test.YthfbpbbepogllaaGreatJBB
namespace Go.Proofs.YthfbpbbepogllaaGreat.carryYears
open Go.ChangeShapes Go.WideShapes Go.ChangeAt Go.RowKit Go.Proofs.YthfbpbbepogllaaGreat
open Go.ChangeMaps (open_string)
set_option linter.unusedVariables false
theorem own : ownKnob Tryz.prog.godebug = none := by kernel_rfl
theorem laidOut : laidOutB Tryz.prog = true := by kernel_rfl
theorem readable : (([29, 70, 80] : List TypeId).all fun t => Program.readableRec Tryz.prog t && decide (t < Tryz.prog.types.size)) = true := by kernel_rfl
theorem params_ : Tryz.f9.params.toList = [29, 70, 80] := by rw [Tryz.params9]
set_option maxRecDepth 100000 in
theorem walk_ {H : Type} {enc : TypeId × Value → H} (W : World) (base : Nat) (args : Array Value) (ds : List (DataW H)) (p : List MemPlace)
    (hval : ∀ (j : Nat) t v, ([29, 70, 80] : List TypeId)[j]? = some t → args[j]? = some v → Value.okWide Tryz.prog W .any base t v)
    (hA : DataW.TrodAll enc Tryz.prog W 0 (fun _ => true) true [29, 70, 80] args.toList ds p) :
    Calls Tryz.prog 9 args W fun e W' => e = .returned (.bool true) ∧ Below W.heap.size W W' := by
  obtain ⟨v0, vs0, d0, ds0, p0, q0, hargs, rfl, rfl, h0, r0⟩ := trodAll_cons hA
  obtain ⟨v1, vs1, d1, ds1, p1, q1, rfl, rfl, rfl, h1, r1⟩ := trodAll_cons r0
  obtain ⟨v2, vs2, d2, ds2, p2, q2, rfl, rfl, rfl, h2, r2⟩ := trodAll_cons r1
  obtain ⟨rfl, rfl, rfl⟩ := trodAll_nil r2
  obtain rfl : args = #[v0, v1, v2] := by cases args; simp_all
  have hv0 := hval 0 29 v0 rfl rfl
  have hv1 := hval 1 70 v1 rfl rfl
  have hv2 := hval 2 80 v2 rfl rfl
  obtain ⟨⟨cur, ⟨y, m, p⟩, ⟨cl, cA, cc⟩, ro, ⟨el, eA, ec⟩⟩, rfl, hO⟩ := opens_agg Tryz.underlying29 opens_GrpR hv0 h0
  have hG := gin_of hO
  have hcs := hO.1
  have hcl := Nat.le_trans hO.2.2.1.1.2.1 hO.2.2.1.1.2.2
  have hel := Nat.le_trans hO.2.2.2.2.1.2.1 hO.2.2.2.2.1.2.2
  obtain ⟨l, lA, lc, rfl, hml, hrl, hvl⟩ := open_recs DatR.cells Tryz.underlying70 Tryz.underlying82 (by kernel_rfl) (by kernel_rfl) Tryz.underlying3 rfl (by decide) (by kernel_rfl) (fun _ => rfl) dat_mk hv1 h1
  obtain ⟨c0, c1, y0, y1, nn, rfl, t0, t1⟩ := open_arr2 Tryz.underlying80 (by kernel_rfl) (by kernel_rfl) hv2 h2
  obtain ⟨c, e0, _, w0⟩ := DataW.trod_int Tryz.underlying5 t0
  obtain ⟨d, e1, _, w1⟩ := DataW.trod_int Tryz.underlying5 t1
  have b0 := bounds_u8 w0
  have b1 := bounds_u8 w1
  simp at e0 e1
  subst e0 e1
  obtain ⟨c', rfl⟩ : ∃ q' : Nat, c = q' := ⟨c.toNat, by omega⟩
  obtain ⟨d', rfl⟩ : ∃ q' : Nat, d = q' := ⟨d.toNat, by omega⟩
  exact law_CarryYears cur y m p cl cA cc ro el eA ec W l lA lc c' d' (by omega) (by omega) hG hcs hcl hel hrl hml
set_option maxRecDepth 100000 in
theorem lifted (os : Os) (started : os.Started) (H : Type) (enc : TypeId × Value → H) :
    ReturnsInHanded {} Tryz.checked os 9 .any (Rows.carryYearsSpec.pre6 enc Tryz.prog Tryz.f9 Rows.carryYearsRow.domain false) (Rows.carryYearsSpec.post enc Tryz.prog Tryz.f9 false true false false) :=
  law_lifted (C := Tryz.checked) own started (by kernel_rfl) Tryz.func9
    (ChangeSpec.witness6 (enc := enc) (C := Tryz.checked) false ⟨#[], #[.agg #[.string ⟨#[]⟩, .int .i64 0, .int .i64 0, .int .i64 0, .slice none 0 0, .int .i64 0, .int .i64 0, .int .i64 0, .int .i64 0, .int .i64 0, .int .i64 0, .int .i64 0, .int .i64 0, .int .i64 0, .int .i64 0, .int .i64 0, .int .i64 0, .int .i64 0, .int .i64 0, .int .i64 0, .slice none 0 0], .slice none 0 0, .agg #[.int .u8 0, .int .u8 0]], []⟩ 8 (by kernel_rfl) (by kernel_rfl) (by kernel_rfl) (by kernel_rfl))
    laidOut params_ readable rfl Tryz.underlying4 rfl
    (fun ds h => by match ds, h with | [_, _, _], _ => rfl)
    (fun W base args ds p hval hA => walk_ W base args ds p hval hA)
theorem over : Rows.carryYearsRow.holds Tryz.pinned (OpenSpec.ofChange Rows.carryYearsSpec) :=
  OpenClaim.holds_of_wide 9 Tryz.f9 rfl rfl rfl rfl rfl rfl rfl ⟨rfl, rfl, rfl, rfl, rfl⟩ rfl rfl rfl rfl rfl (by kernel_rfl) Tryz.func9 (by kernel_rfl)
    (of_decide_eq_true (by kernel_rfl)) (by unfold Func.isWrapper; first | (rw [if_pos (by decide +kernel)]; kernel_rfl) | (rw [if_neg (by decide +kernel)]; exact ⟨rfl, rfl⟩))
    (fun os started H enc _ => lifted os started H enc)
theorem proved : Rows.CarryYearsSaid := over
#print axioms proved
end Go.Proofs.YthfbpbbepogllaaGreat.carryYears
