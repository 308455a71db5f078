/- 'DividendLeft' answers true for every input, and every argument reads behind the call as it did before. No condition. -/
import Derived.Test.YtnkmjdaeafeaaaaJAZ
import Derived.Test.YtnkmjdaeafeaaaaApiZ
import Derived.Test.YtnkmjdaeafeaaaaRows
import Derived.Test.YtnkmjdaeafeaaaaLibBZ
namespace Go.Proofs.Ytnkmjdaeafeaaaa.dividendLeft
open Go.ChangeShapes Go.WideShapes Go.ChangeAt Go.RowKit Go.Proofs.Ytnkmjdaeafeaaaa
open Go.ChangeMaps (open_string)
set_option linter.unusedVariables false
theorem own : ownKnob Try.prog.godebug = none := by kernel_rfl
theorem laidOut : laidOutB Try.prog = true := by kernel_rfl
theorem readable : (([29, 91, 81] : List TypeId).all fun t => Program.readableRec Try.prog t && decide (t < Try.prog.types.size)) = true := by kernel_rfl
theorem params_ : Try.f8.params.toList = [29, 91, 81] := by rw [Try.params8]
set_option maxRecDepth 100000 in
theorem walk_ {H : Type} {enc : TypeId × Value → H} (W : World) (base : Nat) (args : Array Value) (ds : List (DataW H)) (p : List MemPlace)
    (hval : ∀ (j : Nat) t v, ([29, 91, 81] : List TypeId)[j]? = some t → args[j]? = some v → Value.okWide Try.prog W .any base t v)
    (hA : DataW.TrodAll enc Try.prog W 0 (fun _ => true) true [29, 91, 81] args.toList ds p) :
    Calls Try.prog 8 args W fun e W' => e = .returned (.bool true) ∧ Below W.heap.size W W' := by
  obtain ⟨v0, vs0, d0, ds0, p0, q0, hargs, rfl, rfl, h0, r0⟩ := trodAll_cons hA
  obtain ⟨v1, vs1, d1, ds1, p1, q1, rfl, rfl, rfl, h1, r1⟩ := trodAll_cons r0
  obtain ⟨v2, vs2, d2, ds2, p2, q2, rfl, rfl, rfl, h2, r2⟩ := trodAll_cons r1
  obtain ⟨rfl, rfl, rfl⟩ := trodAll_nil r2
  obtain rfl : args = #[v0, v1, v2] := by cases args; simp_all
  have hv0 := hval 0 29 v0 rfl rfl
  have hv1 := hval 1 91 v1 rfl rfl
  have hv2 := hval 2 81 v2 rfl rfl
  obtain ⟨⟨cur, ⟨y, m, p⟩, ⟨cl, cA, cc⟩, ro, ⟨el, eA, ec⟩⟩, rfl, hO⟩ := opens_agg Try.underlying29 opens_GrpR hv0 h0
  have hG := gin_of hO
  have hcs := hO.1
  have hcl := Nat.le_trans hO.2.2.1.1.2.1 hO.2.2.1.1.2.2
  have hel := Nat.le_trans hO.2.2.2.2.1.2.1 hO.2.2.2.2.1.2.2
  obtain ⟨⟨ms, mA, mc⟩, rfl, hOm⟩ := opens_sl Try.underlying91 opens_ints hv1 h1
  obtain ⟨⟨I, iA, ic⟩, rfl, hOi⟩ := opens_sl Try.underlying81 opens_items hv2 h2
  have hRO := hO.2.2.2.1
  have hw1 := hRO.2.2.2.2.2.2.2.2.2.2.2.1
  have hw2 := hRO.2.2.2.2.2.2.1
  exact law_DividendLeft cur y m p cl cA cc ro el eA ec W ms mA mc I iA ic hG hcs hcl hel hOm.1.1 (Nat.le_trans hOm.1.2.1 hOm.1.2.2) hOi.1.1 (Nat.le_trans hOi.1.2.1 hOi.1.2.2) hw1 hw2
set_option maxRecDepth 100000 in
theorem lifted (os : Os) (started : os.Started) (H : Type) (enc : TypeId × Value → H) :
    ReturnsInHanded {} Try.checked os 8 .any (Rows.dividendLeftSpec.pre6 enc Try.prog Try.f8 Rows.dividendLeftRow.domain false) (Rows.dividendLeftSpec.post enc Try.prog Try.f8 false true false false) :=
  law_lifted (C := Try.checked) own started (by kernel_rfl) Try.func8
    (ChangeSpec.witness6 (enc := enc) (C := Try.checked) false ⟨#[], #[.agg #[.string ⟨#[]⟩, .int .i64 0, .int .i64 0, .int .i64 0, .slice none 0 0, .int .i64 0, .int .i64 0, .int .i64 0, .int .i64 0, .int .i64 0, .int .i64 0, .int .i64 0, .int .i64 0, .int .i64 0, .int .i64 0, .int .i64 0, .int .i64 0, .int .i64 0, .int .i64 0, .int .i64 0, .slice none 0 0], .slice none 0 0, .slice none 0 0], []⟩ 8 (by kernel_rfl) (by kernel_rfl) (by kernel_rfl) (by kernel_rfl))
    laidOut params_ readable rfl Try.underlying4 rfl
    (fun ds h => by match ds, h with | [_, _, _], _ => rfl)
    (fun W base args ds p hval hA => walk_ W base args ds p hval hA)
theorem over : Rows.dividendLeftRow.holds Try.pinned (OpenSpec.ofChange Rows.dividendLeftSpec) :=
  OpenClaim.holds_of_wide 8 Try.f8 rfl rfl rfl rfl rfl rfl rfl ⟨rfl, rfl, rfl, rfl, rfl⟩ rfl rfl rfl rfl rfl (by kernel_rfl) Try.func8 (by kernel_rfl)
    (of_decide_eq_true (by kernel_rfl)) (by unfold Func.isWrapper; first | (rw [if_pos (by decide +kernel)]; kernel_rfl) | (rw [if_neg (by decide +kernel)]; exact ⟨rfl, rfl⟩))
    (fun os started H enc _ => lifted os started H enc)
theorem proved : Rows.DividendLeftSaid := over
#print axioms proved
end Go.Proofs.Ytnkmjdaeafeaaaa.dividendLeft
