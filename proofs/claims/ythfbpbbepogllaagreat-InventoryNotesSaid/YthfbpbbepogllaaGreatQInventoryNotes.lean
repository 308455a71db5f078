/- 'InventoryNotes' answers true for every input, and every argument reads behind the call as it did before. No condition. -/
import Derived.Test.YthfbpbbepogllaaGreatInvLawNZ
import Derived.Test.YthfbpbbepogllaaGreatInvOpenBZ
import Derived.Test.YthfbpbbepogllaaGreatApiZ
import Derived.Lib.SmallJoins
import Derived.Test.YthfbpbbepogllaaGreatRows
import Derived.Test.YthfbpbbepogllaaGreatJBB
namespace Go.Proofs.YthfbpbbepogllaaGreat.inventoryNotes
open Go.ChangeShapes Go.WideShapes Go.ChangeAt Go.RowKit Go.Proofs.YthfbpbbepogllaaGreat
open Go.ChangeMaps (open_string)
set_option linter.unusedVariables false
theorem own : ownKnob Tryz.prog.godebug = none := by kernel_rfl
theorem laidOut : laidOutB Tryz.prog = true := by kernel_rfl
theorem readable : (([36, 37, 39] : List TypeId).all fun t => Program.readableRec Tryz.prog t && decide (t < Tryz.prog.types.size)) = true := by kernel_rfl
theorem params_ : Tryz.f5.params.toList = [36, 37, 39] := by rw [Tryz.params5]
set_option maxRecDepth 100000 in
theorem walk_ {H : Type} {enc : TypeId × Value → H} (W : World) (base : Nat) (args : Array Value) (ds : List (DataW H)) (p : List MemPlace)
    (hval : ∀ (j : Nat) t v, ([36, 37, 39] : List TypeId)[j]? = some t → args[j]? = some v → Value.okWide Tryz.prog W .any base t v)
    (hA : DataW.TrodAll enc Tryz.prog W 0 (fun _ => true) true [36, 37, 39] args.toList ds p) :
    Calls Tryz.prog 5 args W fun e W' => e = .returned (.bool true) ∧ Below W.heap.size W W' := by
  obtain ⟨v0, vs0, d0, ds0, p0, q0, hargs, rfl, rfl, h0, r0⟩ := trodAll_cons hA
  obtain ⟨v1, vs1, d1, ds1, p1, q1, rfl, rfl, rfl, h1, r1⟩ := trodAll_cons r0
  obtain ⟨v2, vs2, d2, ds2, p2, q2, rfl, rfl, rfl, h2, r2⟩ := trodAll_cons r1
  obtain ⟨rfl, rfl, rfl⟩ := trodAll_nil r2
  obtain rfl : args = #[v0, v1, v2] := by cases args; simp_all
  have hv0 := hval 0 36 v0 rfl rfl
  have hv1 := hval 1 37 v1 rfl rfl
  have hv2 := hval 2 39 v2 rfl rfl
  obtain ⟨bk, rfl, hBo⟩ := opens_agg Tryz.underlying36 opens_BooksR hv0 h0
  obtain ⟨⟨cur, ⟨y, m, p⟩, ⟨cl, cA, cc⟩, ro, ⟨el, eA, ec⟩⟩, b1, b2, b3, b4, ⟨l0, sA, sc⟩, b6⟩ := bk
  have hO := hBo.1
  have hG := gin_of hO
  have hcs := hO.1
  have hcl := Nat.le_trans hO.2.2.1.1.2.1 hO.2.2.1.1.2.2
  have hel := Nat.le_trans hO.2.2.2.2.1.2.1 hO.2.2.2.2.1.2.2
  have hRO := hO.2.2.2.1
  have hw1 := hRO.2.2.2.1
  have hw2 := hRO.2.2.2.2.2.2.1
  have hw3 := hRO.2.2.2.2.2.2.2.2.2.2.2.2.2.2
  obtain ⟨l, hll, hlc⟩ := stk_of l0
  have hst := hBo.2.2.2.2.2.1.1
  have hsr := hst.1
  rw [hlc, hll] at hsr
  have hsl : l.length ≤ maxLen := hll ▸ Nat.le_trans hst.2.1 hst.2.2
  obtain ⟨⟨ms, mA, mc⟩, rfl, hOm⟩ := opens_sl Tryz.underlying37 opens_intsM hv1 h1
  have hml := Nat.le_trans hOm.1.2.1 hOm.1.2.2
  obtain ⟨c0, c1, c2, y0, y1, y2, m1, rfl, _, _, t0, t1, t2⟩ := Joins.open_agg3 (Tryz.underlying39) (by kernel_rfl) (by kernel_rfl) hv2 h2
  obtain ⟨i, e0, _, hwi⟩ := DataW.trod_int Tryz.underlying3 t0
  obtain ⟨k, e1, _, hwk⟩ := DataW.trod_int Tryz.underlying3 t1
  obtain ⟨q, e2, _, hwq⟩ := DataW.trod_int Tryz.underlying3 t2
  simp at e0 e1 e2
  subst e0 e1 e2
  exact law_InventoryNotes cur y m p cl cA cc ro el eA ec W _ _ l sA sc ms mA mc i k q rfl (bk_st hll) hG hcs hcl hel hsr hsl hOm.1.1 hml hw1 hw2 hw3 (by rw [← Array.all_toList, List.all_eq_true]; exact fun u hu => BooksR.one _ u hu)
set_option maxRecDepth 100000 in
theorem lifted (os : Os) (started : os.Started) (H : Type) (enc : TypeId × Value → H) :
    ReturnsInHanded {} Tryz.checked os 5 .any (Rows.inventoryNotesSpec.pre6 enc Tryz.prog Tryz.f5 Rows.inventoryNotesRow.domain false) (Rows.inventoryNotesSpec.post enc Tryz.prog Tryz.f5 false true false false) :=
  law_lifted (C := Tryz.checked) own started (by kernel_rfl) Tryz.func5
    (ChangeSpec.witness6 (enc := enc) (C := Tryz.checked) false ⟨#[], #[.agg #[.string ⟨#[]⟩, .int .i64 0, .int .i64 0, .int .i64 0, .slice none 0 0, .int .i64 0, .int .i64 0, .int .i64 0, .int .i64 0, .int .i64 0, .int .i64 0, .int .i64 0, .int .i64 0, .int .i64 0, .int .i64 0, .int .i64 0, .int .i64 0, .int .i64 0, .int .i64 0, .int .i64 0, .slice none 0 0, .slice none 0 0, .slice none 0 0, .slice none 0 0, .slice none 0 0, .slice none 0 0, .string ⟨#[]⟩], .slice none 0 0, .agg #[.int .i64 0, .int .i64 0, .int .i64 0]], []⟩ 8 (by kernel_rfl) (by kernel_rfl) (by kernel_rfl) (by kernel_rfl))
    laidOut params_ readable rfl Tryz.underlying4 rfl
    (fun ds h => by match ds, h with | [_, _, _], _ => rfl)
    (fun W base args ds p hval hA => walk_ W base args ds p hval hA)
theorem over : Rows.inventoryNotesRow.holds Tryz.pinned (OpenSpec.ofChange Rows.inventoryNotesSpec) :=
  OpenClaim.holds_of_wide 5 Tryz.f5 rfl rfl rfl rfl rfl rfl rfl ⟨rfl, rfl, rfl, rfl, rfl⟩ rfl rfl rfl rfl rfl (by kernel_rfl) Tryz.func5 (by kernel_rfl)
    (of_decide_eq_true (by kernel_rfl)) (by unfold Func.isWrapper; first | (rw [if_pos (by decide +kernel)]; kernel_rfl) | (rw [if_neg (by decide +kernel)]; exact ⟨rfl, rfl⟩))
    (fun os started H enc _ => lifted os started H enc)
theorem proved : Rows.InventoryNotesSaid := over
#print axioms proved
end Go.Proofs.YthfbpbbepogllaaGreat.inventoryNotes
