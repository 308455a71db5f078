/- 'TraceMissing' answers true for every input, and every argument reads behind the call as it did before. No condition. -/
import Derived.Test.YtnddoehhcpejjaaGreatJBJ
import Derived.Test.YtnddoehhcpejjaaGreatJBH
import Derived.Test.YtnddoehhcpejjaaGreatApiZ
import Derived.Test.YtnddoehhcpejjaaGreatRows
namespace Go.Proofs.YtnddoehhcpejjaaGreat.traceMissing
open Go.ChangeShapes Go.WideShapes Go.ChangeAt Go.RowKit Go.Proofs.YtnddoehhcpejjaaGreat
open Go.ChangeMaps (open_string)
set_option linter.unusedVariables false
theorem own : ownKnob Tryz.prog.godebug = none := by kernel_rfl
theorem laidOut : laidOutB Tryz.prog = true := by kernel_rfl
theorem readable : (([36, 41] : List TypeId).all fun t => Program.readableRec Tryz.prog t && decide (t < Tryz.prog.types.size)) = true := by kernel_rfl
theorem params_ : Tryz.f3.params.toList = [36, 41] := by rw [Tryz.params3]
set_option maxRecDepth 100000 in
theorem walk_ {H : Type} {enc : TypeId × Value → H} (W : World) (base : Nat) (args : Array Value) (ds : List (DataW H)) (p : List MemPlace) (hk : Rows.uptoSmall H ds = true)
    (hval : ∀ (j : Nat) t v, ([36, 41] : List TypeId)[j]? = some t → args[j]? = some v → Value.okWide Tryz.prog W .any base t v)
    (hA : DataW.TrodAll enc Tryz.prog W 0 (fun _ => true) true [36, 41] args.toList ds p) :
    Calls Tryz.prog 3 args W fun e W' => e = .returned (.bool true) ∧ Below W.heap.size W W' := by
  obtain ⟨v0, vs0, d0, ds0, p0, q0, hargs, rfl, rfl, h0, r0⟩ := trodAll_cons hA
  obtain ⟨v1, vs1, d1, ds1, p1, q1, rfl, rfl, rfl, h1, r1⟩ := trodAll_cons r0
  obtain ⟨rfl, rfl, rfl⟩ := trodAll_nil r1
  obtain rfl : args = #[v0, v1] := by cases args; simp_all
  have hv0 := hval 0 36 v0 rfl rfl
  have hv1 := hval 1 41 v1 rfl rfl
  have hbk := bulk_all hk
  obtain ⟨bk, rfl, hBo⟩ := opens_agg Tryz.underlying36 opens_BooksR hv0 h0
  obtain ⟨⟨cur, ⟨y, m, p'⟩, ⟨cl, cA, cc⟩, ro, ⟨el, eA, ec⟩⟩, ⟨es, sA, sc⟩, b2, b3, b4, b5, b6⟩ := bk
  have hO := hBo.1
  have hG := gin_of hO
  have hcs := hO.1
  have hcl := Nat.le_trans hO.2.2.1.1.2.1 hO.2.2.1.1.2.2
  have hel := Nat.le_trans hO.2.2.2.2.1.2.1 hO.2.2.2.2.1.2.2
  have hEn := hBo.2.1
  obtain ⟨⟨per, ⟨I, AI, cI⟩, ⟨P, AP, cP⟩, ⟨T, AT, cT⟩⟩, rfl, hOR, hM⟩ := opensM_agg Tryz.underlying41 opensM_ResR hv1 h1
  have hT := tin_of hOR hM (Nat.le_trans (bulk_le (by simp)) hbk)
  exact law_TraceMissing _ cur y m p' cl cA cc ro el eA ec per I AI cI P AP cP T AT cT W _ es sA sc (Lib.hid rfl) bk_en hG hcs hcl hel hEn.1.1 hEn.2 (Nat.le_trans hEn.1.2.1 hEn.1.2.2) hEn.1.2.1 hT
set_option maxRecDepth 100000 in
theorem lifted (os : Os) (started : os.Started) (H : Type) (enc : TypeId × Value → H) (F : Stop.Interp) :
    ReturnsInHanded {} Tryz.checked os 3 .any ((Rows.OpenSpec.upto Rows.traceMissingSpec).pre6 enc Tryz.prog Tryz.f3 Rows.traceMissingUptoRow.domain false) (((Rows.OpenSpec.upto Rows.traceMissingSpec).at F).post enc Tryz.prog Tryz.f3 false true false false) := by
  refine returnsInHanded_of_cond (C := Tryz.checked) (s := Rows.OpenSpec.upto Rows.traceMissingSpec) (k := Rows.uptoSmall) rfl own started (by kernel_rfl) Tryz.func3
    (OpenSpec.witness (enc := enc) (C := Tryz.checked) (s := Rows.OpenSpec.upto Rows.traceMissingSpec) (k := Rows.uptoSmall) rfl false ⟨#[], #[.agg #[.string ⟨#[]⟩, .int .i64 0, .int .i64 0, .int .i64 0, .slice none 0 0, .int .i64 0, .int .i64 0, .int .i64 0, .int .i64 0, .int .i64 0, .int .i64 0, .int .i64 0, .int .i64 0, .int .i64 0, .int .i64 0, .int .i64 0, .int .i64 0, .int .i64 0, .int .i64 0, .int .i64 0, .slice none 0 0, .slice none 0 0, .slice none 0 0, .slice none 0 0, .slice none 0 0, .slice none 0 0, .string ⟨#[]⟩], .agg #[.int .i64 0, .slice none 0 0, .slice none 0 0, .slice none 0 0]], []⟩ 8 (by kernel_rfl) (by kernel_rfl) (by kernel_rfl)
      (x := ([.agg [.agg [.lit (.string []), .agg [.lit (.int .i64 0), .lit (.int .i64 0), .lit (.int .i64 0)], .nil, .agg [.lit (.int .i64 0), .lit (.int .i64 0), .lit (.int .i64 0), .lit (.int .i64 0), .lit (.int .i64 0), .lit (.int .i64 0), .lit (.int .i64 0), .lit (.int .i64 0), .lit (.int .i64 0), .lit (.int .i64 0), .lit (.int .i64 0), .lit (.int .i64 0), .lit (.int .i64 0), .lit (.int .i64 0), .lit (.int .i64 0)], .nil], .nil, .nil, .nil, .nil, .nil, .lit (.string [])], .agg [.lit (.int .i64 0), .nil, .nil, .nil]], [], [])) (by kernel_rfl) rfl (by kernel_rfl)) ?_
  intro W base args ds gs before hval hW _ hk _
  exact law_contract (C := Tryz.checked) (f := 3) (fn := Tryz.f3) (s := Rows.traceMissingSpec) (ts := [36, 41]) laidOut params_ readable rfl Tryz.underlying4 rfl (fun ds h => by match ds, h with | [_, _], _ => rfl)
    (fun W base args ds p hk hval hA => walk_ W base args ds p hk hval hA) W base args ds gs before hval hW hk
theorem proved : Rows.TraceMissingUptoSaid :=
  OpenClaim.holds_of_cond 3 Tryz.f3 rfl rfl rfl rfl rfl rfl rfl ⟨rfl, rfl, rfl, rfl, rfl⟩ rfl rfl rfl rfl rfl (by kernel_rfl) Tryz.func3 (by kernel_rfl)
    (of_decide_eq_true (by kernel_rfl)) (by unfold Func.isWrapper; first | (rw [if_pos (by decide +kernel)]; kernel_rfl) | (rw [if_neg (by decide +kernel)]; exact ⟨rfl, rfl⟩))
    (fun os started H enc _ F => lifted os started H enc F)
#print axioms proved
end Go.Proofs.YtnddoehhcpejjaaGreat.traceMissing
