/- 'ChartSums' answers true for every input, and every argument reads behind the call as it did before. No condition. -/
import Derived.Test.YtjcapeieahffnaaChartLawsC
import Derived.Test.YtjcapeieahffnaaRows
import Derived.Test.YtjcapeieahffnaaLibB
namespace Go.Proofs.Ytjcapeieahffnaa.chartSums
open Go.ChangeShapes Go.WideShapes Go.ChangeAt Go.RowKit Go.Proofs.Ytjcapeieahffnaa
open Go.ChangeMaps (open_string)
set_option linter.unusedVariables false
theorem own : ownKnob Try.prog.godebug = none := by kernel_rfl
theorem laidOut : laidOutB Try.prog = true := by kernel_rfl
theorem readable : (([22, 34] : List TypeId).all fun t => Program.readableRec Try.prog t && decide (t < Try.prog.types.size)) = true := by kernel_rfl
theorem params_ : Try.f9.params.toList = [22, 34] := by rw [Try.params9]
theorem walk_ {H : Type} {enc : TypeId × Value → H} (W : World) (base : Nat) (args : Array Value) (ds : List (DataW H)) (p : List MemPlace)
    (hval : ∀ (j : Nat) t v, ([22, 34] : List TypeId)[j]? = some t → args[j]? = some v → Value.okWide Try.prog W .any base t v)
    (hA : DataW.TrodAll enc Try.prog W 0 (fun _ => true) true [22, 34] args.toList ds p) :
    Calls Try.prog 9 args W fun e W' => e = .returned (.bool true) ∧ Below W.heap.size W W' := by
  obtain ⟨v0, vs0, d0, ds0, p0, q0, hargs, rfl, rfl, h0, r0⟩ := trodAll_cons hA
  obtain ⟨v1, vs1, d1, ds1, p1, q1, rfl, rfl, rfl, h1, r1⟩ := trodAll_cons r0
  obtain ⟨rfl, rfl, rfl⟩ := trodAll_nil r1
  obtain rfl : args = #[v0, v1] := by cases args; simp_all
  have hv0 := hval 0 22 v0 rfl rfl
  have hv1 := hval 1 34 v1 rfl rfl
  obtain ⟨l, A, cap, rfl, hm, hr, hwf⟩ := open_recs Ch.cells1 Try.underlying22 Try.underlying26 (by kernel_rfl) (by kernel_rfl) Try.underlying3 rfl (by decide) (by kernel_rfl) (fun _ => rfl) acc_mk hv0 h0
  rw [← cells_gen] at hr
  have hwf1 : ∀ a ∈ l, (Lit.int .i64 a.code).wf = true := fun a ha => hwf a ha a.code (by simp [Ch.cells1])
  obtain ⟨b, B, cb, rfl, hmb, hrb, -⟩ := open_recs Bal.cells Try.underlying34 Try.underlying45 (by kernel_rfl) (by kernel_rfl) Try.underlying3 rfl (by decide) (by kernel_rfl) (fun _ => rfl) Bal.mk_ hv1 h1
  exact law_ChartSums l b A B cap cb W hm hmb hr hrb hwf1
set_option maxRecDepth 100000 in
theorem lifted (os : Os) (started : os.Started) (H : Type) (enc : TypeId × Value → H) :
    ReturnsInHanded {} Try.checked os 9 .any (Rows.chartSumsSpec.pre6 enc Try.prog Try.f9 Rows.chartSumsRow.domain false) (Rows.chartSumsSpec.post enc Try.prog Try.f9 false true false false) :=
  law_lifted (C := Try.checked) own started (by kernel_rfl) Try.func9
    (ChangeSpec.witness6 (enc := enc) (C := Try.checked) false ⟨#[], #[.slice none 0 0, .slice none 0 0], []⟩ 8 (by kernel_rfl) (by kernel_rfl) (by kernel_rfl) (by kernel_rfl))
    laidOut params_ readable rfl Try.underlying4 rfl
    (fun ds h => by match ds, h with | [_, _], _ => rfl)
    (fun W base args ds p hval hA => walk_ W base args ds p hval hA)
theorem over : Rows.chartSumsRow.holds Try.pinned (OpenSpec.ofChange Rows.chartSumsSpec) :=
  OpenClaim.holds_of_wide 9 Try.f9 rfl rfl rfl rfl rfl rfl rfl ⟨rfl, rfl, rfl, rfl, rfl⟩ rfl rfl rfl rfl rfl (by kernel_rfl) Try.func9 (by kernel_rfl)
    (of_decide_eq_true (by kernel_rfl)) (by unfold Func.isWrapper; first | (rw [if_pos (by decide +kernel)]; kernel_rfl) | (rw [if_neg (by decide +kernel)]; exact ⟨rfl, rfl⟩))
    (fun os started H enc _ => lifted os started H enc)
theorem proved : Rows.ChartSumsSaid := over
#print axioms proved
end Go.Proofs.Ytjcapeieahffnaa.chartSums
