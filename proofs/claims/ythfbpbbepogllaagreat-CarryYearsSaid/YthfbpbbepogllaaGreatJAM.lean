/- Texts of this claim, put together. -/
import Derived.Test.YthfbpbbepogllaaGreatJAL
import Derived.Test.YthfbpbbepogllaaGreatJAE
import Derived.Deep.RegionHeld3
import Derived.Deep.QuietTactic
import Derived.BigQuiet
/- The walks of proper and Valid. -/
namespace Go.Proofs.YthfbpbbepogllaaGreat
set_option linter.unusedVariables false
set_option linter.unusedSimpArgs false
open Go.RowKit


theorem find_gen (l : List Acc) (c : Int) (A : Option Addr) (cap : Nat) (w : World) (hr : Rd w w.heap.size 4 A l.length (Ch.cells l)) (hn : l.length ≤ 300000) :
    Calls Tryz.prog 114 #[.slice A l.length cap, .int .i64 c] w (fun e w' => e = .returned (.tuple #[.agg #[.int .i64 (Ch.fnV l c).code, .int .i64 (Ch.fnV l c).kind, .int .i64 (Ch.fnV l c).basis, .int .i64 (Ch.fnV l c).parent], .bool (Ch.fnB l c)]) ∧ Below w.heap.size w w') :=
  (find_any l c A cap w hr hn).mono (fun _ _ h => h)
section
variable (l : List Acc) (a : Acc) (g : Bool) (A : Option Addr) (cap : Nat) (w : World)
theorem proper_no (h : Ch.fieldsV a g = false) : Calls Tryz.prog 139 #[.slice A l.length cap, .agg #[.int .i64 a.code, .int .i64 a.kind, .int .i64 a.basis, .int .i64 a.parent], .bool g] w (BoolPost false w) := by
  have hb := Below.refl w.heap.size w
  unfold Ch.fieldsV at h
  by_cases h1 : a.code < 1
  · clear h
    go_enter Tryz.func139, Tryz.ntmps139
    go_wp2_with fail
    go_ret
    exact ⟨rfl, (by repeat (first | exact hb | refine Below.alloc ?_ (by have hbs := hb.size; first | omega | (simp; done) | (simp; omega)) _ | refine Below.drew ?_ | refine below_drewN_ ?_ _ | refine Below.setCell ?_ (by simp) _))⟩
  by_cases h2 : 99999 < a.code
  · clear h
    go_enter Tryz.func139, Tryz.ntmps139
    go_wp2_with fail
    go_ret
    exact ⟨rfl, (by repeat (first | exact hb | refine Below.alloc ?_ (by have hbs := hb.size; first | omega | (simp; done) | (simp; omega)) _ | refine Below.drew ?_ | refine below_drewN_ ?_ _ | refine Below.setCell ?_ (by simp) _))⟩
  by_cases h3 : a.kind < 1
  · clear h
    go_enter Tryz.func139, Tryz.ntmps139
    go_wp2_with fail
    go_ret
    exact ⟨rfl, (by repeat (first | exact hb | refine Below.alloc ?_ (by have hbs := hb.size; first | omega | (simp; done) | (simp; omega)) _ | refine Below.drew ?_ | refine below_drewN_ ?_ _ | refine Below.setCell ?_ (by simp) _))⟩
  by_cases h4 : 5 < a.kind
  · clear h
    go_enter Tryz.func139, Tryz.ntmps139
    go_wp2_with fail
    go_ret
    exact ⟨rfl, (by repeat (first | exact hb | refine Below.alloc ?_ (by have hbs := hb.size; first | omega | (simp; done) | (simp; omega)) _ | refine Below.drew ?_ | refine below_drewN_ ?_ _ | refine Below.setCell ?_ (by simp) _))⟩
  cases g
  · have h5 : (a.basis != 0) = true := by
      simp at h
      have := h (by omega) (by omega) (by omega) (by omega)
      simpa using this
    clear h
    go_enter Tryz.func139, Tryz.ntmps139
    go_wp2_with fail
    go_ret
    exact ⟨rfl, (by repeat (first | exact hb | refine Below.alloc ?_ (by have hbs := hb.size; first | omega | (simp; done) | (simp; omega)) _ | refine Below.drew ?_ | refine below_drewN_ ?_ _ | refine Below.setCell ?_ (by simp) _))⟩
  · by_cases h6 : a.basis < 1
    · clear h
      go_enter Tryz.func139, Tryz.ntmps139
      go_wp2_with fail
      go_ret
      exact ⟨rfl, (by repeat (first | exact hb | refine Below.alloc ?_ (by have hbs := hb.size; first | omega | (simp; done) | (simp; omega)) _ | refine Below.drew ?_ | refine below_drewN_ ?_ _ | refine Below.setCell ?_ (by simp) _))⟩
    · have h7 : 3 < a.basis := by
        simp at h
        have := h (by omega) (by omega) (by omega) (by omega)
        omega
      clear h
      go_enter Tryz.func139, Tryz.ntmps139
      go_wp2_with fail
      go_ret
      exact ⟨rfl, (by repeat (first | exact hb | refine Below.alloc ?_ (by have hbs := hb.size; first | omega | (simp; done) | (simp; omega)) _ | refine Below.drew ?_ | refine below_drewN_ ?_ _ | refine Below.setCell ?_ (by simp) _))⟩

theorem proper_top (h1 : ¬ a.code < 1) (h2 : ¬ 99999 < a.code) (h3 : ¬ a.kind < 1) (h4 : ¬ 5 < a.kind) (h0 : a.parent = 0) (hg : (g = true ∧ ¬ a.basis < 1 ∧ ¬ 3 < a.basis) ∨ (g = false ∧ (a.basis != 0) = false)) :
    Calls Tryz.prog 139 #[.slice A l.length cap, .agg #[.int .i64 a.code, .int .i64 a.kind, .int .i64 a.basis, .int .i64 a.parent], .bool g] w (BoolPost true w) := by
  have hb := Below.refl w.heap.size w
  have hp : (a.parent == 0) = true := by simpa using h0
  clear h0
  rcases hg with ⟨rfl, h5, h6⟩ | ⟨rfl, h5⟩
  · go_enter Tryz.func139, Tryz.ntmps139
    go_wp2_with fail
    go_ret
    exact ⟨rfl, (by repeat (first | exact hb | refine Below.alloc ?_ (by have hbs := hb.size; first | omega | (simp; done) | (simp; omega)) _ | refine Below.drew ?_ | refine below_drewN_ ?_ _ | refine Below.setCell ?_ (by simp) _))⟩
  · go_enter Tryz.func139, Tryz.ntmps139
    go_wp2_with fail
    go_ret
    exact ⟨rfl, (by repeat (first | exact hb | refine Below.alloc ?_ (by have hbs := hb.size; first | omega | (simp; done) | (simp; omega)) _ | refine Below.drew ?_ | refine below_drewN_ ?_ _ | refine Below.setCell ?_ (by simp) _))⟩

set_option maxHeartbeats 4000000 in
theorem proper_rest (h1 : ¬ a.code < 1) (h2 : ¬ 99999 < a.code) (h3 : ¬ a.kind < 1) (h4 : ¬ 5 < a.kind) (h0 : a.parent ≠ 0) (hg : (g = true ∧ ¬ a.basis < 1 ∧ ¬ 3 < a.basis) ∨ (g = false ∧ (a.basis != 0) = false))
    (hr : Rd w w.heap.size 4 A l.length (Ch.cells l)) (hn : l.length ≤ 300000) (hwf : ∀ a ∈ l, (Lit.int .i64 a.code).wf = true) (hne : Ch.pcl l a.code ≠ []) :
    Calls Tryz.prog 139 #[.slice A l.length cap, .agg #[.int .i64 a.code, .int .i64 a.kind, .int .i64 a.basis, .int .i64 a.parent], .bool g] w (BoolPost (Ch.restV l a) w) := by
  have hb := Below.refl w.heap.size w
  have hp : (a.parent == 0) = false := by simpa using h0
  have HR := Lib.hid hr
  have HW := Lib.hid hwf
  have HNE := Lib.hid hne
  clear h0 hr hwf hne
  cases hf : Ch.find l a.parent with
  | none =>
    have HE : Hid (Ch.restV l a = false) := Lib.hid (by unfold Ch.restV; rw [hf])
    rcases hg with ⟨rfl, h5, h6⟩ | ⟨rfl, h5⟩
    · go_enter Tryz.func139, Tryz.ntmps139
      go_wp2_with (go_at_call 114; refine (find_no l a.parent A cap _ (Rd.now HR.out (by repeat (first | exact hb | refine Below.alloc ?_ (by have hbs := hb.size; first | omega | (simp; done) | (simp; omega)) _ | refine Below.drew ?_ | refine below_drewN_ ?_ _ | refine Below.setCell ?_ (by simp) _))) hn hf).mono ?_; rintro e w2 ⟨rfl, hb2⟩; obtain ⟨hc2, -⟩ := bcell hb2; have hz2 := hb2.size; (try simp at hz2); (try have hy2 : w.heap.size < w2.heap.size := by omega); replace hb := bel' (w := w) hb2 (by repeat (first | exact hb | refine Below.alloc ?_ (by have hbs := hb.size; first | omega | (simp; done) | (simp; omega)) _ | refine Below.drew ?_ | refine below_drewN_ ?_ _ | refine Below.setCell ?_ (by simp) _)); clear hb2)
      go_ret
      exact ⟨by rw [HE.out]; rfl, (by repeat (first | exact hb | refine Below.alloc ?_ (by have hbs := hb.size; first | omega | (simp; done) | (simp; omega)) _ | refine Below.drew ?_ | refine below_drewN_ ?_ _ | refine Below.setCell ?_ (by simp) _))⟩
    · go_enter Tryz.func139, Tryz.ntmps139
      go_wp2_with (go_at_call 114; refine (find_no l a.parent A cap _ (Rd.now HR.out (by repeat (first | exact hb | refine Below.alloc ?_ (by have hbs := hb.size; first | omega | (simp; done) | (simp; omega)) _ | refine Below.drew ?_ | refine below_drewN_ ?_ _ | refine Below.setCell ?_ (by simp) _))) hn hf).mono ?_; rintro e w2 ⟨rfl, hb2⟩; obtain ⟨hc2, -⟩ := bcell hb2; have hz2 := hb2.size; (try simp at hz2); (try have hy2 : w.heap.size < w2.heap.size := by omega); replace hb := bel' (w := w) hb2 (by repeat (first | exact hb | refine Below.alloc ?_ (by have hbs := hb.size; first | omega | (simp; done) | (simp; omega)) _ | refine Below.drew ?_ | refine below_drewN_ ?_ _ | refine Below.setCell ?_ (by simp) _)); clear hb2)
      go_ret
      exact ⟨by rw [HE.out]; rfl, (by repeat (first | exact hb | refine Below.alloc ?_ (by have hbs := hb.size; first | omega | (simp; done) | (simp; omega)) _ | refine Below.drew ?_ | refine below_drewN_ ?_ _ | refine Below.setCell ?_ (by simp) _))⟩
  | some p =>
    by_cases h8 : p.code = a.code
    · have h8' : (p.code == a.code) = true := by simpa using h8
      have HE : Hid (Ch.restV l a = false) := Lib.hid (by unfold Ch.restV; rw [hf]; simp [h8])
      clear h8
      rcases hg with ⟨rfl, h5, h6⟩ | ⟨rfl, h5⟩
      · go_enter Tryz.func139, Tryz.ntmps139
        go_wp2_with (go_at_call 114; refine (find_is l a.parent p A cap _ (Rd.now HR.out (by repeat (first | exact hb | refine Below.alloc ?_ (by have hbs := hb.size; first | omega | (simp; done) | (simp; omega)) _ | refine Below.drew ?_ | refine below_drewN_ ?_ _ | refine Below.setCell ?_ (by simp) _))) hn hf).mono ?_; rintro e w2 ⟨rfl, hb2⟩; obtain ⟨hc2, -⟩ := bcell hb2; have hz2 := hb2.size; (try simp at hz2); (try have hy2 : w.heap.size < w2.heap.size := by omega); replace hb := bel' (w := w) hb2 (by repeat (first | exact hb | refine Below.alloc ?_ (by have hbs := hb.size; first | omega | (simp; done) | (simp; omega)) _ | refine Below.drew ?_ | refine below_drewN_ ?_ _ | refine Below.setCell ?_ (by simp) _)); clear hb2)
        go_ret
        exact ⟨by rw [HE.out]; rfl, (by repeat (first | exact hb | refine Below.alloc ?_ (by have hbs := hb.size; first | omega | (simp; done) | (simp; omega)) _ | refine Below.drew ?_ | refine below_drewN_ ?_ _ | refine Below.setCell ?_ (by simp) _))⟩
      · go_enter Tryz.func139, Tryz.ntmps139
        go_wp2_with (go_at_call 114; refine (find_is l a.parent p A cap _ (Rd.now HR.out (by repeat (first | exact hb | refine Below.alloc ?_ (by have hbs := hb.size; first | omega | (simp; done) | (simp; omega)) _ | refine Below.drew ?_ | refine below_drewN_ ?_ _ | refine Below.setCell ?_ (by simp) _))) hn hf).mono ?_; rintro e w2 ⟨rfl, hb2⟩; obtain ⟨hc2, -⟩ := bcell hb2; have hz2 := hb2.size; (try simp at hz2); (try have hy2 : w.heap.size < w2.heap.size := by omega); replace hb := bel' (w := w) hb2 (by repeat (first | exact hb | refine Below.alloc ?_ (by have hbs := hb.size; first | omega | (simp; done) | (simp; omega)) _ | refine Below.drew ?_ | refine below_drewN_ ?_ _ | refine Below.setCell ?_ (by simp) _)); clear hb2)
        go_ret
        exact ⟨by rw [HE.out]; rfl, (by repeat (first | exact hb | refine Below.alloc ?_ (by have hbs := hb.size; first | omega | (simp; done) | (simp; omega)) _ | refine Below.drew ?_ | refine below_drewN_ ?_ _ | refine Below.setCell ?_ (by simp) _))⟩
    have h8' : (p.code == a.code) = false := by simpa using h8
    by_cases h9 : p.kind = a.kind
    · have h9' : (p.kind != a.kind) = false := by simpa using h9
      have HE : Hid (Ch.restV l a = (Ch.top l a.code == 0)) := Lib.hid (by unfold Ch.restV; rw [hf]; simp [h8, h9])
      clear h8 h9
      have hpl : 0 < (Ch.pcl l a.code).length := List.length_pos_iff.2 HNE.out
      have hpl2 : (Ch.pcl l a.code).length ≤ 300000 := Nat.le_trans (Ch.pcl_len l a.code) hn
      have HT : Hid (Ch.top l a.code = (Ch.fnV l ((Ch.pcl l a.code)[(Ch.pcl l a.code).length - 1]'(by omega))).parent) := Lib.hid (by unfold Ch.top; rw [List.getLast?_eq_getElem?, List.getElem?_eq_getElem (by omega)]; rfl)
      have e1 : IntKind.i64.wrap (((Ch.pcl l a.code).length : Int) - 1) = (((Ch.pcl l a.code).length - 1 : Nat) : Int) := by rw [IntWalk.i64_in _ (by omega)]; omega
      have hidx : (Ch.pcl l a.code).length - 1 < (Ch.pcl l a.code).length := by omega
      rcases hg with ⟨rfl, h5, h6⟩ | ⟨rfl, h5⟩
      · go_enter Tryz.func139, Tryz.ntmps139
        go_wp2_with (go_at_call 114; refine (find_is l a.parent p A cap _ (Rd.now HR.out (by repeat (first | exact hb | refine Below.alloc ?_ (by have hbs := hb.size; first | omega | (simp; done) | (simp; omega)) _ | refine Below.drew ?_ | refine below_drewN_ ?_ _ | refine Below.setCell ?_ (by simp) _))) hn hf).mono ?_; rintro e w2 ⟨rfl, hb2⟩; obtain ⟨hc2, -⟩ := bcell hb2; have hz2 := hb2.size; (try simp at hz2); (try have hy2 : w.heap.size < w2.heap.size := by omega); replace hb := bel' (w := w) hb2 (by repeat (first | exact hb | refine Below.alloc ?_ (by have hbs := hb.size; first | omega | (simp; done) | (simp; omega)) _ | refine Below.drew ?_ | refine below_drewN_ ?_ _ | refine Below.setCell ?_ (by simp) _)); clear hb2)
        refine (climb_any l a.code A cap _ (Rd.now HR.out (by repeat (first | exact hb | refine Below.alloc ?_ (by have hbs := hb.size; first | omega | (simp; done) | (simp; omega)) _ | refine Below.drew ?_ | refine below_drewN_ ?_ _ | refine Below.setCell ?_ (by simp) _))) hn HW.out).mono ?_
        rintro e w4 ⟨v4, rfl, ho4, hb4⟩
        replace hb := bel' (w := w) hb4 (by repeat (first | exact hb | refine Below.alloc ?_ (by have hbs := hb.size; first | omega | (simp; done) | (simp; omega)) _ | refine Below.drew ?_ | refine below_drewN_ ?_ _ | refine Below.setCell ?_ (by simp) _))
        obtain ⟨g, c4, rfl, hg4, hg5, -⟩ := own_form ho4 hpl
        have hl4 := ho4.cells (g := g) rfl ((Ch.pcl l a.code).length - 1) (.int .i64 ((Ch.pcl l a.code)[(Ch.pcl l a.code).length - 1]'hidx)) (by unfold intCells; simp [hidx])
        rw [add_zero_] at hl4
        clear hb4 hc2 hz2 hy2 ho4 hg4
        go_wp2_with (go_at_call 114; refine (find_gen l ((Ch.pcl l a.code)[(Ch.pcl l a.code).length - 1]'hidx) A cap _ (Rd.now HR.out (by repeat (first | exact hb | refine Below.alloc ?_ (by have hbs := hb.size; first | omega | (simp; done) | (simp; omega)) _ | refine Below.drew ?_ | refine below_drewN_ ?_ _ | refine Below.setCell ?_ (by simp) _))) hn).mono ?_; rintro e w2 ⟨rfl, hb2⟩; replace hb := bel hb hb2; clear hb2)
        go_ret
        exact ⟨by rw [HE.out, HT.out]; rfl, (by repeat (first | exact hb | refine Below.alloc ?_ (by have hbs := hb.size; first | omega | (simp; done) | (simp; omega)) _ | refine Below.drew ?_ | refine below_drewN_ ?_ _ | refine Below.setCell ?_ (by simp) _))⟩
      · go_enter Tryz.func139, Tryz.ntmps139
        go_wp2_with (go_at_call 114; refine (find_is l a.parent p A cap _ (Rd.now HR.out (by repeat (first | exact hb | refine Below.alloc ?_ (by have hbs := hb.size; first | omega | (simp; done) | (simp; omega)) _ | refine Below.drew ?_ | refine below_drewN_ ?_ _ | refine Below.setCell ?_ (by simp) _))) hn hf).mono ?_; rintro e w2 ⟨rfl, hb2⟩; obtain ⟨hc2, -⟩ := bcell hb2; have hz2 := hb2.size; (try simp at hz2); (try have hy2 : w.heap.size < w2.heap.size := by omega); replace hb := bel' (w := w) hb2 (by repeat (first | exact hb | refine Below.alloc ?_ (by have hbs := hb.size; first | omega | (simp; done) | (simp; omega)) _ | refine Below.drew ?_ | refine below_drewN_ ?_ _ | refine Below.setCell ?_ (by simp) _)); clear hb2)
        refine (climb_any l a.code A cap _ (Rd.now HR.out (by repeat (first | exact hb | refine Below.alloc ?_ (by have hbs := hb.size; first | omega | (simp; done) | (simp; omega)) _ | refine Below.drew ?_ | refine below_drewN_ ?_ _ | refine Below.setCell ?_ (by simp) _))) hn HW.out).mono ?_
        rintro e w4 ⟨v4, rfl, ho4, hb4⟩
        replace hb := bel' (w := w) hb4 (by repeat (first | exact hb | refine Below.alloc ?_ (by have hbs := hb.size; first | omega | (simp; done) | (simp; omega)) _ | refine Below.drew ?_ | refine below_drewN_ ?_ _ | refine Below.setCell ?_ (by simp) _))
        obtain ⟨g, c4, rfl, hg4, hg5, -⟩ := own_form ho4 hpl
        have hl4 := ho4.cells (g := g) rfl ((Ch.pcl l a.code).length - 1) (.int .i64 ((Ch.pcl l a.code)[(Ch.pcl l a.code).length - 1]'hidx)) (by unfold intCells; simp [hidx])
        rw [add_zero_] at hl4
        clear hb4 hc2 hz2 hy2 ho4 hg4
        go_wp2_with (go_at_call 114; refine (find_gen l ((Ch.pcl l a.code)[(Ch.pcl l a.code).length - 1]'hidx) A cap _ (Rd.now HR.out (by repeat (first | exact hb | refine Below.alloc ?_ (by have hbs := hb.size; first | omega | (simp; done) | (simp; omega)) _ | refine Below.drew ?_ | refine below_drewN_ ?_ _ | refine Below.setCell ?_ (by simp) _))) hn).mono ?_; rintro e w2 ⟨rfl, hb2⟩; replace hb := bel hb hb2; clear hb2)
        go_ret
        exact ⟨by rw [HE.out, HT.out]; rfl, (by repeat (first | exact hb | refine Below.alloc ?_ (by have hbs := hb.size; first | omega | (simp; done) | (simp; omega)) _ | refine Below.drew ?_ | refine below_drewN_ ?_ _ | refine Below.setCell ?_ (by simp) _))⟩
    · have h9' : (p.kind != a.kind) = true := by simpa using h9
      have HE : Hid (Ch.restV l a = false) := Lib.hid (by unfold Ch.restV; rw [hf]; simp [h9])
      clear h8 h9
      rcases hg with ⟨rfl, h5, h6⟩ | ⟨rfl, h5⟩
      · go_enter Tryz.func139, Tryz.ntmps139
        go_wp2_with (go_at_call 114; refine (find_is l a.parent p A cap _ (Rd.now HR.out (by repeat (first | exact hb | refine Below.alloc ?_ (by have hbs := hb.size; first | omega | (simp; done) | (simp; omega)) _ | refine Below.drew ?_ | refine below_drewN_ ?_ _ | refine Below.setCell ?_ (by simp) _))) hn hf).mono ?_; rintro e w2 ⟨rfl, hb2⟩; obtain ⟨hc2, -⟩ := bcell hb2; have hz2 := hb2.size; (try simp at hz2); (try have hy2 : w.heap.size < w2.heap.size := by omega); replace hb := bel' (w := w) hb2 (by repeat (first | exact hb | refine Below.alloc ?_ (by have hbs := hb.size; first | omega | (simp; done) | (simp; omega)) _ | refine Below.drew ?_ | refine below_drewN_ ?_ _ | refine Below.setCell ?_ (by simp) _)); clear hb2)
        go_ret
        exact ⟨by rw [HE.out]; rfl, (by repeat (first | exact hb | refine Below.alloc ?_ (by have hbs := hb.size; first | omega | (simp; done) | (simp; omega)) _ | refine Below.drew ?_ | refine below_drewN_ ?_ _ | refine Below.setCell ?_ (by simp) _))⟩
      · go_enter Tryz.func139, Tryz.ntmps139
        go_wp2_with (go_at_call 114; refine (find_is l a.parent p A cap _ (Rd.now HR.out (by repeat (first | exact hb | refine Below.alloc ?_ (by have hbs := hb.size; first | omega | (simp; done) | (simp; omega)) _ | refine Below.drew ?_ | refine below_drewN_ ?_ _ | refine Below.setCell ?_ (by simp) _))) hn hf).mono ?_; rintro e w2 ⟨rfl, hb2⟩; obtain ⟨hc2, -⟩ := bcell hb2; have hz2 := hb2.size; (try simp at hz2); (try have hy2 : w.heap.size < w2.heap.size := by omega); replace hb := bel' (w := w) hb2 (by repeat (first | exact hb | refine Below.alloc ?_ (by have hbs := hb.size; first | omega | (simp; done) | (simp; omega)) _ | refine Below.drew ?_ | refine below_drewN_ ?_ _ | refine Below.setCell ?_ (by simp) _)); clear hb2)
        go_ret
        exact ⟨by rw [HE.out]; rfl, (by repeat (first | exact hb | refine Below.alloc ?_ (by have hbs := hb.size; first | omega | (simp; done) | (simp; omega)) _ | refine Below.drew ?_ | refine below_drewN_ ?_ _ | refine Below.setCell ?_ (by simp) _))⟩

theorem fields_of (h : Ch.fieldsV a g = true) : ¬ a.code < 1 ∧ ¬ 99999 < a.code ∧ ¬ a.kind < 1 ∧ ¬ 5 < a.kind ∧ ((g = true ∧ ¬ a.basis < 1 ∧ ¬ 3 < a.basis) ∨ (g = false ∧ (a.basis != 0) = false)) := by
  unfold Ch.fieldsV at h
  cases g
  · simp at h
    refine ⟨by omega, by omega, by omega, by omega, .inr ⟨rfl, by simp [h.2]⟩⟩
  · simp at h
    exact ⟨by omega, by omega, by omega, by omega, .inl ⟨rfl, by omega, by omega⟩⟩

theorem proper_any (hr : Rd w w.heap.size 4 A l.length (Ch.cells l)) (hn : l.length ≤ 300000) (hwf : ∀ a ∈ l, (Lit.int .i64 a.code).wf = true) (hne : Ch.pcl l a.code ≠ []) :
    Calls Tryz.prog 139 #[.slice A l.length cap, .agg #[.int .i64 a.code, .int .i64 a.kind, .int .i64 a.basis, .int .i64 a.parent], .bool g] w (BoolPost (Ch.properV l a g) w) := by
  unfold Ch.properV
  cases hF : Ch.fieldsV a g
  · exact proper_no l a g A cap w hF
  · obtain ⟨h1, h2, h3, h4, hg⟩ := fields_of a g hF
    by_cases h0 : a.parent = 0
    · rw [show (true && (a.parent == 0 || Ch.restV l a)) = true from by simp [h0]]
      exact proper_top l a g A cap w h1 h2 h3 h4 h0 hg
    · rw [show (true && (a.parent == 0 || Ch.restV l a)) = Ch.restV l a from by simp [h0]]
      exact proper_rest l a g A cap w h1 h2 h3 h4 h0 hg hr hn hwf hne
end
end Go.Proofs.YthfbpbbepogllaaGreat
/- The walks of Compare, of known's own function, of SameCodes, Has, Index and Contains. -/
namespace Go.Proofs.YthfbpbbepogllaaGreat
set_option linter.unusedVariables false
set_option linter.unusedSimpArgs false
open Go.RowKit

theorem same_of (xs ys : List Int) (hl : xs.length = ys.length) (h : ∀ j (h : j < xs.length), xs[j] = ys[j]'(by omega)) : xs = ys := List.ext_getElem hl (fun j h1 _ => h j h1)

end Go.Proofs.YthfbpbbepogllaaGreat
