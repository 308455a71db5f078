/- The walks of the reference's proper and Valid. -/
import Derived.Test.YtpklnlpeedkmdaaChartWalksF
namespace Go.Proofs.Ytpklnlpeedkmdaa
set_option linter.unusedVariables false
set_option linter.unusedSimpArgs false
open Go.RowKit

section
variable (l : List Acc) (a : Acc) (g : Bool) (A : Option Addr) (cap : Nat) (w : World)
theorem rproper_no (h : Ch.fieldsV a g = false) : Calls Try.prog 100 #[.slice A l.length cap, .agg #[.int .i64 a.code, .int .i64 a.kind, .int .i64 a.basis, .int .i64 a.parent], .bool g] w (BoolPost false w) := by
  have hb := Below.refl w.heap.size w
  unfold Ch.fieldsV at h
  by_cases h1 : a.code < 1
  · clear h
    go_enter Try.func100, Try.ntmps100
    go_wp2_with fail
    go_ret
    exact ⟨rfl, (by repeat (first | exact hb | refine Below.alloc ?_ (by have hbs := hb.size; first | omega | (simp; done) | (simp; omega)) _ | refine Below.drew ?_ | refine below_drewN_ ?_ _ | refine Below.setCell ?_ (by simp) _))⟩
  by_cases h2 : 99999 < a.code
  · clear h
    go_enter Try.func100, Try.ntmps100
    go_wp2_with fail
    go_ret
    exact ⟨rfl, (by repeat (first | exact hb | refine Below.alloc ?_ (by have hbs := hb.size; first | omega | (simp; done) | (simp; omega)) _ | refine Below.drew ?_ | refine below_drewN_ ?_ _ | refine Below.setCell ?_ (by simp) _))⟩
  by_cases h3 : a.kind < 1
  · clear h
    go_enter Try.func100, Try.ntmps100
    go_wp2_with fail
    go_ret
    exact ⟨rfl, (by repeat (first | exact hb | refine Below.alloc ?_ (by have hbs := hb.size; first | omega | (simp; done) | (simp; omega)) _ | refine Below.drew ?_ | refine below_drewN_ ?_ _ | refine Below.setCell ?_ (by simp) _))⟩
  by_cases h4 : 5 < a.kind
  · clear h
    go_enter Try.func100, Try.ntmps100
    go_wp2_with fail
    go_ret
    exact ⟨rfl, (by repeat (first | exact hb | refine Below.alloc ?_ (by have hbs := hb.size; first | omega | (simp; done) | (simp; omega)) _ | refine Below.drew ?_ | refine below_drewN_ ?_ _ | refine Below.setCell ?_ (by simp) _))⟩
  cases g
  · have h5 : (a.basis != 0) = true := by
      simp at h
      have := h (by omega) (by omega) (by omega) (by omega)
      simpa using this
    clear h
    go_enter Try.func100, Try.ntmps100
    go_wp2_with fail
    go_ret
    exact ⟨rfl, (by repeat (first | exact hb | refine Below.alloc ?_ (by have hbs := hb.size; first | omega | (simp; done) | (simp; omega)) _ | refine Below.drew ?_ | refine below_drewN_ ?_ _ | refine Below.setCell ?_ (by simp) _))⟩
  · by_cases h6 : a.basis < 1
    · clear h
      go_enter Try.func100, Try.ntmps100
      go_wp2_with fail
      go_ret
      exact ⟨rfl, (by repeat (first | exact hb | refine Below.alloc ?_ (by have hbs := hb.size; first | omega | (simp; done) | (simp; omega)) _ | refine Below.drew ?_ | refine below_drewN_ ?_ _ | refine Below.setCell ?_ (by simp) _))⟩
    · have h7 : 3 < a.basis := by
        simp at h
        have := h (by omega) (by omega) (by omega) (by omega)
        omega
      clear h
      go_enter Try.func100, Try.ntmps100
      go_wp2_with fail
      go_ret
      exact ⟨rfl, (by repeat (first | exact hb | refine Below.alloc ?_ (by have hbs := hb.size; first | omega | (simp; done) | (simp; omega)) _ | refine Below.drew ?_ | refine below_drewN_ ?_ _ | refine Below.setCell ?_ (by simp) _))⟩

theorem rproper_top (h1 : ¬ a.code < 1) (h2 : ¬ 99999 < a.code) (h3 : ¬ a.kind < 1) (h4 : ¬ 5 < a.kind) (h0 : a.parent = 0) (hg : (g = true ∧ ¬ a.basis < 1 ∧ ¬ 3 < a.basis) ∨ (g = false ∧ (a.basis != 0) = false)) :
    Calls Try.prog 100 #[.slice A l.length cap, .agg #[.int .i64 a.code, .int .i64 a.kind, .int .i64 a.basis, .int .i64 a.parent], .bool g] w (BoolPost true w) := by
  have hb := Below.refl w.heap.size w
  have hp : (a.parent == 0) = true := by simpa using h0
  clear h0
  rcases hg with ⟨rfl, h5, h6⟩ | ⟨rfl, h5⟩
  · go_enter Try.func100, Try.ntmps100
    go_wp2_with fail
    go_ret
    exact ⟨rfl, (by repeat (first | exact hb | refine Below.alloc ?_ (by have hbs := hb.size; first | omega | (simp; done) | (simp; omega)) _ | refine Below.drew ?_ | refine below_drewN_ ?_ _ | refine Below.setCell ?_ (by simp) _))⟩
  · go_enter Try.func100, Try.ntmps100
    go_wp2_with fail
    go_ret
    exact ⟨rfl, (by repeat (first | exact hb | refine Below.alloc ?_ (by have hbs := hb.size; first | omega | (simp; done) | (simp; omega)) _ | refine Below.drew ?_ | refine below_drewN_ ?_ _ | refine Below.setCell ?_ (by simp) _))⟩

set_option maxHeartbeats 2000000 in
theorem rproper_rest (h1 : ¬ a.code < 1) (h2 : ¬ 99999 < a.code) (h3 : ¬ a.kind < 1) (h4 : ¬ 5 < a.kind) (h0 : a.parent ≠ 0) (hg : (g = true ∧ ¬ a.basis < 1 ∧ ¬ 3 < a.basis) ∨ (g = false ∧ (a.basis != 0) = false))
    (hr : Rd w w.heap.size 4 A l.length (Ch.cells l)) (hn : l.length ≤ 100000) :
    Calls Try.prog 100 #[.slice A l.length cap, .agg #[.int .i64 a.code, .int .i64 a.kind, .int .i64 a.basis, .int .i64 a.parent], .bool g] w (BoolPost (Ch.rrestV l a) w) := by
  have hb := Below.refl w.heap.size w
  have hp : (a.parent == 0) = false := by simpa using h0
  have HR := Lib.hid hr
  clear h0 hr
  cases hf : Ch.find l a.parent with
  | none =>
    have HE : Hid (Ch.rrestV l a = false) := Lib.hid (by unfold Ch.rrestV; rw [hf])
    rcases hg with ⟨rfl, h5, h6⟩ | ⟨rfl, h5⟩
    all_goals
      go_enter Try.func100, Try.ntmps100
      go_wp2_with (go_at_call 49; refine (rfind_no l a.parent A cap _ (Rd.now HR.out (by repeat (first | exact hb | refine Below.alloc ?_ (by have hbs := hb.size; first | omega | (simp; done) | (simp; omega)) _ | refine Below.drew ?_ | refine below_drewN_ ?_ _ | refine Below.setCell ?_ (by simp) _))) hn hf).mono ?_; rintro e w2 ⟨rfl, hb2⟩; obtain ⟨hc2, -⟩ := bcell hb2; have hz2 := hb2.size; (try simp at hz2); (try have hy2 : w.heap.size < w2.heap.size := by omega); replace hb := bel' (w := w) hb2 (by repeat (first | exact hb | refine Below.alloc ?_ (by have hbs := hb.size; first | omega | (simp; done) | (simp; omega)) _ | refine Below.drew ?_ | refine below_drewN_ ?_ _ | refine Below.setCell ?_ (by simp) _)); clear hb2)
      go_ret
      exact ⟨by rw [HE.out]; rfl, (by repeat (first | exact hb | refine Below.alloc ?_ (by have hbs := hb.size; first | omega | (simp; done) | (simp; omega)) _ | refine Below.drew ?_ | refine below_drewN_ ?_ _ | refine Below.setCell ?_ (by simp) _))⟩
  | some p =>
    by_cases h8 : p.code = a.code
    · have h8' : (p.code != a.code) = false := by simpa using h8
      have HE : Hid (Ch.rrestV l a = false) := Lib.hid (by unfold Ch.rrestV; rw [hf]; simp [h8])
      clear h8
      rcases hg with ⟨rfl, h5, h6⟩ | ⟨rfl, h5⟩
      all_goals
        go_enter Try.func100, Try.ntmps100
        go_wp2_with (go_at_call 49; refine (rfind_is l a.parent p A cap _ (Rd.now HR.out (by repeat (first | exact hb | refine Below.alloc ?_ (by have hbs := hb.size; first | omega | (simp; done) | (simp; omega)) _ | refine Below.drew ?_ | refine below_drewN_ ?_ _ | refine Below.setCell ?_ (by simp) _))) hn hf).mono ?_; rintro e w2 ⟨rfl, hb2⟩; obtain ⟨hc2, -⟩ := bcell hb2; have hz2 := hb2.size; (try simp at hz2); (try have hy2 : w.heap.size < w2.heap.size := by omega); replace hb := bel' (w := w) hb2 (by repeat (first | exact hb | refine Below.alloc ?_ (by have hbs := hb.size; first | omega | (simp; done) | (simp; omega)) _ | refine Below.drew ?_ | refine below_drewN_ ?_ _ | refine Below.setCell ?_ (by simp) _)); clear hb2)
        go_ret
        exact ⟨by rw [HE.out]; rfl, (by repeat (first | exact hb | refine Below.alloc ?_ (by have hbs := hb.size; first | omega | (simp; done) | (simp; omega)) _ | refine Below.drew ?_ | refine below_drewN_ ?_ _ | refine Below.setCell ?_ (by simp) _))⟩
    · have h8' : (p.code != a.code) = true := by simpa using h8
      have HE : Hid (Ch.rrestV l a = (p.kind == a.kind)) := Lib.hid (by unfold Ch.rrestV; rw [hf]; simp [h8])
      clear h8
      rcases hg with ⟨rfl, h5, h6⟩ | ⟨rfl, h5⟩
      all_goals
        go_enter Try.func100, Try.ntmps100
        go_wp2_with (go_at_call 49; refine (rfind_is l a.parent p A cap _ (Rd.now HR.out (by repeat (first | exact hb | refine Below.alloc ?_ (by have hbs := hb.size; first | omega | (simp; done) | (simp; omega)) _ | refine Below.drew ?_ | refine below_drewN_ ?_ _ | refine Below.setCell ?_ (by simp) _))) hn hf).mono ?_; rintro e w2 ⟨rfl, hb2⟩; obtain ⟨hc2, -⟩ := bcell hb2; have hz2 := hb2.size; (try simp at hz2); (try have hy2 : w.heap.size < w2.heap.size := by omega); replace hb := bel' (w := w) hb2 (by repeat (first | exact hb | refine Below.alloc ?_ (by have hbs := hb.size; first | omega | (simp; done) | (simp; omega)) _ | refine Below.drew ?_ | refine below_drewN_ ?_ _ | refine Below.setCell ?_ (by simp) _)); clear hb2)
        go_ret
        exact ⟨by rw [HE.out]; rfl, (by repeat (first | exact hb | refine Below.alloc ?_ (by have hbs := hb.size; first | omega | (simp; done) | (simp; omega)) _ | refine Below.drew ?_ | refine below_drewN_ ?_ _ | refine Below.setCell ?_ (by simp) _))⟩

theorem rproper_any (hr : Rd w w.heap.size 4 A l.length (Ch.cells l)) (hn : l.length ≤ 100000) :
    Calls Try.prog 100 #[.slice A l.length cap, .agg #[.int .i64 a.code, .int .i64 a.kind, .int .i64 a.basis, .int .i64 a.parent], .bool g] w (BoolPost (Ch.rproperV l a g) w) := by
  unfold Ch.rproperV
  cases hF : Ch.fieldsV a g
  · exact rproper_no l a g A cap w hF
  · obtain ⟨h1, h2, h3, h4, hg⟩ := fields_of a g hF
    by_cases h0 : a.parent = 0
    · rw [show (true && (a.parent == 0 || Ch.rrestV l a)) = true from by simp [h0]]
      exact rproper_top l a g A cap w h1 h2 h3 h4 h0 hg
    · rw [show (true && (a.parent == 0 || Ch.rrestV l a)) = Ch.rrestV l a from by simp [h0]]
      exact rproper_rest l a g A cap w h1 h2 h3 h4 h0 hg hr hn
end
end Go.Proofs.Ytpklnlpeedkmdaa
