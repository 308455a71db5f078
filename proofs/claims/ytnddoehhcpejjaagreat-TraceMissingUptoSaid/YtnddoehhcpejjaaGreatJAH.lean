/- Texts of this claim, put together. -/
import Derived.Test.YtnddoehhcpejjaaGreatJAG
import Derived.Test.YtnddoehhcpejjaaGreatJAA
/- The walk of Valid. -/
namespace Go.Proofs.YtnddoehhcpejjaaGreat
set_option linter.unusedVariables false
set_option linter.unusedSimpArgs false
open Go.RowKit

set_option maxHeartbeats 4000000 in
theorem valid_any (l : List Acc) (g : Bool) (A : Option Addr) (cap : Nat) (w : World) (hr : Rd w w.heap.size 4 A l.length (Ch.cells l)) (hn : l.length ≤ 300000) (hwf : ∀ a ∈ l, (Lit.int .i64 a.code).wf = true) :
    Calls Tryz.prog 83 #[.slice A l.length cap, .bool g] w (BoolPost (Ch.validV l g) w) := by
  have hb := Below.refl w.heap.size w
  have HR := Lib.hid hr
  have HW := Lib.hid hwf
  clear hr hwf
  go_enter Tryz.func83, Tryz.ntmps83
  go_wp2_with fail
  go_loopw [9] (fun t wr => ∃ k : Nat, k ≤ l.length ∧ (∀ j, j < k → Ch.okAt l g j = true) ∧ t = .int .i64 k ∧ Below w.heap.size w wr) (fun t _ => l.length - (intOf t).toNat)
  case atStart => exact ⟨0, by omega, fun j h => by omega, rfl, hb⟩
  case round =>
    clear hb
    obtain ⟨k, hk, hno, rfl, hb⟩ := hrel
    have HN := Lib.hid hno
    have hz := hb.size
    clear hno
    by_cases hlt : k < l.length
    · obtain ⟨b, o, hA, hbo, f0, f1, f2, f3⟩ := Ch.at_ (HR.out.below hb (Nat.le_refl _)) hlt
      subst hA
      have HP := Lib.hid (Ch.pcl_ne l k hlt)
      have hB := Blk.new wr 121 #[.int .i64 l[k].code, .int .i64 l[k].kind, .int .i64 l[k].basis, .int .i64 l[k].parent]
      have q0 : ∀ d : Later (wr.alloc (.cells #[.int .i64 l[k].code, .int .i64 l[k].kind, .int .i64 l[k].basis, .int .i64 l[k].parent] 121)), d.now.cell? ⟨wr.heap.size, 0, none⟩ = some (.int .i64 l[k].code) := fun d => d.cell (by simp) (hB.cell 0)
      have q1 : ∀ d : Later (wr.alloc (.cells #[.int .i64 l[k].code, .int .i64 l[k].kind, .int .i64 l[k].basis, .int .i64 l[k].parent] 121)), d.now.cell? ⟨wr.heap.size, 1, none⟩ = some (.int .i64 l[k].kind) := fun d => d.cell (by simp) (hB.cell 1)
      have q2 : ∀ d : Later (wr.alloc (.cells #[.int .i64 l[k].code, .int .i64 l[k].kind, .int .i64 l[k].basis, .int .i64 l[k].parent] 121)), d.now.cell? ⟨wr.heap.size, 2, none⟩ = some (.int .i64 l[k].basis) := fun d => d.cell (by simp) (hB.cell 2)
      have q3 : ∀ d : Later (wr.alloc (.cells #[.int .i64 l[k].code, .int .i64 l[k].kind, .int .i64 l[k].basis, .int .i64 l[k].parent] 121)), d.now.cell? ⟨wr.heap.size, 3, none⟩ = some (.int .i64 l[k].parent) := fun d => d.cell (by simp) (hB.cell 3)
      have hb2 : Below w.heap.size w (wr.alloc (.cells #[.int .i64 l[k].code, .int .i64 l[k].kind, .int .i64 l[k].basis, .int .i64 l[k].parent] 121)) := (by repeat (first | exact hb | refine Below.alloc ?_ (by have hbs := hb.size; first | omega | (simp; done) | (simp; omega)) _ | refine Below.drew ?_ | refine below_drewN_ ?_ _ | refine Below.setCell ?_ (by simp) _))
      clear hB
      have hk1 : k - 1 < l.length := by omega
      obtain ⟨b', o', hA', -, f4, -, -, -⟩ := Ch.at_ (HR.out.below hb (Nat.le_refl _)) hk1
      injection hA' with hA'
      injection hA' with hA1 hA2
      subst hA1 hA2
      have q4 : ∀ d : Later (wr.alloc (.cells #[.int .i64 l[k].code, .int .i64 l[k].kind, .int .i64 l[k].basis, .int .i64 l[k].parent] 121)), d.now.cell? ⟨b, o + (k - 1) * 4, none⟩ = some (.int .i64 (l[k - 1]'hk1).code) := fun d => d.cell (by simp; omega) ((World.cell?_alloc_lt wr _ ⟨b, o + (k - 1) * 4, none⟩ (by show b < _; omega)).trans f4)
      clear f4
      have hcase : decide (0 < k) = false ∨ (decide (0 < k) = true ∧ decide (l[k].code ≤ (l[k - 1]'hk1).code) = false) ∨ (decide (0 < k) = true ∧ decide (l[k].code ≤ (l[k - 1]'hk1).code) = true) := by
        by_cases h0 : 0 < k
        · by_cases h1 : l[k].code ≤ (l[k - 1]'hk1).code
          · exact .inr (.inr ⟨by simp [h0], by simp [h1]⟩)
          · exact .inr (.inl ⟨by simp [h0], by simpa using h1⟩)
        · exact .inl (by simpa using h0)
      rcases hcase with hd | ⟨hd, hg⟩ | ⟨hd, hg⟩
      · cases hP : Ch.properV l l[k] g
        · have HE : Hid (Ch.validV l g = false) := Lib.hid (Ch.valid_no l g k hlt (by unfold Ch.okAt; rw [Ch.getD_at l k hlt, hP]; simp))
          go_wp2_with fail
          refine wp_region_later (by kernel_rfl) (by kernel_rfl) ?_; (repeat (go_big_quiet_step (((go_at_call 121; exact Later.call _ (proper_any l l[k] g _ cap _ (Rd.now HR.out (bel hb2 (Later.below _))) hn HW.out HP.out)))))); refine wpQuiet_nil ?_; rintro _ ⟨dq, rfl⟩
          have hbe := bel hb2 dq.below
          go_wp2_with fail
          go_ret
          exact ⟨by rw [HE.out]; rfl, hbe⟩
        · have HE : Hid (Ch.okAt l g k = true) := Lib.hid (by unfold Ch.okAt; rw [Ch.getD_at l k hlt, hP]; simp at hd; simp [hd])
          go_wp2_with fail
          refine wp_region_later (by kernel_rfl) (by kernel_rfl) ?_; (repeat (go_big_quiet_step (((go_at_call 121; exact Later.call _ (proper_any l l[k] g _ cap _ (Rd.now HR.out (bel hb2 (Later.below _))) hn HW.out HP.out)))))); refine wpQuiet_nil ?_; rintro _ ⟨dq, rfl⟩
          have hbe := bel hb2 dq.below
          go_wp2_with fail
          go_roundw
          case rel => exact ⟨k + 1, by omega, upto_succ HN.out HE.out, by go_num, hbe⟩
          case measure => simp [intOf]; omega
      · have e1 : IntKind.i64.wrap ((k : Int) - 1) = ((k - 1 : Nat) : Int) := by simp at hd; rw [IntWalk.i64_in _ (by omega)]; omega
        cases hP : Ch.properV l l[k] g
        · have HE : Hid (Ch.validV l g = false) := Lib.hid (Ch.valid_no l g k hlt (by unfold Ch.okAt; rw [Ch.getD_at l k hlt, hP]; simp))
          go_wp2_with fail
          refine wp_region_later (by kernel_rfl) (by kernel_rfl) ?_; (repeat (go_big_quiet_step (((go_at_call 121; exact Later.call _ (proper_any l l[k] g _ cap _ (Rd.now HR.out (bel hb2 (Later.below _))) hn HW.out HP.out)))))); refine wpQuiet_nil ?_; rintro _ ⟨dq, rfl⟩
          have hbe := bel hb2 dq.below
          go_wp2_with fail
          go_ret
          exact ⟨by rw [HE.out]; rfl, hbe⟩
        · have HE : Hid (Ch.okAt l g k = true) := Lib.hid (by unfold Ch.okAt; rw [Ch.getD_at l k hlt, Ch.getD_at l (k - 1) hk1, hP]; simp at hg; simp [hg])
          go_wp2_with fail
          refine wp_region_later (by kernel_rfl) (by kernel_rfl) ?_; (repeat (go_big_quiet_step (((go_at_call 121; exact Later.call _ (proper_any l l[k] g _ cap _ (Rd.now HR.out (bel hb2 (Later.below _))) hn HW.out HP.out)))))); refine wpQuiet_nil ?_; rintro _ ⟨dq, rfl⟩
          have hbe := bel hb2 dq.below
          go_wp2_with fail
          go_roundw
          case rel => exact ⟨k + 1, by omega, upto_succ HN.out HE.out, by go_num, hbe⟩
          case measure => simp [intOf]; omega
      · have e1 : IntKind.i64.wrap ((k : Int) - 1) = ((k - 1 : Nat) : Int) := by simp at hd; rw [IntWalk.i64_in _ (by omega)]; omega
        have HE : Hid (Ch.validV l g = false) := Lib.hid (Ch.valid_no l g k hlt (by unfold Ch.okAt; rw [Ch.getD_at l k hlt, Ch.getD_at l (k - 1) hk1]; simp at hg hd; simp; intro h; omega))
        go_wp2_with fail
        refine wp_region_later (by kernel_rfl) (by kernel_rfl) ?_; (repeat (go_big_quiet_step ((fail)))); refine wpQuiet_nil ?_; rintro _ ⟨dq, rfl⟩
        have hbe := bel hb2 dq.below
        go_wp2_with fail
        go_ret
        exact ⟨by rw [HE.out]; rfl, hbe⟩
    · have HE : Hid (Ch.validV l g = decide (l.length ≤ 200)) := Lib.hid (Ch.valid_end l g (fun j h => HN.out j (by omega)))
      go_wp2_with fail
      go_ret
      exact ⟨ret_bool (by rw [HE.out]; simp; omega), hb⟩
end Go.Proofs.YtnddoehhcpejjaaGreat
/- The walks of the reference's proper and Valid. -/
namespace Go.Proofs.YtnddoehhcpejjaaGreat
set_option linter.unusedVariables false
set_option linter.unusedSimpArgs false
open Go.RowKit

section
variable (l : List Acc) (a : Acc) (g : Bool) (A : Option Addr) (cap : Nat) (w : World)
theorem rproper_no (h : Ch.fieldsV a g = false) : Calls Tryz.prog 126 #[.slice A l.length cap, .agg #[.int .i64 a.code, .int .i64 a.kind, .int .i64 a.basis, .int .i64 a.parent], .bool g] w (BoolPost false w) := by
  have hb := Below.refl w.heap.size w
  unfold Ch.fieldsV at h
  by_cases h1 : a.code < 1
  · clear h
    go_enter Tryz.func126, Tryz.ntmps126
    go_wp2_with fail
    go_ret
    exact ⟨rfl, (by repeat (first | exact hb | refine Below.alloc ?_ (by have hbs := hb.size; first | omega | (simp; done) | (simp; omega)) _ | refine Below.drew ?_ | refine below_drewN_ ?_ _ | refine Below.setCell ?_ (by simp) _))⟩
  by_cases h2 : 99999 < a.code
  · clear h
    go_enter Tryz.func126, Tryz.ntmps126
    go_wp2_with fail
    go_ret
    exact ⟨rfl, (by repeat (first | exact hb | refine Below.alloc ?_ (by have hbs := hb.size; first | omega | (simp; done) | (simp; omega)) _ | refine Below.drew ?_ | refine below_drewN_ ?_ _ | refine Below.setCell ?_ (by simp) _))⟩
  by_cases h3 : a.kind < 1
  · clear h
    go_enter Tryz.func126, Tryz.ntmps126
    go_wp2_with fail
    go_ret
    exact ⟨rfl, (by repeat (first | exact hb | refine Below.alloc ?_ (by have hbs := hb.size; first | omega | (simp; done) | (simp; omega)) _ | refine Below.drew ?_ | refine below_drewN_ ?_ _ | refine Below.setCell ?_ (by simp) _))⟩
  by_cases h4 : 5 < a.kind
  · clear h
    go_enter Tryz.func126, Tryz.ntmps126
    go_wp2_with fail
    go_ret
    exact ⟨rfl, (by repeat (first | exact hb | refine Below.alloc ?_ (by have hbs := hb.size; first | omega | (simp; done) | (simp; omega)) _ | refine Below.drew ?_ | refine below_drewN_ ?_ _ | refine Below.setCell ?_ (by simp) _))⟩
  cases g
  · have h5 : (a.basis != 0) = true := by
      simp at h
      have := h (by omega) (by omega) (by omega) (by omega)
      simpa using this
    clear h
    go_enter Tryz.func126, Tryz.ntmps126
    go_wp2_with fail
    go_ret
    exact ⟨rfl, (by repeat (first | exact hb | refine Below.alloc ?_ (by have hbs := hb.size; first | omega | (simp; done) | (simp; omega)) _ | refine Below.drew ?_ | refine below_drewN_ ?_ _ | refine Below.setCell ?_ (by simp) _))⟩
  · by_cases h6 : a.basis < 1
    · clear h
      go_enter Tryz.func126, Tryz.ntmps126
      go_wp2_with fail
      go_ret
      exact ⟨rfl, (by repeat (first | exact hb | refine Below.alloc ?_ (by have hbs := hb.size; first | omega | (simp; done) | (simp; omega)) _ | refine Below.drew ?_ | refine below_drewN_ ?_ _ | refine Below.setCell ?_ (by simp) _))⟩
    · have h7 : 3 < a.basis := by
        simp at h
        have := h (by omega) (by omega) (by omega) (by omega)
        omega
      clear h
      go_enter Tryz.func126, Tryz.ntmps126
      go_wp2_with fail
      go_ret
      exact ⟨rfl, (by repeat (first | exact hb | refine Below.alloc ?_ (by have hbs := hb.size; first | omega | (simp; done) | (simp; omega)) _ | refine Below.drew ?_ | refine below_drewN_ ?_ _ | refine Below.setCell ?_ (by simp) _))⟩

theorem rproper_top (h1 : ¬ a.code < 1) (h2 : ¬ 99999 < a.code) (h3 : ¬ a.kind < 1) (h4 : ¬ 5 < a.kind) (h0 : a.parent = 0) (hg : (g = true ∧ ¬ a.basis < 1 ∧ ¬ 3 < a.basis) ∨ (g = false ∧ (a.basis != 0) = false)) :
    Calls Tryz.prog 126 #[.slice A l.length cap, .agg #[.int .i64 a.code, .int .i64 a.kind, .int .i64 a.basis, .int .i64 a.parent], .bool g] w (BoolPost true w) := by
  have hb := Below.refl w.heap.size w
  have hp : (a.parent == 0) = true := by simpa using h0
  clear h0
  rcases hg with ⟨rfl, h5, h6⟩ | ⟨rfl, h5⟩
  · go_enter Tryz.func126, Tryz.ntmps126
    go_wp2_with fail
    go_ret
    exact ⟨rfl, (by repeat (first | exact hb | refine Below.alloc ?_ (by have hbs := hb.size; first | omega | (simp; done) | (simp; omega)) _ | refine Below.drew ?_ | refine below_drewN_ ?_ _ | refine Below.setCell ?_ (by simp) _))⟩
  · go_enter Tryz.func126, Tryz.ntmps126
    go_wp2_with fail
    go_ret
    exact ⟨rfl, (by repeat (first | exact hb | refine Below.alloc ?_ (by have hbs := hb.size; first | omega | (simp; done) | (simp; omega)) _ | refine Below.drew ?_ | refine below_drewN_ ?_ _ | refine Below.setCell ?_ (by simp) _))⟩

set_option maxHeartbeats 2000000 in
theorem rproper_rest (h1 : ¬ a.code < 1) (h2 : ¬ 99999 < a.code) (h3 : ¬ a.kind < 1) (h4 : ¬ 5 < a.kind) (h0 : a.parent ≠ 0) (hg : (g = true ∧ ¬ a.basis < 1 ∧ ¬ 3 < a.basis) ∨ (g = false ∧ (a.basis != 0) = false))
    (hr : Rd w w.heap.size 4 A l.length (Ch.cells l)) (hn : l.length ≤ 300000) :
    Calls Tryz.prog 126 #[.slice A l.length cap, .agg #[.int .i64 a.code, .int .i64 a.kind, .int .i64 a.basis, .int .i64 a.parent], .bool g] w (BoolPost (Ch.rrestV l a) w) := by
  have hb := Below.refl w.heap.size w
  have hp : (a.parent == 0) = false := by simpa using h0
  have HR := Lib.hid hr
  clear h0 hr
  cases hf : Ch.find l a.parent with
  | none =>
    have HE : Hid (Ch.rrestV l a = false) := Lib.hid (by unfold Ch.rrestV; rw [hf])
    rcases hg with ⟨rfl, h5, h6⟩ | ⟨rfl, h5⟩
    all_goals
      go_enter Tryz.func126, Tryz.ntmps126
      go_wp2_with (go_at_call 106; refine (rfind_no l a.parent A cap _ (Rd.now HR.out (by repeat (first | exact hb | refine Below.alloc ?_ (by have hbs := hb.size; first | omega | (simp; done) | (simp; omega)) _ | refine Below.drew ?_ | refine below_drewN_ ?_ _ | refine Below.setCell ?_ (by simp) _))) hn hf).mono ?_; rintro e w2 ⟨rfl, hb2⟩; obtain ⟨hc2, -⟩ := bcell hb2; have hz2 := hb2.size; (try simp at hz2); (try have hy2 : w.heap.size < w2.heap.size := by omega); replace hb := bel' (w := w) hb2 (by repeat (first | exact hb | refine Below.alloc ?_ (by have hbs := hb.size; first | omega | (simp; done) | (simp; omega)) _ | refine Below.drew ?_ | refine below_drewN_ ?_ _ | refine Below.setCell ?_ (by simp) _)); clear hb2)
      go_ret
      exact ⟨by rw [HE.out]; rfl, (by repeat (first | exact hb | refine Below.alloc ?_ (by have hbs := hb.size; first | omega | (simp; done) | (simp; omega)) _ | refine Below.drew ?_ | refine below_drewN_ ?_ _ | refine Below.setCell ?_ (by simp) _))⟩
  | some p =>
    by_cases h8 : p.code = a.code
    · have h8' : (p.code != a.code) = false := by simpa using h8
      have HE : Hid (Ch.rrestV l a = false) := Lib.hid (by unfold Ch.rrestV; rw [hf]; simp [h8])
      clear h8
      rcases hg with ⟨rfl, h5, h6⟩ | ⟨rfl, h5⟩
      all_goals
        go_enter Tryz.func126, Tryz.ntmps126
        go_wp2_with (go_at_call 106; refine (rfind_is l a.parent p A cap _ (Rd.now HR.out (by repeat (first | exact hb | refine Below.alloc ?_ (by have hbs := hb.size; first | omega | (simp; done) | (simp; omega)) _ | refine Below.drew ?_ | refine below_drewN_ ?_ _ | refine Below.setCell ?_ (by simp) _))) hn hf).mono ?_; rintro e w2 ⟨rfl, hb2⟩; obtain ⟨hc2, -⟩ := bcell hb2; have hz2 := hb2.size; (try simp at hz2); (try have hy2 : w.heap.size < w2.heap.size := by omega); replace hb := bel' (w := w) hb2 (by repeat (first | exact hb | refine Below.alloc ?_ (by have hbs := hb.size; first | omega | (simp; done) | (simp; omega)) _ | refine Below.drew ?_ | refine below_drewN_ ?_ _ | refine Below.setCell ?_ (by simp) _)); clear hb2)
        go_ret
        exact ⟨by rw [HE.out]; rfl, (by repeat (first | exact hb | refine Below.alloc ?_ (by have hbs := hb.size; first | omega | (simp; done) | (simp; omega)) _ | refine Below.drew ?_ | refine below_drewN_ ?_ _ | refine Below.setCell ?_ (by simp) _))⟩
    · have h8' : (p.code != a.code) = true := by simpa using h8
      have HE : Hid (Ch.rrestV l a = (p.kind == a.kind)) := Lib.hid (by unfold Ch.rrestV; rw [hf]; simp [h8])
      clear h8
      rcases hg with ⟨rfl, h5, h6⟩ | ⟨rfl, h5⟩
      all_goals
        go_enter Tryz.func126, Tryz.ntmps126
        go_wp2_with (go_at_call 106; refine (rfind_is l a.parent p A cap _ (Rd.now HR.out (by repeat (first | exact hb | refine Below.alloc ?_ (by have hbs := hb.size; first | omega | (simp; done) | (simp; omega)) _ | refine Below.drew ?_ | refine below_drewN_ ?_ _ | refine Below.setCell ?_ (by simp) _))) hn hf).mono ?_; rintro e w2 ⟨rfl, hb2⟩; obtain ⟨hc2, -⟩ := bcell hb2; have hz2 := hb2.size; (try simp at hz2); (try have hy2 : w.heap.size < w2.heap.size := by omega); replace hb := bel' (w := w) hb2 (by repeat (first | exact hb | refine Below.alloc ?_ (by have hbs := hb.size; first | omega | (simp; done) | (simp; omega)) _ | refine Below.drew ?_ | refine below_drewN_ ?_ _ | refine Below.setCell ?_ (by simp) _)); clear hb2)
        go_ret
        exact ⟨by rw [HE.out]; rfl, (by repeat (first | exact hb | refine Below.alloc ?_ (by have hbs := hb.size; first | omega | (simp; done) | (simp; omega)) _ | refine Below.drew ?_ | refine below_drewN_ ?_ _ | refine Below.setCell ?_ (by simp) _))⟩

theorem rproper_any (hr : Rd w w.heap.size 4 A l.length (Ch.cells l)) (hn : l.length ≤ 300000) :
    Calls Tryz.prog 126 #[.slice A l.length cap, .agg #[.int .i64 a.code, .int .i64 a.kind, .int .i64 a.basis, .int .i64 a.parent], .bool g] w (BoolPost (Ch.rproperV l a g) w) := by
  unfold Ch.rproperV
  cases hF : Ch.fieldsV a g
  · exact rproper_no l a g A cap w hF
  · obtain ⟨h1, h2, h3, h4, hg⟩ := fields_of a g hF
    by_cases h0 : a.parent = 0
    · rw [show (true && (a.parent == 0 || Ch.rrestV l a)) = true from by simp [h0]]
      exact rproper_top l a g A cap w h1 h2 h3 h4 h0 hg
    · rw [show (true && (a.parent == 0 || Ch.rrestV l a)) = Ch.rrestV l a from by simp [h0]]
      exact rproper_rest l a g A cap w h1 h2 h3 h4 h0 hg hr hn
end
end Go.Proofs.YtnddoehhcpejjaaGreat
