/- The walks of the laws on calendars. -/
import Derived.Test.YtfalmodejpaeaaaCalName
import Derived.Deep.RegionHeld3
import Derived.Deep.QuietTactic
import Derived.BigQuiet
namespace Go.Proofs.Ytfalmodejpaeaaa
open Go.RowKit

set_option maxHeartbeats 1000000 in
theorem law_CalendarYears (Y M P p : Int) (w : World) :
    Calls Try.prog 4 #[.agg #[.int .i64 Y, .int .i64 M, .int .i64 P], .int .i64 p] w fun e w' => e = .returned (.bool true) ∧ Below w.heap.size w w' := by
  have hb := Below.refl w.heap.size w
  go_enter Try.func4, Try.ntmps4
  go_wp2_with (first | (go_at_call 15; refine (cal_awake _).mono ?_; rintro e w2 ⟨rfl, hb2⟩; obtain ⟨hc2, -⟩ := bcell hb2; have hz2 := hb2.size; (try simp at hz2); (try have hy2 : w.heap.size < w2.heap.size := by omega); replace hb := bel' (w := w) hb2 (by repeat (first | exact hb | refine Below.alloc ?_ (by have hbs := hb.size; first | omega | (simp; done) | (simp; omega)) _ | refine Below.drew ?_ | refine below_drewN_ ?_ _ | refine Below.setCell ?_ (by simp) _)); clear hb2) | (go_at_call 20; refine (cal_Year _ _ _ _ _).mono ?_; rintro e w2 ⟨rfl, hb2⟩; obtain ⟨hc2, -⟩ := bcell hb2; have hz2 := hb2.size; (try simp at hz2); (try have hy2 : w.heap.size < w2.heap.size := by omega); replace hb := bel' (w := w) hb2 (by repeat (first | exact hb | refine Below.alloc ?_ (by have hbs := hb.size; first | omega | (simp; done) | (simp; omega)) _ | refine Below.drew ?_ | refine below_drewN_ ?_ _ | refine Below.setCell ?_ (by simp) _)); clear hb2) | (go_at_call 21; refine (rcal_Year _ _ _ _ _).mono ?_; rintro e w2 ⟨rfl, hb2⟩; obtain ⟨hc2, -⟩ := bcell hb2; have hz2 := hb2.size; (try simp at hz2); (try have hy2 : w.heap.size < w2.heap.size := by omega); replace hb := bel' (w := w) hb2 (by repeat (first | exact hb | refine Below.alloc ?_ (by have hbs := hb.size; first | omega | (simp; done) | (simp; omega)) _ | refine Below.drew ?_ | refine below_drewN_ ?_ _ | refine Below.setCell ?_ (by simp) _)); clear hb2) | (go_at_call 22; refine (cal_Begin _ _ _ _ _).mono ?_; rintro e w2 ⟨rfl, hb2⟩; obtain ⟨hc2, -⟩ := bcell hb2; have hz2 := hb2.size; (try simp at hz2); (try have hy2 : w.heap.size < w2.heap.size := by omega); replace hb := bel' (w := w) hb2 (by repeat (first | exact hb | refine Below.alloc ?_ (by have hbs := hb.size; first | omega | (simp; done) | (simp; omega)) _ | refine Below.drew ?_ | refine below_drewN_ ?_ _ | refine Below.setCell ?_ (by simp) _)); clear hb2) | (go_at_call 23; refine (rcal_Begin _ _ _ _ _).mono ?_; rintro e w2 ⟨rfl, hb2⟩; obtain ⟨hc2, -⟩ := bcell hb2; have hz2 := hb2.size; (try simp at hz2); (try have hy2 : w.heap.size < w2.heap.size := by omega); replace hb := bel' (w := w) hb2 (by repeat (first | exact hb | refine Below.alloc ?_ (by have hbs := hb.size; first | omega | (simp; done) | (simp; omega)) _ | refine Below.drew ?_ | refine below_drewN_ ?_ _ | refine Below.setCell ?_ (by simp) _)); clear hb2) | (go_at_call 24; refine (cal_Before _ _ _ _ _).mono ?_; rintro e w2 ⟨rfl, hb2⟩; obtain ⟨hc2, -⟩ := bcell hb2; have hz2 := hb2.size; (try simp at hz2); (try have hy2 : w.heap.size < w2.heap.size := by omega); replace hb := bel' (w := w) hb2 (by repeat (first | exact hb | refine Below.alloc ?_ (by have hbs := hb.size; first | omega | (simp; done) | (simp; omega)) _ | refine Below.drew ?_ | refine below_drewN_ ?_ _ | refine Below.setCell ?_ (by simp) _)); clear hb2) | (go_at_call 25; refine (rcal_Before _ _ _ _ _).mono ?_; rintro e w2 ⟨rfl, hb2⟩; obtain ⟨hc2, -⟩ := bcell hb2; have hz2 := hb2.size; (try simp at hz2); (try have hy2 : w.heap.size < w2.heap.size := by omega); replace hb := bel' (w := w) hb2 (by repeat (first | exact hb | refine Below.alloc ?_ (by have hbs := hb.size; first | omega | (simp; done) | (simp; omega)) _ | refine Below.drew ?_ | refine below_drewN_ ?_ _ | refine Below.setCell ?_ (by simp) _)); clear hb2))
  go_ret
  exact ⟨rfl, hb⟩

set_option maxHeartbeats 1000000 in
theorem law_CalendarDays (Y M P p : Int) (w : World) :
    Calls Try.prog 5 #[.agg #[.int .i64 Y, .int .i64 M, .int .i64 P], .int .i64 p] w fun e w' => e = .returned (.bool true) ∧ Below w.heap.size w w' := by
  have hb := Below.refl w.heap.size w
  go_enter Try.func5, Try.ntmps5
  go_wp2_with (first | (go_at_call 15; refine (cal_awake _).mono ?_; rintro e w2 ⟨rfl, hb2⟩; obtain ⟨hc2, -⟩ := bcell hb2; have hz2 := hb2.size; (try simp at hz2); (try have hy2 : w.heap.size < w2.heap.size := by omega); replace hb := bel' (w := w) hb2 (by repeat (first | exact hb | refine Below.alloc ?_ (by have hbs := hb.size; first | omega | (simp; done) | (simp; omega)) _ | refine Below.drew ?_ | refine below_drewN_ ?_ _ | refine Below.setCell ?_ (by simp) _)); clear hb2) | (go_at_call 26; refine (cal_First _ _ _ _ _).mono ?_; rintro e w2 ⟨rfl, hb2⟩; obtain ⟨hc2, -⟩ := bcell hb2; have hz2 := hb2.size; (try simp at hz2); (try have hy2 : w.heap.size < w2.heap.size := by omega); replace hb := bel' (w := w) hb2 (by repeat (first | exact hb | refine Below.alloc ?_ (by have hbs := hb.size; first | omega | (simp; done) | (simp; omega)) _ | refine Below.drew ?_ | refine below_drewN_ ?_ _ | refine Below.setCell ?_ (by simp) _)); clear hb2) | (go_at_call 27; refine (rcal_First _ _ _ _ _).mono ?_; rintro e w2 ⟨rfl, hb2⟩; obtain ⟨hc2, -⟩ := bcell hb2; have hz2 := hb2.size; (try simp at hz2); (try have hy2 : w.heap.size < w2.heap.size := by omega); replace hb := bel' (w := w) hb2 (by repeat (first | exact hb | refine Below.alloc ?_ (by have hbs := hb.size; first | omega | (simp; done) | (simp; omega)) _ | refine Below.drew ?_ | refine below_drewN_ ?_ _ | refine Below.setCell ?_ (by simp) _)); clear hb2) | (go_at_call 28; refine (cal_Last _ _ _ _ _).mono ?_; rintro e w2 ⟨rfl, hb2⟩; obtain ⟨hc2, -⟩ := bcell hb2; have hz2 := hb2.size; (try simp at hz2); (try have hy2 : w.heap.size < w2.heap.size := by omega); replace hb := bel' (w := w) hb2 (by repeat (first | exact hb | refine Below.alloc ?_ (by have hbs := hb.size; first | omega | (simp; done) | (simp; omega)) _ | refine Below.drew ?_ | refine below_drewN_ ?_ _ | refine Below.setCell ?_ (by simp) _)); clear hb2) | (go_at_call 29; refine (rcal_Last _ _ _ _ _).mono ?_; rintro e w2 ⟨rfl, hb2⟩; obtain ⟨hc2, -⟩ := bcell hb2; have hz2 := hb2.size; (try simp at hz2); (try have hy2 : w.heap.size < w2.heap.size := by omega); replace hb := bel' (w := w) hb2 (by repeat (first | exact hb | refine Below.alloc ?_ (by have hbs := hb.size; first | omega | (simp; done) | (simp; omega)) _ | refine Below.drew ?_ | refine below_drewN_ ?_ _ | refine Below.setCell ?_ (by simp) _)); clear hb2))
  go_ret
  exact ⟨rfl, hb⟩

set_option maxHeartbeats 1000000 in
theorem law_CalendarPeriod (Y M P p : Int) (w : World) :
    Calls Try.prog 7 #[.agg #[.int .i64 Y, .int .i64 M, .int .i64 P], .int .i64 p] w fun e w' => e = .returned (.bool true) ∧ Below w.heap.size w w' := by
  have hb := Below.refl w.heap.size w
  go_enter Try.func7, Try.ntmps7
  go_wp2_with (first | (go_at_call 15; refine (cal_awake _).mono ?_; rintro e w2 ⟨rfl, hb2⟩; obtain ⟨hc2, -⟩ := bcell hb2; have hz2 := hb2.size; (try simp at hz2); (try have hy2 : w.heap.size < w2.heap.size := by omega); replace hb := bel' (w := w) hb2 (by repeat (first | exact hb | refine Below.alloc ?_ (by have hbs := hb.size; first | omega | (simp; done) | (simp; omega)) _ | refine Below.drew ?_ | refine below_drewN_ ?_ _ | refine Below.setCell ?_ (by simp) _)); clear hb2) | (go_at_call 31; refine (cal_Period _ _ _ _ _).mono ?_; rintro e w2 ⟨rfl, hb2⟩; obtain ⟨hc2, -⟩ := bcell hb2; have hz2 := hb2.size; (try simp at hz2); (try have hy2 : w.heap.size < w2.heap.size := by omega); replace hb := bel' (w := w) hb2 (by repeat (first | exact hb | refine Below.alloc ?_ (by have hbs := hb.size; first | omega | (simp; done) | (simp; omega)) _ | refine Below.drew ?_ | refine below_drewN_ ?_ _ | refine Below.setCell ?_ (by simp) _)); clear hb2) | (go_at_call 32; refine (rcal_Period _ _ _ _ _).mono ?_; rintro e w2 ⟨rfl, hb2⟩; obtain ⟨hc2, -⟩ := bcell hb2; have hz2 := hb2.size; (try simp at hz2); (try have hy2 : w.heap.size < w2.heap.size := by omega); replace hb := bel' (w := w) hb2 (by repeat (first | exact hb | refine Below.alloc ?_ (by have hbs := hb.size; first | omega | (simp; done) | (simp; omega)) _ | refine Below.drew ?_ | refine below_drewN_ ?_ _ | refine Below.setCell ?_ (by simp) _)); clear hb2))
  go_ret
  exact ⟨rfl, hb⟩

def Rest (w w' : World) : Prop := w.heap.size < w'.heap.size ∧ Below w.heap.size w w'
theorem calS_step {w W w3 : World} {a b c : Value} (hb : Below W.heap.size W w3)
    (h : W.cell? ⟨w.heap.size, 0, none⟩ = some a ∧ W.cell? ⟨w.heap.size, 1, none⟩ = some b ∧ W.cell? ⟨w.heap.size, 2, none⟩ = some c ∧ Rest w W) :
    w3.cell? ⟨w.heap.size, 0, none⟩ = some a ∧ w3.cell? ⟨w.heap.size, 1, none⟩ = some b ∧ w3.cell? ⟨w.heap.size, 2, none⟩ = some c ∧ Rest w w3 := by
  obtain ⟨h0, h1, h2, h3, h4⟩ := h
  obtain ⟨k, -⟩ := bcell hb
  have := hb.size
  exact ⟨(k _ _ h3).trans h0, (k _ _ h3).trans h1, (k _ _ h3).trans h2, by omega, bel h4 hb⟩

set_option maxHeartbeats 1000000 in
theorem law_CalendarValid (Y M P p : Int) (w : World) :
    Calls Try.prog 3 #[.agg #[.int .i64 Y, .int .i64 M, .int .i64 P], .int .i64 p] w fun e w' => e = .returned (.bool true) ∧ Below w.heap.size w w' := by
  have hb := Below.refl w.heap.size w
  go_enter Try.func3, Try.ntmps3
  go_wp2_with ((go_at_call 15; refine (cal_awake _).mono ?_; rintro e w2 ⟨rfl, hb2⟩; obtain ⟨hc2, -⟩ := bcell hb2; have hz2 := hb2.size; (try simp at hz2); (try have hy2 : w.heap.size < w2.heap.size := by omega); replace hb := bel' (w := w) hb2 (by repeat (first | exact hb | refine Below.alloc ?_ (by have hbs := hb.size; first | omega | (simp; done) | (simp; omega)) _ | refine Below.drew ?_ | refine below_drewN_ ?_ _ | refine Below.setCell ?_ (by simp) _)); clear hb2))
  have d0 : w2.cell? ⟨w.heap.size, 0, none⟩ = some (.int .i64 Y) := by rw [hc2 w.heap.size 0 (by simp)]; exact cell_of_row _ _ 0 _ 23 (0, 0) (heap_alloc_new w _)
  have d1 : w2.cell? ⟨w.heap.size, 1, none⟩ = some (.int .i64 M) := by rw [hc2 w.heap.size 1 (by simp)]; exact cell_of_row _ _ 1 _ 23 (0, 0) (heap_alloc_new w _)
  have d2 : w2.cell? ⟨w.heap.size, 2, none⟩ = some (.int .i64 P) := by rw [hc2 w.heap.size 2 (by simp)]; exact cell_of_row _ _ 2 _ 23 (0, 0) (heap_alloc_new w _)
  clear hc2
  have dR : Rest w w2.drew := ⟨hy2, hb.drew⟩
  go_region_held3 (fun w' => w'.cell? ⟨w.heap.size, 0, none⟩ = some (.int .i64 Y) ∧ w'.cell? ⟨w.heap.size, 1, none⟩ = some (.int .i64 M) ∧ w'.cell? ⟨w.heap.size, 2, none⟩ = some (.int .i64 P) ∧ Rest w w')
    (first | exact ⟨d0, d1, d2, dR⟩ | exact hS)
    ((first
      | (go_at_call 16; refine (cal_valid _ _ _ _).mono ?_; rintro e w3 ⟨rfl, hb2⟩; have hS := calS_step hb2 (by assumption))
      | (go_at_call 17; refine (rcal_valid _ _ _ _).mono ?_; rintro e w3 ⟨rfl, hb2⟩; have hS := calS_step hb2 (by assumption))
      | (go_at_call 18; refine (cal_Name _ _ _ _ _).mono ?_; rintro e w3 ⟨rfl, hb2⟩; have hS := calS_step hb2 (by assumption))
      | (go_at_call 19; refine (rcal_Name _ _ _ _ _).mono ?_; rintro e w3 ⟨rfl, hb2⟩; have hS := calS_step hb2 (by assumption))))
  go_wp2_with fail
  go_ret
  exact ⟨rfl, hS.2.2.2.2⟩

/-- the number of a period out of a byte -/
theorem mod_bd (p P : Int) (h1 : 1 ≤ P) : 0 ≤ p % P ∧ p % P < P := ⟨Int.emod_nonneg _ (by omega), Int.emod_lt_of_pos _ (by omega)⟩

section
variable (Y M P p : Int) (w : World) (h : Hid (Cal.ckE Y M P p = 0))
include h
theorem cal_Year_ok : Calls Try.prog 20 #[.agg #[.int .i64 Y, .int .i64 M, .int .i64 P], .int .i64 p] w fun e w' => e = .returned (.tuple #[.int .i64 (p / 12), .int .i64 0]) ∧ Below w.heap.size w w' := by
  have := cal_Year Y M P p w
  unfold Cal.yrV at this
  rwa [if_pos h.out, h.out] at this
theorem cal_Begin_ok : Calls Try.prog 22 #[.agg #[.int .i64 Y, .int .i64 M, .int .i64 P], .int .i64 p] w fun e w' => e = .returned (.tuple #[.int .i64 (Cal.fd (Cal.tm Y M (p - p % 12))), .int .i64 0]) ∧ Below w.heap.size w w' := by
  have := cal_Begin Y M P p w
  unfold Cal.beV at this
  rwa [if_pos h.out, h.out] at this
theorem cal_First_ok : Calls Try.prog 26 #[.agg #[.int .i64 Y, .int .i64 M, .int .i64 P], .int .i64 p] w fun e w' => e = .returned (.tuple #[.int .i64 (Cal.fd (Cal.tm Y M p)), .int .i64 0]) ∧ Below w.heap.size w w' := by
  have := cal_First Y M P p w
  unfold Cal.fiV at this
  rwa [if_pos h.out, h.out] at this
theorem cal_Last_ok : Calls Try.prog 28 #[.agg #[.int .i64 Y, .int .i64 M, .int .i64 P], .int .i64 p] w fun e w' => e = .returned (.tuple #[.int .i64 (Cal.ld (Cal.tm Y M p)), .int .i64 0]) ∧ Below w.heap.size w w' := by
  have := cal_Last Y M P p w
  unfold Cal.laV at this
  rwa [if_pos h.out, h.out] at this
theorem cal_Before_none (h12 : p < 12) : Calls Try.prog 24 #[.agg #[.int .i64 Y, .int .i64 M, .int .i64 P], .int .i64 p] w fun e w' => e = .returned (.tuple #[.int .i64 0, .int .i64 8]) ∧ Below w.heap.size w w' := by
  have := cal_Before Y M P p w
  unfold Cal.bfV Cal.bfE at this
  rwa [if_pos h.out, if_pos h.out, if_pos h12, if_pos h12] at this
theorem cal_Before_ok (h12 : ¬ p < 12) : Calls Try.prog 24 #[.agg #[.int .i64 Y, .int .i64 M, .int .i64 P], .int .i64 p] w fun e w' => e = .returned (.tuple #[.int .i64 (p - p % 12 - 1), .int .i64 0]) ∧ Below w.heap.size w w' := by
  have := cal_Before Y M P p w
  unfold Cal.bfV Cal.bfE at this
  rwa [if_pos h.out, if_pos h.out, if_neg h12, if_neg h12] at this
end

/-- the plain law: what the walk of CalendarBegins compares -/
theorem Cal.begins (Y M P i k : Int) (h : Cal.okP Y M P) (i0 : 0 ≤ i) (i1 : i < P) (k0 : 0 ≤ k) (k1 : k < P) :
    ((i / 12 == k / 12) = (Cal.fd (Cal.tm Y M (i - i % 12)) == Cal.fd (Cal.tm Y M (k - k % 12)))) ∧ Cal.fd (Cal.tm Y M (i - i % 12)) ≤ Cal.fd (Cal.tm Y M i) ∧
      (12 ≤ i → Cal.ld (Cal.tm Y M (i - i % 12 - 1)) = Cal.fd (Cal.tm Y M (i - i % 12)) - 1) := by
  obtain ⟨a0, a1⟩ := Cal.tm_in Y M P i h i0 i1
  obtain ⟨b0, b1⟩ := Cal.tm_in Y M P (i - i % 12) h (by omega) (by omega)
  obtain ⟨c0, c1⟩ := Cal.tm_in Y M P (k - k % 12) h (by omega) (by omega)
  refine ⟨?_, Cal.fd_le _ _ b0 (by unfold Cal.tm; omega) a1, ?_⟩
  · rw [Bool.eq_iff_iff]
    simp only [beq_iff_eq]
    constructor
    · intro e; rw [show i - i % 12 = k - k % 12 from by omega]
    · intro e
      have := Cal.fd_inj _ _ b0 b1 c0 c1 e
      unfold Cal.tm at this
      omega
  · intro h12
    obtain ⟨d0, d1⟩ := Cal.tm_in Y M P (i - i % 12 - 1) h (by omega) (by omega)
    have := Cal.fd_next (Cal.tm Y M (i - i % 12 - 1)) d0 (by unfold Cal.tm at b1 ⊢; omega)
    rw [show Cal.tm Y M (i - i % 12 - 1) + 1 = Cal.tm Y M (i - i % 12) from by unfold Cal.tm; omega] at this
    omega

set_option maxRecDepth 100000 in
set_option maxHeartbeats 4000000 in
theorem law_CalendarBegins (Y M P p q : Int) (w : World) (hp0 : 0 ≤ p) (hp1 : p ≤ 255) (hq0 : 0 ≤ q) (hq1 : q ≤ 255) :
    Calls Try.prog 8 #[.agg #[.int .i64 Y, .int .i64 M, .int .i64 P], .int .u8 p, .int .u8 q] w fun e w' => e = .returned (.bool true) ∧ Below w.heap.size w w' := by
  have hb := Below.refl w.heap.size w
  cases h : Cal.ok Y M P
  · have H := Lib.hid h
    clear h
    go_enter Try.func8, Try.ntmps8
    go_wp2_with (first | (go_at_call 15; refine (cal_awake _).mono ?_; rintro e w2 ⟨rfl, hb2⟩; obtain ⟨hc2, -⟩ := bcell hb2; have hz2 := hb2.size; (try simp at hz2); (try have hy2 : w.heap.size < w2.heap.size := by omega); replace hb := bel' (w := w) hb2 (by repeat (first | exact hb | refine Below.alloc ?_ (by have hbs := hb.size; first | omega | (simp; done) | (simp; omega)) _ | refine Below.drew ?_ | refine below_drewN_ ?_ _ | refine Below.setCell ?_ (by simp) _)); clear hb2) | (go_at_call 17; refine (rcal_valid_is _ _ _ _ _ H).mono ?_; rintro e w2 ⟨rfl, hb2⟩; obtain ⟨hc2, -⟩ := bcell hb2; have hz2 := hb2.size; (try simp at hz2); (try have hy2 : w.heap.size < w2.heap.size := by omega); replace hb := bel' (w := w) hb2 (by repeat (first | exact hb | refine Below.alloc ?_ (by have hbs := hb.size; first | omega | (simp; done) | (simp; omega)) _ | refine Below.drew ?_ | refine below_drewN_ ?_ _ | refine Below.setCell ?_ (by simp) _)); clear hb2))
    go_ret
    exact ⟨rfl, hb⟩
  · have k := (Cal.ok_iff Y M P).1 h
    have H := Lib.hid h
    have P1 : 1 ≤ P := by unfold Cal.okP at k; omega
    have P2 : P ≤ 120 := by unfold Cal.okP at k; omega
    obtain ⟨i0, i1⟩ := mod_bd p P P1
    obtain ⟨k0, k1⟩ := mod_bd q P P1
    have e1 : p.tmod P = p % P := Int.tmod_eq_emod_of_nonneg hp0
    have e2 : q.tmod P = q % P := Int.tmod_eq_emod_of_nonneg hq0
    have c1 : IntKind.i64.wrap p = p := IntWalk.i64_in _ (by omega)
    have c2 : IntKind.i64.wrap q = q := IntWalk.i64_in _ (by omega)
    have hP : (P == 0) = false := by simp; omega
    have HI := Lib.hid ((Cal.ck_zero Y M P (p % P)).2 ⟨k, i0, i1⟩)
    have HQ := Lib.hid ((Cal.ck_zero Y M P (q % P)).2 ⟨k, k0, k1⟩)
    have HB := Lib.hid (Cal.begins Y M P (p % P) (q % P) k i0 i1 k0 k1)
    have K := Lib.hid k
    clear h k
    go_enter Try.func8, Try.ntmps8
    go_wp2_with ((go_at_call 15; refine (cal_awake _).mono ?_; rintro e w2 ⟨rfl, hb2⟩; obtain ⟨hc2, -⟩ := bcell hb2; have hz2 := hb2.size; (try simp at hz2); (try have hy2 : w.heap.size < w2.heap.size := by omega); replace hb := bel' (w := w) hb2 (by repeat (first | exact hb | refine Below.alloc ?_ (by have hbs := hb.size; first | omega | (simp; done) | (simp; omega)) _ | refine Below.drew ?_ | refine below_drewN_ ?_ _ | refine Below.setCell ?_ (by simp) _)); clear hb2))
    have hc1 := hc2
    have hy1 := hy2
    refine (rcal_valid_is _ _ _ _ _ H).mono ?_; rintro e w2 ⟨rfl, hb2⟩; obtain ⟨hc2, -⟩ := bcell hb2; have hz2 := hb2.size; (try simp at hz2); (try have hy2 : w.heap.size < w2.heap.size := by omega); replace hb := bel' (w := w) hb2 (by repeat (first | exact hb | refine Below.alloc ?_ (by have hbs := hb.size; first | omega | (simp; done) | (simp; omega)) _ | refine Below.drew ?_ | refine below_drewN_ ?_ _ | refine Below.setCell ?_ (by simp) _)); clear hb2
    have d0 : w2.cell? ⟨w.heap.size, 0, none⟩ = some (.int .i64 Y) := by rw [hc2 _ _ hy1, hc1 w.heap.size 0 (by simp)]; exact cell_of_row _ _ 0 _ 23 (0, 0) (heap_alloc_new w _)
    have d1 : w2.cell? ⟨w.heap.size, 1, none⟩ = some (.int .i64 M) := by rw [hc2 _ _ hy1, hc1 w.heap.size 1 (by simp)]; exact cell_of_row _ _ 1 _ 23 (0, 0) (heap_alloc_new w _)
    have d2 : w2.cell? ⟨w.heap.size, 2, none⟩ = some (.int .i64 P) := by rw [hc2 _ _ hy1, hc1 w.heap.size 2 (by simp)]; exact cell_of_row _ _ 2 _ 23 (0, 0) (heap_alloc_new w _)
    clear hc1 hc2 hy1
    go_wp2_with fail
    go_quiet (fail)
    replace hb : Below w.heap.size w (w2.drewN nq) := below_drewN_ hb nq
    replace d0 : (w2.drewN nq).cell? ⟨w.heap.size, 0, none⟩ = some (.int .i64 Y) := d0
    replace d1 : (w2.drewN nq).cell? ⟨w.heap.size, 1, none⟩ = some (.int .i64 M) := d1
    replace d2 : (w2.drewN nq).cell? ⟨w.heap.size, 2, none⟩ = some (.int .i64 P) := d2
    replace hy2 : w.heap.size < (w2.drewN nq).heap.size := hy2
    clear hz2
    generalize w2.drewN nq = w5 at *
    clear e1 e2 c1 c2 hP
    generalize p % P = i at *
    generalize q % P = k at *
    obtain ⟨B1, B2, B3⟩ := HB.out
    clear HB
    go_wp2_with fail
    refine (cal_Year_ok _ _ _ _ _ HI).mono ?_; rintro e w2 ⟨rfl, hb2⟩; obtain ⟨hc2, -⟩ := bcell hb2; have hz2 := hb2.size; (try simp at hz2); (try have hy2 : w.heap.size < w2.heap.size := by omega); replace hb := bel' (w := w) hb2 (by repeat (first | exact hb | refine Below.alloc ?_ (by have hbs := hb.size; first | omega | (simp; done) | (simp; omega)) _ | refine Below.drew ?_ | refine below_drewN_ ?_ _ | refine Below.setCell ?_ (by simp) _)); clear hb2
    go_wp2_with fail
    refine (cal_Year_ok _ _ _ _ _ HQ).mono ?_; rintro e w2 ⟨rfl, hb2⟩; obtain ⟨hc2, -⟩ := bcell hb2; have hz2 := hb2.size; (try simp at hz2); (try have hy2 : w.heap.size < w2.heap.size := by omega); replace hb := bel' (w := w) hb2 (by repeat (first | exact hb | refine Below.alloc ?_ (by have hbs := hb.size; first | omega | (simp; done) | (simp; omega)) _ | refine Below.drew ?_ | refine below_drewN_ ?_ _ | refine Below.setCell ?_ (by simp) _)); clear hb2
    go_wp2_with fail
    refine (cal_Begin_ok _ _ _ _ _ HI).mono ?_; rintro e w2 ⟨rfl, hb2⟩; obtain ⟨hc2, -⟩ := bcell hb2; have hz2 := hb2.size; (try simp at hz2); (try have hy2 : w.heap.size < w2.heap.size := by omega); replace hb := bel' (w := w) hb2 (by repeat (first | exact hb | refine Below.alloc ?_ (by have hbs := hb.size; first | omega | (simp; done) | (simp; omega)) _ | refine Below.drew ?_ | refine below_drewN_ ?_ _ | refine Below.setCell ?_ (by simp) _)); clear hb2
    go_wp2_with fail
    refine (cal_Begin_ok _ _ _ _ _ HQ).mono ?_; rintro e w2 ⟨rfl, hb2⟩; obtain ⟨hc2, -⟩ := bcell hb2; have hz2 := hb2.size; (try simp at hz2); (try have hy2 : w.heap.size < w2.heap.size := by omega); replace hb := bel' (w := w) hb2 (by repeat (first | exact hb | refine Below.alloc ?_ (by have hbs := hb.size; first | omega | (simp; done) | (simp; omega)) _ | refine Below.drew ?_ | refine below_drewN_ ?_ _ | refine Below.setCell ?_ (by simp) _)); clear hb2
    go_wp2_with fail
    refine (cal_First_ok _ _ _ _ _ HI).mono ?_; rintro e w2 ⟨rfl, hb2⟩; obtain ⟨hc2, -⟩ := bcell hb2; have hz2 := hb2.size; (try simp at hz2); (try have hy2 : w.heap.size < w2.heap.size := by omega); replace hb := bel' (w := w) hb2 (by repeat (first | exact hb | refine Below.alloc ?_ (by have hbs := hb.size; first | omega | (simp; done) | (simp; omega)) _ | refine Below.drew ?_ | refine below_drewN_ ?_ _ | refine Below.setCell ?_ (by simp) _)); clear hb2
    by_cases h12 : i < 12
    · clear B3
      have hz0 : (i / 12 == 0) = true := by simp; omega
      cases hc : (i / 12 == k / 12)
      all_goals
        rw [hc] at B1
        have hc' := B1.symm
        clear B1
        go_wp2_with fail
        refine (cal_Before_none _ _ _ _ _ HI h12).mono ?_; rintro e w2 ⟨rfl, hb2⟩; obtain ⟨hc2, -⟩ := bcell hb2; have hz2 := hb2.size; (try simp at hz2); (try have hy2 : w.heap.size < w2.heap.size := by omega); replace hb := bel' (w := w) hb2 (by repeat (first | exact hb | refine Below.alloc ?_ (by have hbs := hb.size; first | omega | (simp; done) | (simp; omega)) _ | refine Below.drew ?_ | refine below_drewN_ ?_ _ | refine Below.setCell ?_ (by simp) _)); clear hb2
        go_wp2_with fail
        go_ret
        exact ⟨rfl, hb⟩
    · have B4 := Lib.hid (B3 (by omega))
      have fb := Cal.tm_in Y M P (i - i % 12) K.out (by omega) (by omega)
      have fb2 := Cal.fd_bd _ fb.1 fb.2
      have hz1 : 1 ≤ i / 12 := by omega
      clear fb
      have HJ := Lib.hid ((Cal.ck_zero Y M P (i - i % 12 - 1)).2 ⟨K.out, by omega, by omega⟩)
      clear B3
      cases hc : (i / 12 == k / 12)
      all_goals
        rw [hc] at B1
        have hc' := B1.symm
        clear B1
        go_wp2_with fail
        clear hc hc' B2
        refine (cal_Before_ok _ _ _ _ _ HI (by omega)).mono ?_; rintro e w2 ⟨rfl, hb2⟩; obtain ⟨hc2, -⟩ := bcell hb2; have hz2 := hb2.size; (try simp at hz2); (try have hy2 : w.heap.size < w2.heap.size := by omega); replace hb := bel' (w := w) hb2 (by repeat (first | exact hb | refine Below.alloc ?_ (by have hbs := hb.size; first | omega | (simp; done) | (simp; omega)) _ | refine Below.drew ?_ | refine below_drewN_ ?_ _ | refine Below.setCell ?_ (by simp) _)); clear hb2
        go_wp2_with fail
        refine (cal_Last_ok _ _ _ _ _ HJ).mono ?_
        rw [B4.out]
        rintro e w2 ⟨rfl, hb2⟩
        replace hb := bel' (w := w) hb2 (by repeat (first | exact hb | refine Below.alloc ?_ (by have hbs := hb.size; first | omega | (simp; done) | (simp; omega)) _ | refine Below.drew ?_ | refine below_drewN_ ?_ _ | refine Below.setCell ?_ (by simp) _))
        clear hb2
        go_wp2_with fail
        go_ret
        exact ⟨ret_bool (by simp; omega), hb⟩
end Go.Proofs.Ytfalmodejpaeaaa
