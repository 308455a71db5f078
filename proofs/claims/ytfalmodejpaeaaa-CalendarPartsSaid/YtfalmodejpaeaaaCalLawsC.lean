/- The walk of the law CalendarParts. -/
import Derived.Test.YtfalmodejpaeaaaCalLawsB
namespace Go.Proofs.Ytfalmodejpaeaaa
open Go.RowKit

theorem rcal_First_ok (Y M P p : Int) (w : World) (h : Hid (Cal.ckE Y M P p = 0)) : Calls Try.prog 27 #[.agg #[.int .i64 Y, .int .i64 M, .int .i64 P], .int .i64 p] w fun e w' => e = .returned (.tuple #[.int .i64 (Cal.fd (Cal.tm Y M p)), .int .i64 0]) ∧ Below w.heap.size w w' := by
  have := rcal_First Y M P p w
  unfold Cal.fiV at this
  rwa [if_pos h.out, h.out] at this

/-- the calendar that begins k months later -/
theorem Cal.parts (Y M P k i : Int) (h : Cal.okP Y M P) (k0 : 0 ≤ k) (k1 : k < P) (i0 : 0 ≤ i) (i1 : i < P - k) :
    Cal.ckE (Cal.tm Y M k / 12) (Cal.tm Y M k % 12 + 1) (P - k) i = 0 ∧ Cal.tm (Cal.tm Y M k / 12) (Cal.tm Y M k % 12 + 1) i = Cal.tm Y M (i + k) ∧ Cal.ckE Y M P (i + k) = 0 ∧
      Cal.naV (Cal.tm Y M k / 12) (Cal.tm Y M k % 12 + 1) (P - k) i = Cal.naV Y M P (i + k) := by
  obtain ⟨t0, t1⟩ := Cal.tm_in Y M P k h k0 k1
  have e : Cal.tm (Cal.tm Y M k / 12) (Cal.tm Y M k % 12 + 1) i = Cal.tm Y M (i + k) := by unfold Cal.tm; omega
  have c1 : Cal.ckE (Cal.tm Y M k / 12) (Cal.tm Y M k % 12 + 1) (P - k) i = 0 := by
    rw [Cal.ck_zero]
    refine ⟨?_, i0, i1⟩
    unfold Cal.okP at h ⊢
    have : Cal.tm (Cal.tm Y M k / 12) (Cal.tm Y M k % 12 + 1) (P - k - 1) = Cal.tm Y M (P - 1) := by unfold Cal.tm; omega
    omega
  have c2 : Cal.ckE Y M P (i + k) = 0 := (Cal.ck_zero Y M P (i + k)).2 ⟨h, by omega, by omega⟩
  refine ⟨c1, e, c2, ?_⟩
  unfold Cal.naV
  rw [if_pos c1, if_pos c2, e]

theorem cal_Name_is (Y M P p : Int) (l : List UInt8) (w : World) (h : Hid (Cal.naV Y M P p = l)) :
    Calls Try.prog 18 #[.agg #[.int .i64 Y, .int .i64 M, .int .i64 P], .int .i64 p] w fun e w' => e = .returned (.string ⟨l.toArray⟩) ∧ Below w.heap.size w w' := by
  have := cal_Name Y M P p w
  rwa [h.out] at this

/-- two calendars of the caller's own, kept -/
def Two (B B2 : Nat) (a b c a2 b2 c2 : Value) (w w' : World) : Prop :=
  (w'.cell? ⟨B, 0, none⟩ = some a ∧ w'.cell? ⟨B, 1, none⟩ = some b ∧ w'.cell? ⟨B, 2, none⟩ = some c) ∧ (w'.cell? ⟨B2, 0, none⟩ = some a2 ∧ w'.cell? ⟨B2, 1, none⟩ = some b2 ∧ w'.cell? ⟨B2, 2, none⟩ = some c2) ∧
    B < w'.heap.size ∧ B2 < w'.heap.size ∧ Below w.heap.size w w'
theorem Two.cells {B B2 : Nat} {a b c a2 b2 c2 : Value} {w W : World} (h : Two B B2 a b c a2 b2 c2 w W) :
    W.cell? ⟨B, 0, none⟩ = some a ∧ W.cell? ⟨B, 1, none⟩ = some b ∧ W.cell? ⟨B, 2, none⟩ = some c ∧ W.cell? ⟨B2, 0, none⟩ = some a2 ∧ W.cell? ⟨B2, 1, none⟩ = some b2 ∧ W.cell? ⟨B2, 2, none⟩ = some c2 :=
  ⟨h.1.1, h.1.2.1, h.1.2.2, h.2.1.1, h.2.1.2.1, h.2.1.2.2⟩
theorem Two.drew {B B2 : Nat} {a b c a2 b2 c2 : Value} {w W : World} (h : Two B B2 a b c a2 b2 c2 w W) : Two B B2 a b c a2 b2 c2 w W.drew :=
  ⟨h.1, h.2.1, h.2.2.1, h.2.2.2.1, h.2.2.2.2.drew⟩
theorem Two.new {B : Nat} {a b c a2 b2 c2 : Value} {w W : World} {t : TypeId} (h0 : W.cell? ⟨B, 0, none⟩ = some a) (h1 : W.cell? ⟨B, 1, none⟩ = some b) (h2 : W.cell? ⟨B, 2, none⟩ = some c) (hB : B < W.heap.size) (hb : Below w.heap.size w W) :
    Two B W.heap.size a b c a2 b2 c2 w (W.alloc (.cells #[a2, b2, c2] t)) := by
  have k : ∀ o, (W.alloc (.cells #[a2, b2, c2] t)).cell? ⟨B, o, none⟩ = W.cell? ⟨B, o, none⟩ := fun o => World.cell?_alloc_lt W _ ⟨B, o, none⟩ hB
  have g : ∀ o, (W.alloc (.cells #[a2, b2, c2] t)).cell? ⟨W.heap.size, o, none⟩ = (#[a2, b2, c2] : Array Value)[o]? := fun o => cell_of_row _ _ o _ t (0, 0) (heap_alloc_new W _)
  exact ⟨⟨(k 0).trans h0, (k 1).trans h1, (k 2).trans h2⟩, ⟨g 0, g 1, g 2⟩, by simp; omega, by simp, hb.alloc hb.size _⟩
theorem Two.step {B B2 : Nat} {a b c a2 b2 c2 : Value} {w W w3 : World} (hb : Below W.heap.size W w3) (h : Two B B2 a b c a2 b2 c2 w W) : Two B B2 a b c a2 b2 c2 w w3 := by
  obtain ⟨⟨h0, h1, h2⟩, ⟨g0, g1, g2⟩, s1, s2, hB⟩ := h
  obtain ⟨k, -⟩ := bcell hb
  have := hb.size
  exact ⟨⟨(k _ _ s1).trans h0, (k _ _ s1).trans h1, (k _ _ s1).trans h2⟩, ⟨(k _ _ s2).trans g0, (k _ _ s2).trans g1, (k _ _ s2).trans g2⟩, by omega, by omega, bel hB hb⟩

set_option maxRecDepth 100000 in
set_option maxHeartbeats 2000000 in
theorem law_CalendarParts (Y M P q p : Int) (w : World) (hp0 : 0 ≤ p) (hp1 : p ≤ 255) (hq0 : 0 ≤ q) (hq1 : q ≤ 255) :
    Calls Try.prog 6 #[.agg #[.int .i64 Y, .int .i64 M, .int .i64 P], .int .u8 q, .int .u8 p] w fun e w' => e = .returned (.bool true) ∧ Below w.heap.size w w' := by
  have hb := Below.refl w.heap.size w
  cases h : Cal.ok Y M P
  · have H := Lib.hid h
    clear h
    go_enter Try.func6, Try.ntmps6
    go_wp2_with (first | (go_at_call 15; refine (cal_awake _).mono ?_; rintro e w2 ⟨rfl, hb2⟩; obtain ⟨hc2, -⟩ := bcell hb2; have hz2 := hb2.size; (try simp at hz2); (try have hy2 : w.heap.size < w2.heap.size := by omega); replace hb := bel' (w := w) hb2 (by repeat (first | exact hb | refine Below.alloc ?_ (by have hbs := hb.size; first | omega | (simp; done) | (simp; omega)) _ | refine Below.drew ?_ | refine below_drewN_ ?_ _ | refine Below.setCell ?_ (by simp) _)); clear hb2) | (go_at_call 17; refine (rcal_valid_is _ _ _ _ _ H).mono ?_; rintro e w2 ⟨rfl, hb2⟩; obtain ⟨hc2, -⟩ := bcell hb2; have hz2 := hb2.size; (try simp at hz2); (try have hy2 : w.heap.size < w2.heap.size := by omega); replace hb := bel' (w := w) hb2 (by repeat (first | exact hb | refine Below.alloc ?_ (by have hbs := hb.size; first | omega | (simp; done) | (simp; omega)) _ | refine Below.drew ?_ | refine below_drewN_ ?_ _ | refine Below.setCell ?_ (by simp) _)); clear hb2))
    go_ret
    exact ⟨rfl, hb⟩
  · have k := (Cal.ok_iff Y M P).1 h
    have H := Lib.hid h
    have P1 : 1 ≤ P := by unfold Cal.okP at k; omega
    have P2 : P ≤ 120 := by unfold Cal.okP at k; omega
    obtain ⟨k0, k1⟩ := mod_bd q P P1
    have hne : (P == 0) = false := by simp; omega
    obtain ⟨i0, i1⟩ := mod_bd p (P - q % P) (by omega)
    have hne2 : (P - q % P == 0) = false := by simp; omega
    have HP := Lib.hid (Cal.parts Y M P (q % P) (p % (P - q % P)) k k0 k1 i0 i1)
    have HZ := Lib.hid ((Cal.ck_zero Y M P (q % P)).2 ⟨k, k0, k1⟩)
    obtain ⟨t0, t1⟩ := Cal.tm_in Y M P (q % P) k k0 k1
    have C := Cal.civ_fd _ t0 t1
    have C1 := Lib.hid C.1
    have C2 := Lib.hid C.2.1
    have C3 := Lib.hid C.2.2.1
    clear h k C
    go_enter Try.func6, Try.ntmps6
    go_wp2_with ((go_at_call 15; refine (cal_awake _).mono ?_; rintro e w2 ⟨rfl, hb2⟩; obtain ⟨hc2, -⟩ := bcell hb2; have hz2 := hb2.size; (try simp at hz2); (try have hy2 : w.heap.size < w2.heap.size := by omega); replace hb := bel' (w := w) hb2 (by repeat (first | exact hb | refine Below.alloc ?_ (by have hbs := hb.size; first | omega | (simp; done) | (simp; omega)) _ | refine Below.drew ?_ | refine below_drewN_ ?_ _ | refine Below.setCell ?_ (by simp) _)); clear hb2))
    have hc1 := hc2
    have hy1 := hy2
    refine (rcal_valid_is _ _ _ _ _ H).mono ?_; rintro e w2 ⟨rfl, hb2⟩; obtain ⟨hc2, -⟩ := bcell hb2; have hz2 := hb2.size; (try simp at hz2); (try have hy2 : w.heap.size < w2.heap.size := by omega); replace hb := bel' (w := w) hb2 (by repeat (first | exact hb | refine Below.alloc ?_ (by have hbs := hb.size; first | omega | (simp; done) | (simp; omega)) _ | refine Below.drew ?_ | refine below_drewN_ ?_ _ | refine Below.setCell ?_ (by simp) _)); clear hb2
    have hc3 := hc2
    have hy3 := hy2
    go_wp2_with fail
    refine (rcal_First_ok _ _ _ _ _ HZ).mono ?_; rintro e w2 ⟨rfl, hb2⟩; obtain ⟨hc2, -⟩ := bcell hb2; have hz2 := hb2.size; (try simp at hz2); (try have hy2 : w.heap.size < w2.heap.size := by omega); replace hb := bel' (w := w) hb2 (by repeat (first | exact hb | refine Below.alloc ?_ (by have hbs := hb.size; first | omega | (simp; done) | (simp; omega)) _ | refine Below.drew ?_ | refine below_drewN_ ?_ _ | refine Below.setCell ?_ (by simp) _)); clear hb2
    have hcs : ∀ o, w2.cell? ⟨w.heap.size, o, none⟩ = (#[.int .i64 Y, .int .i64 M, .int .i64 P] : Array Value)[o]? := fun o => by
      rw [hc2 _ _ hy3, hc3 _ _ hy1, hc1 w.heap.size o (by simp)]
      exact cell_of_row _ _ o _ 23 (0, 0) (heap_alloc_new w _)
    have e0 : w2.cell? ⟨w.heap.size, 0, none⟩ = some (.int .i64 Y) := hcs 0
    have e1 : w2.cell? ⟨w.heap.size, 1, none⟩ = some (.int .i64 M) := hcs 1
    have e2 : w2.cell? ⟨w.heap.size, 2, none⟩ = some (.int .i64 P) := hcs 2
    clear hc1 hc2 hc3 hcs hy1 hy3
    go_wp2_with fail
    refine (rcivil_is _ _ C1).mono ?_
    rw [C2.out, C3.out]
    rintro e w4 ⟨rfl, rfl⟩
    go_wp2_with fail
    generalize hi : p % (P - q % P) = i at *
    generalize hk : q % P = k at *
    have HJ1 := Lib.hid HP.out.1
    have HJ2 := Lib.hid HP.out.2.1
    have HJ3 := Lib.hid HP.out.2.2.1
    have HJ4 := Lib.hid HP.out.2.2.2
    clear HP hi hk C1 C2 C3 HZ
    generalize Cal.tm Y M k / 12 = y2 at *
    generalize Cal.tm Y M k % 12 + 1 = m2 at *
    have hT := Two.new (a2 := .int .i64 y2) (b2 := .int .i64 m2) (c2 := .int .i64 (P - k)) (t := 23) e0 e1 e2 hy2 hb
    clear e0 e1 e2
    refine (cal_First_ok _ _ _ _ _ HJ1).mono ?_
    rw [HJ2.out]
    rintro e w5 ⟨rfl, hb2⟩; replace hT := hT.step hb2; clear hb2
    obtain ⟨q0, q1, q2, q3, q4, q5⟩ := hT.cells
    go_wp2_with fail
    refine (cal_First_ok _ _ _ _ _ HJ3).mono ?_
    rintro e w6 ⟨rfl, hb2⟩; replace hT := hT.step hb2; clear hb2 q0 q1 q2 q3 q4 q5
    obtain ⟨q0, q1, q2, q3, q4, q5⟩ := hT.cells
    go_wp2_with fail
    refine (cal_Last_ok _ _ _ _ _ HJ1).mono ?_
    rw [HJ2.out]
    rintro e w7 ⟨rfl, hb2⟩; replace hT := hT.step hb2; clear hb2 q0 q1 q2 q3 q4 q5
    obtain ⟨q0, q1, q2, q3, q4, q5⟩ := hT.cells
    go_wp2_with fail
    refine (cal_Last_ok _ _ _ _ _ HJ3).mono ?_
    rintro e w8 ⟨rfl, hb2⟩; replace hT := hT.step hb2; clear hb2 q0 q1 q2 q3 q4 q5
    obtain ⟨q0, q1, q2, q3, q4, q5⟩ := hT.cells
    have hTd := hT.drew
    have ew : IntKind.i64.wrap (i + k) = i + k := IntWalk.i64_in _ (by omega)
    go_wp2_with fail
    go_region_held3 (fun w' => w'.cell? ⟨w.heap.size, 0, none⟩ = some (.int .i64 Y) ∧ w'.cell? ⟨w.heap.size, 1, none⟩ = some (.int .i64 M) ∧ w'.cell? ⟨w.heap.size, 2, none⟩ = some (.int .i64 P) ∧ w'.cell? ⟨w2.heap.size, 0, none⟩ = some (.int .i64 y2) ∧ w'.cell? ⟨w2.heap.size, 1, none⟩ = some (.int .i64 m2) ∧ w'.cell? ⟨w2.heap.size, 2, none⟩ = some (.int .i64 (P - k)) ∧ Two w.heap.size w2.heap.size (.int .i64 Y) (.int .i64 M) (.int .i64 P) (.int .i64 y2) (.int .i64 m2) (.int .i64 (P - k)) w w')
      (first | exact ⟨q0, q1, q2, q3, q4, q5, hTd⟩ | exact ⟨hS.cells.1, hS.cells.2.1, hS.cells.2.2.1, hS.cells.2.2.2.1, hS.cells.2.2.2.2.1, hS.cells.2.2.2.2.2, hS⟩)
      ((go_at_call 18; (first | (with_reducible refine (cal_Name_is _ _ _ i _ _ HJ4).mono ?_) | (with_reducible refine (cal_Name _ _ _ (i + k) _).mono ?_)); rintro e w3 ⟨rfl, hb2⟩; have hS := Two.step hb2 (by assumption)))
    go_wp2_with fail
    go_ret
    exact ⟨rfl, hS.2.2.2.2⟩
end Go.Proofs.Ytfalmodejpaeaaa
