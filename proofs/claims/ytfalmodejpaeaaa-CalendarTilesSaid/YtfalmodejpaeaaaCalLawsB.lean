/- The walks of the laws CalendarTiles and CalendarParts. -/
import Derived.Test.YtfalmodejpaeaaaCalLaws
namespace Go.Proofs.Ytfalmodejpaeaaa
open Go.RowKit

/-- what CalendarTiles has found behind p periods, and the last day that it has seen -/
def Cal.tF (Y M d p : Int) : Int := if Dt.isD d = true ∧ 0 ≤ Cal.pq Y M d ∧ Cal.pq Y M d < p then Cal.pq Y M d else -1
def Cal.tL (Y M p : Int) : Int := if p = 0 then 0 else Cal.ld (Cal.tm Y M (p - 1))
theorem Cal.tF_step (Y M P d p : Int) (h : Cal.okP Y M P) (h0 : 0 ≤ p) (h1 : p < P) :
    ((Cal.fd (Cal.tm Y M p) ≤ d ∧ d ≤ Cal.ld (Cal.tm Y M p)) → Cal.tF Y M d (p + 1) = p) ∧ (¬ (Cal.fd (Cal.tm Y M p) ≤ d ∧ d ≤ Cal.ld (Cal.tm Y M p)) → Cal.tF Y M d (p + 1) = Cal.tF Y M d p) := by
  have k := Cal.in_period Y M P d p h h0 h1
  constructor
  · intro hi
    obtain ⟨a, b⟩ := k.1 hi
    unfold Cal.tF
    rw [b, if_pos ⟨a, h0, by omega⟩]
  · intro hi
    have hn : ¬ (Dt.isD d = true ∧ Cal.pq Y M d = p) := fun x => hi (k.2 x)
    unfold Cal.tF
    by_cases hc : Dt.isD d = true ∧ 0 ≤ Cal.pq Y M d ∧ Cal.pq Y M d < p
    · rw [if_pos ⟨hc.1, hc.2.1, by omega⟩, if_pos hc]
    · rw [if_neg (fun x => hc ⟨x.1, x.2.1, by
        have : Cal.pq Y M d ≠ p := fun e => hn ⟨x.1, e⟩
        omega⟩), if_neg hc]
theorem Cal.tL_step (Y M P p : Int) (h : Cal.okP Y M P) (h0 : 0 < p) (h1 : p < P) : Cal.fd (Cal.tm Y M p) = Cal.tL Y M p + 1 := by
  obtain ⟨t0, t1⟩ := Cal.tm_in Y M P (p - 1) h (by omega) (by omega)
  obtain ⟨s0, s1⟩ := Cal.tm_in Y M P p h (by omega) (by omega)
  unfold Cal.tL
  rw [if_neg (by omega)]
  have := Cal.fd_next (Cal.tm Y M (p - 1)) t0 (by unfold Cal.tm at s1 ⊢; omega)
  rw [show Cal.tm Y M (p - 1) + 1 = Cal.tm Y M p from by unfold Cal.tm; omega] at this
  exact this
theorem Cal.tL_next (Y M p : Int) (h0 : 0 ≤ p) : Cal.tL Y M (p + 1) = Cal.ld (Cal.tm Y M p) := by
  unfold Cal.tL
  rw [if_neg (by omega), show p + 1 - 1 = p from by omega]
theorem Cal.tL_bd (Y M P p : Int) (h : Cal.okP Y M P) (h0 : 0 ≤ p) (h1 : p ≤ P) : -30000 ≤ Cal.tL Y M p ∧ Cal.tL Y M p ≤ 90000 := by
  unfold Cal.tL
  split
  · omega
  · obtain ⟨t0, t1⟩ := Cal.tm_in Y M P (p - 1) h (by omega) (by omega)
    have := Cal.fd_bd _ t0 t1
    have := Cal.fd_ld _ t0 t1
    have := Dt.days_bd (Cal.tm Y M (p - 1) / 12) (Cal.tm Y M (p - 1) % 12 + 1)
    unfold Cal.ld at *
    omega
theorem Cal.tF_end (Y M P d : Int) (h : Cal.ok Y M P = true) :
    (Cal.tF Y M d P = -1 ∧ Cal.peV Y M P d = 0 ∧ Cal.peE Y M P d = 2) ∨ (0 ≤ Cal.tF Y M d P ∧ Cal.peV Y M P d = Cal.tF Y M d P ∧ Cal.peE Y M P d = 0) := by
  unfold Cal.tF Cal.peV Cal.peE
  rw [h]
  by_cases hc : Dt.isD d = true ∧ 0 ≤ Cal.pq Y M d ∧ Cal.pq Y M d < P
  · have hB : Cal.peB Y M P d = true := by unfold Cal.peB; simp [hc]
    rw [hB, if_pos hc]
    exact Or.inr ⟨hc.2.1, rfl, rfl⟩
  · have hB : Cal.peB Y M P d = false := by
      rw [← Bool.not_eq_true]; unfold Cal.peB; simpa using hc
    rw [hB, if_neg hc]
    exact Or.inl ⟨rfl, rfl, rfl⟩
theorem cal_Period_is (Y M P d v x : Int) (w : World) (h : Hid (Cal.peV Y M P d = v)) (h2 : Hid (Cal.peE Y M P d = x)) :
    Calls Try.prog 31 #[.agg #[.int .i64 Y, .int .i64 M, .int .i64 P], .int .i64 d] w fun e w' => e = .returned (.tuple #[.int .i64 v, .int .i64 x]) ∧ Below w.heap.size w w' := by
  have := cal_Period Y M P d w
  rw [h.out, h2.out] at this
  exact this

set_option maxRecDepth 100000 in
set_option maxHeartbeats 2000000 in
theorem law_CalendarTiles (Y M P d : Int) (w : World) :
    Calls Try.prog 9 #[.agg #[.int .i64 Y, .int .i64 M, .int .i64 P], .int .i64 d] w fun e w' => e = .returned (.bool true) ∧ Below w.heap.size w w' := by
  have hb := Below.refl w.heap.size w
  cases h : Cal.ok Y M P
  · have H := Lib.hid h
    clear h
    go_enter Try.func9, Try.ntmps9
    go_wp2_with (first | (go_at_call 15; refine (cal_awake _).mono ?_; rintro e w2 ⟨rfl, hb2⟩; obtain ⟨hc2, -⟩ := bcell hb2; have hz2 := hb2.size; (try simp at hz2); (try have hy2 : w.heap.size < w2.heap.size := by omega); replace hb := bel' (w := w) hb2 (by repeat (first | exact hb | refine Below.alloc ?_ (by have hbs := hb.size; first | omega | (simp; done) | (simp; omega)) _ | refine Below.drew ?_ | refine below_drewN_ ?_ _ | refine Below.setCell ?_ (by simp) _)); clear hb2) | (go_at_call 17; refine (rcal_valid_is _ _ _ _ _ H).mono ?_; rintro e w2 ⟨rfl, hb2⟩; obtain ⟨hc2, -⟩ := bcell hb2; have hz2 := hb2.size; (try simp at hz2); (try have hy2 : w.heap.size < w2.heap.size := by omega); replace hb := bel' (w := w) hb2 (by repeat (first | exact hb | refine Below.alloc ?_ (by have hbs := hb.size; first | omega | (simp; done) | (simp; omega)) _ | refine Below.drew ?_ | refine below_drewN_ ?_ _ | refine Below.setCell ?_ (by simp) _)); clear hb2))
    go_ret
    exact ⟨rfl, hb⟩
  · have k := (Cal.ok_iff Y M P).1 h
    have H := Lib.hid h
    have K := Lib.hid k
    have P1 : 1 ≤ P := by unfold Cal.okP at k; omega
    have P2 : P ≤ 120 := by unfold Cal.okP at k; omega
    have E := Lib.hid (Cal.tF_end Y M P d h)
    clear h k
    go_enter Try.func9, Try.ntmps9
    go_wp2_with ((go_at_call 15; refine (cal_awake _).mono ?_; rintro e w2 ⟨rfl, hb2⟩; obtain ⟨hc2, -⟩ := bcell hb2; have hz2 := hb2.size; (try simp at hz2); (try have hy2 : w.heap.size < w2.heap.size := by omega); replace hb := bel' (w := w) hb2 (by repeat (first | exact hb | refine Below.alloc ?_ (by have hbs := hb.size; first | omega | (simp; done) | (simp; omega)) _ | refine Below.drew ?_ | refine below_drewN_ ?_ _ | refine Below.setCell ?_ (by simp) _)); clear hb2))
    have hc1 := hc2
    have hy1 := hy2
    refine (rcal_valid_is _ _ _ _ _ H).mono ?_; rintro e w2 ⟨rfl, hb2⟩; obtain ⟨hc2, -⟩ := bcell hb2; have hz2 := hb2.size; (try simp at hz2); (try have hy2 : w.heap.size < w2.heap.size := by omega); replace hb := bel' (w := w) hb2 (by repeat (first | exact hb | refine Below.alloc ?_ (by have hbs := hb.size; first | omega | (simp; done) | (simp; omega)) _ | refine Below.drew ?_ | refine below_drewN_ ?_ _ | refine Below.setCell ?_ (by simp) _)); clear hb2
    have hcs : ∀ o, w2.cell? ⟨w.heap.size, o, none⟩ = (#[.int .i64 Y, .int .i64 M, .int .i64 P] : Array Value)[o]? := fun o => by
      rw [hc2 _ _ hy1, hc1 w.heap.size o (by simp)]
      exact cell_of_row _ _ o _ 23 (0, 0) (heap_alloc_new w _)
    clear hc1 hc2 hy1
    go_wp2_with fail
    go_loopw [5, 6, 7] (fun f l t wr => ∃ p : Int, 0 ≤ p ∧ p ≤ P ∧ f = .int .i64 (Cal.tF Y M d p) ∧ l = .int .i64 (Cal.tL Y M p) ∧ t = .int .i64 p ∧ Below w.heap.size w wr ∧ w.heap.size < wr.heap.size ∧
      (∀ o, wr.cell? ⟨w.heap.size, o, none⟩ = (#[.int .i64 Y, .int .i64 M, .int .i64 P] : Array Value)[o]?)) (fun _ _ t _ => (P - intOf t).toNat)
    case atStart =>
      have f0 : Cal.tF Y M d 0 = -1 := by unfold Cal.tF; rw [if_neg (by omega)]
      have l0 : Cal.tL Y M 0 = 0 := by unfold Cal.tL; rw [if_pos rfl]
      exact ⟨0, by omega, by omega, by rw [f0], by rw [l0], rfl, hb, hy2, hcs⟩
    case round =>
      clear hcs hy2 hz2 hb
      obtain ⟨p, pa, pb, rfl, rfl, rfl, hb, hy2, hcs⟩ := hrel
      have HCS := Lib.hid hcs
      have e0 : wr.cell? ⟨w.heap.size, 0, none⟩ = some (.int .i64 Y) := hcs 0
      have e1 : wr.cell? ⟨w.heap.size, 1, none⟩ = some (.int .i64 M) := hcs 1
      have e2 : wr.cell? ⟨w.heap.size, 2, none⟩ = some (.int .i64 P) := hcs 2
      clear hcs
      by_cases hlt : p < P
      · have HZ := Lib.hid ((Cal.ck_zero Y M P p).2 ⟨K.out, pa, hlt⟩)
        obtain ⟨t0, t1⟩ := Cal.tm_in Y M P p K.out pa hlt
        have fl := Cal.fd_ld _ t0 t1
        have hle : Cal.fd (Cal.tm Y M p) ≤ Cal.ld (Cal.tm Y M p) := by omega
        have lb := Cal.tL_bd Y M P p K.out pa pb
        have F1 := Lib.hid (Cal.tF_step Y M P d p K.out pa hlt)
        have LN := Lib.hid (Cal.tL_next Y M p pa)
        have HL : 0 < p → Cal.fd (Cal.tm Y M p) = Cal.tL Y M p + 1 := fun h0 => Cal.tL_step Y M P p K.out h0 hlt
        clear t0 t1 fl
        by_cases hp : 0 < p
        · have hne : (Cal.fd (Cal.tm Y M p) != Cal.tL Y M p + 1) = false := by rw [HL hp]; simp
          clear HL
          by_cases i1 : Cal.fd (Cal.tm Y M p) ≤ d
          · by_cases i2 : d ≤ Cal.ld (Cal.tm Y M p)
            · have F2 := Lib.hid (F1.out.1 ⟨i1, i2⟩)
              go_wp2_with fail
              refine (cal_First_ok _ _ _ _ _ HZ).mono ?_; rintro e w2 ⟨rfl, hb2⟩; obtain ⟨hc2, -⟩ := bcell hb2; have hz2 := hb2.size; (try simp at hz2); (try have hy2 : w.heap.size < w2.heap.size := by omega); replace hb := bel' (w := w) hb2 (by repeat (first | exact hb | refine Below.alloc ?_ (by have hbs := hb.size; first | omega | (simp; done) | (simp; omega)) _ | refine Below.drew ?_ | refine below_drewN_ ?_ _ | refine Below.setCell ?_ (by simp) _)); clear hb2
              have hc1 := hc2
              go_wp2_with fail
              refine (cal_Last_ok _ _ _ _ _ HZ).mono ?_; rintro e w2 ⟨rfl, hb2⟩; obtain ⟨hc2, -⟩ := bcell hb2; have hz2 := hb2.size; (try simp at hz2); (try have hy2 : w.heap.size < w2.heap.size := by omega); replace hb := bel' (w := w) hb2 (by repeat (first | exact hb | refine Below.alloc ?_ (by have hbs := hb.size; first | omega | (simp; done) | (simp; omega)) _ | refine Below.drew ?_ | refine below_drewN_ ?_ _ | refine Below.setCell ?_ (by simp) _)); clear hb2
              go_wp2_with fail
              go_roundw
              case rel => exact ⟨p + 1, by omega, by omega, by rw [F2.out], by rw [LN.out], by go_num, hb, hy2, fun o => by rw [hc2 _ _ (by omega), hc1 _ _ (by omega), HCS.out]⟩
              case measure => simp [intOf]; omega
            · have F2 := Lib.hid (F1.out.2 (fun h => i2 h.2))
              go_wp2_with fail
              refine (cal_First_ok _ _ _ _ _ HZ).mono ?_; rintro e w2 ⟨rfl, hb2⟩; obtain ⟨hc2, -⟩ := bcell hb2; have hz2 := hb2.size; (try simp at hz2); (try have hy2 : w.heap.size < w2.heap.size := by omega); replace hb := bel' (w := w) hb2 (by repeat (first | exact hb | refine Below.alloc ?_ (by have hbs := hb.size; first | omega | (simp; done) | (simp; omega)) _ | refine Below.drew ?_ | refine below_drewN_ ?_ _ | refine Below.setCell ?_ (by simp) _)); clear hb2
              have hc1 := hc2
              go_wp2_with fail
              refine (cal_Last_ok _ _ _ _ _ HZ).mono ?_; rintro e w2 ⟨rfl, hb2⟩; obtain ⟨hc2, -⟩ := bcell hb2; have hz2 := hb2.size; (try simp at hz2); (try have hy2 : w.heap.size < w2.heap.size := by omega); replace hb := bel' (w := w) hb2 (by repeat (first | exact hb | refine Below.alloc ?_ (by have hbs := hb.size; first | omega | (simp; done) | (simp; omega)) _ | refine Below.drew ?_ | refine below_drewN_ ?_ _ | refine Below.setCell ?_ (by simp) _)); clear hb2
              go_wp2_with fail
              go_roundw
              case rel => exact ⟨p + 1, by omega, by omega, by rw [F2.out], by rw [LN.out], by go_num, hb, hy2, fun o => by rw [hc2 _ _ (by omega), hc1 _ _ (by omega), HCS.out]⟩
              case measure => simp [intOf]; omega
          · have F2 := Lib.hid (F1.out.2 (fun h => i1 h.1))
            go_wp2_with fail
            refine (cal_First_ok _ _ _ _ _ HZ).mono ?_; rintro e w2 ⟨rfl, hb2⟩; obtain ⟨hc2, -⟩ := bcell hb2; have hz2 := hb2.size; (try simp at hz2); (try have hy2 : w.heap.size < w2.heap.size := by omega); replace hb := bel' (w := w) hb2 (by repeat (first | exact hb | refine Below.alloc ?_ (by have hbs := hb.size; first | omega | (simp; done) | (simp; omega)) _ | refine Below.drew ?_ | refine below_drewN_ ?_ _ | refine Below.setCell ?_ (by simp) _)); clear hb2
            have hc1 := hc2
            go_wp2_with fail
            refine (cal_Last_ok _ _ _ _ _ HZ).mono ?_; rintro e w2 ⟨rfl, hb2⟩; obtain ⟨hc2, -⟩ := bcell hb2; have hz2 := hb2.size; (try simp at hz2); (try have hy2 : w.heap.size < w2.heap.size := by omega); replace hb := bel' (w := w) hb2 (by repeat (first | exact hb | refine Below.alloc ?_ (by have hbs := hb.size; first | omega | (simp; done) | (simp; omega)) _ | refine Below.drew ?_ | refine below_drewN_ ?_ _ | refine Below.setCell ?_ (by simp) _)); clear hb2
            go_wp2_with fail
            go_roundw
            case rel => exact ⟨p + 1, by omega, by omega, by rw [F2.out], by rw [LN.out], by go_num, hb, hy2, fun o => by rw [hc2 _ _ (by omega), hc1 _ _ (by omega), HCS.out]⟩
            case measure => simp [intOf]; omega
        · clear HL
          by_cases i1 : Cal.fd (Cal.tm Y M p) ≤ d
          · by_cases i2 : d ≤ Cal.ld (Cal.tm Y M p)
            · have F2 := Lib.hid (F1.out.1 ⟨i1, i2⟩)
              go_wp2_with fail
              refine (cal_First_ok _ _ _ _ _ HZ).mono ?_; rintro e w2 ⟨rfl, hb2⟩; obtain ⟨hc2, -⟩ := bcell hb2; have hz2 := hb2.size; (try simp at hz2); (try have hy2 : w.heap.size < w2.heap.size := by omega); replace hb := bel' (w := w) hb2 (by repeat (first | exact hb | refine Below.alloc ?_ (by have hbs := hb.size; first | omega | (simp; done) | (simp; omega)) _ | refine Below.drew ?_ | refine below_drewN_ ?_ _ | refine Below.setCell ?_ (by simp) _)); clear hb2
              have hc1 := hc2
              go_wp2_with fail
              refine (cal_Last_ok _ _ _ _ _ HZ).mono ?_; rintro e w2 ⟨rfl, hb2⟩; obtain ⟨hc2, -⟩ := bcell hb2; have hz2 := hb2.size; (try simp at hz2); (try have hy2 : w.heap.size < w2.heap.size := by omega); replace hb := bel' (w := w) hb2 (by repeat (first | exact hb | refine Below.alloc ?_ (by have hbs := hb.size; first | omega | (simp; done) | (simp; omega)) _ | refine Below.drew ?_ | refine below_drewN_ ?_ _ | refine Below.setCell ?_ (by simp) _)); clear hb2
              go_wp2_with fail
              go_roundw
              case rel => exact ⟨p + 1, by omega, by omega, by rw [F2.out], by rw [LN.out], by go_num, hb, hy2, fun o => by rw [hc2 _ _ (by omega), hc1 _ _ (by omega), HCS.out]⟩
              case measure => simp [intOf]; omega
            · have F2 := Lib.hid (F1.out.2 (fun h => i2 h.2))
              go_wp2_with fail
              refine (cal_First_ok _ _ _ _ _ HZ).mono ?_; rintro e w2 ⟨rfl, hb2⟩; obtain ⟨hc2, -⟩ := bcell hb2; have hz2 := hb2.size; (try simp at hz2); (try have hy2 : w.heap.size < w2.heap.size := by omega); replace hb := bel' (w := w) hb2 (by repeat (first | exact hb | refine Below.alloc ?_ (by have hbs := hb.size; first | omega | (simp; done) | (simp; omega)) _ | refine Below.drew ?_ | refine below_drewN_ ?_ _ | refine Below.setCell ?_ (by simp) _)); clear hb2
              have hc1 := hc2
              go_wp2_with fail
              refine (cal_Last_ok _ _ _ _ _ HZ).mono ?_; rintro e w2 ⟨rfl, hb2⟩; obtain ⟨hc2, -⟩ := bcell hb2; have hz2 := hb2.size; (try simp at hz2); (try have hy2 : w.heap.size < w2.heap.size := by omega); replace hb := bel' (w := w) hb2 (by repeat (first | exact hb | refine Below.alloc ?_ (by have hbs := hb.size; first | omega | (simp; done) | (simp; omega)) _ | refine Below.drew ?_ | refine below_drewN_ ?_ _ | refine Below.setCell ?_ (by simp) _)); clear hb2
              go_wp2_with fail
              go_roundw
              case rel => exact ⟨p + 1, by omega, by omega, by rw [F2.out], by rw [LN.out], by go_num, hb, hy2, fun o => by rw [hc2 _ _ (by omega), hc1 _ _ (by omega), HCS.out]⟩
              case measure => simp [intOf]; omega
          · have F2 := Lib.hid (F1.out.2 (fun h => i1 h.1))
            go_wp2_with fail
            refine (cal_First_ok _ _ _ _ _ HZ).mono ?_; rintro e w2 ⟨rfl, hb2⟩; obtain ⟨hc2, -⟩ := bcell hb2; have hz2 := hb2.size; (try simp at hz2); (try have hy2 : w.heap.size < w2.heap.size := by omega); replace hb := bel' (w := w) hb2 (by repeat (first | exact hb | refine Below.alloc ?_ (by have hbs := hb.size; first | omega | (simp; done) | (simp; omega)) _ | refine Below.drew ?_ | refine below_drewN_ ?_ _ | refine Below.setCell ?_ (by simp) _)); clear hb2
            have hc1 := hc2
            go_wp2_with fail
            refine (cal_Last_ok _ _ _ _ _ HZ).mono ?_; rintro e w2 ⟨rfl, hb2⟩; obtain ⟨hc2, -⟩ := bcell hb2; have hz2 := hb2.size; (try simp at hz2); (try have hy2 : w.heap.size < w2.heap.size := by omega); replace hb := bel' (w := w) hb2 (by repeat (first | exact hb | refine Below.alloc ?_ (by have hbs := hb.size; first | omega | (simp; done) | (simp; omega)) _ | refine Below.drew ?_ | refine below_drewN_ ?_ _ | refine Below.setCell ?_ (by simp) _)); clear hb2
            go_wp2_with fail
            go_roundw
            case rel => exact ⟨p + 1, by omega, by omega, by rw [F2.out], by rw [LN.out], by go_num, hb, hy2, fun o => by rw [hc2 _ _ (by omega), hc1 _ _ (by omega), HCS.out]⟩
            case measure => simp [intOf]; omega
      · obtain rfl : p = P := by omega
        rcases E.out with ⟨E1, E2, E3⟩ | ⟨E1, E2, E3⟩
        · have G2 := Lib.hid E2
          have G3 := Lib.hid E3
          clear E2 E3
          go_wp2_with fail
          refine (cal_Period_is _ _ _ _ _ _ _ G2 G3).mono ?_; rintro e w2 ⟨rfl, hb2⟩; obtain ⟨hc2, -⟩ := bcell hb2; have hz2 := hb2.size; (try simp at hz2); (try have hy2 : w.heap.size < w2.heap.size := by omega); replace hb := bel' (w := w) hb2 (by repeat (first | exact hb | refine Below.alloc ?_ (by have hbs := hb.size; first | omega | (simp; done) | (simp; omega)) _ | refine Below.drew ?_ | refine below_drewN_ ?_ _ | refine Below.setCell ?_ (by simp) _)); clear hb2
          go_wp2_with fail
          go_ret
          exact ⟨rfl, hb⟩
        · have G2 := Lib.hid E2
          have G3 := Lib.hid E3
          clear E2 E3
          go_wp2_with fail
          refine (cal_Period_is _ _ _ _ _ _ _ G2 G3).mono ?_; rintro e w2 ⟨rfl, hb2⟩; obtain ⟨hc2, -⟩ := bcell hb2; have hz2 := hb2.size; (try simp at hz2); (try have hy2 : w.heap.size < w2.heap.size := by omega); replace hb := bel' (w := w) hb2 (by repeat (first | exact hb | refine Below.alloc ?_ (by have hbs := hb.size; first | omega | (simp; done) | (simp; omega)) _ | refine Below.drew ?_ | refine below_drewN_ ?_ _ | refine Below.setCell ?_ (by simp) _)); clear hb2
          go_wp2_with fail
          go_ret
          exact ⟨rfl, hb⟩
end Go.Proofs.Ytfalmodejpaeaaa
