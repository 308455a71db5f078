/- The walk of PostingClean. -/
import Derived.Test.YthenamibehbdnaaPostWalksE
namespace Go.Proofs.Ythenamibehbdnaa
set_option linter.unusedVariables false
set_option linter.unusedSimpArgs false
open Go.RowKit

theorem sameparts_yes (m : List Bal) (A B : Option Addr) (c1 c2 : Nat) (w : World) (hr : Rd w w.heap.size 2 A m.length (cellsOf Bal.cells m)) (hq : Rd w w.heap.size 2 B m.length (cellsOf Bal.cells m)) (hn : m.length ≤ 1000000) :
    Calls Try.prog 17 #[.slice A m.length c1, .slice B m.length c2] w (BoolPost true w) :=
  (sameparts_any m m A B c1 c2 w hr hq hn hn).mono fun e w' h => ⟨h.1.trans (ret_bool (by simp)), h.2⟩
/-- how collecting ends -/
def ColAlt (f : Int → Int) (L : List Bal) (E : Int) : Prop := (E = 0 ∧ IsC f L ∧ ∀ c, amV (f c) = true) ∨ (E = 2 ∧ L = [] ∧ ∃ c, amV (f c) = false)
theorem small_sum {m : List Bal} (h : smallV m = true) : sumW m = sumV m := by
  obtain ⟨h1, h2⟩ := small_is h
  exact sumW_eq m h1 (by omega) (by omega)
theorem small_of {m : List Bal} (h : smallV m = true) (c : Int) : ofW m c = ofV m c := by
  obtain ⟨h1, h2⟩ := small_is h
  exact ofW_eq' m c h1 (by omega) (by omega)
theorem clean_of {m L : List Bal} (hl : m.length ≤ 200) (h : IsC (ofW m) L) (ha : ∀ c, amV (ofW m c) = true) (c : Int) : ofW L c = ofW m c := by
  have := clean_len h
  rw [ofW_eq' L c (clean_amount h ha) (by omega) (by omega)]
  exact clean_again h c
theorem clean_twice {m L L2 : List Bal} {E2 : Int} (hs : smallV m = true) (h : IsC (ofW m) L) (ha : ∀ c, amV (ofW m c) = true) (h2 : ColAlt (ofW L) L2 E2) : E2 = 0 ∧ L2 = L ∧ sumW L = sumW m := by
  have hl := (small_is hs).2
  have hll := clean_len h
  have hof := clean_of hl h ha
  refine ⟨?_, ?_, ?_⟩
  · rcases h2 with ⟨e, _, _⟩ | ⟨_, _, c, hc⟩
    · exact e
    · rw [hof, ha c] at hc; cases hc
  · rcases h2 with ⟨_, h3, _⟩ | ⟨_, _, c, hc⟩
    · exact isC_unique h3 h hof
    · rw [hof, ha c] at hc; cases hc
  · rw [sumW_eq L (clean_amount h ha) (by omega) (by omega), small_sum hs]
    exact clean_sum h (small_of hs)
theorem col_len {f : Int → Int} {m L : List Bal} {E : Int} (h : ColAlt f L E) (hf : f = ofW m) : L.length ≤ m.length := by
  subst hf
  rcases h with ⟨_, h, _⟩ | ⟨_, rfl, _⟩
  · exact clean_len h
  · simp
theorem col_wf {m L : List Bal} {E : Int} (h : ColAlt (ofW m) L E) (hwf : ∀ x ∈ m, (Lit.int .i64 x.account).wf = true) : ∀ x ∈ L, (Lit.int .i64 x.account).wf = true := by
  rcases h with ⟨_, h, _⟩ | ⟨_, rfl, _⟩
  · intro x hx
    obtain ⟨y, hy, e⟩ := clean_in h hx
    rw [← e]; exact hwf y hy
  · intro x hx; simp at hx
set_option maxRecDepth 100000 in
set_option maxHeartbeats 4000000 in
theorem law_PostingClean (m : List Bal) (A : Option Addr) (cap : Nat) (w : World) (hm : m.length ≤ maxLen) (hr : Rd w w.heap.size 2 A m.length (cellsOf Bal.cells m)) (hwf : ∀ x ∈ m, (Lit.int .i64 x.account).wf = true) :
    Calls Try.prog 5 #[.slice A m.length cap] w fun e w' => e = .returned (.bool true) ∧ Below w.heap.size w w' := by
  unfold maxLen at hm
  have hb := Below.refl w.heap.size w
  have HR := Lib.hid hr
  have HW := Lib.hid hwf
  obtain ⟨i0, hi, hz0, hz1, hz2⟩ := info_parts colp_info
  clear hr hwf
  cases hs : smallV m
  · go_enter Try.func5, Try.ntmps5
    go_wp2_with (first
      | (go_at_call 14; refine (post_awake _).mono ?_; rintro e w2 ⟨rfl, hb2⟩; replace hb := bel hb hb2; clear hb2)
      | (go_at_call 15; refine (small_any m A cap _ (Rd.now HR.out hb) (by unfold maxLen; omega)).mono ?_; rintro e w2 ⟨rfl, rfl⟩))
    go_ret
    exact ⟨rfl, hb⟩
  · have HS := Lib.hid hs
    have hl := (small_is hs).2
    go_enter Try.func5, Try.ntmps5
    go_wp2_with (first
      | (go_at_call 14; refine (post_awake _).mono ?_; rintro e w2 ⟨rfl, hb2⟩; replace hb := bel hb hb2; clear hb2)
      | (go_at_call 15; refine (small_any m A cap _ (Rd.now HR.out hb) (by unfold maxLen; omega)).mono ?_; rintro e w2 ⟨rfl, rfl⟩)
      | (at_builtin; refine wpList_append_any _ rfl (.tmp 15) (.tmp 16) 22 rfl w.heap.size 26 i0 (.agg #[.int .i64 0, .int .i64 0]) 2 16 Try.underlying22 hi hz0 hz1 hz2 rfl (by decide) _ 0 [] rfl (own_empty _ _ _ 2 0 hb.size _ rfl (by decide)) _ A m.length cap _ rfl ((Rd.now HR.out hb).alloc (Nat.le_refl _) _) (cells_one Bal.one m) ?c3 ?c4 ?c5 ?_))
    case c3 => simp only [maxLen]; omega
    case c4 => omega
    case c5 => have := hb.size; simp; omega
    intro v4 w4 ho4 hg4
    replace hb := bel_own (w1 := w2.alloc (.cells #[] 26)) (show Below w.heap.size w _ from (by repeat (first | exact hb | refine Below.alloc ?_ (by have hbs := hb.size; first | omega | (simp; done) | (simp; omega)) _ | refine Below.drew ?_ | refine below_drewN_ ?_ _ | refine Below.setCell ?_ (by simp) _))) (by have := hb.size; simp; omega) (own_empty _ _ _ 2 0 hb.size _ rfl (by decide)) hg4
    clear hg4
    obtain ⟨A4, c4, rfl, hrx⟩ := Rd.of_own ho4
    have H4 := Lib.hid hrx
    clear hrx ho4
    go_wp2_with fail
    refine (clean_any m A4 c4 _ H4.out (by omega) HW.out).mono ?_
    rintro e w9 ⟨v5, L, E, rfl, ho5, hb9, hc5⟩
    replace hb := bel hb hb9
    have HC5 : Hid (ColAlt (ofW m) L E) := Lib.hid hc5
    clear hb9 H4 hc5
    have hL := col_len HC5.out rfl
    obtain ⟨A5, c5, rfl, hrx⟩ := Rd.of_own ho5
    have H5 := Lib.hid hrx
    clear hrx ho5
    go_wp2_with fail
    refine (rclean_any m A cap _ (Rd.now HR.out hb) (by omega)).mono ?_
    rintro e w9 ⟨v6, L', E', rfl, ho6, hb9, hc6⟩
    obtain ⟨rfl, rfl⟩ := col_same HC5.out hc6 (fun _ => rfl)
    replace hb := bel hb hb9
    replace H5 := Lib.hid (Rd.now (H5).out hb9)
    clear hb9 hc6
    obtain ⟨A6, c6, rfl, hrx⟩ := Rd.of_own ho6
    have H6 := Lib.hid hrx
    clear hrx ho6
    have he : (E != E) = false := by simp
    have hs1 : (sumW m != sumW m) = false := by simp
    go_wp2_with fail
    refine (sameparts_yes L A5 A6 c5 c6 _ H5.out H6.out (by omega)).mono ?_
    rintro e w9 ⟨rfl, hb9⟩
    replace hb := bel hb hb9
    replace H5 := Lib.hid (Rd.now (H5).out hb9)
    clear hb9 H6
    go_wp2_with fail
    refine (sum_any m A cap _ (Rd.now HR.out hb) (by omega)).mono ?_
    rintro e w9 ⟨rfl, hb9⟩
    replace hb := bel hb hb9
    replace H5 := Lib.hid (Rd.now (H5).out hb9)
    clear hb9
    go_wp2_with fail
    refine (rsum_any m A cap _ (Rd.now HR.out hb) (by omega)).mono ?_
    rintro e w9 ⟨rfl, hb9⟩
    replace hb := bel hb hb9
    replace H5 := Lib.hid (Rd.now (H5).out hb9)
    clear hb9
    go_wp2_with fail
    refine (neg_any m A cap _ (Rd.now HR.out hb) (by omega)).mono ?_
    rintro e w9 ⟨v7, rfl, ho7, hb9⟩
    replace hb := bel hb hb9
    replace H5 := Lib.hid (Rd.now (H5).out hb9)
    clear hb9
    have hnl := Lib.hid (negL_len m)
    obtain ⟨A7, c7, rfl, hrx⟩ := Rd.of_own ho7
    have H7 := Lib.hid hrx
    clear hrx ho7
    go_wp2_with fail
    refine (rneg_any m A cap _ (Rd.now HR.out hb) (by omega)).mono ?_
    rintro e w9 ⟨v8, rfl, ho8, hb9⟩
    replace hb := bel hb hb9
    replace H5 := Lib.hid (Rd.now (H5).out hb9)
    replace H7 := Lib.hid (Rd.now (H7).out hb9)
    clear hb9
    obtain ⟨A8, c8, rfl, hrx⟩ := Rd.of_own ho8
    have H8 := Lib.hid hrx
    clear hrx ho8
    go_wp2_with fail
    refine (sameparts_yes (negL m) A7 A8 c7 c8 _ H7.out H8.out (by rw [hnl.out]; omega)).mono ?_
    rintro e w9 ⟨rfl, hb9⟩
    replace hb := bel hb hb9
    replace H5 := Lib.hid (Rd.now (H5).out hb9)
    clear hb9 H7 H8
    go_wp2_with fail
    refine (clean_any L A5 c5 _ H5.out (by omega) (col_wf HC5.out HW.out)).mono ?_
    rintro e w9 ⟨v10, L2, E2, rfl, ho10, hb9, hc10⟩
    replace hb := bel hb hb9
    replace H5 := Lib.hid (Rd.now (H5).out hb9)
    clear hb9 he hs1
    obtain ⟨A10, c10, rfl, hrx⟩ := Rd.of_own ho10
    have H10 := Lib.hid hrx
    clear hrx ho10
    have HC10 : Hid (ColAlt (ofW L) L2 E2) := Lib.hid hc10
    clear hc10
    rcases HC5.out with ⟨rfl, h1, h2⟩ | ⟨rfl, rfl, c, h1⟩
    · obtain ⟨rfl, rfl, h3⟩ := clean_twice HS.out h1 h2 HC10.out
      have H3 : Hid ((sumW L2 == sumW m) = true) := Lib.hid (by rw [h3]; simp)
      clear h1 h2 h3
      go_wp2_with fail
      refine (sameparts_yes L2 A10 A5 c10 c5 _ H10.out H5.out (by omega)).mono ?_
      rintro e w9 ⟨rfl, hb9⟩
      replace hb := bel hb hb9
      replace H5 := Lib.hid (Rd.now (H5).out hb9)
      clear hb9
      go_wp2_with fail
      refine (sum_any L2 A5 c5 _ H5.out (by omega)).mono ?_
      rintro e w9 ⟨rfl, hb9⟩
      replace hb := bel hb hb9
      clear hb9
      have hs2 := H3.out
      go_wp2_with fail
      refine (rsum_any m A cap _ (Rd.now HR.out hb) (by omega)).mono ?_
      rintro e w9 ⟨rfl, hb9⟩
      replace hb := bel hb hb9
      go_wp2_with fail
      go_ret
      exact ⟨rfl, hb⟩
    · clear h1
      go_wp2_with fail
      go_ret
      exact ⟨rfl, hb⟩
end Go.Proofs.Ythenamibehbdnaa
