/- The walks of the laws ChartRoll, ChartAdds. -/
import Derived.Test.YtjcapeieahffnaaChartLaws
import Derived.Test.YtjcapeieahffnaaChartWalksN
import Derived.Test.YtjcapeieahffnaaLibH
namespace Go.Proofs.Ytjcapeieahffnaa
set_option linter.unusedVariables false
set_option linter.unusedSimpArgs false
open Go.RowKit

set_option maxHeartbeats 2000000 in
theorem law_ChartRoll (l : List Acc) (b : List Bal) (A B : Option Addr) (c1 c2 : Nat) (w : World) (hm : l.length ≤ maxLen) (hm2 : b.length ≤ maxLen) (hr : Rd w w.heap.size 4 A l.length (Ch.cells l)) (hq : Rd w w.heap.size 2 B b.length (cellsOf Bal.cells b)) (hwf : ∀ a ∈ l, (Lit.int .i64 a.code).wf = true) :
    Calls Try.prog 6 #[.slice A l.length c1, .slice B b.length c2] w fun e w' => e = .returned (.bool true) ∧ Below w.heap.size w w' := by
  unfold maxLen at hm hm2
  have hb := Below.refl w.heap.size w
  have HR := Lib.hid hr
  have HQ := Lib.hid hq
  have HW := Lib.hid hwf
  clear hr hq hwf
  by_cases hl : l.length ≤ 60 ∧ b.length ≤ 60
  · obtain ⟨hl1, hl2⟩ := hl
    have hF : fewV l.length b.length = true := by unfold fewV; simp [hl1, hl2]
    have hrl := Ch.rollV_len l b
    obtain ⟨i0, hi, hz0, hz1, hz2⟩ := info_parts bal_info
    go_enter Try.func6, Try.ntmps6
    go_wp2_with (first
      | (go_at_call 10; refine (chart_awake _).mono ?_; rintro e w2 ⟨rfl, hb2⟩; replace hb := bel hb hb2; clear hb2)
      | (go_at_call 18; refine (few_any _ _ _ _ _ _ _).mono ?_; rintro e w2 ⟨rfl, rfl⟩)
      | (at_builtin; refine wpList_append_any _ rfl (.tmp 16) (.tmp 17) 34 rfl w.heap.size 45 i0 (.agg #[.int .i64 0, .int .i64 0]) 2 16 Try.underlying34 hi hz0 hz1 hz2 rfl (by decide) _ 0 [] rfl (own_empty _ _ _ 2 0 hb.size _ rfl (by decide)) _ B b.length c2 _ rfl ((Rd.now HQ.out hb).alloc (Nat.le_refl _) _) (cells_one Bal.one b) ?c3 ?c4 ?c5 ?_))
    case c3 => simp only [maxLen]; omega
    case c4 => omega
    case c5 => have := hb.size; simp; omega
    intro v4 w4 ho4 hg4
    have hzz := hb.size
    have hb4 := bel_own (hb.alloc hb.size (.cells #[] 45)) (by simp; omega) (own_empty _ _ _ 2 0 hb.size _ rfl (by decide)) hg4
    replace hb := hb4
    clear hg4 hb4 hzz
    obtain ⟨A4, d4, rfl, hrx⟩ := Rd.of_own ho4
    have HI := Lib.hid hrx
    clear hrx ho4
    go_wp2_with fail
    refine (roll_any l b A A4 c1 d4 _ (Rd.now HR.out hb) HI.out (by omega) (by omega) HW.out).mono ?_
    rintro e w5 ⟨v5, rfl, ho5, hb5⟩
    replace hb := bel hb hb5
    have HI5 := Lib.hid (Rd.now HI.out hb5)
    clear HI hb5
    obtain ⟨A5, d5, rfl, hrx⟩ := Rd.of_own ho5
    have HX := Lib.hid hrx
    clear hrx ho5
    go_wp2_with fail
    refine (rroll_any l b A B c1 c2 _ (Rd.now HR.out hb) (Rd.now HQ.out hb) (by omega) (by omega)).mono ?_
    rintro e w6 ⟨v6, rfl, ho6, hb6⟩
    replace hb := bel hb hb6
    have HI6 := Lib.hid (Rd.now HI5.out hb6)
    have HX6 := Lib.hid (Rd.now HX.out hb6)
    have HQ6 := Lib.hid (Rd.now HQ.out hb)
    clear HI5 HX hb6
    obtain ⟨A6, d6, rfl, hrx⟩ := Rd.of_own ho6
    have HY := Lib.hid hrx
    clear hrx ho6
    go_wp2_with fail
    refine (sameb_yes (Ch.rollV l b) A5 A6 d5 d6 _ HX6.out HY.out (by omega)).mono ?_
    rintro e w7 ⟨rfl, hb7⟩
    replace hb := bel hb hb7
    have HI7 := Lib.hid (Rd.now HI6.out hb7)
    have HQ7 := Lib.hid (Rd.now HQ6.out hb7)
    clear HI6 HX6 HQ6 HY hb7
    go_wp2_with (go_at_call 25; refine (sameb_yes b A4 B d4 c2 _ HI7.out HQ7.out (by omega)).mono ?_; rintro e w2 ⟨rfl, hb2⟩; replace hb := bel hb hb2; clear hb2)
    go_ret
    exact ⟨rfl, hb⟩
  · have hF : fewV l.length b.length = false := by unfold fewV; simp; omega
    go_enter Try.func6, Try.ntmps6
    go_wp2_with (first
      | (go_at_call 10; refine (chart_awake _).mono ?_; rintro e w2 ⟨rfl, hb2⟩; replace hb := bel hb hb2; clear hb2)
      | (go_at_call 18; refine (few_any _ _ _ _ _ _ _).mono ?_; rintro e w2 ⟨rfl, rfl⟩))
    go_ret
    exact ⟨rfl, hb⟩
set_option maxHeartbeats 4000000 in
theorem law_ChartAdds (l : List Acc) (a b : List Bal) (A B C : Option Addr) (c1 c2 c3 : Nat) (w : World) (hm : l.length ≤ maxLen) (hm1 : a.length ≤ maxLen) (hm2 : b.length ≤ maxLen) (hr : Rd w w.heap.size 4 A l.length (Ch.cells l)) (hp : Rd w w.heap.size 2 B a.length (cellsOf Bal.cells a)) (hq : Rd w w.heap.size 2 C b.length (cellsOf Bal.cells b)) (hwf : ∀ a ∈ l, (Lit.int .i64 a.code).wf = true) :
    Calls Try.prog 7 #[.slice A l.length c1, .slice B a.length c2, .slice C b.length c3] w fun e w' => e = .returned (.bool true) ∧ Below w.heap.size w w' := by
  unfold maxLen at hm hm1 hm2
  have hb := Below.refl w.heap.size w
  have HR := Lib.hid hr
  have HP := Lib.hid hp
  have HQ := Lib.hid hq
  have HW := Lib.hid hwf
  clear hr hp hq hwf
  by_cases hl : l.length ≤ 60 ∧ a.length ≤ 60
  · obtain ⟨hl1, hl2⟩ := hl
    have hF : fewV l.length a.length = true := by unfold fewV; simp [hl1, hl2]
    by_cases hl3 : b.length ≤ 60
    · have hF2 : fewV l.length b.length = true := by unfold fewV; simp [hl1, hl3]
      have hrx := Ch.rollV_len l a
      have hry := Ch.rollV_len l b
      have hrz := Ch.rollV_len l (Ch.addL l a b l)
      have hza : (Ch.addL l a b l).length ≤ l.length := Ch.pickL_len _ _
      have hzb : (Ch.addL l (Ch.rollV l a) (Ch.rollV l b) l).length ≤ l.length := Ch.pickL_len _ _
      by_cases hE : Ch.rollE l a = 0 ∧ Ch.rollE l b = 0 ∧ Ch.rollE l (Ch.addL l a b l) = 0
      · obtain ⟨e1, e2, e3⟩ := hE
        have g1 : (Ch.rollE l a != 0) = false := by simp [e1]
        have g2 : (Ch.rollE l b != 0) = false := by simp [e2]
        have g3 : (Ch.rollE l (Ch.addL l a b l) != 0) = false := by simp [e3]
        have HE := Lib.hid (Ch.adds e1 e2 e3 hl1 hl2 hl3)
        clear e1 e2 e3
        go_enter Try.func7, Try.ntmps7
        go_wp2_with (first
          | (go_at_call 10; refine (chart_awake _).mono ?_; rintro e w2 ⟨rfl, hb2⟩; replace hb := bel hb hb2; clear hb2)
          | (go_at_call 18; refine (few_any _ _ _ _ _ _ _).mono ?_; rintro e w2 ⟨rfl, rfl⟩))
        refine (roll_any l a A B c1 c2 _ (Rd.now HR.out hb) (Rd.now HP.out hb) (by omega) (by omega) HW.out).mono ?_
        rintro e w5 ⟨v5, rfl, ho5, hb5⟩
        replace hb := bel hb hb5
        clear hb5
        obtain ⟨A5, d5, rfl, hrx⟩ := Rd.of_own ho5
        have HX5 := Lib.hid hrx
        clear hrx ho5
        go_wp2_with fail
        refine (roll_any l b A C c1 c3 _ (Rd.now HR.out hb) (Rd.now HQ.out hb) (by omega) (by omega) HW.out).mono ?_
        rintro e w6 ⟨v6, rfl, ho6, hb6⟩
        replace hb := bel hb hb6
        have HX6 := Lib.hid (Rd.now HX5.out hb6)
        clear hb6 HX5
        obtain ⟨A6, d6, rfl, hrx⟩ := Rd.of_own ho6
        have HY6 := Lib.hid hrx
        clear hrx ho6
        go_wp2_with fail
        refine (add_any l a b A B C c1 c2 c3 _ (Rd.now HR.out hb) (Rd.now HP.out hb) (Rd.now HQ.out hb) (by omega) (by omega) (by omega)).mono ?_
        rintro e w7 ⟨v7, rfl, ho7, hb7⟩
        replace hb := bel hb hb7
        have HX7 := Lib.hid (Rd.now HX6.out hb7)
        have HY7 := Lib.hid (Rd.now HY6.out hb7)
        clear hb7 HX6 HY6
        obtain ⟨A7, d7, rfl, hrx⟩ := Rd.of_own ho7
        have HS := Lib.hid hrx
        clear hrx ho7
        go_wp2_with fail
        refine (roll_any l (Ch.addL l a b l) A A7 c1 d7 _ (Rd.now HR.out hb) HS.out (by omega) (by omega) HW.out).mono ?_
        rintro e w8 ⟨v8, rfl, ho8, hb8⟩
        replace hb := bel hb hb8
        have HX8 := Lib.hid (Rd.now HX7.out hb8)
        have HY8 := Lib.hid (Rd.now HY7.out hb8)
        clear hb8 HX7 HY7
        obtain ⟨A8, d8, rfl, hrx⟩ := Rd.of_own ho8
        have HZ := Lib.hid hrx
        clear hrx ho8
        go_wp2_with fail
        refine (add_any l (Ch.rollV l a) (Ch.rollV l b) A A5 A6 c1 d5 d6 _ (Rd.now HR.out hb) HX8.out HY8.out (by omega) (by omega) (by omega)).mono ?_
        rintro e w9 ⟨v9, rfl, ho9, hb9⟩
        replace hb := bel hb hb9
        have HZ9 := Lib.hid (Rd.now HZ.out hb9)
        rw [← HE.out] at ho9
        obtain ⟨A9, d9, rfl, hrx⟩ := Rd.of_own ho9
        have HU := Lib.hid hrx
        clear hrx ho9
        go_wp2_with (go_at_call 25; refine (sameb_yes (Ch.rollV l (Ch.addL l a b l)) A8 A9 d8 d9 _ HZ9.out HU.out (by omega)).mono ?_; rintro e w2 ⟨rfl, hb2⟩; replace hb := bel hb hb2; clear hb2)
        go_ret
        exact ⟨rfl, hb⟩
      · cases g1 : (Ch.rollE l a != 0) <;> cases g2 : (Ch.rollE l b != 0) <;> cases g3 : (Ch.rollE l (Ch.addL l a b l) != 0)
        · exact absurd ⟨by simpa using g1, by simpa using g2, by simpa using g3⟩ hE
        all_goals
          clear hE
          go_enter Try.func7, Try.ntmps7
          go_wp2_with (first
            | (go_at_call 10; refine (chart_awake _).mono ?_; rintro e w2 ⟨rfl, hb2⟩; replace hb := bel hb hb2; clear hb2)
            | (go_at_call 18; refine (few_any _ _ _ _ _ _ _).mono ?_; rintro e w2 ⟨rfl, rfl⟩))
          refine (roll_any l a A B c1 c2 _ (Rd.now HR.out hb) (Rd.now HP.out hb) (by omega) (by omega) HW.out).mono ?_
          rintro e w5 ⟨v5, rfl, ho5, hb5⟩
          replace hb := bel hb hb5
          clear hb5
          obtain ⟨A5, d5, rfl, hrx⟩ := Rd.of_own ho5
          have HX5 := Lib.hid hrx
          clear hrx ho5
          go_wp2_with fail
          refine (roll_any l b A C c1 c3 _ (Rd.now HR.out hb) (Rd.now HQ.out hb) (by omega) (by omega) HW.out).mono ?_
          rintro e w6 ⟨v6, rfl, ho6, hb6⟩
          replace hb := bel hb hb6
          have HX6 := Lib.hid (Rd.now HX5.out hb6)
          clear hb6 HX5
          obtain ⟨A6, d6, rfl, hrx⟩ := Rd.of_own ho6
          have HY6 := Lib.hid hrx
          clear hrx ho6
          go_wp2_with fail
          refine (add_any l a b A B C c1 c2 c3 _ (Rd.now HR.out hb) (Rd.now HP.out hb) (Rd.now HQ.out hb) (by omega) (by omega) (by omega)).mono ?_
          rintro e w7 ⟨v7, rfl, ho7, hb7⟩
          replace hb := bel hb hb7
          have HX7 := Lib.hid (Rd.now HX6.out hb7)
          have HY7 := Lib.hid (Rd.now HY6.out hb7)
          clear hb7 HX6 HY6
          obtain ⟨A7, d7, rfl, hrx⟩ := Rd.of_own ho7
          have HS := Lib.hid hrx
          clear hrx ho7
          go_wp2_with fail
          refine (roll_any l (Ch.addL l a b l) A A7 c1 d7 _ (Rd.now HR.out hb) HS.out (by omega) (by omega) HW.out).mono ?_
          rintro e w8 ⟨v8, rfl, ho8, hb8⟩
          replace hb := bel hb hb8
          have HX8 := Lib.hid (Rd.now HX7.out hb8)
          have HY8 := Lib.hid (Rd.now HY7.out hb8)
          clear hb8 HX7 HY7
          obtain ⟨A8, d8, rfl, hrx⟩ := Rd.of_own ho8
          have HZ := Lib.hid hrx
          clear hrx ho8
          go_wp2_with fail
          go_ret
          exact ⟨rfl, hb⟩
    · have hF2 : fewV l.length b.length = false := by unfold fewV; simp; omega
      go_enter Try.func7, Try.ntmps7
      go_wp2_with (first
        | (go_at_call 10; refine (chart_awake _).mono ?_; rintro e w2 ⟨rfl, hb2⟩; replace hb := bel hb hb2; clear hb2)
        | (go_at_call 18; refine (few_any _ _ _ _ _ _ _).mono ?_; rintro e w2 ⟨rfl, rfl⟩))
      go_ret
      exact ⟨rfl, hb⟩
  · have hF : fewV l.length a.length = false := by unfold fewV; simp; omega
    go_enter Try.func7, Try.ntmps7
    go_wp2_with (first
      | (go_at_call 10; refine (chart_awake _).mono ?_; rintro e w2 ⟨rfl, hb2⟩; replace hb := bel hb hb2; clear hb2)
      | (go_at_call 18; refine (few_any _ _ _ _ _ _ _).mono ?_; rintro e w2 ⟨rfl, rfl⟩))
    go_ret
    exact ⟨rfl, hb⟩
end Go.Proofs.Ytjcapeieahffnaa
