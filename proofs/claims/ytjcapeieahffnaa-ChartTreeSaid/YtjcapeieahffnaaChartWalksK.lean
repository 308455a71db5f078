/- The walks of balances, Ascending, Balances. -/
import Derived.Test.YtjcapeieahffnaaChartWalksJ
import Derived.Test.YtjcapeieahffnaaChartMathE
namespace Go.Proofs.Ytjcapeieahffnaa
set_option linter.unusedVariables false
set_option linter.unusedSimpArgs false
open Go.RowKit

set_option maxHeartbeats 4000000 in
theorem balances_any (l : List Acc) (b : List Bal) (A B : Option Addr) (c1 c2 : Nat) (w : World) (hr : Rd w w.heap.size 4 A l.length (Ch.cells l)) (hq : Rd w w.heap.size 2 B b.length (cellsOf Bal.cells b)) (hn : l.length ≤ 100000) (hn2 : b.length ≤ 100000) :
    Calls Try.prog 37 #[.slice A l.length c1, .slice B b.length c2] w (BoolPost (Ch.balsV l b) w) := by
  have hb := Below.refl w.heap.size w
  have HR := Lib.hid hr
  have HQ := Lib.hid hq
  clear hr hq
  go_enter Try.func37, Try.ntmps37
  go_wp2_with fail
  go_loopw [11] (fun t wr => ∃ k : Nat, k ≤ b.length ∧ (∀ j, j < k → (Ch.fnB l (b.getD j Bal.zero).account && ascAt b j) = true) ∧ t = .int .i64 k ∧ Below w.heap.size w wr) (fun t _ => b.length - (intOf t).toNat)
  case atStart => exact ⟨0, by omega, fun j h => by omega, rfl, hb⟩
  case round =>
    clear hb
    obtain ⟨k, hk, hno, rfl, hb⟩ := hrel
    have HN := Lib.hid hno
    have hz := hb.size
    clear hno
    by_cases hlt : k < b.length
    · obtain ⟨x, o, hB, hbo, f0, f1⟩ := Bal.at_ (HQ.out.below hb (Nat.le_refl _)) hlt
      subst hB
      have hk1 : k - 1 < b.length := by omega
      obtain ⟨x', o', hB', -, f4, -⟩ := Bal.at_ (HQ.out.below hb (Nat.le_refl _)) hk1
      injection hB' with hB'
      injection hB' with hB1 hB2
      subst hB1 hB2
      have hb1 : Below w.heap.size w (wr.alloc (.cells #[.int .i64 b[k].account, .int .i64 b[k].amount] 45)) := (by repeat (first | exact hb | refine Below.alloc ?_ (by have hbs := hb.size; first | omega | (simp; done) | (simp; omega)) _ | refine Below.drew ?_ | refine below_drewN_ ?_ _ | refine Below.setCell ?_ (by simp) _))
      go_wp2_with fail
      refine (find_gen l b[k].account A c1 _ (Rd.now HR.out hb1) hn).mono ?_
      rintro e w3 ⟨rfl, hb3⟩
      have hB3 := (Blk.new wr 45 #[.int .i64 b[k].account, .int .i64 b[k].amount]).step hb3
      have hz3 := hB3.lt
      have q0 : ∀ d : Later (w3.alloc (.cells #[.int .i64 (Ch.fnV l b[k].account).code, .int .i64 (Ch.fnV l b[k].account).kind, .int .i64 (Ch.fnV l b[k].account).basis, .int .i64 (Ch.fnV l b[k].account).parent] 26)), d.now.cell? ⟨wr.heap.size, 0, none⟩ = some (.int .i64 b[k].account) := fun d => d.cell (by simp; omega) ((World.cell?_alloc_lt w3 _ ⟨wr.heap.size, 0, none⟩ (by show wr.heap.size < _; omega)).trans (hB3.cell 0))
      have q1 : ∀ d : Later (w3.alloc (.cells #[.int .i64 (Ch.fnV l b[k].account).code, .int .i64 (Ch.fnV l b[k].account).kind, .int .i64 (Ch.fnV l b[k].account).basis, .int .i64 (Ch.fnV l b[k].account).parent] 26)), d.now.cell? ⟨wr.heap.size, 1, none⟩ = some (.int .i64 b[k].amount) := fun d => d.cell (by simp; omega) ((World.cell?_alloc_lt w3 _ ⟨wr.heap.size, 1, none⟩ (by show wr.heap.size < _; omega)).trans (hB3.cell 1))
      have hb4 : Below wr.heap.size wr w3 := bel ((Below.refl _ _).alloc (Nat.le_refl _) _) hb3
      have q4 : ∀ d : Later (w3.alloc (.cells #[.int .i64 (Ch.fnV l b[k].account).code, .int .i64 (Ch.fnV l b[k].account).kind, .int .i64 (Ch.fnV l b[k].account).basis, .int .i64 (Ch.fnV l b[k].account).parent] 26)), d.now.cell? ⟨x, o + (k - 1) * 2, none⟩ = some (.int .i64 (b[k - 1]'hk1).account) := fun d => d.cell (by simp; omega) ((World.cell?_alloc_lt w3 _ ⟨x, o + (k - 1) * 2, none⟩ (by show x < _; omega)).trans ((hb4.cell (p := ⟨x, o + (k - 1) * 2, none⟩) (by show x < _; omega)).trans f4))
      have hb2 : Below w.heap.size w (w3.alloc (.cells #[.int .i64 (Ch.fnV l b[k].account).code, .int .i64 (Ch.fnV l b[k].account).kind, .int .i64 (Ch.fnV l b[k].account).basis, .int .i64 (Ch.fnV l b[k].account).parent] 26)) := (bel hb hb4).alloc (by omega) _
      clear hB3 hb3 hb1 hb4 f0 f1 f4
      cases hF : Ch.fnB l b[k].account
      · have HE : Hid (Ch.balsV l b = false) := Lib.hid (allAt_no hlt (by show (Ch.fnB l (b.getD k Bal.zero).account && _) = false; rw [Bal.getD_at b k hlt, hF]; rfl))
        go_wp2_with fail
        refine wp_region_later (by kernel_rfl) (by kernel_rfl) ?_; (repeat (go_big_quiet_step (((go_at_call 38; exact Later.same _ (amount_any _ _)))))); refine wpQuiet_nil ?_; rintro _ ⟨dq, rfl⟩
        have hbe := bel hb2 dq.below
        go_wp2_with fail
        go_ret
        exact ⟨by rw [HE.out]; rfl, hbe⟩
      · rcases Ch.ord_case k (b[k - 1]'hk1).account b[k].account with ⟨hd, ho⟩ | ⟨hd, hg, ho⟩ | ⟨hd, hg, h0, ho⟩
        · have HO := Lib.hid ho
          clear ho
          go_wp2_with fail
          cases hm : amV b[k].amount
          · have HE : Hid (Ch.balsV l b = false) := Lib.hid (allAt_no hlt (by show (_ && ascAt b k) = false; rw [asc_no hlt (.inr hm)]; simp))
            skip
            refine wp_region_later (by kernel_rfl) (by kernel_rfl) ?_; (repeat (go_big_quiet_step (((go_at_call 38; exact Later.same _ (amount_any _ _)))))); refine wpQuiet_nil ?_; rintro _ ⟨dq, rfl⟩
            have hbe := bel hb2 dq.below
            go_wp2_with fail
            go_ret
            exact ⟨by rw [HE.out]; rfl, hbe⟩
          · have HE : Hid ((Ch.fnB l (b.getD k Bal.zero).account && ascAt b k) = true) := Lib.hid (by rw [asc_mk hlt (.inl HO.out) hm, Bal.getD_at b k hlt, hF]; rfl)
            skip
            refine wp_region_later (by kernel_rfl) (by kernel_rfl) ?_; (repeat (go_big_quiet_step (((go_at_call 38; exact Later.same _ (amount_any _ _)))))); refine wpQuiet_nil ?_; rintro _ ⟨dq, rfl⟩
            have hbe := bel hb2 dq.below
            go_wp2_with fail
            go_roundw
            case rel => exact ⟨k + 1, by omega, upto_succ HN.out HE.out, by go_num, hbe⟩
            case measure => simp [intOf]; omega
        · have e1 := Ch.wrap_pred k (by simpa using hd) (by omega)
          have HO := Lib.hid ho
          clear ho
          go_wp2_with fail
          cases hm : amV b[k].amount
          · have HE : Hid (Ch.balsV l b = false) := Lib.hid (allAt_no hlt (by show (_ && ascAt b k) = false; rw [asc_no hlt (.inr hm)]; simp))
            skip
            refine wp_region_later (by kernel_rfl) (by kernel_rfl) ?_; (repeat (go_big_quiet_step (((go_at_call 38; exact Later.same _ (amount_any _ _)))))); refine wpQuiet_nil ?_; rintro _ ⟨dq, rfl⟩
            have hbe := bel hb2 dq.below
            go_wp2_with fail
            go_ret
            exact ⟨by rw [HE.out]; rfl, hbe⟩
          · have HE : Hid ((Ch.fnB l (b.getD k Bal.zero).account && ascAt b k) = true) := Lib.hid (by rw [asc_mk hlt (.inr HO.out) hm, Bal.getD_at b k hlt, hF]; rfl)
            skip
            refine wp_region_later (by kernel_rfl) (by kernel_rfl) ?_; (repeat (go_big_quiet_step (((go_at_call 38; exact Later.same _ (amount_any _ _)))))); refine wpQuiet_nil ?_; rintro _ ⟨dq, rfl⟩
            have hbe := bel hb2 dq.below
            go_wp2_with fail
            go_roundw
            case rel => exact ⟨k + 1, by omega, upto_succ HN.out HE.out, by go_num, hbe⟩
            case measure => simp [intOf]; omega
        · have HE : Hid (Ch.balsV l b = false) := Lib.hid (allAt_no hlt (by show (_ && ascAt b k) = false; rw [asc_no hlt (.inl ⟨h0, ho⟩)]; simp))
          have e1 := Ch.wrap_pred k h0 (by omega)
          clear ho h0
          go_wp2_with fail
          refine wp_region_later (by kernel_rfl) (by kernel_rfl) ?_; (repeat (go_big_quiet_step (((go_at_call 38; exact Later.same _ (amount_any _ _)))))); refine wpQuiet_nil ?_; rintro _ ⟨dq, rfl⟩
          have hbe := bel hb2 dq.below
          go_wp2_with fail
          go_ret
          exact ⟨by rw [HE.out]; rfl, hbe⟩
    · have HE : Hid (Ch.balsV l b = true) := Lib.hid (allAt_yes (fun j h => HN.out j (by omega)))
      go_wp2_with fail
      go_ret
      exact ⟨ret_bool (by rw [HE.out]), hb⟩

set_option maxHeartbeats 4000000 in
theorem rasc_any (b : List Bal) (B : Option Addr) (c2 : Nat) (w : World) (hq : Rd w w.heap.size 2 B b.length (cellsOf Bal.cells b)) (hn2 : b.length ≤ 100000) :
    Calls Try.prog 45 #[.slice B b.length c2] w (BoolPost (ascV b) w) := by
  have hb := Below.refl w.heap.size w
  have HQ := Lib.hid hq
  clear hq
  go_enter Try.func45, Try.ntmps45
  go_wp2_with fail
  go_loopw [3] (fun t wr => ∃ k : Nat, k ≤ b.length ∧ (∀ j, j < k → ascAt b j = true) ∧ t = .int .i64 k ∧ Below w.heap.size w wr) (fun t _ => b.length - (intOf t).toNat)
  case atStart => exact ⟨0, by omega, fun j h => by omega, rfl, hb⟩
  case round =>
    clear hb
    obtain ⟨k, hk, hno, rfl, hb⟩ := hrel
    have HN := Lib.hid hno
    have hz := hb.size
    clear hno
    by_cases hlt : k < b.length
    · obtain ⟨x, o, hB, hbo, f0, f1⟩ := Bal.at_ (HQ.out.below hb (Nat.le_refl _)) hlt
      subst hB
      have hk1 : k - 1 < b.length := by omega
      obtain ⟨x', o', hB', -, f4, -⟩ := Bal.at_ (HQ.out.below hb (Nat.le_refl _)) hk1
      injection hB' with hB'
      injection hB' with hB1 hB2
      subst hB1 hB2
      have q0 : ∀ d : Later wr, d.now.cell? ⟨x, o + k * 2, none⟩ = some (.int .i64 b[k].account) := fun d => d.cell (by omega) f0
      have q1 : ∀ d : Later wr, d.now.cell? ⟨x, o + k * 2 + 1, none⟩ = some (.int .i64 b[k].amount) := fun d => d.cell (by omega) f1
      have q4 : ∀ d : Later wr, d.now.cell? ⟨x, o + (k - 1) * 2, none⟩ = some (.int .i64 (b[k - 1]'hk1).account) := fun d => d.cell (by omega) f4
      clear f0 f1 f4
      rcases Ch.ord_case k (b[k - 1]'hk1).account b[k].account with ⟨hd, ho⟩ | ⟨hd, hg, ho⟩ | ⟨hd, hg, h0, ho⟩
      · cases hm : amV b[k].amount
        · have HE : Hid (ascV b = false) := Lib.hid (allAt_no hlt (asc_no hlt (.inr hm)))
          clear ho
          go_wp2_with fail
          refine wp_region_later (by kernel_rfl) (by kernel_rfl) ?_; (repeat (go_big_quiet_step (((go_at_call 40; exact Later.same _ (ramount_any _ _)))))); refine wpQuiet_nil ?_; rintro _ ⟨dq, rfl⟩
          have hbe := bel hb dq.below
          go_wp2_with fail
          go_ret
          exact ⟨by rw [HE.out]; rfl, hbe⟩
        · have HE : Hid (ascAt b k = true) := Lib.hid (asc_mk hlt (.inl ho) hm)
          clear ho
          go_wp2_with fail
          refine wp_region_later (by kernel_rfl) (by kernel_rfl) ?_; (repeat (go_big_quiet_step (((go_at_call 40; exact Later.same _ (ramount_any _ _)))))); refine wpQuiet_nil ?_; rintro _ ⟨dq, rfl⟩
          have hbe := bel hb dq.below
          go_wp2_with fail
          go_roundw
          case rel => exact ⟨k + 1, by omega, upto_succ HN.out HE.out, by go_num, hbe⟩
          case measure => simp [intOf]; omega
      · have e1 := Ch.wrap_pred k (by simpa using hd) (by omega)
        cases hm : amV b[k].amount
        · have HE : Hid (ascV b = false) := Lib.hid (allAt_no hlt (asc_no hlt (.inr hm)))
          clear ho
          go_wp2_with fail
          refine wp_region_later (by kernel_rfl) (by kernel_rfl) ?_; (repeat (go_big_quiet_step (((go_at_call 40; exact Later.same _ (ramount_any _ _)))))); refine wpQuiet_nil ?_; rintro _ ⟨dq, rfl⟩
          have hbe := bel hb dq.below
          go_wp2_with fail
          go_ret
          exact ⟨by rw [HE.out]; rfl, hbe⟩
        · have HE : Hid (ascAt b k = true) := Lib.hid (asc_mk hlt (.inr ho) hm)
          clear ho
          go_wp2_with fail
          refine wp_region_later (by kernel_rfl) (by kernel_rfl) ?_; (repeat (go_big_quiet_step (((go_at_call 40; exact Later.same _ (ramount_any _ _)))))); refine wpQuiet_nil ?_; rintro _ ⟨dq, rfl⟩
          have hbe := bel hb dq.below
          go_wp2_with fail
          go_roundw
          case rel => exact ⟨k + 1, by omega, upto_succ HN.out HE.out, by go_num, hbe⟩
          case measure => simp [intOf]; omega
      · have HE : Hid (ascV b = false) := Lib.hid (allAt_no hlt (asc_no hlt (.inl ⟨h0, ho⟩)))
        have e1 := Ch.wrap_pred k h0 (by omega)
        clear ho h0
        go_wp2_with fail
        refine wp_region_later (by kernel_rfl) (by kernel_rfl) ?_; (repeat (go_big_quiet_step (((go_at_call 40; exact Later.same _ (ramount_any _ _)))))); refine wpQuiet_nil ?_; rintro _ ⟨dq, rfl⟩
        have hbe := bel hb dq.below
        go_wp2_with fail
        go_ret
        exact ⟨by rw [HE.out]; rfl, hbe⟩
    · have HE : Hid (ascV b = true) := Lib.hid (allAt_yes (fun j h => HN.out j (by omega)))
      go_wp2_with fail
      go_ret
      exact ⟨ret_bool (by rw [HE.out]), hb⟩
set_option maxHeartbeats 4000000 in
theorem rbalances_any (l : List Acc) (b : List Bal) (A B : Option Addr) (c1 c2 : Nat) (w : World) (hr : Rd w w.heap.size 4 A l.length (Ch.cells l)) (hq : Rd w w.heap.size 2 B b.length (cellsOf Bal.cells b)) (hn : l.length ≤ 100000) (hn2 : b.length ≤ 100000) :
    Calls Try.prog 39 #[.slice A l.length c1, .slice B b.length c2] w (BoolPost (Ch.balsV l b) w) := by
  have hb := Below.refl w.heap.size w
  have HR := Lib.hid hr
  have HQ := Lib.hid hq
  clear hr hq
  go_enter Try.func39, Try.ntmps39
  go_wp2_with fail
  go_loopw [5] (fun t wr => ∃ k : Nat, k ≤ b.length ∧ (∀ j, j < k → Ch.fnB l (b.getD j Bal.zero).account = true) ∧ t = .int .i64 k ∧ Below w.heap.size w wr) (fun t _ => b.length - (intOf t).toNat)
  case atStart => exact ⟨0, by omega, fun j h => by omega, rfl, hb⟩
  case round =>
    clear hb
    obtain ⟨k, hk, hno, rfl, hb⟩ := hrel
    have HN := Lib.hid hno
    have hz := hb.size
    clear hno
    by_cases hlt : k < b.length
    · obtain ⟨x, o, hB, hbo, f0, f1⟩ := Bal.at_ (HQ.out.below hb (Nat.le_refl _)) hlt
      subst hB
      cases hF : Ch.fnB l b[k].account
      · have HE : Hid (Ch.balsV l b = false) := Lib.hid (allAt_no hlt (by show (Ch.fnB l (b.getD k Bal.zero).account && _) = false; rw [Bal.getD_at b k hlt, hF]; rfl))
        go_wp2_with (go_at_call 14; refine (rfind_gen l b[k].account A c1 _ (Rd.now HR.out hb) hn).mono ?_; rintro e w2 ⟨rfl, hb2⟩; replace hb := bel hb hb2; clear hb2)
        go_ret
        exact ⟨by rw [HE.out]; rfl, (by repeat (first | exact hb | refine Below.alloc ?_ (by have hbs := hb.size; first | omega | (simp; done) | (simp; omega)) _ | refine Below.drew ?_ | refine below_drewN_ ?_ _ | refine Below.setCell ?_ (by simp) _))⟩
      · have HE : Hid (Ch.fnB l (b.getD k Bal.zero).account = true) := Lib.hid (by rw [Bal.getD_at b k hlt, hF])
        go_wp2_with (go_at_call 14; refine (rfind_gen l b[k].account A c1 _ (Rd.now HR.out hb) hn).mono ?_; rintro e w2 ⟨rfl, hb2⟩; replace hb := bel hb hb2; clear hb2)
        go_roundw
        case rel => exact ⟨k + 1, by omega, upto_succ HN.out HE.out, by go_num, (by repeat (first | exact hb | refine Below.alloc ?_ (by have hbs := hb.size; first | omega | (simp; done) | (simp; omega)) _ | refine Below.drew ?_ | refine below_drewN_ ?_ _ | refine Below.setCell ?_ (by simp) _))⟩
        case measure => simp [intOf]; omega
    · have HE : Hid (Ch.balsV l b = ascV b) := Lib.hid (by rw [Ch.bals_eq, allAt_yes (fun j h => HN.out j (by omega))]; rfl)
      go_wp2_with (go_at_call 45; refine (rasc_any b B c2 _ (Rd.now HQ.out hb) hn2).mono ?_; rintro e w2 ⟨rfl, hb2⟩; replace hb := bel hb hb2; clear hb2)
      go_ret
      exact ⟨ret_bool (by rw [HE.out]), hb⟩
end Go.Proofs.Ytjcapeieahffnaa
