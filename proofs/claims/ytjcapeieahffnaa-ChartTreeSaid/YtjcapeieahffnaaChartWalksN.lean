/- The walks of Of, Same and Add. -/
import Derived.Test.YtjcapeieahffnaaChartWalksM
import Derived.Test.YtjcapeieahffnaaChartMathF
import Derived.Laws.StructEq
namespace Go.Proofs.Ytjcapeieahffnaa
set_option linter.unusedVariables false
set_option linter.unusedSimpArgs false
open Go.RowKit

set_option maxHeartbeats 1000000 in
theorem of_any (b : List Bal) (c : Int) (B : Option Addr) (c2 : Nat) (w : World) (hq : Rd w w.heap.size 2 B b.length (cellsOf Bal.cells b)) (hn2 : b.length ≤ 100000) :
    Calls Try.prog 29 #[.slice B b.length c2, .int .i64 c] w (fun e w' => e = .returned (.int .i64 (ofW b c)) ∧ w = w') := by
  have HQ := Lib.hid hq
  clear hq
  go_enter Try.func29, Try.ntmps29
  go_wp2_with fail
  go_loopw [5, 6] (fun s t wr => ∃ k : Nat, k ≤ b.length ∧ s = .int .i64 (ofW (b.take k) c) ∧ t = .int .i64 k ∧ w = wr) (fun _ t _ => b.length - (intOf t).toNat)
  case atStart => exact ⟨0, by omega, rfl, rfl, rfl⟩
  case round =>
    obtain ⟨k, hk, rfl, rfl, rfl⟩ := hrel
    by_cases hlt : k < b.length
    · obtain ⟨x, o, hB, hbo, f0, f1⟩ := Bal.at_ HQ.out hlt
      subst hB
      have HK := Lib.hid (ofW_take b k hlt c)
      by_cases hc : b[k].account = c
      · have hc' : (b[k].account == c) = true := by simpa using hc
        have HE : Hid (ofW (b.take (k + 1)) c = wrap64 (ofW (b.take k) c + b[k].amount)) := Lib.hid (by rw [HK.out, if_pos hc])
        clear hc HK
        go_wp2_with fail
        go_roundw
        case rel => exact ⟨k + 1, by omega, by rw [HE.out], by go_num, trivial⟩
        case measure => simp [intOf]; omega
      · have hc' : (b[k].account == c) = false := by simpa using hc
        have HE : Hid (ofW (b.take (k + 1)) c = ofW (b.take k) c) := Lib.hid (by rw [HK.out, if_neg hc])
        clear hc HK
        go_wp2_with fail
        go_roundw
        case rel => exact ⟨k + 1, by omega, by rw [HE.out], by go_num, trivial⟩
        case measure => simp [intOf]; omega
    · have HE : Hid (b.take k = b) := Lib.hid (List.take_of_length_le (by omega))
      go_wp2_with fail
      go_ret
      exact ⟨by rw [HE.out]; rfl, rfl⟩
set_option maxHeartbeats 1000000 in
theorem sameb_yes (b : List Bal) (A B : Option Addr) (c1 c2 : Nat) (w : World) (hr : Rd w w.heap.size 2 A b.length (cellsOf Bal.cells b)) (hq : Rd w w.heap.size 2 B b.length (cellsOf Bal.cells b)) (hn2 : b.length ≤ 100000) :
    Calls Try.prog 25 #[.slice A b.length c1, .slice B b.length c2] w (BoolPost true w) := by
  have hb := Below.refl w.heap.size w
  have HR := Lib.hid hr
  have HQ := Lib.hid hq
  clear hr hq
  go_enter Try.func25, Try.ntmps25
  go_wp2_with fail
  go_loopw [5] (fun t wr => ∃ k : Nat, k ≤ b.length ∧ t = .int .i64 k ∧ Below w.heap.size w wr) (fun t _ => b.length - (intOf t).toNat)
  case atStart => exact ⟨0, by omega, rfl, hb⟩
  case round =>
    clear hb
    obtain ⟨k, hk, rfl, hb⟩ := hrel
    by_cases hlt : k < b.length
    · obtain ⟨x, o, hA, hbo, f0, f1⟩ := Bal.at_ (Rd.now HR.out hb) hlt
      obtain ⟨y, p, hB, hbp, g0, g1⟩ := Bal.at_ (Rd.now HQ.out hb) hlt
      subst hA hB
      have q0 : ∀ d : Later wr, d.now.cell? ⟨x, o + k * 2, none⟩ = some (.int .i64 b[k].account) := fun d => d.cell hbo f0
      have q1 : ∀ d : Later wr, d.now.cell? ⟨x, o + k * 2 + 1, none⟩ = some (.int .i64 b[k].amount) := fun d => d.cell hbo f1
      have q2 : ∀ d : Later wr, d.now.cell? ⟨y, p + k * 2, none⟩ = some (.int .i64 b[k].account) := fun d => d.cell hbp g0
      have q3 : ∀ d : Later wr, d.now.cell? ⟨y, p + k * 2 + 1, none⟩ = some (.int .i64 b[k].amount) := fun d => d.cell hbp g1
      clear f0 f1 g0 g1
      go_wp2_with fail
      refine wp_region_later (by kernel_rfl) (by kernel_rfl) ?_; (repeat (go_big_quiet_step ((fail)))); refine wpQuiet_nil ?_; rintro _ ⟨dq, rfl⟩
      have hbe := bel hb dq.below
      go_wp2_with fail
      go_roundw
      case rel => exact ⟨k + 1, by omega, by go_num, hbe⟩
      case measure => simp [intOf]; omega
    · go_wp2_with fail
      go_ret
      exact ⟨rfl, hb⟩

def OwnBals (base : Nat) (L : List Bal) (w : World) (e : Ending) (w' : World) : Prop :=
  ∃ v, e = .returned v ∧ w'.ownsRow base 45 2 v L.length (cellsOf Bal.cells L) ∧ Below w.heap.size w w'
set_option maxHeartbeats 1000000 in
theorem add_any (l : List Acc) (a b : List Bal) (A B C : Option Addr) (c1 c2 c3 : Nat) (w : World) (hr : Rd w w.heap.size 4 A l.length (Ch.cells l)) (ha : Rd w w.heap.size 2 B a.length (cellsOf Bal.cells a)) (hq : Rd w w.heap.size 2 C b.length (cellsOf Bal.cells b))
    (hn : l.length ≤ 100000) (hn1 : a.length ≤ 100000) (hn2 : b.length ≤ 100000) :
    Calls Try.prog 26 #[.slice A l.length c1, .slice B a.length c2, .slice C b.length c3] w (OwnBals w.heap.size (Ch.addL l a b l) w) := by
  have hb := Below.refl w.heap.size w
  have HR := Lib.hid hr
  have HA := Lib.hid ha
  have HQ := Lib.hid hq
  obtain ⟨i0, hi, hz0, hz1, hz2⟩ := info_parts bal_info
  clear hr ha hq
  go_enter Try.func26, Try.ntmps26
  go_wp2_with fail
  go_loopw [7, 8] (fun v t wr => ∃ i : Nat, i ≤ l.length ∧ t = .int .i64 i ∧ wr.ownsRow w.heap.size 45 2 v (Ch.addL l a b (l.take i)).length (cellsOf Bal.cells (Ch.addL l a b (l.take i))) ∧ Below w.heap.size w wr) (fun _ t _ => l.length - (intOf t).toNat)
  case atStart => exact ⟨0, by omega, rfl, World.ownsRow_nil _ _ _ _, hb⟩
  case round =>
    clear hb
    obtain ⟨k, hk, rfl, ho, hb⟩ := hrel
    have hz := hb.size
    by_cases hlt : k < l.length
    · obtain ⟨x, o, hA, hbo, f0, f1, f2, f3⟩ := Ch.at_ (Rd.now HR.out hb) hlt
      subst hA
      have q0 : ∀ d : Later wr, d.now.cell? ⟨x, o + k * 4, none⟩ = some (.int .i64 l[k].code) := fun d => d.cell hbo f0
      have HK := Lib.hid (Ch.pickL_take (fun c => wrap64 (ofW a c + ofW b c)) l k hlt)
      have hul := Ch.pickL_len (fun c => wrap64 (ofW a c + ofW b c)) (l.take k)
      rw [List.length_take] at hul
      have HF := Lib.hid f0
      clear f0 f1 f2 f3
      by_cases h0 : wrap64 (ofW a l[k].code + ofW b l[k].code) = 0
      · have hd : (wrap64 (ofW a l[k].code + ofW b l[k].code) != 0) = false := by simp [h0]
        have HE2 : Hid (Ch.addL l a b (l.take (k + 1)) = Ch.addL l a b (l.take k)) := Lib.hid (by unfold Ch.addL; rw [HK.out, if_pos h0])
        clear h0 HK
        go_wp2_with fail
        refine wp_region_later (by kernel_rfl) (by kernel_rfl) ?_; (repeat (go_big_quiet_step (((first | (go_at_call 29; with_reducible exact Later.same _ (of_any a l[k].code B c2 _ (Rd.now HA.out (bel hb (Later.below _))) hn1)) | (go_at_call 29; with_reducible exact Later.same _ (of_any b l[k].code C c3 _ (Rd.now HQ.out (bel hb (Later.below _))) hn2))))))); refine wpQuiet_nil ?_; rintro _ ⟨dq, rfl⟩
        have hbe := bel hb dq.below
        have hoe := own_step ho dq.below
        go_wp2_with fail
        go_roundw
        case rel => exact ⟨k + 1, by omega, by go_num, by rw [HE2.out]; exact hoe, hbe⟩
        case measure => simp [intOf]; omega
      · have hd : (wrap64 (ofW a l[k].code + ofW b l[k].code) != 0) = true := by simp [h0]
        have HE2 : Hid (Ch.addL l a b (l.take (k + 1)) = Ch.addL l a b (l.take k) ++ [⟨l[k].code, wrap64 (ofW a l[k].code + ofW b l[k].code)⟩]) := Lib.hid (by unfold Ch.addL; rw [HK.out, if_neg h0])
        clear h0 HK
        go_wp2_with fail
        refine wp_region_later (by kernel_rfl) (by kernel_rfl) ?_; (repeat (go_big_quiet_step (((first | (go_at_call 29; with_reducible exact Later.same _ (of_any a l[k].code B c2 _ (Rd.now HA.out (bel hb (Later.below _))) hn1)) | (go_at_call 29; with_reducible exact Later.same _ (of_any b l[k].code C c3 _ (Rd.now HQ.out (bel hb (Later.below _))) hn2))))))); refine wpQuiet_nil ?_; rintro _ ⟨dq, rfl⟩
        have hbe := bel hb dq.below
        have hoe := own_step ho dq.below
        have hze := hbe.size
        have hul2 : (Ch.addL l a b (l.take k)).length ≤ 100000 := by unfold Ch.addL; omega
        go_wp2_with (at_builtin; refine wpList_append_rec Bal.cells 2 (fun _ => rfl) Bal.one rfl (.tmp 33) (.tmp 41) 34 rfl w.heap.size 45 i0 (.agg #[.int .i64 0, .int .i64 0]) 16 Try.underlying34 hi hz0 hz1 hz2 rfl (by decide) _ (Ch.addL l a b (l.take k)) rfl (hoe.alloc _) dq.now.heap.size 1 ⟨l[k].code, wrap64 (ofW a l[k].code + ofW b l[k].code)⟩ _ rfl (Blk.new dq.now _ _) rfl ?c3 ?c4 ?c5 ?_)
        case c3 => simp only [maxLen]; omega
        case c4 => omega
        case c5 => simp; omega
        intro v4 w4 ho4 hg4
        have hb3 : Below w.heap.size w (dq.now.alloc (.cells #[.int .i64 l[k].code, .int .i64 (wrap64 (ofW a l[k].code + ofW b l[k].code))] 45)) := hbe.alloc hze _
        have hb4 := bel_own hb3 (by simp; omega) (hoe.alloc _) hg4
        clear hg4 hb3
        go_wp2_with fail
        go_roundw
        case rel => exact ⟨k + 1, by omega, by go_num, by rw [HE2.out, List.length_append]; exact ho4, hb4⟩
        case measure => simp [intOf]; omega
    · have HE : Hid (l.take k = l) := Lib.hid (List.take_of_length_le (by omega))
      rw [HE.out] at ho
      go_wp2_with fail
      go_ret
      exact ⟨_, rfl, ho, hb⟩
end Go.Proofs.Ytjcapeieahffnaa
