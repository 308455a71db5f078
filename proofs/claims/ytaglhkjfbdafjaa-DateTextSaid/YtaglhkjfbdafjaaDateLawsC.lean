/- The walks of the laws DateText, DateParse and DateOrder. -/
import Derived.Test.YtaglhkjfbdafjaaDateWalksI
import Derived.Test.YtaglhkjfbdafjaaDateOrd
namespace Go.Proofs.Ytaglhkjfbdafjaa
open Go.RowKit

theorem text_is (n : Int) (l : List UInt8) (w : World) (h : Hid (Dt.txV n = l)) : Calls Try.prog 24 #[.int .i64 n] w fun e w' => e = .returned (.string ⟨l.toArray⟩) ∧ Below w.heap.size w w' := by
  have := text_any n w
  rw [h.out] at this
  exact this
theorem rtext_is (n : Int) (l : List UInt8) (w : World) (h : Hid (Dt.txV n = l)) : Calls Try.prog 26 #[.int .i64 n] w fun e w' => e = .returned (.string ⟨l.toArray⟩) ∧ Below w.heap.size w w' := by
  have := rtext_any n w
  rw [h.out] at this
  exact this
theorem parse_is (s : ByteArray) (a e : Int) (w : World) (hm : s.size ≤ 9223372036854775807) (h1 : Hid (Dt.prV s.data.toList = a)) (h2 : Hid (Dt.prE s.data.toList = e)) :
    Calls Try.prog 25 #[.string s] w fun r w' => r = .returned (.tuple #[.int .i64 a, .int .i64 e]) ∧ Below w.heap.size w w' := by
  have := parse_any s w hm
  rw [h1.out, h2.out] at this
  exact this
theorem rparse_is (s : ByteArray) (a e : Int) (w : World) (hm : s.size ≤ 9223372036854775807) (h1 : Hid (Dt.prV s.data.toList = a)) (h2 : Hid (Dt.prE s.data.toList = e)) :
    Calls Try.prog 27 #[.string s] w fun r w' => r = .returned (.tuple #[.int .i64 a, .int .i64 e]) ∧ Below w.heap.size w w' := by
  have := rparse_any s w hm
  rw [h1.out, h2.out] at this
  exact this

set_option maxHeartbeats 1000000 in
theorem law_DateText (n : Int) (w : World) :
    Calls Try.prog 8 #[.int .i64 n] w fun e w' => e = .returned (.bool true) ∧ Below w.heap.size w w' := by
  cases hD : Dt.isD n
  · have HT : Hid (Dt.txV n = []) := Lib.hid (by unfold Dt.txV; rw [hD]; rfl)
    have HD := Lib.hid hD
    have P1 : Hid (Dt.prV (⟨([] : List UInt8).toArray⟩ : ByteArray).data.toList = 0) := Lib.hid Dt.pr_nil.1
    have P2 : Hid (Dt.prE (⟨([] : List UInt8).toArray⟩ : ByteArray).data.toList = 3) := Lib.hid Dt.pr_nil.2
    clear hD
    have hb := Below.refl w.heap.size w
    go_enter Try.func8, Try.ntmps8
    go_wp2_with ((go_at_call 11; refine (awake_any _).mono ?_; rintro e w2 ⟨rfl, hb2⟩; replace hb := bel hb hb2; clear hb2))
    refine (text_is n [] _ HT).mono ?_; rintro e w2 ⟨rfl, hb2⟩; replace hb := bel hb hb2; clear hb2
    go_wp2_with fail
    refine (parse_is ⟨([] : List UInt8).toArray⟩ _ _ _ (by decide) P1 P2).mono ?_; rintro e w2 ⟨rfl, hb2⟩; replace hb := bel hb hb2; clear hb2
    go_wp2_with ((go_at_call 19; refine (risd_is _ _ _ HD).mono ?_; rintro e w2 ⟨rfl, rfl⟩))
    go_ret
    exact ⟨rfl, hb⟩
  · obtain ⟨l, HT⟩ : ∃ l, Hid (Dt.txV n = l) := ⟨_, Lib.hid rfl⟩
    have HD := Lib.hid hD
    have pr := Dt.pr_txV n hD
    have hlen : (Dt.txV n).length = 10 := by unfold Dt.txV; rw [hD]; rfl
    rw [HT.out] at pr hlen
    have P1 : Hid (Dt.prV (⟨l.toArray⟩ : ByteArray).data.toList = n) := Lib.hid pr.1
    have P2 : Hid (Dt.prE (⟨l.toArray⟩ : ByteArray).data.toList = 0) := Lib.hid pr.2
    have hsz : (⟨l.toArray⟩ : ByteArray).size ≤ 9223372036854775807 := by show l.toArray.size ≤ _; simp; omega
    have HZ := Lib.hid hsz
    clear hD pr hlen hsz
    have hb := Below.refl w.heap.size w
    go_enter Try.func8, Try.ntmps8
    go_wp2_with ((go_at_call 11; refine (awake_any _).mono ?_; rintro e w2 ⟨rfl, hb2⟩; replace hb := bel hb hb2; clear hb2))
    refine (text_is n l _ HT).mono ?_; rintro e w2 ⟨rfl, hb2⟩; replace hb := bel hb hb2; clear hb2
    go_wp2_with fail
    refine (parse_is ⟨l.toArray⟩ _ _ _ HZ.out P1 P2).mono ?_; rintro e w2 ⟨rfl, hb2⟩; replace hb := bel hb hb2; clear hb2
    go_wp2_with ((go_at_call 19; refine (risd_is _ _ _ HD).mono ?_; rintro e w2 ⟨rfl, rfl⟩))
    refine (rtext_is n l _ HT).mono ?_; rintro e w2 ⟨rfl, hb2⟩; replace hb := bel hb hb2; clear hb2
    go_wp2_with fail
    go_ret
    exact ⟨rfl, hb⟩

set_option maxHeartbeats 1000000 in
theorem law_DateParse (s : ByteArray) (w : World) (hm : s.size ≤ 9223372036854775807) :
    Calls Try.prog 9 #[.string s] w fun e w' => e = .returned (.bool true) ∧ Below w.heap.size w w' := by
  by_cases h40 : 40 < s.size
  · have hb := Below.refl w.heap.size w
    go_enter Try.func9, Try.ntmps9
    go_wp2_with ((go_at_call 11; refine (awake_any _).mono ?_; rintro e w2 ⟨rfl, hb2⟩; replace hb := bel hb hb2; clear hb2))
    go_ret
    exact ⟨rfl, hb⟩
  · by_cases h0 : Dt.prE s.data.toList = 0
    · obtain ⟨hD, hT⟩ := Dt.tx_pr s.data.toList h0
      obtain ⟨a, P1⟩ : ∃ a, Hid (Dt.prV s.data.toList = a) := ⟨_, Lib.hid rfl⟩
      have P2 := Lib.hid h0
      rw [P1.out] at hT
      have HT : Hid (Dt.txV a = s.data.toList) := Lib.hid hT
      clear hT hD h0
      have hb := Below.refl w.heap.size w
      go_enter Try.func9, Try.ntmps9
      go_wp2_with ((go_at_call 11; refine (awake_any _).mono ?_; rintro e w2 ⟨rfl, hb2⟩; replace hb := bel hb hb2; clear hb2))
      refine (parse_is s _ _ _ hm P1 P2).mono ?_; rintro e w2 ⟨rfl, hb2⟩; replace hb := bel hb hb2; clear hb2
      go_wp2_with fail
      refine (rparse_is s _ _ _ hm P1 P2).mono ?_; rintro e w2 ⟨rfl, hb2⟩; replace hb := bel hb hb2; clear hb2
      go_wp2_with fail
      refine (text_is a _ _ HT).mono ?_; rintro e w2 ⟨rfl, hb2⟩; replace hb := bel hb hb2; clear hb2
      go_wp2_with fail
      go_ret
      exact ⟨rfl, hb⟩
    · have P1 := Lib.hid (Dt.isD_prV s.data.toList h0)
      obtain ⟨x, P2⟩ : ∃ x, Hid (Dt.prE s.data.toList = x) := ⟨_, Lib.hid rfl⟩
      have hx : (x != 0) = true := by rw [bne_iff_ne, ← P2.out]; exact h0
      clear h0
      have hb := Below.refl w.heap.size w
      go_enter Try.func9, Try.ntmps9
      go_wp2_with ((go_at_call 11; refine (awake_any _).mono ?_; rintro e w2 ⟨rfl, hb2⟩; replace hb := bel hb hb2; clear hb2))
      refine (parse_is s _ _ _ hm P1 P2).mono ?_; rintro e w2 ⟨rfl, hb2⟩; replace hb := bel hb hb2; clear hb2
      go_wp2_with fail
      refine (rparse_is s _ _ _ hm P1 P2).mono ?_; rintro e w2 ⟨rfl, hb2⟩; replace hb := bel hb hb2; clear hb2
      go_wp2_with fail
      go_ret
      exact ⟨rfl, hb⟩

set_option maxHeartbeats 1000000 in
theorem law_DateOrder (a b : Int) (w : World) :
    Calls Try.prog 10 #[.int .i64 a, .int .i64 b] w fun e w' => e = .returned (.bool true) ∧ Below w.heap.size w w' := by
  cases hA : Dt.isD a
  · have HA := Lib.hid hA
    clear hA
    have hb := Below.refl w.heap.size w
    go_enter Try.func10, Try.ntmps10
    go_wp2_with (first | (go_at_call 11; refine (awake_any _).mono ?_; rintro e w2 ⟨rfl, hb2⟩; replace hb := bel hb hb2; clear hb2) | (go_at_call 19; refine (risd_is _ _ _ HA).mono ?_; rintro e w2 ⟨rfl, rfl⟩))
    go_ret
    exact ⟨rfl, hb⟩
  · cases hB : Dt.isD b
    · have HA := Lib.hid hA
      have HB := Lib.hid hB
      clear hA hB
      have hb := Below.refl w.heap.size w
      go_enter Try.func10, Try.ntmps10
      go_wp2_with ((go_at_call 11; refine (awake_any _).mono ?_; rintro e w2 ⟨rfl, hb2⟩; replace hb := bel hb hb2; clear hb2))
      refine (risd_is a _ _ HA).mono ?_; rintro e w2 ⟨rfl, rfl⟩
      go_wp2_with fail
      refine (risd_is b _ _ HB).mono ?_; rintro e w2 ⟨rfl, rfl⟩
      go_wp2_with ((go_at_call 11; refine (awake_any _).mono ?_; rintro e w2 ⟨rfl, hb2⟩; replace hb := bel hb hb2; clear hb2))
      go_ret
      exact ⟨rfl, hb⟩
    · have ho := Dt.bl_txV a b hA hB
      have HA := Lib.hid hA
      have HB := Lib.hid hB
      obtain ⟨x, HX⟩ : ∃ l, Hid (Dt.txV a = l) := ⟨_, Lib.hid rfl⟩
      obtain ⟨y, HY⟩ : ∃ l, Hid (Dt.txV b = l) := ⟨_, Lib.hid rfl⟩
      rw [HX.out, HY.out] at ho
      clear hA hB
      have hb := Below.refl w.heap.size w
      go_enter Try.func10, Try.ntmps10
      go_wp2_with ((go_at_call 11; refine (awake_any _).mono ?_; rintro e w2 ⟨rfl, hb2⟩; replace hb := bel hb hb2; clear hb2))
      refine (risd_is a _ _ HA).mono ?_; rintro e w2 ⟨rfl, rfl⟩
      go_wp2_with fail
      refine (risd_is b _ _ HB).mono ?_; rintro e w2 ⟨rfl, rfl⟩
      go_wp2_with fail
      refine (text_is a _ _ HX).mono ?_; rintro e w2 ⟨rfl, hb2⟩; replace hb := bel hb hb2; clear hb2
      go_wp2_with fail
      refine (text_is b _ _ HY).mono ?_; rintro e w2 ⟨rfl, hb2⟩; replace hb := bel hb hb2; clear hb2
      go_wp2_with fail
      go_ret
      exact ⟨rfl, hb⟩
end Go.Proofs.Ytaglhkjfbdafjaa
