/- The walks of the reference's Digits and Text. -/
import Derived.Test.YtfalmodejpaeaaaDateWalksH
import Derived.Deep.RegionWith
namespace Go.Proofs.Ytfalmodejpaeaaa
open Go.RowKit

def Dt.dgs : Nat → Int → List UInt8
  | 0, _ => []
  | k + 1, n => Dt.dgs k (n / 10) ++ [Dt.chr (n % 10)]
theorem Dt.dgs_len (k : Nat) (n : Int) : (Dt.dgs k n).length = k := by
  induction k generalizing n with
  | zero => rfl
  | succ k ih => unfold Dt.dgs; simp [ih]
theorem Dt.dgs2 (n : Int) (h0 : 0 ≤ n) (h1 : n ≤ 99) : Dt.dgs 2 n = Dt.tx2 n := by
  unfold Dt.dgs Dt.dgs Dt.dgs Dt.tx2
  rw [show n / 10 % 10 = n / 10 from by omega]; rfl
theorem Dt.dgs4 (n : Int) (h0 : 0 ≤ n) (h1 : n ≤ 9999) : Dt.dgs 4 n = Dt.txY n := by
  unfold Dt.dgs Dt.dgs Dt.dgs Dt.dgs Dt.dgs Dt.txY Dt.tx2
  rw [show n / 10 / 10 / 10 % 10 = n / 100 / 10 from by omega, show n / 10 / 10 % 10 = n / 100 % 10 from by omega, show n / 10 % 10 = n % 100 / 10 from by omega, show n % 10 = n % 100 % 10 from by omega]; rfl

set_option maxHeartbeats 1000000 in
theorem digits_any (k : Nat) : ∀ (n i : Int) (w : World), i = k → 0 ≤ n → n ≤ 9999 → k ≤ 4 →
    Calls Try.prog 81 #[.int .i64 n, .int .i64 i] w (TextPost (Dt.dgs k n) w) := by
  induction k with
  | zero =>
    intro n i w hi _ _ _
    obtain rfl : i = 0 := hi
    go_enter Try.func81, Try.ntmps81
    go_wp2_with fail
    go_ret
    exact ⟨rfl, Below.refl _ _⟩
  | succ k ih =>
    intro n i w hi h0 h1 hk
    have i0 : 1 ≤ i := by omega
    have i4 : i ≤ 4 := by omega
    have HI := Lib.hid hi
    have IH := Lib.hid (ih (n / 10))
    clear ih hi
    have hcv : ∀ (W : World) (g : Nat), W.cell? ⟨g, 0, none⟩ = some (.int .u8 (48 + n % 10)) → (convert 63 9 (.slice (some ⟨g, 0, none⟩) 1 1)).run Try.prog W = .ok (.string ⟨#[Dt.chr (n % 10)]⟩) W := by
      intro W g hc
      refine run_convert_bytes_back W 63 9 5 ⟨g, 0, none⟩ 1 [Dt.chr (n % 10)] Try.underlying63 Try.underlying5 Try.underlying9 ?_
      intro j hj
      obtain rfl : j = 0 := by simp at hj; omega
      rw [add_zero_, hc]
      simp only [List.getElem_cons_zero]
      rw [Dt.chr_toNat _ (by omega) (by omega)]
    have hS : Hid (∀ a : ByteArray, a = ⟨(Dt.dgs k (n / 10)).toArray⟩ ++ ⟨#[Dt.chr (n % 10)]⟩ → Ending.returned (.string a) = .returned (.string ⟨(Dt.dgs (k + 1) n).toArray⟩)) := by
      refine Lib.hid (fun a ha => ?_)
      rw [ha, show (⟨#[Dt.chr (n % 10)]⟩ : ByteArray) = ⟨[Dt.chr (n % 10)].toArray⟩ from rfl, ByteArray.mk_append_mk]
      rfl
    have hL : (Dt.dgs k (n / 10)).length ≤ 100 := by rw [Dt.dgs_len]; omega
    have e0 : n.tdiv 10 = n / 10 := Int.tdiv_eq_ediv_of_nonneg h0
    have e1 : n.tmod 10 = n % 10 := Int.tmod_eq_emod_of_nonneg h0
    have e2 : IntKind.i64.wrap (n / 10) = n / 10 := IntWalk.i64_in _ (by omega)
    have e3 : IntKind.i64.wrap (i - 1) = i - 1 := IntWalk.i64_in _ (by omega)
    have e4 : IntKind.i64.wrap (48 + n % 10) = 48 + n % 10 := IntWalk.i64_in _ (by omega)
    have e5 : IntKind.u8.wrap (48 + n % 10) = 48 + n % 10 := IntWalk.u8_in _ (by omega)
    go_enter Try.func81, Try.ntmps81
    go_wp2_with fail
    go_region_with (go_at_call 81; refine (IH.out _ _ (by have := HI.out; omega) (by omega) (by omega) (by omega)).mono ?_; rintro e w1 ⟨rfl, hb1⟩; obtain ⟨hc1, hf1⟩ := bcell hb1)
    all_goals
      go_wp2_with fail
      go_ret
      refine ⟨hS.out _ rfl, ?_⟩
    all_goals first
      | exact (((Below.refl _ w).drew).trans (hb1.mono (by simp))).alloc (by have := hb1.size; simp at this; omega) _
      | exact (((Below.refl _ w).alloc (Nat.le_refl _) _).drew).trans (hb1.mono (by simp))

theorem digits4 (n : Int) (w : World) (h0 : 0 ≤ n) (h1 : n ≤ 9999) : Calls Try.prog 81 #[.int .i64 n, .int .i64 4] w (TextPost (Dt.txY n) w) := by
  rw [← Dt.dgs4 n h0 h1]; exact digits_any 4 n 4 w rfl h0 h1 (by omega)
theorem digits2 (n : Int) (w : World) (h0 : 0 ≤ n) (h1 : n ≤ 99) : Calls Try.prog 81 #[.int .i64 n, .int .i64 2] w (TextPost (Dt.tx2 n) w) := by
  rw [← Dt.dgs2 n h0 h1]; exact digits_any 2 n 2 w rfl h0 (by omega) (by omega)

set_option maxHeartbeats 1000000 in
theorem rtext_any (n : Int) (w : World) : Calls Try.prog 54 #[.int .i64 n] w (TextPost (Dt.txV n) w) := by
  cases hD : Dt.isD n
  · have HT : Hid (Dt.txV n = []) := Lib.hid (by unfold Dt.txV; rw [hD]; rfl)
    have HE : Hid (Dt.cvE n = 2) := Lib.hid (by unfold Dt.cvE; rw [hD]; rfl)
    clear hD
    go_enter Try.func54, Try.ntmps54
    go_wp2_with (go_at_call 30; refine (rcivil_any _ _).mono ?_; rw [HE.out]; rintro e w2 ⟨rfl, rfl⟩)
    go_ret
    exact ⟨by rw [HT.out]; rfl, Below.refl _ _⟩
  · have HT : Hid (Dt.txV n = Dt.tx (Dt.cY n) (Dt.cM n) (Dt.cD n)) := Lib.hid (by unfold Dt.txV; rw [hD]; rfl)
    obtain ⟨c1, c2, c3, c4, c5, c6, c7⟩ := Dt.cY_bd n hD
    obtain ⟨r1, r2⟩ := (Dt.isD_iff n).1 hD
    have l1 : (Dt.txY (Dt.cY n)).length ≤ 4 := Nat.le_refl 4
    have l2 : (Dt.tx2 (Dt.cM n)).length ≤ 2 := Nat.le_refl 2
    have l3 : (Dt.tx2 (Dt.cD n)).length ≤ 2 := Nat.le_refl 2
    clear hD c6
    have hS : Hid (∀ a : ByteArray, a = (⟨(Dt.txY (Dt.cY n)).toArray⟩ ++ ⟨#[45]⟩ ++ ⟨(Dt.tx2 (Dt.cM n)).toArray⟩ ++ ⟨#[45]⟩ ++ ⟨(Dt.tx2 (Dt.cD n)).toArray⟩ : ByteArray) → Ending.returned (.string a) = .returned (.string ⟨(Dt.tx (Dt.cY n) (Dt.cM n) (Dt.cD n)).toArray⟩)) := by
      refine Lib.hid (fun a ha => ?_)
      rw [ha, show (⟨#[45]⟩ : ByteArray) = ⟨[45].toArray⟩ from rfl, ByteArray.mk_append_mk, ByteArray.mk_append_mk, ByteArray.mk_append_mk, ByteArray.mk_append_mk]
      rfl
    have hb := Below.refl w.heap.size w
    go_enter Try.func54, Try.ntmps54
    go_wp2_with (go_at_call 30; refine (rcivil_yes _ _ r1 r2).mono ?_; rintro e w2 ⟨rfl, rfl⟩)
    refine (digits4 _ _ (by omega) (by omega)).mono ?_; rintro e w2 ⟨rfl, hb2⟩; replace hb := bel hb hb2; clear hb2
    go_wp2_with fail
    refine (digits2 _ _ (by omega) (by omega)).mono ?_; rintro e w2 ⟨rfl, hb2⟩; replace hb := bel hb hb2; clear hb2
    go_wp2_with fail
    refine (digits2 _ _ (by omega) (by omega)).mono ?_; rintro e w2 ⟨rfl, hb2⟩; replace hb := bel hb hb2; clear hb2
    go_wp2_with fail
    go_ret
    exact ⟨by rw [HT.out]; exact hS.out _ rfl, hb⟩

end Go.Proofs.Ytfalmodejpaeaaa
