/- The walks of the reference's Digits, Text and Parse. -/
import Derived.Test.YtaglhkjfbdafjaaDateWalksH
import Derived.Deep.RegionWith
import Derived.Deep.QuietTactic
import Derived.BigQuiet
namespace Go.Proofs.Ytaglhkjfbdafjaa
open Go.RowKit

def Dt.dgs : Nat → Int → List UInt8
  | 0, _ => []
  | k + 1, n => Dt.dgs k (n / 10) ++ [Dt.chr (n % 10)]
theorem Dt.dgs_len (k : Nat) (n : Int) : (Dt.dgs k n).length = k := by
  induction k generalizing n with
  | zero => rfl
  | succ k ih => unfold Dt.dgs; simp [ih]
theorem Dt.dgs2 (n : Int) (h0 : 0 ≤ n) (h1 : n ≤ 99) : Dt.dgs 2 n = Dt.tx2 n := by
  unfold Dt.dgs Dt.dgs Dt.dgs Dt.tx2
  rw [show n / 10 % 10 = n / 10 from by omega]; rfl
theorem Dt.dgs4 (n : Int) (h0 : 0 ≤ n) (h1 : n ≤ 9999) : Dt.dgs 4 n = Dt.txY n := by
  unfold Dt.dgs Dt.dgs Dt.dgs Dt.dgs Dt.dgs Dt.txY Dt.tx2
  rw [show n / 10 / 10 / 10 % 10 = n / 100 / 10 from by omega, show n / 10 / 10 % 10 = n / 100 % 10 from by omega, show n / 10 % 10 = n % 100 / 10 from by omega, show n % 10 = n % 100 % 10 from by omega]; rfl

set_option maxHeartbeats 1000000 in
theorem digits_any (k : Nat) : ∀ (n i : Int) (w : World), i = k → 0 ≤ n → n ≤ 9999 → k ≤ 4 →
    Calls Try.prog 33 #[.int .i64 n, .int .i64 i] w (TextPost (Dt.dgs k n) w) := by
  induction k with
  | zero =>
    intro n i w hi _ _ _
    obtain rfl : i = 0 := hi
    go_enter Try.func33, Try.ntmps33
    go_wp2_with fail
    go_ret
    exact ⟨rfl, Below.refl _ _⟩
  | succ k ih =>
    intro n i w hi h0 h1 hk
    have i0 : 1 ≤ i := by omega
    have i4 : i ≤ 4 := by omega
    have HI := Lib.hid hi
    have IH := Lib.hid (ih (n / 10))
    clear ih hi
    have hcv : ∀ (W : World) (g : Nat), W.cell? ⟨g, 0, none⟩ = some (.int .u8 (48 + n % 10)) → (convert 41 9 (.slice (some ⟨g, 0, none⟩) 1 1)).run Try.prog W = .ok (.string ⟨#[Dt.chr (n % 10)]⟩) W := by
      intro W g hc
      refine run_convert_bytes_back W 41 9 5 ⟨g, 0, none⟩ 1 [Dt.chr (n % 10)] Try.underlying41 Try.underlying5 Try.underlying9 ?_
      intro j hj
      obtain rfl : j = 0 := by simp at hj; omega
      rw [add_zero_, hc]
      simp only [List.getElem_cons_zero]
      rw [Dt.chr_toNat _ (by omega) (by omega)]
    have hS : Hid (∀ a : ByteArray, a = ⟨(Dt.dgs k (n / 10)).toArray⟩ ++ ⟨#[Dt.chr (n % 10)]⟩ → Ending.returned (.string a) = .returned (.string ⟨(Dt.dgs (k + 1) n).toArray⟩)) := by
      refine Lib.hid (fun a ha => ?_)
      rw [ha, show (⟨#[Dt.chr (n % 10)]⟩ : ByteArray) = ⟨[Dt.chr (n % 10)].toArray⟩ from rfl, ByteArray.mk_append_mk]
      rfl
    have hL : (Dt.dgs k (n / 10)).length ≤ 100 := by rw [Dt.dgs_len]; omega
    have e0 : n.tdiv 10 = n / 10 := Int.tdiv_eq_ediv_of_nonneg h0
    have e1 : n.tmod 10 = n % 10 := Int.tmod_eq_emod_of_nonneg h0
    have e2 : IntKind.i64.wrap (n / 10) = n / 10 := IntWalk.i64_in _ (by omega)
    have e3 : IntKind.i64.wrap (i - 1) = i - 1 := IntWalk.i64_in _ (by omega)
    have e4 : IntKind.i64.wrap (48 + n % 10) = 48 + n % 10 := IntWalk.i64_in _ (by omega)
    have e5 : IntKind.u8.wrap (48 + n % 10) = 48 + n % 10 := IntWalk.u8_in _ (by omega)
    go_enter Try.func33, Try.ntmps33
    go_wp2_with fail
    go_region_with (go_at_call 33; refine (IH.out _ _ (by have := HI.out; omega) (by omega) (by omega) (by omega)).mono ?_; rintro e w1 ⟨rfl, hb1⟩; obtain ⟨hc1, hf1⟩ := bcell hb1)
    all_goals
      go_wp2_with fail
      go_ret
      refine ⟨hS.out _ rfl, ?_⟩
    all_goals first
      | exact (((Below.refl _ w).drew).trans (hb1.mono (by simp))).alloc (by have := hb1.size; simp at this; omega) _
      | exact (((Below.refl _ w).alloc (Nat.le_refl _) _).drew).trans (hb1.mono (by simp))

theorem digits4 (n : Int) (w : World) (h0 : 0 ≤ n) (h1 : n ≤ 9999) : Calls Try.prog 33 #[.int .i64 n, .int .i64 4] w (TextPost (Dt.txY n) w) := by
  rw [← Dt.dgs4 n h0 h1]; exact digits_any 4 n 4 w rfl h0 h1 (by omega)
theorem digits2 (n : Int) (w : World) (h0 : 0 ≤ n) (h1 : n ≤ 99) : Calls Try.prog 33 #[.int .i64 n, .int .i64 2] w (TextPost (Dt.tx2 n) w) := by
  rw [← Dt.dgs2 n h0 h1]; exact digits_any 2 n 2 w rfl h0 (by omega) (by omega)

set_option maxHeartbeats 1000000 in
theorem rtext_any (n : Int) (w : World) : Calls Try.prog 26 #[.int .i64 n] w (TextPost (Dt.txV n) w) := by
  cases hD : Dt.isD n
  · have HT : Hid (Dt.txV n = []) := Lib.hid (by unfold Dt.txV; rw [hD]; rfl)
    have HE : Hid (Dt.cvE n = 2) := Lib.hid (by unfold Dt.cvE; rw [hD]; rfl)
    clear hD
    go_enter Try.func26, Try.ntmps26
    go_wp2_with (go_at_call 17; refine (rcivil_any _ _).mono ?_; rw [HE.out]; rintro e w2 ⟨rfl, rfl⟩)
    go_ret
    exact ⟨by rw [HT.out]; rfl, Below.refl _ _⟩
  · have HT : Hid (Dt.txV n = Dt.tx (Dt.cY n) (Dt.cM n) (Dt.cD n)) := Lib.hid (by unfold Dt.txV; rw [hD]; rfl)
    obtain ⟨c1, c2, c3, c4, c5, c6, c7⟩ := Dt.cY_bd n hD
    obtain ⟨r1, r2⟩ := (Dt.isD_iff n).1 hD
    have l1 : (Dt.txY (Dt.cY n)).length ≤ 4 := Nat.le_refl 4
    have l2 : (Dt.tx2 (Dt.cM n)).length ≤ 2 := Nat.le_refl 2
    have l3 : (Dt.tx2 (Dt.cD n)).length ≤ 2 := Nat.le_refl 2
    clear hD c6
    have hS : Hid (∀ a : ByteArray, a = (⟨(Dt.txY (Dt.cY n)).toArray⟩ ++ ⟨#[45]⟩ ++ ⟨(Dt.tx2 (Dt.cM n)).toArray⟩ ++ ⟨#[45]⟩ ++ ⟨(Dt.tx2 (Dt.cD n)).toArray⟩ : ByteArray) → Ending.returned (.string a) = .returned (.string ⟨(Dt.tx (Dt.cY n) (Dt.cM n) (Dt.cD n)).toArray⟩)) := by
      refine Lib.hid (fun a ha => ?_)
      rw [ha, show (⟨#[45]⟩ : ByteArray) = ⟨[45].toArray⟩ from rfl, ByteArray.mk_append_mk, ByteArray.mk_append_mk, ByteArray.mk_append_mk, ByteArray.mk_append_mk]
      rfl
    have hb := Below.refl w.heap.size w
    go_enter Try.func26, Try.ntmps26
    go_wp2_with (go_at_call 17; refine (rcivil_yes _ _ r1 r2).mono ?_; rintro e w2 ⟨rfl, rfl⟩)
    refine (digits4 _ _ (by omega) (by omega)).mono ?_; rintro e w2 ⟨rfl, hb2⟩; replace hb := bel hb hb2; clear hb2
    go_wp2_with fail
    refine (digits2 _ _ (by omega) (by omega)).mono ?_; rintro e w2 ⟨rfl, hb2⟩; replace hb := bel hb hb2; clear hb2
    go_wp2_with fail
    refine (digits2 _ _ (by omega) (by omega)).mono ?_; rintro e w2 ⟨rfl, hb2⟩; replace hb := bel hb hb2; clear hb2
    go_wp2_with fail
    go_ret
    exact ⟨by rw [HT.out]; exact hS.out _ rfl, hb⟩

theorem rnumber_val (s : ByteArray) (a b : Nat) (x : Int) (w : World) (hab : b - a ≤ 10) (hx : Hid (Dt.rnV ((s.data.toList.drop a).take (b - a)) = x)) :
    Calls Try.prog 34 #[.string (s.extract a b)] w fun e w' => e = .returned (.int .i64 x) ∧ w' = w := by
  have := rnumber_any (s.extract a b) w (cut_size s a b hab)
  rw [cut_list, hx.out] at this
  exact this.mono fun _ _ h => ⟨h.1, h.2.symm⟩
theorem Dt.rn_bd (l : List UInt8) (h : l.length ≤ 10) (A : Bool) (hA : Dt.okd l = A) (x : Int) (hx : Dt.rnV l = x) : x ≤ 9999999999 ∧ (A = true → 0 ≤ x ∧ Dt.nmV l = x) ∧ (A = false → x < 0) := by
  cases A
  · rw [Dt.rnV_no _ hA] at hx; subst hx; simp
  · rw [Dt.rnV_yes _ hA] at hx
    subst hx
    have := Dt.numv_le l h hA
    rw [Dt.nmV_yes _ hA]
    exact ⟨by omega, fun _ => ⟨by omega, rfl⟩, fun h => by cases h⟩

set_option maxHeartbeats 2000000 in
theorem rparse_any (s : ByteArray) (w : World) (hm : s.size ≤ 9223372036854775807) :
    Calls Try.prog 27 #[.string s] w fun e w' => e = .returned (.tuple #[.int .i64 (Dt.prV s.data.toList), .int .i64 (Dt.prE s.data.toList)]) ∧ Below w.heap.size w w' := by
  by_cases hl : s.size = 10
  · have g4 : 4 < s.size := by omega
    have g7 : 7 < s.size := by omega
    have t10 : ((s.size : Int) != 10) = false := by simp; omega
    by_cases c4 : s[4] = 45
    · have t4 : ((s[4].toNat : Int) != 45) = false := by rw [c4]; rfl
      by_cases c7 : s[7] = 45
      · have t7 : ((s[7].toNat : Int) != 45) = false := by rw [c7]; rfl
        have K := fun A B C => Dt.pr_abc s hl c4 c7 A B C
        have n1 := Dt.rn_bd (s.data.toList.take 4) (by simp; omega)
        have n2 := Dt.rn_bd ((s.data.toList.drop 5).take 2) (by simp; omega)
        have n3 := Dt.rn_bd (s.data.toList.drop 8) (by simp; omega)
        generalize e1 : s.data.toList.take 4 = l1 at K n1
        generalize e2 : (s.data.toList.drop 5).take 2 = l2 at K n2
        generalize e3 : s.data.toList.drop 8 = l3 at K n3
        obtain ⟨x1, hx1⟩ : ∃ x, Dt.rnV l1 = x := ⟨_, rfl⟩
        obtain ⟨x2, hx2⟩ : ∃ x, Dt.rnV l2 = x := ⟨_, rfl⟩
        obtain ⟨x3, hx3⟩ : ∃ x, Dt.rnV l3 = x := ⟨_, rfl⟩
        generalize hA : Dt.okd l1 = A at *
        generalize hB : Dt.okd l2 = B at *
        generalize hC : Dt.okd l3 = C at *
        obtain ⟨n11, n12, n13⟩ := n1 A rfl x1 hx1
        obtain ⟨n21, n22, n23⟩ := n2 B rfl x2 hx2
        obtain ⟨n31, n32, n33⟩ := n3 C rfl x3 hx3
        have HK := Lib.hid (K A B C rfl rfl rfl)
        have HX1 : Hid (Dt.rnV ((s.data.toList.drop 0).take (4 - 0)) = x1) := Lib.hid (by rw [← hx1, ← e1]; rfl)
        have HX2 : Hid (Dt.rnV ((s.data.toList.drop 5).take (7 - 5)) = x2) := Lib.hid (by rw [← hx2, ← e2])
        have HX3 : Hid (Dt.rnV ((s.data.toList.drop 8).take (s.size - 8)) = x3) := Lib.hid (by rw [← hx3, ← e3, List.take_of_length_le (by simp)])
        have h8 : s.size - 8 ≤ 10 := by omega
        have s10 : 10 ≤ s.size := by omega
        clear K hA hB hC c4 c7 hl e1 e2 e3 hx1 hx2 hx3 n1 n2 n3
        cases A <;> cases B <;> cases C
        all_goals
          have m1 := Lib.hid n12
          have m2 := Lib.hid n22
          have m3 := Lib.hid n32
          try have p1 := n13 rfl
          try have p2 := n23 rfl
          try have p3 := n33 rfl
          try have q1 := (n12 rfl).1
          try have q2 := (n22 rfl).1
          try have q3 := (n32 rfl).1
          clear n12 n13 n22 n23 n32 n33
          go_enter Try.func27, Try.ntmps27
          go_wp2_with fail
          go_quiet ((go_at_call 34; first | with_reducible exact Calls.quiet_of_same (rnumber_val s 0 4 x1 _ (by omega) HX1) | with_reducible exact Calls.quiet_of_same (rnumber_val s 5 7 x2 _ (by omega) HX2) | with_reducible exact Calls.quiet_of_same (rnumber_val s 8 s.size x3 _ h8 HX3)))
          go_wp2_with (go_at_call 13; refine (rof_any _ _ _ _).mono ?_; rintro e w2 ⟨rfl, rfl⟩)
          go_ret2
        all_goals first
          | exact ⟨by rw [(HK.out.1 rfl).1, (HK.out.1 rfl).2]; rfl, below_drewN_ (Below.refl _ _) _⟩
          | exact ⟨by rw [(HK.out.2 rfl).1, (HK.out.2 rfl).2, (m1.out (by simp)).2, (m2.out (by simp)).2, (m3.out (by simp)).2]; rfl, below_drewN_ (Below.refl _ _) _⟩
      · have t7 : ((s[7].toNat : Int) != 45) = true := by
          rw [bne_iff_ne]; intro h; exact c7 (UInt8.toNat_inj.1 (by show s[7].toNat = 45; omega))
        have HV := Lib.hid (Dt.not7 s g7 c7)
        clear hl c4 c7
        go_enter Try.func27, Try.ntmps27
        go_wp2_with fail
        go_ret2
        exact ⟨by rw [HV.out.1, HV.out.2]; rfl, Below.refl _ _⟩
    · have t4 : ((s[4].toNat : Int) != 45) = true := by
        rw [bne_iff_ne]; intro h; exact c4 (UInt8.toNat_inj.1 (by show s[4].toNat = 45; omega))
      have HV := Lib.hid (Dt.not4 s g4 c4)
      clear hl c4
      go_enter Try.func27, Try.ntmps27
      go_wp2_with fail
      go_ret2
      exact ⟨by rw [HV.out.1, HV.out.2]; rfl, Below.refl _ _⟩
  · have HV := Lib.hid (Dt.notL s.data.toList (by simpa using hl))
    have h10 : ((s.size : Int) != 10) = true := by simp; omega
    clear hl
    go_enter Try.func27, Try.ntmps27
    go_wp2_with fail
    go_ret2
    exact ⟨by rw [HV.out.1, HV.out.2]; rfl, Below.refl _ _⟩
end Go.Proofs.Ytaglhkjfbdafjaa
