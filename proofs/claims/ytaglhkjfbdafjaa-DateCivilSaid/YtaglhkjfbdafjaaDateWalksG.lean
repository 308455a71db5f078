/- The walks of number and Parse, program's and reference's. -/
import Derived.Test.YtaglhkjfbdafjaaDateWalksF
import Derived.Test.YtaglhkjfbdafjaaDateText
namespace Go.Proofs.Ytaglhkjfbdafjaa
open Go.RowKit

theorem take_snoc (s : ByteArray) (k : Nat) (h : k < s.size) : s.data.toList.take (k + 1) = s.data.toList.take k ++ [s[k]] := by
  rw [List.take_succ_eq_append_getElem (by simpa using h)]; rfl
theorem u8_255 (c : UInt8) : 0 ≤ (c.toNat : Int) ∧ (c.toNat : Int) ≤ 255 := by have := c.toNat_lt; omega

set_option maxHeartbeats 1000000 in
theorem number_any (s : ByteArray) (w : World) (hs : s.size ≤ 10) :
    Calls Try.prog 32 #[.string s] w fun e w' => e = .returned (.tuple #[.int .i64 (Dt.nmV s.data.toList), .bool (Dt.okd s.data.toList)]) ∧ w = w' := by
  go_enter Try.func32, Try.ntmps32
  go_wp2_with fail
  go_loop [4, 8] (fun n i => ∃ k : Nat, k ≤ s.size ∧ i = .int .i64 k ∧ n = .int .i64 (Dt.numv (s.data.toList.take k)) ∧ Dt.okd (s.data.toList.take k) = true) (fun _ i => s.size - (intOf i).toNat)
  case atStart => exact ⟨0, Nat.zero_le _, rfl, rfl, rfl⟩
  case round =>
    obtain ⟨k, hk, rfl, rfl, hok⟩ := hrel
    have hb := Dt.numv_le (s.data.toList.take k) (by simp; omega) hok
    have HO := Lib.hid hok
    clear hok
    by_cases hlt : k < s.size
    · have HS := Lib.hid (take_snoc s k hlt)
      have h255 := u8_255 s[k]
      by_cases h1 : (s[k].toNat : Int) < 48
      · have HF : Hid (Dt.okd s.data.toList = false) := by
          refine Lib.hid ?_
          rw [← Bool.not_eq_true]
          unfold Dt.okd
          rw [List.all_eq_true]
          intro h
          have := h s[k] (by simp [ByteArray.getElem_eq_getElem_data])
          rw [Dt.dg_iff] at this
          omega
        go_wp2_with fail
        go_ret2
        exact ⟨by rw [Dt.nmV_no _ HF.out, HF.out]; rfl, rfl⟩
      · by_cases h2 : 57 < (s[k].toNat : Int)
        · have HF : Hid (Dt.okd s.data.toList = false) := by
            refine Lib.hid ?_
            rw [← Bool.not_eq_true]
            unfold Dt.okd
            rw [List.all_eq_true]
            intro h
            have := h s[k] (by simp [ByteArray.getElem_eq_getElem_data])
            rw [Dt.dg_iff] at this
            omega
          go_wp2_with fail
          go_ret2
          exact ⟨by rw [Dt.nmV_no _ HF.out, HF.out]; rfl, rfl⟩
        · have h3 : 48 ≤ (s[k].toNat : Int) := by omega
          have h4 : (s[k].toNat : Int) ≤ 57 := by omega
          go_wp2_with fail
          go_round
          case rel => exact ⟨k + 1, by omega, by go_num, by rw [HS.out, Dt.numv_snoc], by rw [HS.out, Dt.okd_snoc, HO.out]; simp [Dt.dg]; omega⟩
          case measure => simp [intOf]; omega
    · obtain rfl : k = s.size := by omega
      have HT : Hid (s.data.toList.take s.size = s.data.toList) := Lib.hid (List.take_of_length_le (by simp))
      go_wp2_with fail
      go_ret2
      rw [HT.out] at HO ⊢
      exact ⟨by rw [Dt.nmV_yes _ HO.out, HO.out]; rfl, rfl⟩

set_option maxHeartbeats 1000000 in
theorem rnumber_any (s : ByteArray) (w : World) (hs : s.size ≤ 10) :
    Calls Try.prog 34 #[.string s] w fun e w' => e = .returned (.int .i64 (Dt.rnV s.data.toList)) ∧ w = w' := by
  go_enter Try.func34, Try.ntmps34
  go_wp2_with fail
  go_loop [3, 4] (fun n i => ∃ k : Nat, k ≤ s.size ∧ i = .int .i64 k ∧ n = .int .i64 (Dt.numv (s.data.toList.take k)) ∧ Dt.okd (s.data.toList.take k) = true) (fun _ i => s.size - (intOf i).toNat)
  case atStart => exact ⟨0, Nat.zero_le _, rfl, rfl, rfl⟩
  case round =>
    obtain ⟨k, hk, rfl, rfl, hok⟩ := hrel
    have hb := Dt.numv_le (s.data.toList.take k) (by simp; omega) hok
    have HO := Lib.hid hok
    clear hok
    by_cases hlt : k < s.size
    · have HS := Lib.hid (take_snoc s k hlt)
      have h255 := u8_255 s[k]
      by_cases hd : Dt.dg s[k] = true
      · have h34 := (Dt.dg_iff s[k]).1 hd
        have h3 : 48 ≤ (s[k].toNat : Int) := by omega
        have h4 : (s[k].toNat : Int) ≤ 57 := by omega
        clear h34 hd
        go_wp2_with fail
        go_round
        case rel => exact ⟨k + 1, by omega, by go_num, by rw [HS.out, Dt.numv_snoc], by rw [HS.out, Dt.okd_snoc, HO.out]; simp [Dt.dg]; omega⟩
        case measure => simp [intOf]; omega
      · have HF : Hid (Dt.okd s.data.toList = false) := by
          refine Lib.hid ?_
          rw [← Bool.not_eq_true]
          unfold Dt.okd
          rw [List.all_eq_true]
          intro h
          exact hd (h s[k] (by simp [ByteArray.getElem_eq_getElem_data]))
        have hd' : ¬ (48 ≤ s[k].toNat ∧ s[k].toNat ≤ 57) := by rw [← Dt.dg_iff]; exact hd
        clear hd
        by_cases h1 : (s[k].toNat : Int) < 48
        · clear hd'
          go_wp2_with fail
          go_ret
          exact ⟨by rw [Dt.rnV_no _ HF.out]; rfl, rfl⟩
        · have h2 : 57 < (s[k].toNat : Int) := by omega
          clear hd'
          go_wp2_with fail
          go_ret
          exact ⟨by rw [Dt.rnV_no _ HF.out]; rfl, rfl⟩
    · obtain rfl : k = s.size := by omega
      have HT : Hid (s.data.toList.take s.size = s.data.toList) := Lib.hid (List.take_of_length_le (by simp))
      go_wp2_with fail
      go_ret
      rw [HT.out] at HO ⊢
      exact ⟨by rw [Dt.rnV_yes _ HO.out]; rfl, rfl⟩

theorem cut_list (s : ByteArray) (a b : Nat) : (s.extract a b).data.toList = (s.data.toList.drop a).take (b - a) := by
  rw [ByteArray.data_extract, Array.toList_extract, List.extract_eq_take_drop]
theorem cut_size (s : ByteArray) (a b : Nat) (h : b - a ≤ 10) : (s.extract a b).size ≤ 10 := by
  rw [ByteArray.size_extract]; omega

theorem number_cut (s : ByteArray) (a b : Nat) (A : Bool) (l : List UInt8) (w : World) (hab : b - a ≤ 10) (hl : Hid ((s.data.toList.drop a).take (b - a) = l)) (hA : Hid (Dt.okd l = A)) :
    Calls Try.prog 32 #[.string (s.extract a b)] w fun e w' => e = .returned (.tuple #[.int .i64 (Dt.nmV l), .bool A]) ∧ w = w' := by
  have := number_any (s.extract a b) w (cut_size s a b hab)
  rw [cut_list, hl.out, hA.out] at this
  exact this
theorem rnumber_cut (s : ByteArray) (a b : Nat) (l : List UInt8) (w : World) (hab : b - a ≤ 10) (hl : Hid ((s.data.toList.drop a).take (b - a) = l)) :
    Calls Try.prog 34 #[.string (s.extract a b)] w fun e w' => e = .returned (.int .i64 (Dt.rnV l)) ∧ w = w' := by
  have := rnumber_any (s.extract a b) w (cut_size s a b hab)
  rw [cut_list, hl.out] at this
  exact this
theorem Dt.not4 (s : ByteArray) (h : 4 < s.size) (hc : s[4] ≠ 45) : Dt.prV s.data.toList = 0 ∧ Dt.prE s.data.toList = 3 := by
  have hw : Dt.wellB s.data.toList = false := by
    have : s.data.toList[4]? = some s[4] := by rw [List.getElem?_eq_getElem (by simpa using h)]; rfl
    unfold Dt.wellB; rw [this]; simp [hc]
  unfold Dt.prV Dt.prE
  rw [hw]
  exact ⟨rfl, rfl⟩
theorem Dt.not7 (s : ByteArray) (h : 7 < s.size) (hc : s[7] ≠ 45) : Dt.prV s.data.toList = 0 ∧ Dt.prE s.data.toList = 3 := by
  have hw : Dt.wellB s.data.toList = false := by
    have : s.data.toList[7]? = some s[7] := by rw [List.getElem?_eq_getElem (by simpa using h)]; rfl
    unfold Dt.wellB; rw [this]; simp [hc]
  unfold Dt.prV Dt.prE
  rw [hw]
  exact ⟨rfl, rfl⟩
theorem Dt.notL (l : List UInt8) (h : l.length ≠ 10) : Dt.prV l = 0 ∧ Dt.prE l = 3 := by
  have hw : Dt.wellB l = false := by unfold Dt.wellB; simp [h]
  unfold Dt.prV Dt.prE
  rw [hw]
  exact ⟨rfl, rfl⟩
theorem Dt.pr_well (s : ByteArray) (h : s.size = 10) (h4 : s[4]'(by omega) = 45) (h7 : s[7]'(by omega) = 45) :
    Dt.wellB s.data.toList = (Dt.okd (s.data.toList.take 4) && Dt.okd ((s.data.toList.drop 5).take 2) && Dt.okd (s.data.toList.drop 8)) := by
  have e4 : s.data.toList[4]? = some 45 := by rw [List.getElem?_eq_getElem (by simp; omega)]; exact congrArg some h4
  have e7 : s.data.toList[7]? = some 45 := by rw [List.getElem?_eq_getElem (by simp; omega)]; exact congrArg some h7
  unfold Dt.wellB
  rw [e4, e7]
  simp [h]
theorem Dt.pr_abc (s : ByteArray) (h : s.size = 10) (h4 : s[4]'(by omega) = 45) (h7 : s[7]'(by omega) = 45) (A B C : Bool)
    (hA : Dt.okd (s.data.toList.take 4) = A) (hB : Dt.okd ((s.data.toList.drop 5).take 2) = B) (hC : Dt.okd (s.data.toList.drop 8) = C) :
    ((A && B && C) = false → Dt.prV s.data.toList = 0 ∧ Dt.prE s.data.toList = 3) ∧
    ((A && B && C) = true → Dt.prV s.data.toList = Dt.ofV (Dt.nmV (s.data.toList.take 4)) (Dt.nmV ((s.data.toList.drop 5).take 2)) (Dt.nmV (s.data.toList.drop 8)) ∧
      Dt.prE s.data.toList = Dt.ofE (Dt.nmV (s.data.toList.take 4)) (Dt.nmV ((s.data.toList.drop 5).take 2)) (Dt.nmV (s.data.toList.drop 8))) := by
  have hw := Dt.pr_well s h h4 h7
  rw [hA, hB, hC] at hw
  unfold Dt.prV Dt.prE
  rw [hw]
  constructor
  · intro hf; rw [hf]; exact ⟨rfl, rfl⟩
  · intro ht
    simp only [Bool.and_eq_true] at ht
    obtain ⟨⟨rfl, rfl⟩, rfl⟩ := ht
    rw [Dt.nmV_yes _ hA, Dt.nmV_yes _ hB, Dt.nmV_yes _ hC]
    exact ⟨rfl, rfl⟩
theorem Dt.nm_bd (l : List UInt8) (h : l.length ≤ 10) : 0 ≤ Dt.nmV l ∧ Dt.nmV l ≤ 9999999999 := by
  cases hd : Dt.okd l
  · rw [Dt.nmV_no _ hd]; omega
  · rw [Dt.nmV_yes _ hd]; exact Dt.numv_le l h hd

set_option maxHeartbeats 1000000 in
theorem parse_any (s : ByteArray) (w : World) (hm : s.size ≤ 9223372036854775807) :
    Calls Try.prog 25 #[.string s] w fun e w' => e = .returned (.tuple #[.int .i64 (Dt.prV s.data.toList), .int .i64 (Dt.prE s.data.toList)]) ∧ Below w.heap.size w w' := by
  by_cases hl : s.size = 10
  · have g4 : 4 < s.size := by omega
    have g7 : 7 < s.size := by omega
    have t10 : ((s.size : Int) != 10) = false := by simp; omega
    by_cases c4 : s[4] = 45
    · have t4 : ((s[4].toNat : Int) != 45) = false := by rw [c4]; rfl
      by_cases c7 : s[7] = 45
      · have t7 : ((s[7].toNat : Int) != 45) = false := by rw [c7]; rfl
        have hn := Dt.nm_bd (s.data.toList.drop 8) (by simp; omega)
        have K := fun A B C => Dt.pr_abc s hl c4 c7 A B C
        generalize e1 : s.data.toList.take 4 = l1 at K
        generalize e2 : (s.data.toList.drop 5).take 2 = l2 at K
        generalize e3 : s.data.toList.drop 8 = l3 at K hn
        have HL1 : Hid ((s.data.toList.drop 0).take (4 - 0) = l1) := Lib.hid e1
        have HL2 : Hid ((s.data.toList.drop 5).take (7 - 5) = l2) := Lib.hid e2
        have HL3 : Hid ((s.data.toList.drop 8).take (s.size - 8) = l3) := Lib.hid ((List.take_of_length_le (by simp)).trans e3)
        clear e1 e2 e3
        generalize hA : Dt.okd l1 = A at *
        generalize hB : Dt.okd l2 = B at *
        generalize hC : Dt.okd l3 = C at *
        have HK := Lib.hid (K A B C rfl rfl rfl)
        have HA := Lib.hid hA
        have HB := Lib.hid hB
        have HC := Lib.hid hC
        have h8 : s.size - 8 ≤ 10 := by omega
        clear K hA hB hC c4 c7 hl
        cases A <;> cases B <;> cases C
        all_goals
          go_enter Try.func25, Try.ntmps25
          go_wp2_with fail
          refine (number_cut s 0 4 _ l1 _ (by omega) HL1 HA).mono ?_
          rintro e w' ⟨rfl, rfl⟩
          go_wp2_with fail
          refine (number_cut s 5 7 _ l2 _ (by omega) HL2 HB).mono ?_
          rintro e w' ⟨rfl, rfl⟩
          go_wp2_with fail
          refine (number_cut s 8 s.size _ l3 _ h8 HL3 HC).mono ?_
          rintro e w' ⟨rfl, rfl⟩
          go_wp2_with (go_at_call 12; refine (of_any _ _ _ _ (by omega) (by omega)).mono ?_; rintro e w3 ⟨rfl, hb3⟩)
          go_ret2
        all_goals first
          | exact ⟨by rw [(HK.out.1 rfl).1, (HK.out.1 rfl).2]; rfl, Below.refl _ _⟩
          | exact ⟨by rw [(HK.out.2 rfl).1, (HK.out.2 rfl).2]; rfl, hb3⟩
      · have t7 : ((s[7].toNat : Int) != 45) = true := by
          rw [bne_iff_ne]; intro h; exact c7 (UInt8.toNat_inj.1 (by show s[7].toNat = 45; omega))
        have HV := Lib.hid (Dt.not7 s g7 c7)
        clear hl c4 c7
        go_enter Try.func25, Try.ntmps25
        go_wp2_with fail
        go_ret2
        exact ⟨by rw [HV.out.1, HV.out.2]; rfl, Below.refl _ _⟩
    · have t4 : ((s[4].toNat : Int) != 45) = true := by
        rw [bne_iff_ne]; intro h; exact c4 (UInt8.toNat_inj.1 (by show s[4].toNat = 45; omega))
      have HV := Lib.hid (Dt.not4 s g4 c4)
      clear hl c4
      go_enter Try.func25, Try.ntmps25
      go_wp2_with fail
      go_ret2
      exact ⟨by rw [HV.out.1, HV.out.2]; rfl, Below.refl _ _⟩
  · have HV := Lib.hid (Dt.notL s.data.toList (by simpa using hl))
    have h10 : ((s.size : Int) != 10) = true := by simp; omega
    clear hl
    go_enter Try.func25, Try.ntmps25
    go_wp2_with fail
    go_ret2
    exact ⟨by rw [HV.out.1, HV.out.2]; rfl, Below.refl _ _⟩
end Go.Proofs.Ytaglhkjfbdafjaa
