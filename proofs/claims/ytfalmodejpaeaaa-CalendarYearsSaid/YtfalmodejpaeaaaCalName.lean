/- The walks of strings.TrimSuffix at '-01', of Name, and of awake of the calendar's laws. -/
import Derived.Test.YtfalmodejpaeaaaCalWalksB
import Derived.Lib.Strings
namespace Go.Proofs.Ytfalmodejpaeaaa
open Go.RowKit

set_option maxHeartbeats 400000 in
theorem hassuf (s : ByteArray) (w : World) (h3 : 3 ≤ s.size) (hm : s.size ≤ 1000) (hs : ((s.extract (s.size - 3) s.size).toList == [45, 48, 49]) = true) :
    Calls Try.prog 90 #[.string s, .string ⟨#[45, 48, 49]⟩] w fun e w' => e = .returned (.bool true) ∧ w = w' := by
  go_enter Try.func90, Try.ntmps90
  go_wp2_with fail
  go_ret
  exact ⟨rfl, rfl⟩
set_option maxHeartbeats 400000 in
theorem trimlite (s : ByteArray) (w : World) (h3 : 3 ≤ s.size) (hm : s.size ≤ 1000) (hs : Hid (((s.extract (s.size - 3) s.size).toList == [45, 48, 49]) = true)) :
    Calls Try.prog 80 #[.string s, .string ⟨#[45, 48, 49]⟩] w fun e w' => e = .returned (.string (s.extract 0 (s.size - 3))) ∧ w = w' := by
  go_enter Try.func80, Try.ntmps80
  go_wp2_with fail
  refine (hassuf s _ h3 hm hs.out).mono ?_; rintro e w2 ⟨rfl, rfl⟩
  go_wp2_with fail
  go_ret
  exact ⟨rfl, rfl⟩
set_option maxHeartbeats 400000 in
theorem trim_s (s : ByteArray) (w : World) (h3 : 3 ≤ s.size) (hm : s.size ≤ 1000) (hs : Hid (((s.extract (s.size - 3) s.size).toList == [45, 48, 49]) = true)) :
    Calls Try.prog 53 #[.string s, .string ⟨#[45, 48, 49]⟩] w fun e w' => e = .returned (.string (s.extract 0 (s.size - 3))) ∧ w = w' := by
  go_enter Try.func53, Try.ntmps53
  go_wp2_with fail
  refine (trimlite s _ h3 hm hs).mono ?_; rintro e w2 ⟨rfl, rfl⟩
  go_wp2_with fail
  go_ret
  exact ⟨rfl, rfl⟩
theorem str_ext (a b : ByteArray) (h : a.data.toList = b.data.toList) : a = b := by
  apply ByteArray.ext
  exact Array.toList_inj.1 h
theorem trim_any (l : List UInt8) (w : World) (hl : l.length ≤ 100) :
    Calls Try.prog 53 #[.string ⟨(l ++ [45, 48, 49]).toArray⟩, .string ⟨#[45, 48, 49]⟩] w fun e w' => e = .returned (.string ⟨l.toArray⟩) ∧ w = w' := by
  have hsz : (⟨(l ++ [45, 48, 49]).toArray⟩ : ByteArray).size = l.length + 3 := by show (l ++ [45, 48, 49]).toArray.size = _; simp
  have hs : (((⟨(l ++ [45, 48, 49]).toArray⟩ : ByteArray).extract (l.length + 3 - 3) (l.length + 3)).toList == [45, 48, 49]) = true := by
    rw [ByteArray.toList_eq, Lib.extract_data]
    simp
  have := trim_s ⟨(l ++ [45, 48, 49]).toArray⟩ w (by omega) (by omega) (by rw [hsz]; exact Lib.hid hs)
  rw [hsz] at this
  have e : (⟨(l ++ [45, 48, 49]).toArray⟩ : ByteArray).extract 0 (l.length + 3 - 3) = ⟨l.toArray⟩ := by
    apply str_ext
    rw [Lib.extract_data]
    simp
  rw [e] at this
  exact this

theorem Cal.tx_one (y m : Int) : Dt.tx y m 1 = (Dt.txY y ++ [45] ++ Dt.tx2 m) ++ [45, 48, 49] := by
  have : Dt.tx2 1 = [48, 49] := by decide
  unfold Dt.tx
  rw [this]
  simp
theorem Cal.name_txt (Y M P p : Int) (h : Cal.ckE Y M P p = 0) : Dt.txV (Cal.fd (Cal.tm Y M p)) = Cal.naV Y M P p ++ [45, 48, 49] ∧ (Cal.naV Y M P p).length = 7 := by
  obtain ⟨k0, k1, k2⟩ := (Cal.ck_zero Y M P p).1 h
  obtain ⟨t0, t1⟩ := Cal.tm_in Y M P p k0 k1 k2
  obtain ⟨c1, c2, c3, c4⟩ := Cal.civ_fd (Cal.tm Y M p) t0 t1
  have e : Dt.txV (Cal.fd (Cal.tm Y M p)) = Dt.tx (Cal.tm Y M p / 12) (Cal.tm Y M p % 12 + 1) 1 := by
    unfold Dt.txV
    rw [c1, c2, c3, c4]; rfl
  unfold Cal.naV
  rw [if_pos h, e, Cal.tx_one]
  constructor
  · have hl : (Dt.txY (Cal.tm Y M p / 12) ++ [45] ++ Dt.tx2 (Cal.tm Y M p % 12 + 1)).length = 7 := rfl
    rw [List.take_append_of_le_length (by rw [hl]; omega), List.take_of_length_le (by rw [hl]; omega)]
  · rfl

theorem text_isC (n : Int) (l : List UInt8) (w : World) (h : Hid (Dt.txV n = l)) : Calls Try.prog 50 #[.int .i64 n] w fun e w' => e = .returned (.string ⟨l.toArray⟩) ∧ Below w.heap.size w w' := by
  have := text_any n w
  rw [h.out] at this
  exact this
theorem rtext_isC (n : Int) (l : List UInt8) (w : World) (h : Hid (Dt.txV n = l)) : Calls Try.prog 54 #[.int .i64 n] w fun e w' => e = .returned (.string ⟨l.toArray⟩) ∧ Below w.heap.size w w' := by
  have := rtext_any n w
  rw [h.out] at this
  exact this

set_option maxHeartbeats 1000000 in
theorem cal_Name (Y M P p : Int) (w : World) :
    Calls Try.prog 18 #[.agg #[.int .i64 Y, .int .i64 M, .int .i64 P], .int .i64 p] w fun e w' => e = .returned (.string ⟨(Cal.naV Y M P p).toArray⟩) ∧ Below w.heap.size w w' := by
  have hb := Below.refl w.heap.size w
  by_cases h : Cal.ckE Y M P p = 0
  · have HF : Hid (Cal.fiV Y M P p = Cal.fd (Cal.tm Y M p)) := Lib.hid (by unfold Cal.fiV; rw [if_pos h])
    obtain ⟨n1, n2⟩ := Cal.name_txt Y M P p h
    have HT := Lib.hid n1
    have n3 : (Cal.naV Y M P p).length ≤ 100 := by omega
    have H := Lib.hid h
    clear h n1 n2
    go_enter Try.func18, Try.ntmps18
    go_wp2_with fail
    refine (cal_First_is _ _ _ _ _ _ _ HF H).mono ?_; rintro e w2 ⟨rfl, hb2⟩; obtain ⟨hc2, -⟩ := bcell hb2; have hz2 := hb2.size; (try simp at hz2); (try have hy2 : w.heap.size < w2.heap.size := by omega); replace hb := bel' hb2 (by repeat (first | exact hb | refine Below.alloc ?_ (by have hbs := hb.size; first | omega | (simp; done) | (simp; omega)) _ | refine Below.drew ?_ | refine below_drewN_ ?_ _ | refine Below.setCell ?_ (by simp) _)); clear hb2
    go_wp2_with fail
    refine (text_isC _ _ _ HT).mono ?_; rintro e w2 ⟨rfl, hb2⟩; obtain ⟨hc2, -⟩ := bcell hb2; have hz2 := hb2.size; (try simp at hz2); (try have hy2 : w.heap.size < w2.heap.size := by omega); replace hb := bel' hb2 (by repeat (first | exact hb | refine Below.alloc ?_ (by have hbs := hb.size; first | omega | (simp; done) | (simp; omega)) _ | refine Below.drew ?_ | refine below_drewN_ ?_ _ | refine Below.setCell ?_ (by simp) _)); clear hb2
    go_wp2_with fail
    refine (trim_any _ _ n3).mono ?_; rintro e w2 ⟨rfl, rfl⟩
    go_wp2_with fail
    go_ret
    exact ⟨rfl, hb⟩
  · have HV : Hid (Cal.naV Y M P p = []) := Lib.hid (by unfold Cal.naV; rw [if_neg h])
    have h' : (Cal.ckE Y M P p != 0) = true := by rw [bne_iff_ne]; exact h
    clear h
    go_enter Try.func18, Try.ntmps18
    go_wp2_with fail
    refine (cal_First _ _ _ _ _).mono ?_; rintro e w2 ⟨rfl, hb2⟩; obtain ⟨hc2, -⟩ := bcell hb2; have hz2 := hb2.size; (try simp at hz2); (try have hy2 : w.heap.size < w2.heap.size := by omega); replace hb := bel' hb2 (by repeat (first | exact hb | refine Below.alloc ?_ (by have hbs := hb.size; first | omega | (simp; done) | (simp; omega)) _ | refine Below.drew ?_ | refine below_drewN_ ?_ _ | refine Below.setCell ?_ (by simp) _)); clear hb2
    go_wp2_with fail
    go_ret
    exact ⟨by rw [HV.out]; rfl, hb⟩
set_option maxHeartbeats 1000000 in
theorem rcal_Name (Y M P p : Int) (w : World) :
    Calls Try.prog 19 #[.agg #[.int .i64 Y, .int .i64 M, .int .i64 P], .int .i64 p] w fun e w' => e = .returned (.string ⟨(Cal.naV Y M P p).toArray⟩) ∧ Below w.heap.size w w' := by
  have hb := Below.refl w.heap.size w
  by_cases h : Cal.ckE Y M P p = 0
  · have HF : Hid (Cal.fiV Y M P p = Cal.fd (Cal.tm Y M p)) := Lib.hid (by unfold Cal.fiV; rw [if_pos h])
    obtain ⟨n1, n2⟩ := Cal.name_txt Y M P p h
    have HT := Lib.hid n1
    have HE : Hid ((⟨(Cal.naV Y M P p ++ [45, 48, 49]).toArray⟩ : ByteArray).extract 0 7 = ⟨(Cal.naV Y M P p).toArray⟩) := Lib.hid (by
      apply str_ext
      rw [Lib.extract_data]
      simp [n2])
    have n3 : (Cal.naV Y M P p).length ≤ 100 := by omega
    have H := Lib.hid h
    have n4 : 7 ≤ (⟨(Cal.naV Y M P p ++ [45, 48, 49]).toArray⟩ : ByteArray).size := by show 7 ≤ (Cal.naV Y M P p ++ [45, 48, 49]).toArray.size; simp; omega
    generalize hS : (⟨(Cal.naV Y M P p ++ [45, 48, 49]).toArray⟩ : ByteArray) = S at *
    have HS : Hid (∀ (n : Int) (w : World), Hid (Dt.txV n = Cal.naV Y M P p ++ [45, 48, 49]) → Calls Try.prog 54 #[.int .i64 n] w fun e w' => e = .returned (.string S) ∧ Below w.heap.size w w') := Lib.hid (fun n w hh => by rw [← hS]; exact rtext_isC n _ w hh)
    clear h n1 n2 hS
    go_enter Try.func19, Try.ntmps19
    go_wp2_with fail
    refine (rcal_First_is _ _ _ _ _ _ _ HF H).mono ?_; rintro e w2 ⟨rfl, hb2⟩; obtain ⟨hc2, -⟩ := bcell hb2; have hz2 := hb2.size; (try simp at hz2); (try have hy2 : w.heap.size < w2.heap.size := by omega); replace hb := bel' hb2 (by repeat (first | exact hb | refine Below.alloc ?_ (by have hbs := hb.size; first | omega | (simp; done) | (simp; omega)) _ | refine Below.drew ?_ | refine below_drewN_ ?_ _ | refine Below.setCell ?_ (by simp) _)); clear hb2
    go_wp2_with fail
    refine (HS.out _ _ HT).mono ?_; rintro e w2 ⟨rfl, hb2⟩; obtain ⟨hc2, -⟩ := bcell hb2; have hz2 := hb2.size; (try simp at hz2); (try have hy2 : w.heap.size < w2.heap.size := by omega); replace hb := bel' hb2 (by repeat (first | exact hb | refine Below.alloc ?_ (by have hbs := hb.size; first | omega | (simp; done) | (simp; omega)) _ | refine Below.drew ?_ | refine below_drewN_ ?_ _ | refine Below.setCell ?_ (by simp) _)); clear hb2
    go_wp2_with fail
    go_ret
    exact ⟨by rw [← HE.out]; rfl, hb⟩
  · have HV : Hid (Cal.naV Y M P p = []) := Lib.hid (by unfold Cal.naV; rw [if_neg h])
    have h' : (Cal.ckE Y M P p != 0) = true := by rw [bne_iff_ne]; exact h
    clear h
    go_enter Try.func19, Try.ntmps19
    go_wp2_with fail
    refine (rcal_First _ _ _ _ _).mono ?_; rintro e w2 ⟨rfl, hb2⟩; obtain ⟨hc2, -⟩ := bcell hb2; have hz2 := hb2.size; (try simp at hz2); (try have hy2 : w.heap.size < w2.heap.size := by omega); replace hb := bel' hb2 (by repeat (first | exact hb | refine Below.alloc ?_ (by have hbs := hb.size; first | omega | (simp; done) | (simp; omega)) _ | refine Below.drew ?_ | refine below_drewN_ ?_ _ | refine Below.setCell ?_ (by simp) _)); clear hb2
    go_wp2_with fail
    go_ret
    exact ⟨by rw [HV.out]; rfl, hb⟩

theorem Cal.aw : Cal.beV 2026 4 24 12 = Dt.num 2027 4 1 ∧ Cal.ckE 2026 4 24 12 = 0 ∧ Cal.bfV 2026 4 24 12 = 11 ∧ Cal.bfE 2026 4 24 12 = 0 := by decide
theorem Cal.aw2 : Dt.num 2027 4 1 = 20909 := by decide
theorem Cal.aw3 : Dt.txV 20909 = [50, 48, 50, 55, 45, 48, 52, 45, 48, 49] ∧ Cal.naV 2026 4 24 9 = [50, 48, 50, 55, 45, 48, 49] := by decide +kernel

set_option maxHeartbeats 1000000 in
theorem cal_awake (w : World) : Calls Try.prog 15 #[] w fun e w' => e = .returned (.bool true) ∧ Below w.heap.size w w' := by
  have A1 : Hid (Cal.beV 2026 4 24 12 = 20909) := Lib.hid (Cal.aw.1.trans Cal.aw2)
  have A2 := Lib.hid Cal.aw.2.1
  have A3 := Lib.hid Cal.aw.2.2.1
  have A4 := Lib.hid Cal.aw.2.2.2
  have A5 := Lib.hid Cal.aw3.1
  have A6 := Lib.hid Cal.aw3.2
  have hb := Below.refl w.heap.size w
  go_enter Try.func15, Try.ntmps15
  go_wp2_with fail
  refine (cal_Begin 2026 4 24 12 _).mono ?_
  rw [A1.out, A2.out]
  rintro e w2 ⟨rfl, hb2⟩; obtain ⟨hc2, -⟩ := bcell hb2; have hz2 := hb2.size; (try simp at hz2); (try have hy2 : w.heap.size < w2.heap.size := by omega); replace hb := bel' hb2 (by repeat (first | exact hb | refine Below.alloc ?_ (by have hbs := hb.size; first | omega | (simp; done) | (simp; omega)) _ | refine Below.drew ?_ | refine below_drewN_ ?_ _ | refine Below.setCell ?_ (by simp) _)); clear hb2
  go_wp2_with fail
  refine (cal_Before 2026 4 24 12 _).mono ?_
  rw [A3.out, A4.out]
  rintro e w2 ⟨rfl, hb2⟩; obtain ⟨hc2, -⟩ := bcell hb2; have hz2 := hb2.size; (try simp at hz2); (try have hy2 : w.heap.size < w2.heap.size := by omega); replace hb := bel' hb2 (by repeat (first | exact hb | refine Below.alloc ?_ (by have hbs := hb.size; first | omega | (simp; done) | (simp; omega)) _ | refine Below.drew ?_ | refine below_drewN_ ?_ _ | refine Below.setCell ?_ (by simp) _)); clear hb2
  go_wp2_with fail
  refine (text_isC _ _ _ A5).mono ?_; rintro e w2 ⟨rfl, hb2⟩; obtain ⟨hc2, -⟩ := bcell hb2; have hz2 := hb2.size; (try simp at hz2); (try have hy2 : w.heap.size < w2.heap.size := by omega); replace hb := bel' hb2 (by repeat (first | exact hb | refine Below.alloc ?_ (by have hbs := hb.size; first | omega | (simp; done) | (simp; omega)) _ | refine Below.drew ?_ | refine below_drewN_ ?_ _ | refine Below.setCell ?_ (by simp) _)); clear hb2
  go_wp2_with fail
  refine (cal_Name 2026 4 24 9 _).mono ?_
  rw [A6.out]
  rintro e w2 ⟨rfl, hb2⟩; replace hb := bel' hb2 (by repeat (first | exact hb | refine Below.alloc ?_ (by have hbs := hb.size; first | omega | (simp; done) | (simp; omega)) _ | refine Below.drew ?_ | refine below_drewN_ ?_ _ | refine Below.setCell ?_ (by simp) _)); clear hb2
  go_wp2_with fail
  go_ret
  exact ⟨rfl, hb⟩
end Go.Proofs.Ytfalmodejpaeaaa
