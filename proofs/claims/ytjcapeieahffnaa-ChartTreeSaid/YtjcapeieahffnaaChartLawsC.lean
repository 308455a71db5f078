/- The walk of the law ChartSums. -/
import Derived.Test.YtjcapeieahffnaaChartLawsB
namespace Go.Proofs.Ytjcapeieahffnaa
set_option linter.unusedVariables false
set_option linter.unusedSimpArgs false
open Go.RowKit

theorem of_val (b : List Bal) (c n : Int) (B : Option Addr) (c2 : Nat) (w : World) (hq : Rd w w.heap.size 2 B b.length (cellsOf Bal.cells b)) (hn2 : b.length ≤ 100000) (h : ofW b c = n) :
    Calls Try.prog 29 #[.slice B b.length c2, .int .i64 c] w (fun e w' => e = .returned (.int .i64 n) ∧ w = w') := by
  rw [← h]; exact of_any b c B c2 w hq hn2
theorem kid_code {l : List Acc} {c k : Int} (h : k ∈ Ch.kids l c) : ∃ a ∈ l, a.code = k := by
  unfold Ch.kids at h
  obtain ⟨a, ha, e⟩ := List.mem_map.1 h
  exact ⟨a, (List.mem_filter.1 ha).1, e⟩
theorem roll_bad {l : List Acc} {b : List Bal} (h : Ch.rollE l b ≠ 0) : Ch.rollV l b = [] := by
  unfold Ch.rollE at h
  unfold Ch.rollV
  by_cases h1 : (Ch.eitherV l && Ch.balsV l b) = true
  · rw [if_pos h1] at h ⊢
    by_cases h2 : Ch.rollOk l b = true
    · rw [if_pos h2] at h; exact absurd rfl h
    · rw [if_neg h2]
  · rw [if_neg h1]
/-- what the law adds up -/
def rootsTo (l : List Acc) (b : List Bal) (m : List Acc) : Int := sm m (fun a => if a.parent = 0 then Ch.sumAt l b a.code else 0)
def withKids (l : List Acc) (b : List Bal) (c : Int) (m : List Int) : Int := ofV b c + sm m (fun k => Ch.sumAt l b k)
set_option maxHeartbeats 4000000 in
theorem law_ChartSums (l : List Acc) (b : List Bal) (A B : Option Addr) (c1 c2 : Nat) (w : World) (hm : l.length ≤ maxLen) (hm2 : b.length ≤ maxLen) (hr : Rd w w.heap.size 4 A l.length (Ch.cells l)) (hq : Rd w w.heap.size 2 B b.length (cellsOf Bal.cells b)) (hwf : ∀ a ∈ l, (Lit.int .i64 a.code).wf = true) :
    Calls Try.prog 9 #[.slice A l.length c1, .slice B b.length c2] w fun e w' => e = .returned (.bool true) ∧ Below w.heap.size w w' := by
  unfold maxLen at hm hm2
  have hb := Below.refl w.heap.size w
  have HR := Lib.hid hr
  have HQ := Lib.hid hq
  have HW := Lib.hid hwf
  clear hr hq hwf
  by_cases hl : l.length ≤ 60 ∧ b.length ≤ 60
  · obtain ⟨hl1, hl2⟩ := hl
    have hF : fewV l.length b.length = true := by unfold fewV; simp [hl1, hl2]
    have hrl := Ch.rollV_len l b
    by_cases hE : Ch.rollE l b = 0
    · have g1 : (Ch.rollE l b != 0) = false := by simp [hE]
      have HE := Lib.hid hE
      obtain ⟨he, hbv, hsum, hrv⟩ := Ch.roll_ok hE
      obtain ⟨g, -, hv⟩ := Ch.either_base he
      have HV := Lib.hid hv
      have HAM : Hid (∀ x ∈ b, amV x.amount = true) := Lib.hid (fun x hx => asc_amount (Ch.bals_asc hbv) hx)
      have HFO : Hid (∀ x ∈ b, Ch.fnB l x.account = true) := Lib.hid (fun x hx => Ch.bals_found hbv hx)
      have HSU := Lib.hid hsum
      have HRO : Hid (∀ a ∈ l, ofW (Ch.rollV l b) a.code = Ch.sumAt l b a.code) := Lib.hid (fun a ha => by
        rw [ofW_eq _ _ (Ch.roll_amounts HE.out) (by omega), hrv, Ch.roll_pick, Ch.pick_of hv _ ha])
      clear hE he hbv hsum hrv hv
      go_enter Try.func9, Try.ntmps9
      go_wp2_with (first
        | (go_at_call 10; refine (chart_awake _).mono ?_; rintro e w2 ⟨rfl, hb2⟩; replace hb := bel hb hb2; clear hb2)
        | (go_at_call 18; refine (few_any _ _ _ _ _ _ _).mono ?_; rintro e w2 ⟨rfl, rfl⟩))
      refine (roll_any l b A B c1 c2 _ (Rd.now HR.out hb) (Rd.now HQ.out hb) (by omega) (by omega) HW.out).mono ?_
      rintro e w5 ⟨v5, rfl, ho5, hb5⟩
      replace hb := bel hb hb5
      clear hb5
      obtain ⟨A5, d5, rfl, hrx⟩ := Rd.of_own ho5
      have HX := Lib.hid hrx
      clear hrx ho5
      have HR5 := Lib.hid (Rd.now HR.out hb)
      have HQ5 := Lib.hid (Rd.now HQ.out hb)
      have HB5 := Lib.hid hb
      clear hb HR HQ
      have hb := Below.refl w5.heap.size w5
      go_wp2_with fail
      go_loopw [8, 9] (fun s t wr => ∃ k : Nat, k ≤ b.length ∧ s = .int .i64 (sm (b.take k) Bal.amount) ∧ t = .int .i64 k ∧ w5 = wr) (fun _ t _ => b.length - (intOf t).toNat)
      case atStart => exact ⟨0, by omega, rfl, rfl, rfl⟩
      case round =>
        obtain ⟨k, hk, rfl, rfl, rfl⟩ := hrel
        by_cases hlt : k < b.length
        · obtain ⟨x, o, hB, hbo, f0, f1⟩ := Bal.at_ HQ5.out hlt
          subst hB
          have hbd := sm_bd (b.take k) Bal.amount 1000000000000 (fun y hy => amV_is (HAM.out y (List.mem_of_mem_take hy)))
          rw [List.length_take] at hbd
          obtain ⟨hx0, hx1⟩ := amV_is (HAM.out _ (List.getElem_mem hlt))
          have hlo : -100000000000000000 ≤ sm (b.take k) Bal.amount := by omega
          have hhi : sm (b.take k) Bal.amount ≤ 100000000000000000 := by omega
          have HE2 := Lib.hid (sm_take b k hlt Bal.amount)
          clear hbd
          go_wp2_with fail
          go_roundw
          case rel => exact ⟨k + 1, by omega, by rw [HE2.out], by go_num, trivial⟩
          case measure => simp [intOf]; omega
        · have HE2 : Hid (sm (b.take k) Bal.amount = sm b Bal.amount) := Lib.hid (by rw [List.take_of_length_le (by omega)])
          rw [HE2.out]
          go_wp2_with fail
          go_loopw [7, 10] (fun s t wr => ∃ i : Nat, i ≤ l.length ∧ s = .int .i64 (rootsTo l b (l.take i)) ∧ t = .int .i64 i ∧ Below w5.heap.size w5 wr) (fun _ t _ => l.length - (intOf t).toNat)
          case atStart => exact ⟨0, by omega, rfl, rfl, hb⟩
          case round =>
            clear hb
            obtain ⟨wo, rfl⟩ : ∃ wo : World, wo = wr := ⟨_, rfl⟩
            obtain ⟨i, hi, rfl, rfl, hb⟩ := hrel
            by_cases hil : i < l.length
            · obtain ⟨ba, oa, hA, hba, q0, q1, q2, q3⟩ := Ch.at_ (Rd.now HR5.out hb) hil
              subst hA
              have hml : l[i] ∈ l := List.getElem_mem hil
              have hkl := Ch.kids_len l l[i].code
              have hbd := sm_bd (l.take i) (fun a => if a.parent = 0 then Ch.sumAt l b a.code else 0) 1000000000000 (fun y hy => by
                have := amV_is (HSU.out y (List.mem_of_mem_take hy))
                split <;> omega)
              rw [List.length_take] at hbd
              have hlo : -100000000000000000 ≤ rootsTo l b (l.take i) := by unfold rootsTo; omega
              have hhi : rootsTo l b (l.take i) ≤ 100000000000000000 := by unfold rootsTo; omega
              obtain ⟨hx0, hx1⟩ := amV_is (HSU.out _ hml)
              have HT : Hid (rootsTo l b (l.take (i + 1)) = rootsTo l b (l.take i) + if l[i].parent = 0 then Ch.sumAt l b l[i].code else 0) := Lib.hid (sm_take l i hil _)
              have HOF : Hid (ofW b l[i].code = withKids l b l[i].code []) := Lib.hid (by unfold withKids; rw [sm_nil, ofW_eq _ _ HAM.out (by omega)]; omega)
              have HZ : Hid (withKids l b l[i].code (Ch.kids l l[i].code) = Ch.sumAt l b l[i].code) := Lib.hid (Ch.v_sums HV.out HFO.out hml).symm
              have hofb := ofV_bd b l[i].code HAM.out
              clear hbd
              go_wp2_with (go_at_call 29; refine (of_val b l[i].code _ B c2 _ (Rd.now HQ5.out hb) (by omega) HOF.out).mono ?_; rintro e w2 ⟨rfl, rfl⟩)
              refine (kids_any l l[i].code _ c1 _ (Rd.now HR5.out hb) (by omega)).mono ?_
              rintro e w6 ⟨v6, rfl, ho6, hb6⟩
              have p0 : w6.cell? ⟨ba, oa + i * 4, none⟩ = some (.int .i64 l[i].code) := (hb6.cell (p := ⟨ba, oa + i * 4, none⟩) hba).trans q0
              have p3 : w6.cell? ⟨ba, oa + i * 4 + 3, none⟩ = some (.int .i64 l[i].parent) := (hb6.cell (p := ⟨ba, oa + i * 4 + 3, none⟩) hba).trans q3
              replace hb := bel hb hb6
              clear hb6 q0 q1 q2 q3
              obtain ⟨A6, d6, rfl, hrx⟩ := Rd.of_own ho6
              have HK := Lib.hid hrx
              clear hrx ho6
              go_wp2_with fail
              go_loopw [11, 13] (fun s t wr => ∃ k : Nat, k ≤ (Ch.kids l l[i].code).length ∧ s = .int .i64 (withKids l b l[i].code ((Ch.kids l l[i].code).take k)) ∧ t = .int .i64 k ∧ w6 = wr) (fun _ t _ => (Ch.kids l l[i].code).length - (intOf t).toNat)
              case atStart => exact ⟨0, by omega, rfl, rfl, rfl⟩
              case round =>
                obtain ⟨k, hk, rfl, rfl, rfl⟩ := hrel
                by_cases hkk : k < (Ch.kids l l[i].code).length
                · obtain ⟨bk, ok, hA6, hbk, r0⟩ := int_at HK.out hkk
                  subst hA6
                  obtain ⟨u, hu, eu⟩ := kid_code (List.getElem_mem hkk)
                  have HKO : Hid (ofW (Ch.rollV l b) (Ch.kids l l[i].code)[k] = Ch.sumAt l b (Ch.kids l l[i].code)[k]) := Lib.hid (by rw [← eu]; exact HRO.out u hu)
                  obtain ⟨hy0, hy1⟩ := amV_is (HSU.out u hu)
                  rw [eu] at hy0 hy1
                  have hbd := sm_bd ((Ch.kids l l[i].code).take k) (fun k => Ch.sumAt l b k) 1000000000000 (fun y hy => by
                    obtain ⟨z, hz, ez⟩ := kid_code (List.mem_of_mem_take hy)
                    rw [← ez]
                    exact amV_is (HSU.out z hz))
                  rw [List.length_take] at hbd
                  have hlo2 : -1000000000000000 ≤ withKids l b l[i].code ((Ch.kids l l[i].code).take k) := by unfold withKids; omega
                  have hhi2 : withKids l b l[i].code ((Ch.kids l l[i].code).take k) ≤ 1000000000000000 := by unfold withKids; omega
                  have HS2 : Hid (withKids l b l[i].code ((Ch.kids l l[i].code).take (k + 1)) = withKids l b l[i].code ((Ch.kids l l[i].code).take k) + Ch.sumAt l b (Ch.kids l l[i].code)[k]) := Lib.hid (by unfold withKids; rw [sm_take _ k hkk]; omega)
                  clear hbd eu hu
                  go_wp2_with (go_at_call 29; refine (of_val (Ch.rollV l b) (Ch.kids l l[i].code)[k] _ A5 d5 _ (Rd.now HX.out hb) (by omega) HKO.out).mono ?_; rintro e w2 ⟨rfl, rfl⟩)
                  go_roundw
                  case rel => exact ⟨k + 1, by omega, by rw [HS2.out], by go_num, trivial⟩
                  case measure => simp [intOf]; omega
                · have HE3 : Hid (withKids l b l[i].code ((Ch.kids l l[i].code).take k) = Ch.sumAt l b l[i].code) := Lib.hid (by rw [List.take_of_length_le (by omega), HZ.out])
                  rw [HE3.out]
                  have HLO : Hid (ofW (Ch.rollV l b) l[i].code = Ch.sumAt l b l[i].code) := Lib.hid (HRO.out _ hml)
                  by_cases hp : l[i].parent = 0
                  · have hp' : (l[i].parent == 0) = true := by simpa using hp
                    have HT2 : Hid (rootsTo l b (l.take (i + 1)) = rootsTo l b (l.take i) + Ch.sumAt l b l[i].code) := Lib.hid (by rw [HT.out, if_pos hp])
                    clear hp
                    go_wp2_with (go_at_call 29; refine (of_val (Ch.rollV l b) l[i].code _ A5 d5 _ (Rd.now HX.out hb) (by omega) HLO.out).mono ?_; rintro e w2 ⟨rfl, rfl⟩)
                    go_roundw
                    case rel => exact ⟨i + 1, by omega, by rw [HT2.out], by go_num, hb⟩
                    case measure => simp [intOf]; omega
                  · have hp' : (l[i].parent == 0) = false := by simpa using hp
                    have HT2 : Hid (rootsTo l b (l.take (i + 1)) = rootsTo l b (l.take i)) := Lib.hid (by rw [HT.out, if_neg hp]; omega)
                    clear hp
                    go_wp2_with (go_at_call 29; refine (of_val (Ch.rollV l b) l[i].code _ A5 d5 _ (Rd.now HX.out hb) (by omega) HLO.out).mono ?_; rintro e w2 ⟨rfl, rfl⟩)
                    go_roundw
                    case rel => exact ⟨i + 1, by omega, by rw [HT2.out], by go_num, hb⟩
                    case measure => simp [intOf]; omega
            · have HE3 : Hid (rootsTo l b (l.take i) = sm b Bal.amount) := Lib.hid (by rw [List.take_of_length_le (by omega)]; exact Ch.v_all HV.out HFO.out)
              rw [HE3.out]
              go_wp2_with fail
              go_ret
              exact ⟨rfl, bel HB5.out hb⟩
    · have g1 : (Ch.rollE l b != 0) = true := by simp [hE]
      have hnil := roll_bad hE
      go_enter Try.func9, Try.ntmps9
      go_wp2_with (first
        | (go_at_call 10; refine (chart_awake _).mono ?_; rintro e w2 ⟨rfl, hb2⟩; replace hb := bel hb hb2; clear hb2)
        | (go_at_call 18; refine (few_any _ _ _ _ _ _ _).mono ?_; rintro e w2 ⟨rfl, rfl⟩))
      refine (roll_any l b A B c1 c2 _ (Rd.now HR.out hb) (Rd.now HQ.out hb) (by omega) (by omega) HW.out).mono ?_
      rintro e w5 ⟨v5, rfl, ho5, hb5⟩
      replace hb := bel hb hb5
      rw [hnil] at ho5
      clear hb5 hnil hE
      obtain ⟨A5, d5, rfl, hrx⟩ := Rd.of_own ho5
      have HX := Lib.hid hrx
      clear hrx ho5
      go_wp2_with fail
      go_ret
      exact ⟨rfl, hb⟩
  · have hF : fewV l.length b.length = false := by unfold fewV; simp; omega
    go_enter Try.func9, Try.ntmps9
    go_wp2_with (first
      | (go_at_call 10; refine (chart_awake _).mono ?_; rintro e w2 ⟨rfl, hb2⟩; replace hb := bel hb hb2; clear hb2)
      | (go_at_call 18; refine (few_any _ _ _ _ _ _ _).mono ?_; rintro e w2 ⟨rfl, rfl⟩))
    go_ret
    exact ⟨rfl, hb⟩
end Go.Proofs.Ytjcapeieahffnaa
