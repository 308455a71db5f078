/- The walk of the reference's Clean. -/
import Derived.Test.YthenamibehbdnaaPostWalksB
namespace Go.Proofs.Ythenamibehbdnaa
set_option linter.unusedVariables false
set_option linter.unusedSimpArgs false
open Go.RowKit

set_option maxRecDepth 100000 in
set_option maxHeartbeats 4000000 in
theorem rclean_any (m : List Bal) (A : Option Addr) (cap : Nat) (w : World) (hr : Rd w w.heap.size 2 A m.length (cellsOf Bal.cells m)) (hn : m.length ≤ 1000000) :
    Calls Try.prog 19 #[.slice A m.length cap] w (ColPost 26 w.heap.size (ofW m) w) := by
  have hb := Below.refl w.heap.size w
  have HR := Lib.hid hr
  obtain ⟨i0, hi, hz0, hz1, hz2⟩ := info_parts colp_info
  clear hr
  go_enter Try.func19, Try.ntmps19
  go_wp2_with fail
  go_loopw [4, 5, 6] (fun v s t wr => ∃ (L : List Int) (last : Int) (first : Bool), Part (ofW m) m first last L ∧ s = .int .i64 last ∧ t = .bool first ∧ wr.ownsRow w.heap.size 26 2 v (balsOf (ofW m) L).length (cellsOf Bal.cells (balsOf (ofW m) L)) ∧ Below w.heap.size w wr) (fun _ s t _ => togo m t s)
  case atStart => exact ⟨[], _, true, part_start _ _ _, rfl, rfl, World.ownsRow_nil _ _ _ _, hb⟩
  case round =>
    clear hb
    obtain ⟨wo, rfl⟩ : ∃ wo : World, wo = wr := ⟨_, rfl⟩
    obtain ⟨L, last, first, hp, rfl, rfl, ho, hb⟩ := hrel
    have HP := Lib.hid hp
    have hz := hb.size
    have hln : (balsOf (ofW m) L).length ≤ 1000000 := by rw [balsOf_len]; have := part_len hp; omega
    clear hp
    go_wp2_with fail
    go_loopw [7, 8, 9] (fun nx fd t wr => ∃ (i : Nat) (found : Bool) (next : Int), i ≤ m.length ∧ Found (m.take i) first last found next ∧ nx = .int .i64 next ∧ fd = .bool found ∧ t = .int .i64 i ∧ wo = wr) (fun _ _ t _ => m.length - (intOf t).toNat)
    case atStart => exact ⟨0, false, 0, by omega, found_start _ _ _, rfl, rfl, rfl, rfl⟩
    case round =>
      obtain ⟨i, found, next, hi2, hf, rfl, rfl, rfl, rfl⟩ := hrel
      have HF := Lib.hid hf
      clear hf
      by_cases hil : i < m.length
      · obtain ⟨x, o, hA, hbo, f0, f1⟩ := Bal.at_ (HR.out.below hb (Nat.le_refl _)) hil
        subst hA
        cases first
        · by_cases hl : last < m[i].account
          · have HE : Hid (elig false last m[i].account = true) := Lib.hid (by simp [elig, hl])
            cases found
            · have HF2 := Lib.hid (found_hit HF.out HE.out (.inl rfl))
              go_wp2_with fail
              go_roundw
              case rel => exact ⟨i + 1, true, m[i].account, by omega, by rw [take_snoc_ m i hil]; exact HF2.out, rfl, rfl, by go_num, trivial⟩
              case measure => simp [intOf]; omega
            · by_cases hn : m[i].account < next
              · have HF2 := Lib.hid (found_hit HF.out HE.out (.inr hn))
                go_wp2_with fail
                go_roundw
                case rel => exact ⟨i + 1, true, m[i].account, by omega, by rw [take_snoc_ m i hil]; exact HF2.out, rfl, rfl, by go_num, trivial⟩
                case measure => simp [intOf]; omega
              · have HF2 := Lib.hid (found_miss (x := m[i]) HF.out (.inr ⟨rfl, by omega⟩))
                go_wp2_with fail
                go_roundw
                case rel => exact ⟨i + 1, true, next, by omega, by rw [take_snoc_ m i hil]; exact HF2.out, rfl, rfl, by go_num, trivial⟩
                case measure => simp [intOf]; omega
          · have HE : Hid (elig false last m[i].account = false) := Lib.hid (by simp [elig]; omega)
            have HF2 := Lib.hid (found_miss (x := m[i]) HF.out (.inl HE.out))
            go_wp2_with fail
            go_roundw
            case rel => exact ⟨i + 1, found, next, by omega, by rw [take_snoc_ m i hil]; exact HF2.out, rfl, rfl, by go_num, trivial⟩
            case measure => simp [intOf]; omega
        · have HE : Hid (elig true last m[i].account = true) := Lib.hid (by simp [elig])
          cases found
          · have HF2 := Lib.hid (found_hit HF.out HE.out (.inl rfl))
            go_wp2_with fail
            go_roundw
            case rel => exact ⟨i + 1, true, m[i].account, by omega, by rw [take_snoc_ m i hil]; exact HF2.out, rfl, rfl, by go_num, trivial⟩
            case measure => simp [intOf]; omega
          · by_cases hn : m[i].account < next
            · have HF2 := Lib.hid (found_hit HF.out HE.out (.inr hn))
              go_wp2_with fail
              go_roundw
              case rel => exact ⟨i + 1, true, m[i].account, by omega, by rw [take_snoc_ m i hil]; exact HF2.out, rfl, rfl, by go_num, trivial⟩
              case measure => simp [intOf]; omega
            · have HF2 := Lib.hid (found_miss (x := m[i]) HF.out (.inr ⟨rfl, by omega⟩))
              go_wp2_with fail
              go_roundw
              case rel => exact ⟨i + 1, true, next, by omega, by rw [take_snoc_ m i hil]; exact HF2.out, rfl, rfl, by go_num, trivial⟩
              case measure => simp [intOf]; omega
      · have HM : Hid (m.take i = m) := Lib.hid (List.take_of_length_le (by omega))
        have HF2 := Lib.hid HF.out
        rw [HM.out] at HF2
        clear HF
        cases found
        · have HEND := Lib.hid (part_end HP.out HF2.out)
          go_wp2_with fail
          go_ret2
          exact ⟨_, _, 0, rfl, ho, hb, .inl ⟨rfl, HEND.out.1, HEND.out.2⟩⟩
        · go_wp2_with fail
          go_loopw [11, 12] (fun s t wr => ∃ k : Nat, k ≤ m.length ∧ s = .int .i64 (ofW (m.take k) next) ∧ t = .int .i64 k ∧ wo = wr) (fun _ t _ => m.length - (intOf t).toNat)
          case atStart => exact ⟨0, by omega, rfl, rfl, rfl⟩
          case round =>
            obtain ⟨k, hk, rfl, rfl, rfl⟩ := hrel
            by_cases hlt : k < m.length
            · obtain ⟨x, o, hA, hbo, f0, f1⟩ := Bal.at_ (HR.out.below hb (Nat.le_refl _)) hlt
              subst hA
              have HK := Lib.hid (ofW_take m k hlt next)
              by_cases hc : m[k].account = next
              · have hc' : (m[k].account == next) = true := by simpa using hc
                have HE : Hid (ofW (m.take (k + 1)) next = wrap64 (ofW (m.take k) next + m[k].amount)) := Lib.hid (by rw [HK.out, if_pos hc])
                clear hc HK
                go_wp2_with fail
                go_roundw
                case rel => exact ⟨k + 1, by omega, by rw [HE.out], by go_num, trivial⟩
                case measure => simp [intOf]; omega
              · have hc' : (m[k].account == next) = false := by simpa using hc
                have HE : Hid (ofW (m.take (k + 1)) next = ofW (m.take k) next) := Lib.hid (by rw [HK.out, if_neg hc])
                clear hc HK
                go_wp2_with fail
                go_roundw
                case rel => exact ⟨k + 1, by omega, by rw [HE.out], by go_num, trivial⟩
                case measure => simp [intOf]; omega
            · have HE : Hid (m.take k = m) := Lib.hid (List.take_of_length_le (by omega))
              rw [HE.out]
              cases ha : amV (ofW m next)
              · have HA := Lib.hid ha
                go_wp2_with (go_at_call 42; refine (rmoney_any _ _).mono ?_; rintro e w2 ⟨rfl, rfl⟩)
                go_ret2
                exact ⟨_, [], 2, rfl, World.ownsRow_nil _ _ _ _, hb, .inr ⟨rfl, rfl, next, HA.out⟩⟩
              · have HST := Lib.hid (part_step HP.out HF2.out ha)
                have HTG := Lib.hid (togo_next HF2.out)
                by_cases h0 : ofW m next = 0
                · have hd : (ofW m next != 0) = false := by simp [h0]
                  have HS := Lib.hid (HST.out.1 h0)
                  clear h0 HST
                  go_wp2_with (go_at_call 42; refine (rmoney_any _ _).mono ?_; rintro e w2 ⟨rfl, rfl⟩)
                  go_roundw
                  case rel => exact ⟨L, next, false, HS.out, rfl, rfl, ho, hb⟩
                  case measure => exact HTG.out
                · have hd : (ofW m next != 0) = true := by simp [h0]
                  have HS := Lib.hid (HST.out.2 h0)
                  clear h0 HST
                  go_wp2_with (first
                    | (go_at_call 42; refine (rmoney_any _ _).mono ?_; rintro e w2 ⟨rfl, rfl⟩)
                    | (at_builtin; refine wpList_append_rec Bal.cells 2 (fun _ => rfl) Bal.one rfl (.tmp 68) (.tmp 72) 22 rfl w.heap.size 26 i0 (.agg #[.int .i64 0, .int .i64 0]) 16 Try.underlying22 hi hz0 hz1 hz2 rfl (by decide) _ (balsOf (ofW m) L) rfl (ho.alloc _) wo.heap.size 1 ⟨next, ofW m next⟩ _ rfl (Blk.new wo _ _) rfl ?c3 ?c4 ?c5 ?_))
                  case c3 => simp only [maxLen]; omega
                  case c4 => omega
                  case c5 => simp; omega
                  intro v4 w4 ho4 hg4
                  have hb3 : Below w.heap.size w (wo.alloc (.cells #[.int .i64 next, .int .i64 (ofW m next)] 26)) := (by repeat (first | exact hb | refine Below.alloc ?_ (by have hbs := hb.size; first | omega | (simp; done) | (simp; omega)) _ | refine Below.drew ?_ | refine below_drewN_ ?_ _ | refine Below.setCell ?_ (by simp) _))
                  have hb4 := bel_own hb3 (by simp; omega) (ho.alloc _) hg4
                  have HT : Hid (balsOf (ofW m) (L ++ [next]) = balsOf (ofW m) L ++ [⟨next, ofW m next⟩]) := Lib.hid (by unfold balsOf; rw [List.map_append]; rfl)
                  clear hg4 hb3
                  go_wp2_with fail
                  go_roundw
                  case rel => exact ⟨L ++ [next], next, false, HS.out, rfl, rfl, by rw [HT.out, List.length_append]; exact ho4, hb4⟩
                  case measure => exact HTG.out
end Go.Proofs.Ythenamibehbdnaa
