/- Texts of this claim, put together. -/
import Derived.Test.YtkfbchgabmffoaaJAH
import Derived.Test.YtkfbchgabmffoaaJAA
import Derived.Test.YtkfbchgabmffoaaChecked
import Derived.Test.YtkfbchgabmffoaaJAE
import Derived.Laws.StructEq
/- The walk of the reference's Clean. -/
namespace Go.Proofs.Ytkfbchgabmffoaa
set_option linter.unusedVariables false
set_option linter.unusedSimpArgs false
open Go.RowKit

set_option maxRecDepth 100000 in
set_option maxHeartbeats 4000000 in
theorem rclean_any (m : List Bal) (A : Option Addr) (cap : Nat) (w : World) (hr : Rd w w.heap.size 2 A m.length (cellsOf Bal.cells m)) (hn : m.length ≤ 1000000) :
    Calls Try.prog 31 #[.slice A m.length cap] w (ColPost 51 w.heap.size (ofW m) w) := by
  have hb := Below.refl w.heap.size w
  have HR := Lib.hid hr
  obtain ⟨i0, hi, hz0, hz1, hz2⟩ := info_parts colp_info
  clear hr
  go_enter Try.func31, Try.ntmps31
  go_wp2_with fail
  go_loopw [4, 5, 6] (fun v s t wr => ∃ (L : List Int) (last : Int) (first : Bool), Part (ofW m) m first last L ∧ s = .int .i64 last ∧ t = .bool first ∧ wr.ownsRow w.heap.size 51 2 v (balsOf (ofW m) L).length (cellsOf Bal.cells (balsOf (ofW m) L)) ∧ Below w.heap.size w wr) (fun _ s t _ => togo m t s)
  case atStart => exact ⟨[], _, true, part_start _ _ _, rfl, rfl, World.ownsRow_nil _ _ _ _, hb⟩
  case round =>
    clear hb
    obtain ⟨wo, rfl⟩ : ∃ wo : World, wo = wr := ⟨_, rfl⟩
    obtain ⟨L, last, first, hp, rfl, rfl, ho, hb⟩ := hrel
    have HP := Lib.hid hp
    have hz := hb.size
    have hln : (balsOf (ofW m) L).length ≤ 1000000 := by rw [balsOf_len]; have := part_len hp; omega
    clear hp
    go_wp2_with fail
    go_loopw [7, 8, 9] (fun nx fd t wr => ∃ (i : Nat) (found : Bool) (next : Int), i ≤ m.length ∧ Found (m.take i) first last found next ∧ nx = .int .i64 next ∧ fd = .bool found ∧ t = .int .i64 i ∧ wo = wr) (fun _ _ t _ => m.length - (intOf t).toNat)
    case atStart => exact ⟨0, false, 0, by omega, found_start _ _ _, rfl, rfl, rfl, rfl⟩
    case round =>
      obtain ⟨i, found, next, hi2, hf, rfl, rfl, rfl, rfl⟩ := hrel
      have HF := Lib.hid hf
      clear hf
      by_cases hil : i < m.length
      · obtain ⟨x, o, hA, hbo, f0, f1⟩ := Bal.at_ (HR.out.below hb (Nat.le_refl _)) hil
        subst hA
        cases first
        · by_cases hl : last < m[i].account
          · have HE : Hid (elig false last m[i].account = true) := Lib.hid (by simp [elig, hl])
            cases found
            · have HF2 := Lib.hid (found_hit HF.out HE.out (.inl rfl))
              go_wp2_with fail
              go_roundw
              case rel => exact ⟨i + 1, true, m[i].account, by omega, by rw [take_snoc_ m i hil]; exact HF2.out, rfl, rfl, by go_num, trivial⟩
              case measure => simp [intOf]; omega
            · by_cases hn : m[i].account < next
              · have HF2 := Lib.hid (found_hit HF.out HE.out (.inr hn))
                go_wp2_with fail
                go_roundw
                case rel => exact ⟨i + 1, true, m[i].account, by omega, by rw [take_snoc_ m i hil]; exact HF2.out, rfl, rfl, by go_num, trivial⟩
                case measure => simp [intOf]; omega
              · have HF2 := Lib.hid (found_miss (x := m[i]) HF.out (.inr ⟨rfl, by omega⟩))
                go_wp2_with fail
                go_roundw
                case rel => exact ⟨i + 1, true, next, by omega, by rw [take_snoc_ m i hil]; exact HF2.out, rfl, rfl, by go_num, trivial⟩
                case measure => simp [intOf]; omega
          · have HE : Hid (elig false last m[i].account = false) := Lib.hid (by simp [elig]; omega)
            have HF2 := Lib.hid (found_miss (x := m[i]) HF.out (.inl HE.out))
            go_wp2_with fail
            go_roundw
            case rel => exact ⟨i + 1, found, next, by omega, by rw [take_snoc_ m i hil]; exact HF2.out, rfl, rfl, by go_num, trivial⟩
            case measure => simp [intOf]; omega
        · have HE : Hid (elig true last m[i].account = true) := Lib.hid (by simp [elig])
          cases found
          · have HF2 := Lib.hid (found_hit HF.out HE.out (.inl rfl))
            go_wp2_with fail
            go_roundw
            case rel => exact ⟨i + 1, true, m[i].account, by omega, by rw [take_snoc_ m i hil]; exact HF2.out, rfl, rfl, by go_num, trivial⟩
            case measure => simp [intOf]; omega
          · by_cases hn : m[i].account < next
            · have HF2 := Lib.hid (found_hit HF.out HE.out (.inr hn))
              go_wp2_with fail
              go_roundw
              case rel => exact ⟨i + 1, true, m[i].account, by omega, by rw [take_snoc_ m i hil]; exact HF2.out, rfl, rfl, by go_num, trivial⟩
              case measure => simp [intOf]; omega
            · have HF2 := Lib.hid (found_miss (x := m[i]) HF.out (.inr ⟨rfl, by omega⟩))
              go_wp2_with fail
              go_roundw
              case rel => exact ⟨i + 1, true, next, by omega, by rw [take_snoc_ m i hil]; exact HF2.out, rfl, rfl, by go_num, trivial⟩
              case measure => simp [intOf]; omega
      · have HM : Hid (m.take i = m) := Lib.hid (List.take_of_length_le (by omega))
        have HF2 := Lib.hid HF.out
        rw [HM.out] at HF2
        clear HF
        cases found
        · have HEND := Lib.hid (part_end HP.out HF2.out)
          go_wp2_with fail
          go_ret2
          exact ⟨_, _, 0, rfl, ho, hb, .inl ⟨rfl, HEND.out.1, HEND.out.2⟩⟩
        · go_wp2_with fail
          go_loopw [11, 12] (fun s t wr => ∃ k : Nat, k ≤ m.length ∧ s = .int .i64 (ofW (m.take k) next) ∧ t = .int .i64 k ∧ wo = wr) (fun _ t _ => m.length - (intOf t).toNat)
          case atStart => exact ⟨0, by omega, rfl, rfl, rfl⟩
          case round =>
            obtain ⟨k, hk, rfl, rfl, rfl⟩ := hrel
            by_cases hlt : k < m.length
            · obtain ⟨x, o, hA, hbo, f0, f1⟩ := Bal.at_ (HR.out.below hb (Nat.le_refl _)) hlt
              subst hA
              have HK := Lib.hid (ofW_take m k hlt next)
              by_cases hc : m[k].account = next
              · have hc' : (m[k].account == next) = true := by simpa using hc
                have HE : Hid (ofW (m.take (k + 1)) next = wrap64 (ofW (m.take k) next + m[k].amount)) := Lib.hid (by rw [HK.out, if_pos hc])
                clear hc HK
                go_wp2_with fail
                go_roundw
                case rel => exact ⟨k + 1, by omega, by rw [HE.out], by go_num, trivial⟩
                case measure => simp [intOf]; omega
              · have hc' : (m[k].account == next) = false := by simpa using hc
                have HE : Hid (ofW (m.take (k + 1)) next = ofW (m.take k) next) := Lib.hid (by rw [HK.out, if_neg hc])
                clear hc HK
                go_wp2_with fail
                go_roundw
                case rel => exact ⟨k + 1, by omega, by rw [HE.out], by go_num, trivial⟩
                case measure => simp [intOf]; omega
            · have HE : Hid (m.take k = m) := Lib.hid (List.take_of_length_le (by omega))
              rw [HE.out]
              cases ha : amV (ofW m next)
              · have HA := Lib.hid ha
                go_wp2_with (go_at_call 35; refine (rmoney_any _ _).mono ?_; rintro e w2 ⟨rfl, rfl⟩)
                go_ret2
                exact ⟨_, [], 2, rfl, World.ownsRow_nil _ _ _ _, hb, .inr ⟨rfl, rfl, next, HA.out⟩⟩
              · have HST := Lib.hid (part_step HP.out HF2.out ha)
                have HTG := Lib.hid (togo_next HF2.out)
                by_cases h0 : ofW m next = 0
                · have hd : (ofW m next != 0) = false := by simp [h0]
                  have HS := Lib.hid (HST.out.1 h0)
                  clear h0 HST
                  go_wp2_with (go_at_call 35; refine (rmoney_any _ _).mono ?_; rintro e w2 ⟨rfl, rfl⟩)
                  go_roundw
                  case rel => exact ⟨L, next, false, HS.out, rfl, rfl, ho, hb⟩
                  case measure => exact HTG.out
                · have hd : (ofW m next != 0) = true := by simp [h0]
                  have HS := Lib.hid (HST.out.2 h0)
                  clear h0 HST
                  go_wp2_with (first
                    | (go_at_call 35; refine (rmoney_any _ _).mono ?_; rintro e w2 ⟨rfl, rfl⟩)
                    | (at_builtin; refine wpList_append_rec Bal.cells 2 (fun _ => rfl) Bal.one rfl (.tmp 68) (.tmp 72) 48 rfl w.heap.size 51 i0 (.agg #[.int .i64 0, .int .i64 0]) 16 Try.underlying48 hi hz0 hz1 hz2 rfl (by decide) _ (balsOf (ofW m) L) rfl (ho.alloc _) wo.heap.size 1 ⟨next, ofW m next⟩ _ rfl (Blk.new wo _ _) rfl ?c3 ?c4 ?c5 ?_))
                  case c3 => simp only [maxLen]; omega
                  case c4 => omega
                  case c5 => simp; omega
                  intro v4 w4 ho4 hg4
                  have hb3 : Below w.heap.size w (wo.alloc (.cells #[.int .i64 next, .int .i64 (ofW m next)] 51)) := (by repeat (first | exact hb | refine Below.alloc ?_ (by have hbs := hb.size; first | omega | (simp; done) | (simp; omega)) _ | refine Below.drew ?_ | refine below_drewN_ ?_ _ | refine Below.setCell ?_ (by simp) _))
                  have hb4 := bel_own hb3 (by simp; omega) (ho.alloc _) hg4
                  have HT : Hid (balsOf (ofW m) (L ++ [next]) = balsOf (ofW m) L ++ [⟨next, ofW m next⟩]) := Lib.hid (by unfold balsOf; rw [List.map_append]; rfl)
                  clear hg4 hb3
                  go_wp2_with fail
                  go_roundw
                  case rel => exact ⟨L ++ [next], next, false, HS.out, rfl, rfl, by rw [HT.out, List.length_append]; exact ho4, hb4⟩
                  case measure => exact HTG.out
end Go.Proofs.Ytkfbchgabmffoaa
/- The walk of Compare. -/
namespace Go.Proofs.Ytkfbchgabmffoaa
set_option linter.unusedVariables false
set_option linter.unusedSimpArgs false
open Go.RowKit

def BoolPost (b : Bool) (w : World) (e : Ending) (w' : World) : Prop := e = .returned (.bool b) ∧ Below w.heap.size w w'
def cmpV (a b : Int) : Int := if a < b then -1 else if b < a then 1 else 0
theorem isNaN_any (a : Int) (w : World) : Calls Try.prog 32 #[.int .i64 a] w (fun e w' => e = .returned (.bool false) ∧ w = w') := by
  have h : (a != a) = false := by simp
  go_enter Try.func32, Try.ntmps32
  go_wp2_with fail
  go_ret
  exact ⟨rfl, rfl⟩
theorem compare_any (a b : Int) (w : World) : Calls Try.prog 29 #[.int .i64 a, .int .i64 b] w (fun e w' => e = .returned (.int .i64 (cmpV a b)) ∧ w = w') := by
  by_cases h1 : a < b
  · have HE : Hid (cmpV a b = -1) := Lib.hid (by unfold cmpV; rw [if_pos h1])
    go_enter Try.func29, Try.ntmps29
    go_wp2_with (go_at_call 32; refine (isNaN_any _ _).mono ?_; rintro e w2 ⟨rfl, rfl⟩)
    go_ret
    exact ⟨ret_int HE.out.symm, rfl⟩
  by_cases h2 : b < a
  · have HE : Hid (cmpV a b = 1) := Lib.hid (by unfold cmpV; rw [if_neg h1, if_pos h2])
    go_enter Try.func29, Try.ntmps29
    go_wp2_with (go_at_call 32; refine (isNaN_any _ _).mono ?_; rintro e w2 ⟨rfl, rfl⟩)
    go_ret
    exact ⟨ret_int HE.out.symm, rfl⟩
  · have HE : Hid (cmpV a b = 0) := Lib.hid (by unfold cmpV; rw [if_neg h1, if_neg h2])
    go_enter Try.func29, Try.ntmps29
    go_wp2_with (go_at_call 32; refine (isNaN_any _ _).mono ?_; rintro e w2 ⟨rfl, rfl⟩)
    go_ret
    exact ⟨ret_int HE.out.symm, rfl⟩
end Go.Proofs.Ytkfbchgabmffoaa
/- The walks of the reference's Compare, Equal and SameParts. -/
namespace Go.Proofs.Ytkfbchgabmffoaa
set_option linter.unusedVariables false
set_option linter.unusedSimpArgs false
open Go.RowKit

instance instDecBal : DecidableEq Bal := fun a b => decidable_of_iff (a.account = b.account ∧ a.amount = b.amount) (by cases a; cases b; simp)
/-- a posting without its parts -/
structure Hd where
  kind : Int
  entity : Int
  other : Int
  rule : Int
  deriving DecidableEq
def firstNZ : List Int → Int
  | [] => 0
  | x :: l => if x = 0 then firstNZ l else x
theorem firstNZ_none (l : List Int) (h : ∀ j (h : j < l.length), l[j] = 0) : firstNZ l = 0 := by
  induction l with
  | nil => rfl
  | cons x l ih =>
    unfold firstNZ
    have h0 := h 0 (by simp)
    rw [if_pos (by simpa using h0)]
    exact ih (fun j hj => h (j + 1) (by simp; omega))
theorem firstNZ_at (l : List Int) (k : Nat) (hk : k < l.length) (h : ∀ j, j < k → l.getD j 0 = 0) (h0 : l[k] ≠ 0) : firstNZ l = l[k] := by
  induction l generalizing k with
  | nil => simp at hk
  | cons x l ih =>
    unfold firstNZ
    cases k with
    | zero => simp at h0 ⊢; exact fun e => absurd e h0
    | succ k =>
      have := h 0 (by omega)
      simp at this
      rw [if_pos this]
      exact ih k (by simpa using hk) (fun j hj => by have := h (j + 1) (by omega); simpa using this) (by simpa using h0)
def cmps (a b : Hd) : List Int := [cmpV a.kind b.kind, cmpV a.entity b.entity, cmpV a.other b.other, cmpV a.rule b.rule]
def cmpH (a b : Hd) : Int := firstNZ (cmps a b)
theorem getD_in_ (l : List Int) (k : Nat) (h : k < l.length) : l.getD k 0 = l[k] := by simp [h]
theorem idx4 (x1 x2 x3 x4 : Int) (k : Nat) (hk : k < 4) (w : World) : (Instr.index 72 (.agg #[.int .i64 x1, .int .i64 x2, .int .i64 x3, .int .i64 x4]) (.int .i64 k)).run Try.prog w = .ok (.int .i64 ([x1, x2, x3, x4].getD k 0)) w := by
  obtain ⟨i0, hi, hz0, hz1, hz2⟩ := info_parts int_info
  refine run_index_agg1 Try.underlying72 Try.underlying3 hi hz1 _ _ _ (by omega) (by omega) ?_ w
  have : k = 0 ∨ k = 1 ∨ k = 2 ∨ k = 3 := by omega
  rcases this with rfl | rfl | rfl | rfl
  all_goals rfl
end Go.Proofs.Ytkfbchgabmffoaa
