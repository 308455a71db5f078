/- Texts of this claim, put together. -/
import Derived.Test.YthfbpbbepogllaaGreatJAD
import Derived.Test.YthfbpbbepogllaaGreatJAA
import Derived.Test.YthfbpbbepogllaaGreatChecked
import Derived.Laws.StructEq
/- The walk of the reference's Clean. -/
namespace Go.Proofs.YthfbpbbepogllaaGreat
set_option linter.unusedVariables false
set_option linter.unusedSimpArgs false
open Go.RowKit

set_option maxRecDepth 100000 in
set_option maxHeartbeats 4000000 in
theorem rclean_any (m : List Bal) (A : Option Addr) (cap : Nat) (w : World) (hr : Rd w w.heap.size 2 A m.length (cellsOf Bal.cells m)) (hn : m.length ≤ 1000000) :
    Calls Tryz.prog 45 #[.slice A m.length cap] w (ColPost 68 w.heap.size (ofW m) w) := by
  have hb := Below.refl w.heap.size w
  have HR := Lib.hid hr
  obtain ⟨i0, hi, hz0, hz1, hz2⟩ := info_parts colp_info
  clear hr
  go_enter Tryz.func45, Tryz.ntmps45
  go_wp2_with fail
  go_loopw [4, 5, 6] (fun v s t wr => ∃ (L : List Int) (last : Int) (first : Bool), Part (ofW m) m first last L ∧ s = .int .i64 last ∧ t = .bool first ∧ wr.ownsRow w.heap.size 68 2 v (balsOf (ofW m) L).length (cellsOf Bal.cells (balsOf (ofW m) L)) ∧ Below w.heap.size w wr) (fun _ s t _ => togo m t s)
  case atStart => exact ⟨[], _, true, part_start _ _ _, rfl, rfl, World.ownsRow_nil _ _ _ _, hb⟩
  case round =>
    clear hb
    obtain ⟨wo, rfl⟩ : ∃ wo : World, wo = wr := ⟨_, rfl⟩
    obtain ⟨L, last, first, hp, rfl, rfl, ho, hb⟩ := hrel
    have HP := Lib.hid hp
    have hz := hb.size
    have hln : (balsOf (ofW m) L).length ≤ 1000000 := by rw [balsOf_len]; have := part_len hp; omega
    clear hp
    go_wp2_with fail
    go_loopw [7, 8, 9] (fun nx fd t wr => ∃ (i : Nat) (found : Bool) (next : Int), i ≤ m.length ∧ Found (m.take i) first last found next ∧ nx = .int .i64 next ∧ fd = .bool found ∧ t = .int .i64 i ∧ wo = wr) (fun _ _ t _ => m.length - (intOf t).toNat)
    case atStart => exact ⟨0, false, 0, by omega, found_start _ _ _, rfl, rfl, rfl, rfl⟩
    case round =>
      obtain ⟨i, found, next, hi2, hf, rfl, rfl, rfl, rfl⟩ := hrel
      have HF := Lib.hid hf
      clear hf
      by_cases hil : i < m.length
      · obtain ⟨x, o, hA, hbo, f0, f1⟩ := Bal.at_ (HR.out.below hb (Nat.le_refl _)) hil
        subst hA
        cases first
        · by_cases hl : last < m[i].account
          · have HE : Hid (elig false last m[i].account = true) := Lib.hid (by simp [elig, hl])
            cases found
            · have HF2 := Lib.hid (found_hit HF.out HE.out (.inl rfl))
              go_wp2_with fail
              go_roundw
              case rel => exact ⟨i + 1, true, m[i].account, by omega, by rw [take_snoc_ m i hil]; exact HF2.out, rfl, rfl, by go_num, trivial⟩
              case measure => simp [intOf]; omega
            · by_cases hn : m[i].account < next
              · have HF2 := Lib.hid (found_hit HF.out HE.out (.inr hn))
                go_wp2_with fail
                go_roundw
                case rel => exact ⟨i + 1, true, m[i].account, by omega, by rw [take_snoc_ m i hil]; exact HF2.out, rfl, rfl, by go_num, trivial⟩
                case measure => simp [intOf]; omega
              · have HF2 := Lib.hid (found_miss (x := m[i]) HF.out (.inr ⟨rfl, by omega⟩))
                go_wp2_with fail
                go_roundw
                case rel => exact ⟨i + 1, true, next, by omega, by rw [take_snoc_ m i hil]; exact HF2.out, rfl, rfl, by go_num, trivial⟩
                case measure => simp [intOf]; omega
          · have HE : Hid (elig false last m[i].account = false) := Lib.hid (by simp [elig]; omega)
            have HF2 := Lib.hid (found_miss (x := m[i]) HF.out (.inl HE.out))
            go_wp2_with fail
            go_roundw
            case rel => exact ⟨i + 1, found, next, by omega, by rw [take_snoc_ m i hil]; exact HF2.out, rfl, rfl, by go_num, trivial⟩
            case measure => simp [intOf]; omega
        · have HE : Hid (elig true last m[i].account = true) := Lib.hid (by simp [elig])
          cases found
          · have HF2 := Lib.hid (found_hit HF.out HE.out (.inl rfl))
            go_wp2_with fail
            go_roundw
            case rel => exact ⟨i + 1, true, m[i].account, by omega, by rw [take_snoc_ m i hil]; exact HF2.out, rfl, rfl, by go_num, trivial⟩
            case measure => simp [intOf]; omega
          · by_cases hn : m[i].account < next
            · have HF2 := Lib.hid (found_hit HF.out HE.out (.inr hn))
              go_wp2_with fail
              go_roundw
              case rel => exact ⟨i + 1, true, m[i].account, by omega, by rw [take_snoc_ m i hil]; exact HF2.out, rfl, rfl, by go_num, trivial⟩
              case measure => simp [intOf]; omega
            · have HF2 := Lib.hid (found_miss (x := m[i]) HF.out (.inr ⟨rfl, by omega⟩))
              go_wp2_with fail
              go_roundw
              case rel => exact ⟨i + 1, true, next, by omega, by rw [take_snoc_ m i hil]; exact HF2.out, rfl, rfl, by go_num, trivial⟩
              case measure => simp [intOf]; omega
      · have HM : Hid (m.take i = m) := Lib.hid (List.take_of_length_le (by omega))
        have HF2 := Lib.hid HF.out
        rw [HM.out] at HF2
        clear HF
        cases found
        · have HEND := Lib.hid (part_end HP.out HF2.out)
          go_wp2_with fail
          go_ret2
          exact ⟨_, _, 0, rfl, ho, hb, .inl ⟨rfl, HEND.out.1, HEND.out.2⟩⟩
        · go_wp2_with fail
          go_loopw [11, 12] (fun s t wr => ∃ k : Nat, k ≤ m.length ∧ s = .int .i64 (ofW (m.take k) next) ∧ t = .int .i64 k ∧ wo = wr) (fun _ t _ => m.length - (intOf t).toNat)
          case atStart => exact ⟨0, by omega, rfl, rfl, rfl⟩
          case round =>
            obtain ⟨k, hk, rfl, rfl, rfl⟩ := hrel
            by_cases hlt : k < m.length
            · obtain ⟨x, o, hA, hbo, f0, f1⟩ := Bal.at_ (HR.out.below hb (Nat.le_refl _)) hlt
              subst hA
              have HK := Lib.hid (ofW_take m k hlt next)
              by_cases hc : m[k].account = next
              · have hc' : (m[k].account == next) = true := by simpa using hc
                have HE : Hid (ofW (m.take (k + 1)) next = wrap64 (ofW (m.take k) next + m[k].amount)) := Lib.hid (by rw [HK.out, if_pos hc])
                clear hc HK
                go_wp2_with fail
                go_roundw
                case rel => exact ⟨k + 1, by omega, by rw [HE.out], by go_num, trivial⟩
                case measure => simp [intOf]; omega
              · have hc' : (m[k].account == next) = false := by simpa using hc
                have HE : Hid (ofW (m.take (k + 1)) next = ofW (m.take k) next) := Lib.hid (by rw [HK.out, if_neg hc])
                clear hc HK
                go_wp2_with fail
                go_roundw
                case rel => exact ⟨k + 1, by omega, by rw [HE.out], by go_num, trivial⟩
                case measure => simp [intOf]; omega
            · have HE : Hid (m.take k = m) := Lib.hid (List.take_of_length_le (by omega))
              rw [HE.out]
              cases ha : amV (ofW m next)
              · have HA := Lib.hid ha
                go_wp2_with (go_at_call 48; refine (rmoney_any _ _).mono ?_; rintro e w2 ⟨rfl, rfl⟩)
                go_ret2
                exact ⟨_, [], 2, rfl, World.ownsRow_nil _ _ _ _, hb, .inr ⟨rfl, rfl, next, HA.out⟩⟩
              · have HST := Lib.hid (part_step HP.out HF2.out ha)
                have HTG := Lib.hid (togo_next HF2.out)
                by_cases h0 : ofW m next = 0
                · have hd : (ofW m next != 0) = false := by simp [h0]
                  have HS := Lib.hid (HST.out.1 h0)
                  clear h0 HST
                  go_wp2_with (go_at_call 48; refine (rmoney_any _ _).mono ?_; rintro e w2 ⟨rfl, rfl⟩)
                  go_roundw
                  case rel => exact ⟨L, next, false, HS.out, rfl, rfl, ho, hb⟩
                  case measure => exact HTG.out
                · have hd : (ofW m next != 0) = true := by simp [h0]
                  have HS := Lib.hid (HST.out.2 h0)
                  clear h0 HST
                  go_wp2_with (first
                    | (go_at_call 48; refine (rmoney_any _ _).mono ?_; rintro e w2 ⟨rfl, rfl⟩)
                    | (at_builtin; refine wpList_append_rec Bal.cells 2 (fun _ => rfl) Bal.one rfl (.tmp 68) (.tmp 72) 46 rfl w.heap.size 68 i0 (.agg #[.int .i64 0, .int .i64 0]) 16 Tryz.underlying46 hi hz0 hz1 hz2 rfl (by decide) _ (balsOf (ofW m) L) rfl (ho.alloc _) wo.heap.size 1 ⟨next, ofW m next⟩ _ rfl (Blk.new wo _ _) rfl ?c3 ?c4 ?c5 ?_))
                  case c3 => simp only [maxLen]; omega
                  case c4 => omega
                  case c5 => simp; omega
                  intro v4 w4 ho4 hg4
                  have hb3 : Below w.heap.size w (wo.alloc (.cells #[.int .i64 next, .int .i64 (ofW m next)] 68)) := (by repeat (first | exact hb | refine Below.alloc ?_ (by have hbs := hb.size; first | omega | (simp; done) | (simp; omega)) _ | refine Below.drew ?_ | refine below_drewN_ ?_ _ | refine Below.setCell ?_ (by simp) _))
                  have hb4 := bel_own hb3 (by simp; omega) (ho.alloc _) hg4
                  have HT : Hid (balsOf (ofW m) (L ++ [next]) = balsOf (ofW m) L ++ [⟨next, ofW m next⟩]) := Lib.hid (by unfold balsOf; rw [List.map_append]; rfl)
                  clear hg4 hb3
                  go_wp2_with fail
                  go_roundw
                  case rel => exact ⟨L ++ [next], next, false, HS.out, rfl, rfl, by rw [HT.out, List.length_append]; exact ho4, hb4⟩
                  case measure => exact HTG.out
end Go.Proofs.YthfbpbbepogllaaGreat
/- What lists of sums add up to. No program. -/
namespace Go.Proofs.YthfbpbbepogllaaGreat
set_option linter.unusedVariables false
set_option linter.unusedSimpArgs false
open Go.RowKit

def sumV (m : List Bal) : Int := sm m Bal.amount
/-- amounts within M in number and size -/
def within (M : Int) (m : List Bal) : Prop := ∀ x ∈ m, -M ≤ x.amount ∧ x.amount ≤ M
theorem wrap_in {n : Int} (h0 : -9223372036854775808 ≤ n) (h1 : n ≤ 9223372036854775807) : wrap64 n = n := IntWalk.wrap64_in n ⟨h0, h1⟩
theorem sumW_eq {M : Int} (m : List Bal) (h : within M m) (h0 : 0 ≤ M) (hl : M * m.length ≤ 4000000000000000000) : sumW m = sumV m := by
  have : ∀ k, k ≤ m.length → sumW (m.take k) = sumV (m.take k) := by
    intro k
    induction k with
    | zero => intro _; rfl
    | succ k ih =>
      intro hk
      have hk' : k < m.length := by omega
      rw [sumW_take m k hk', ih (by omega)]
      have e : sumV (m.take (k + 1)) = sumV (m.take k) + m[k].amount := sm_take m k hk' _
      rw [e]
      have hb := sm_bd (m.take k) Bal.amount M (fun x hx => h x (List.mem_of_mem_take hx))
      have hx := h _ (List.getElem_mem hk')
      rw [List.length_take, Nat.min_eq_left (by omega)] at hb
      have h2 : M * (k : Int) ≤ M * (m.length : Int) := Int.mul_le_mul_of_nonneg_left (by omega) h0
      have h3 : M * 1 ≤ M * (m.length : Int) := Int.mul_le_mul_of_nonneg_left (by omega) h0
      show wrap64 (sumV (m.take k) + m[k].amount) = _
      unfold sumV
      rw [wrap_in (by omega) (by omega)]
  have := this m.length (Nat.le_refl _)
  rwa [List.take_length] at this
theorem ofW_eq' {M : Int} (m : List Bal) (c : Int) (h : within M m) (h0 : 0 ≤ M) (hl : M * m.length ≤ 4000000000000000000) : ofW m c = ofV m c := by
  have : ∀ k, k ≤ m.length → ofW (m.take k) c = ofV (m.take k) c := by
    intro k
    induction k with
    | zero => intro _; rfl
    | succ k ih =>
      intro hk
      have hk' : k < m.length := by omega
      rw [ofW_take m k hk', ih (by omega)]
      have e : ofV (m.take (k + 1)) c = ofV (m.take k) c + if m[k].account = c then m[k].amount else 0 := sm_take m k hk' _
      rw [e]
      have hb := sm_bd (m.take k) (fun x => if x.account = c then x.amount else 0) M (fun x hx => by
        have := h x (List.mem_of_mem_take hx)
        show -M ≤ (if x.account = c then x.amount else 0) ∧ (if x.account = c then x.amount else 0) ≤ M
        split <;> omega)
      have hx := h _ (List.getElem_mem hk')
      rw [List.length_take, Nat.min_eq_left (by omega)] at hb
      have h2 : M * (k : Int) ≤ M * (m.length : Int) := Int.mul_le_mul_of_nonneg_left (by omega) h0
      have h3 : M * 1 ≤ M * (m.length : Int) := Int.mul_le_mul_of_nonneg_left (by omega) h0
      by_cases hc : m[k].account = c
      · rw [if_pos hc, if_pos hc]
        unfold ofV
        rw [wrap_in (by omega) (by omega)]
      · rw [if_neg hc, if_neg hc]; omega
  have := this m.length (Nat.le_refl _)
  rwa [List.take_length] at this
/-- each once -/
def dd : List Int → List Int
  | [] => []
  | a :: l => if a ∈ dd l then dd l else a :: dd l
theorem dd_mem (l : List Int) (c : Int) : c ∈ dd l ↔ c ∈ l := by
  induction l with
  | nil => simp [dd]
  | cons a l ih =>
    unfold dd
    by_cases h : a ∈ dd l
    · rw [if_pos h, ih, List.mem_cons]
      constructor
      · exact .inr
      · rintro (rfl | h2)
        · exact ih.1 h
        · exact h2
    · rw [if_neg h, List.mem_cons, ih, List.mem_cons]
theorem dd_nodup (l : List Int) : (dd l).Nodup := by
  induction l with
  | nil => exact List.nodup_nil
  | cons a l ih =>
    unfold dd
    by_cases h : a ∈ dd l
    · rw [if_pos h]; exact ih
    · rw [if_neg h, List.nodup_cons]; exact ⟨h, ih⟩
theorem sm_perm {l m : List Int} (h : l.Perm m) (f : Int → Int) : sm l f = sm m f := by
  induction h with
  | nil => rfl
  | cons a _ ih => rw [sm_cons, sm_cons, ih]
  | swap a b l => rw [sm_cons, sm_cons, sm_cons, sm_cons]; omega
  | trans _ _ h1 h2 => rw [h1, h2]
theorem sm_same {l m : List Int} (hl : l.Nodup) (hm : m.Nodup) (h : ∀ c, c ∈ l ↔ c ∈ m) (f : Int → Int) : sm l f = sm m f := sm_perm ((List.perm_ext_iff_of_nodup hl hm).2 h) f
theorem sm_single {l : List Int} (hl : l.Nodup) {c : Int} (hc : c ∈ l) (g : Int) : sm l (fun a => if c = a then g else 0) = g := by
  have := sm_one (fun a : Int => a) (by simpa using hl) hc (fun _ => g)
  refine Eq.trans (sm_congr fun a _ => ?_) this
  by_cases h : a = c
  · rw [if_pos h, if_pos h.symm]
  · have h' : ¬ c = a := fun e => h e.symm
    rw [if_neg h, if_neg h']
/-- all amounts, by accounts -/
theorem sumV_by (m : List Bal) (D : List Int) (hD : D.Nodup) (h : ∀ x ∈ m, x.account ∈ D) : sumV m = sm D (ofV m) := by
  induction m with
  | nil => unfold sumV; rw [sm_nil, sm_zero]; intro c _; rfl
  | cons x m ih =>
    have e : sm D (ofV (x :: m)) = sm D (fun c => (if x.account = c then x.amount else 0) + ofV m c) := sm_congr fun c _ => sm_cons _ _ _
    rw [e, sm_add, sm_single hD (h x (by simp)), ← ih (fun y hy => h y (by simp [hy]))]
    exact sm_cons _ _ _
theorem sm_drop0 (l : List Int) (f : Int → Int) : sm (l.filter fun c => f c != 0) f = sm l f := by
  rw [sm_filter]
  refine sm_congr fun c _ => ?_
  by_cases h : f c = 0 <;> simp [h]
theorem isC_nodup {f : Int → Int} {L : List Bal} (h : IsC f L) : (L.map Bal.account).Nodup := h.1.imp fun {a b} hab => by omega
theorem isC_sum {f : Int → Int} {L : List Bal} (h : IsC f L) : sumV L = sm (L.map Bal.account) f := by
  unfold sumV
  rw [sm_map]
  exact sm_congr fun x hx => ((h.2 x).1 hx).1.symm
/-- the list of sums adds up to the same -/
theorem clean_sum {m : List Bal} {f : Int → Int} {L : List Bal} (h : IsC f L) (hf : ∀ c, f c = ofV m c) : sumV L = sumV m := by
  have e : f = ofV m := funext hf
  subst e
  rw [isC_sum h, sumV_by m (dd (m.map Bal.account)) (dd_nodup _) (fun x hx => (dd_mem _ _).2 (List.mem_map.2 ⟨x, hx, rfl⟩)), ← sm_drop0 (dd (m.map Bal.account))]
  refine sm_same (isC_nodup h) ((dd_nodup _).filter _) (fun c => ?_) _
  rw [isC_codes h, List.mem_filter, dd_mem]
  constructor
  · intro hc
    refine ⟨?_, by simpa using hc⟩
    by_cases hm : c ∈ m.map Bal.account
    · exact hm
    · exact absurd (sm_zero (fun x hx => if_neg (fun e => hm (List.mem_map.2 ⟨x, hx, e⟩)))) hc
  · intro hc
    simpa using hc.2
/-- a list of sums is its own list of sums -/
theorem clean_again {f : Int → Int} {L : List Bal} (h : IsC f L) (c : Int) : ofV L c = f c := by
  unfold ofV
  by_cases hc : f c = 0
  · rw [hc]
    refine sm_zero fun x hx => ?_
    by_cases e : x.account = c
    · have := (h.2 x).1 hx
      rw [e, hc] at this
      exact absurd this.1.symm this.2
    · rw [if_neg e]
  · have hx : (⟨c, f c⟩ : Bal) ∈ L := (h.2 _).2 ⟨rfl, hc⟩
    exact sm_one Bal.account (isC_nodup h) hx Bal.amount
theorem clean_amount {f : Int → Int} {L : List Bal} (h : IsC f L) (ha : ∀ c, amV (f c) = true) : within 1000000000000 L := by
  intro x hx
  have := amV_is (ha x.account)
  rw [((h.2 x).1 hx).1] at this
  exact this
theorem clean_len {m : List Bal} {L : List Bal} (h : IsC (ofW m) L) : L.length ≤ m.length := by
  have := nodup_len_ (L.map Bal.account) (m.map Bal.account) (isC_nodup h) (fun c hc => by
    have h1 := (isC_codes h c).1 hc
    by_cases hm : c ∈ m.map Bal.account
    · exact hm
    · refine absurd ?_ h1
      unfold ofW
      have : ∀ (l : List Bal) (n : Int), (∀ x ∈ l, x.account ≠ c) → l.foldl (fun n x => if x.account = c then wrap64 (n + x.amount) else n) n = n := by
        intro l
        induction l with
        | nil => intro n _; rfl
        | cons a l ih => intro n hl; rw [List.foldl_cons, if_neg (hl a (by simp)), ih n (fun x hx => hl x (by simp [hx]))]
      exact this m 0 (fun x hx e => hm (List.mem_map.2 ⟨x, hx, e⟩)))
  simpa using this
theorem clean_in {m : List Bal} {L : List Bal} (h : IsC (ofW m) L) {x : Bal} (hx : x ∈ L) : ∃ y ∈ m, y.account = x.account := by
  have h1 := (isC_codes h x.account).1 (List.mem_map.2 ⟨x, hx, rfl⟩)
  by_cases hm : x.account ∈ m.map Bal.account
  · obtain ⟨y, hy, e⟩ := List.mem_map.1 hm
    exact ⟨y, hy, e⟩
  · refine absurd ?_ h1
    unfold ofW
    have : ∀ (l : List Bal) (n : Int), (∀ y ∈ l, y.account ≠ x.account) → l.foldl (fun n y => if y.account = x.account then wrap64 (n + y.amount) else n) n = n := by
      intro l
      induction l with
      | nil => intro n _; rfl
      | cons a l ih => intro n hl; rw [List.foldl_cons, if_neg (hl a (by simp)), ih n (fun y hy => hl y (by simp [hy]))]
    exact this m 0 (fun y hy e => hm (List.mem_map.2 ⟨y, hy, e⟩))
/-- both ways of collecting end alike -/
theorem col_same {f e : Int → Int} {L M : List Bal} {E G : Int} (h1 : (E = 0 ∧ IsC f L ∧ ∀ c, amV (f c) = true) ∨ (E = 2 ∧ L = [] ∧ ∃ c, amV (f c) = false)) (h2 : (G = 0 ∧ IsC e M ∧ ∀ c, amV (e c) = true) ∨ (G = 2 ∧ M = [] ∧ ∃ c, amV (e c) = false)) (h : ∀ c, f c = e c) : E = G ∧ L = M := by
  rcases h1 with ⟨e1, c1, a1⟩ | ⟨e1, l1, c, a1⟩ <;> rcases h2 with ⟨e2, c2, a2⟩ | ⟨e2, l2, d, a2⟩
  · exact ⟨by rw [e1, e2], isC_unique c1 c2 h⟩
  · rw [← h, a1 d] at a2; cases a2
  · rw [h, a2 c] at a1; cases a1
  · exact ⟨by rw [e1, e2], by rw [l1, l2]⟩
/-- sums do not hang on the order -/
theorem ofV_perm {l m : List Bal} (h : l.Perm m) (c : Int) : ofV l c = ofV m c := by
  unfold ofV
  induction h with
  | nil => rfl
  | cons a _ ih => rw [sm_cons, sm_cons, ih]
  | swap a b l => rw [sm_cons, sm_cons, sm_cons, sm_cons]; omega
  | trans _ _ h1 h2 => rw [h1, h2]
/-- amounts of at most 2^50, at most 200 -/
def smallAt (m : List Bal) (j : Nat) : Bool := decide ((m.getD j Bal.zero).amount ≤ 1125899906842624) && decide (-1125899906842624 ≤ (m.getD j Bal.zero).amount)
def smallV (m : List Bal) : Bool := allAt m.length (smallAt m) && decide (m.length ≤ 200)
theorem small_is {m : List Bal} (h : smallV m = true) : within 1125899906842624 m ∧ m.length ≤ 200 := by
  unfold smallV at h
  simp only [Bool.and_eq_true, decide_eq_true_eq] at h
  refine ⟨fun x hx => ?_, h.2⟩
  obtain ⟨j, hj, rfl⟩ := List.mem_iff_getElem.1 hx
  have := allAt_at h.1 hj
  unfold smallAt at this
  rw [Bal.getD_at m j hj] at this
  simp only [Bool.and_eq_true, decide_eq_true_eq] at this
  exact ⟨this.2, this.1⟩
end Go.Proofs.YthfbpbbepogllaaGreat
/- The walk of Compare. -/
namespace Go.Proofs.YthfbpbbepogllaaGreat
set_option linter.unusedVariables false
set_option linter.unusedSimpArgs false
open Go.RowKit

def BoolPost (b : Bool) (w : World) (e : Ending) (w' : World) : Prop := e = .returned (.bool b) ∧ Below w.heap.size w w'
def cmpV (a b : Int) : Int := if a < b then -1 else if b < a then 1 else 0
theorem isNaN_any (a : Int) (w : World) : Calls Tryz.prog 171 #[.int .i64 a] w (fun e w' => e = .returned (.bool false) ∧ w = w') := by
  have h : (a != a) = false := by simp
  go_enter Tryz.func171, Tryz.ntmps171
  go_wp2_with fail
  go_ret
  exact ⟨rfl, rfl⟩
end Go.Proofs.YthfbpbbepogllaaGreat
/- The walks of the reference's Compare, Equal and SameParts. -/
namespace Go.Proofs.YthfbpbbepogllaaGreat
set_option linter.unusedVariables false
set_option linter.unusedSimpArgs false
open Go.RowKit

instance instDecBal : DecidableEq Bal := fun a b => decidable_of_iff (a.account = b.account ∧ a.amount = b.amount) (by cases a; cases b; simp)
/-- a posting without its parts -/
structure Hd where
  kind : Int
  entity : Int
  other : Int
  rule : Int
  deriving DecidableEq
def firstNZ : List Int → Int
  | [] => 0
  | x :: l => if x = 0 then firstNZ l else x
theorem firstNZ_none (l : List Int) (h : ∀ j (h : j < l.length), l[j] = 0) : firstNZ l = 0 := by
  induction l with
  | nil => rfl
  | cons x l ih =>
    unfold firstNZ
    have h0 := h 0 (by simp)
    rw [if_pos (by simpa using h0)]
    exact ih (fun j hj => h (j + 1) (by simp; omega))
theorem firstNZ_at (l : List Int) (k : Nat) (hk : k < l.length) (h : ∀ j, j < k → l.getD j 0 = 0) (h0 : l[k] ≠ 0) : firstNZ l = l[k] := by
  induction l generalizing k with
  | nil => simp at hk
  | cons x l ih =>
    unfold firstNZ
    cases k with
    | zero => simp at h0 ⊢; exact fun e => absurd e h0
    | succ k =>
      have := h 0 (by omega)
      simp at this
      rw [if_pos this]
      exact ih k (by simpa using hk) (fun j hj => by have := h (j + 1) (by omega); simpa using this) (by simpa using h0)
def cmps (a b : Hd) : List Int := [cmpV a.kind b.kind, cmpV a.entity b.entity, cmpV a.other b.other, cmpV a.rule b.rule]
def cmpH (a b : Hd) : Int := firstNZ (cmps a b)
theorem getD_in_ (l : List Int) (k : Nat) (h : k < l.length) : l.getD k 0 = l[k] := by simp [h]
end Go.Proofs.YthfbpbbepogllaaGreat
/- The walks of SameParts, small and awake. -/
namespace Go.Proofs.YthfbpbbepogllaaGreat
set_option linter.unusedVariables false
set_option linter.unusedSimpArgs false
open Go.RowKit

def sample : List Bal := [⟨3000, 5⟩, ⟨1000, 2⟩, ⟨3000, -5⟩, ⟨2000, -2⟩]
def sampleL : List Bal := [⟨1000, 2⟩, ⟨2000, -2⟩]
theorem sample_of (c : Int) : ofW sample c = if c = 1000 then 2 else if c = 2000 then -2 else 0 := by
  rw [ofW_eq' (M := 10) sample c (by unfold within sample; decide) (by decide) (by decide)]
  unfold ofV sample
  by_cases h1 : c = 1000
  · subst h1; decide
  by_cases h2 : c = 2000
  · subst h2; decide
  by_cases h3 : c = 3000
  · subst h3; decide
  rw [if_neg h1, if_neg h2]
  simp only [sm_cons, sm_nil]
  rw [if_neg (fun e => h3 e.symm), if_neg (fun e => h1 e.symm), if_neg (fun e => h3 e.symm), if_neg (fun e => h2 e.symm)]
  rfl
theorem sample_is : IsC (ofW sample) sampleL := by
  refine ⟨by decide, fun x => ?_⟩
  rw [sample_of]
  obtain ⟨a, n⟩ := x
  simp only [sampleL, List.mem_cons, List.not_mem_nil, or_false, Bal.mk.injEq]
  by_cases h1 : a = 1000
  · subst h1; simp; omega
  by_cases h2 : a = 2000
  · subst h2; simp; omega
  simp [h1, h2]
  omega
theorem sample_am (c : Int) : amV (ofW sample c) = true := by
  rw [sample_of]
  by_cases h1 : c = 1000
  · rw [if_pos h1]; decide
  by_cases h2 : c = 2000
  · rw [if_neg h1, if_pos h2]; decide
  · rw [if_neg h1, if_neg h2]; decide
theorem sample_wf : ∀ x ∈ sample, (Lit.int .i64 x.account).wf = true := by unfold sample; decide
end Go.Proofs.YthfbpbbepogllaaGreat
/- The walk of PostingClean. -/
namespace Go.Proofs.YthfbpbbepogllaaGreat
set_option linter.unusedVariables false
set_option linter.unusedSimpArgs false
open Go.RowKit

/-- how collecting ends -/
def ColAlt (f : Int → Int) (L : List Bal) (E : Int) : Prop := (E = 0 ∧ IsC f L ∧ ∀ c, amV (f c) = true) ∨ (E = 2 ∧ L = [] ∧ ∃ c, amV (f c) = false)
theorem small_sum {m : List Bal} (h : smallV m = true) : sumW m = sumV m := by
  obtain ⟨h1, h2⟩ := small_is h
  exact sumW_eq m h1 (by omega) (by omega)
theorem small_of {m : List Bal} (h : smallV m = true) (c : Int) : ofW m c = ofV m c := by
  obtain ⟨h1, h2⟩ := small_is h
  exact ofW_eq' m c h1 (by omega) (by omega)
theorem clean_of {m L : List Bal} (hl : m.length ≤ 200) (h : IsC (ofW m) L) (ha : ∀ c, amV (ofW m c) = true) (c : Int) : ofW L c = ofW m c := by
  have := clean_len h
  rw [ofW_eq' L c (clean_amount h ha) (by omega) (by omega)]
  exact clean_again h c
theorem clean_twice {m L L2 : List Bal} {E2 : Int} (hs : smallV m = true) (h : IsC (ofW m) L) (ha : ∀ c, amV (ofW m c) = true) (h2 : ColAlt (ofW L) L2 E2) : E2 = 0 ∧ L2 = L ∧ sumW L = sumW m := by
  have hl := (small_is hs).2
  have hll := clean_len h
  have hof := clean_of hl h ha
  refine ⟨?_, ?_, ?_⟩
  · rcases h2 with ⟨e, _, _⟩ | ⟨_, _, c, hc⟩
    · exact e
    · rw [hof, ha c] at hc; cases hc
  · rcases h2 with ⟨_, h3, _⟩ | ⟨_, _, c, hc⟩
    · exact isC_unique h3 h hof
    · rw [hof, ha c] at hc; cases hc
  · rw [sumW_eq L (clean_amount h ha) (by omega) (by omega), small_sum hs]
    exact clean_sum h (small_of hs)
theorem col_len {f : Int → Int} {m L : List Bal} {E : Int} (h : ColAlt f L E) (hf : f = ofW m) : L.length ≤ m.length := by
  subst hf
  rcases h with ⟨_, h, _⟩ | ⟨_, rfl, _⟩
  · exact clean_len h
  · simp
theorem col_wf {m L : List Bal} {E : Int} (h : ColAlt (ofW m) L E) (hwf : ∀ x ∈ m, (Lit.int .i64 x.account).wf = true) : ∀ x ∈ L, (Lit.int .i64 x.account).wf = true := by
  rcases h with ⟨_, h, _⟩ | ⟨_, rfl, _⟩
  · intro x hx
    obtain ⟨y, hy, e⟩ := clean_in h hx
    rw [← e]; exact hwf y hy
  · intro x hx; simp at hx
end Go.Proofs.YthfbpbbepogllaaGreat
