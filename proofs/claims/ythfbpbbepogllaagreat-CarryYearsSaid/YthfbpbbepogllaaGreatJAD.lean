/- Texts of this claim, put together. -/
import Derived.Test.YthfbpbbepogllaaGreatJAC
import Derived.Test.YthfbpbbepogllaaGreatChecked
import Derived.Sort.OwnSortedInts
import Derived.Maps.OwnSet
/- The walks of money.Valid, of the sort of a row of the call's own, of collect. -/
namespace Go.Proofs.YthfbpbbepogllaaGreat
set_option linter.unusedVariables false
set_option linter.unusedSimpArgs false
open Go.RowKit
open Go.Maps (Keyed)


theorem money_any (n : Int) (w : World) : Calls Tryz.prog 47 #[.int .i64 n] w (fun e w' => e = .returned (.bool (amV n)) ∧ w = w') := by
  have HE : Hid (amV n = (decide (-1000000000000 ≤ n) && decide (n ≤ 1000000000000))) := Lib.hid rfl
  by_cases h1 : -1000000000000 ≤ n
  · by_cases h2 : n ≤ 1000000000000
    all_goals
      go_enter Tryz.func47, Tryz.ntmps47
      go_wp2_with fail
      go_ret
      exact ⟨ret_bool (by rw [HE.out]; simp [h1, h2] <;> omega), rfl⟩
  · go_enter Tryz.func47, Tryz.ntmps47
    go_wp2_with fail
    go_ret
    exact ⟨ret_bool (by rw [HE.out]; simp [h1] <;> omega), rfl⟩

def SortPost (base : Nat) (v : Value) (zs : List Int) (w : World) (e : Ending) (w' : World) : Prop :=
  e = .returned (.tuple #[]) ∧ w'.ownsRow base 3 1 v zs.length (intCells (srt zs)) ∧ w.grownBy w' v.ownBlock
theorem sort_own (base : Nat) (v : Value) (zs : List Int) (w : World) (h : w.ownsRow base 3 1 v zs.length (intCells zs)) (hl : zs.length ≤ 100000000) :
    Calls Tryz.prog 89 #[v] w (SortPost base v zs w) := by
  rcases Nat.eq_zero_or_pos zs.length with h0 | h0
  · have hz : zs = [] := List.eq_nil_of_length_eq_zero h0
    subst hz
    have hnil : SortPost base v [] w (.returned (.tuple #[])) w := ⟨rfl, by simpa [srt] using h, World.grownBy.refl w _⟩
    rcases h.2 with ⟨rfl, _⟩ | ⟨g, cap, cur, rfl, _⟩
    · exact (Tryz.slices_Sort_int_none none 0 w).mono fun e w' hh => by rw [hh.1, hh.2]; exact hnil
    · exact (Tryz.slices_Sort_int_none _ cap w).mono fun e w' hh => by rw [hh.1, hh.2]; exact hnil
  · rcases h.2 with ⟨_, hz⟩ | ⟨g, cap, cur, rfl, hb, hg, hn, hm, hs, ht⟩
    · omega
    · have hlt : g < w.heap.size := (Array.getElem?_eq_some_iff.1 hg).1
      refine (Tryz.slices_Sort_int g 0 cap zs w (holds_of_blockI hg (by rw [Nat.mul_one] at ht; exact ht)) hlt (by omega)).mono fun e w' hh => ?_
      obtain ⟨he, n, os, rfl⟩ := hh
      refine ⟨he, ?_, grownBy_sortedI _⟩
      have := ownsRow_sortedI (n := n) (os := os) (ss := zs) (ts := srt zs) (base := base) (e := 3) (cap := cap) (srt_len zs) hb hg hn hm hs
      exact this
/-- what collect hands back: the sums in order, or an error -/
def ColPost (T : TypeId) (base : Nat) (f : Int → Int) (w : World) (e : Ending) (w' : World) : Prop :=
  ∃ (v : Value) (L : List Bal) (E : Int), e = .returned (.tuple #[v, .int .i64 E]) ∧ w'.ownsRow base T 2 v L.length (cellsOf Bal.cells L) ∧ Below w.heap.size w w' ∧
    ((E = 0 ∧ IsC f L ∧ ∀ c, amV (f c) = true) ∨ (E = 2 ∧ L = [] ∧ ∃ c, amV (f c) = false))

theorem colp_info : (Tryz.prog.info? 68).map (fun i => (i.zero, i.size, i.bytes)) = some (some (.agg #[.int .i64 0, .int .i64 0]), 2, 16) := by kernel_rfl
set_option maxRecDepth 100000 in
set_option maxHeartbeats 2000000 in
theorem colp_any (b n : Nat) (f : Int → Int) (w : World) (hS : SumW Tryz.prog 3 3 w b n f) (hn : n ≤ 1000000) :
    Calls Tryz.prog 75 #[.map (some b)] w (ColPost 68 w.heap.size f w) := by
  have hS0 := hS
  obtain ⟨D, hown, hM, hD⟩ := hS
  have HD := Lib.hid hD
  have HM := Lib.hid hM
  have hb := Below.refl w.heap.size w
  obtain ⟨i0, hi, hz0, hz1, hz2⟩ := info_parts int_info
  have hsz := hown.size_le
  have hbl := hown.lt
  have hmk := fun W => run_make_ints (P := Tryz.prog) (t := 37) (z := .int .i64 0) Tryz.underlying37 hi hz0 hz1 hz2 (Maps.size D) (by omega) W
  clear hD hM
  go_enter Tryz.func75, Tryz.ntmps75
  go_wp2_with (first
    | (at_len; refine wpList_len_own _ rfl _ 119 rfl 3 3 Tryz.underlying119 _ b n D rfl hown ?_)
    | (at_range; refine wpList_range_own _ rfl _ 119 rfl 3 3 keyed_int Tryz.underlying119 _ b n D rfl (hown.alloc _) ?_; intro w0 hrg0 hg0 hs0))
  have hb0 : Below w.heap.size w w0 := by
    have := (hb.alloc (Nat.le_refl _) (.cells (madeCells #[.int .i64 0] (Maps.size D)) 3)).grown hg0 (by simp) (fun k hk => by cases hk)
    exact this
  have ho0 : w0.ownsRow w.heap.size 3 1 (.slice (some ⟨w.heap.size, 0, none⟩) 0 (Maps.size D)) 0 [] :=
    (own_empty w 3 w.heap.size 1 (Maps.size D) (Nat.le_refl _) _ (by rw [size_madeCells]; omega) (by unfold maxLen; omega)).kept hg0 (by right; simp [Value.ownBlock])
  have HC0 := Lib.hid (gath_start f D)
  obtain ⟨r, hr⟩ : ∃ r, r = (w.alloc (.cells (madeCells #[.int .i64 0] (Maps.size D)) 3)).heap.size := ⟨_, rfl⟩
  rw [← hr] at hrg0 hs0 ⊢
  have hrl : w.heap.size < r := by rw [hr]; simp
  clear hr hb hg0 hs0 hown
  go_frame
  go_loopw [4] (fun v wr => ∃ (L : List Int) (left : Lit → Bool) (cnt : Nat), wr.ranges Tryz.prog 3 (plainElem Tryz.prog 3) b r n D left cnt ∧ Gath f D left L ∧ (∀ c ∈ L, (Lit.int .i64 c).wf = true) ∧ wr.ownsRow w.heap.size 3 1 v L.length (intCells L) ∧ L.length + cnt ≤ n ∧ Below w.heap.size w wr) (fun _ wr => wr.rangeLeft b r)
  case atStart => exact ⟨[], _, _, hrg0, HC0.out, (fun c hc => by simp at hc), ho0, by simp; omega, hb0⟩
  case round =>
    clear hrg0 hb0 ho0 HC0
    obtain ⟨L, left, cnt, hrg, hC, hW, ho, hLc, hb⟩ := hrel
    have HC := Lib.hid hC
    have HW := Lib.hid hW
    have HNE := Lib.hid ho.lt
    have hz := hb.size
    have hnb := map_ne hrg.owns ho
    have hnr := range_ne hrg ho
    clear hC hW
    go_wp2_with (at_next; refine wpList_next_ranges_ii _ rfl _ rfl 3 3 .i64 .i64 keyed_int Tryz.underlying3 Tryz.underlying3 b r n _ _ _ rfl hrg ?_ ?_)
    · intro _ hl0
      have HEND := Lib.hid (gath_end HC.out hl0 HD.out)
      have HL := Lib.hid HC.out.1
      have hS1 : SumW Tryz.prog 3 3 wr b n f := ⟨D, hrg.owns, HM.out, HD.out⟩
      have hlen : L.length ≤ 1000000 := by omega
      have hlen2 : L.length ≤ n := by omega
      obtain ⟨A4, c4, rfl, -⟩ := Rd.of_own ho
      go_wp2_with (go_at_call 89; refine (sort_own w.heap.size _ L wr ho (by omega)).mono ?_; rintro e w2 ⟨rfl, ho2, hg2⟩)
      have hb2 : Below w.heap.size w w2 := Below.grown hb hg2 hz (fun k hk => (HNE.out k hk).1)
      have hS2 := hS1.kept hg2 hnb
      have HW2 : Hid (∀ c ∈ srt L, (Lit.int .i64 c).wf = true) := Lib.hid (fun c hc => HW.out c ((srt_mem L c).1 hc))
      clear hg2 hS1 hl0 hrg ho hb hnb hnr HNE HC HW
      obtain ⟨j0, hj0, hj1, hj2, hj3⟩ := info_parts colp_info
      go_wp2_with fail
      go_loopw [7, 33] (fun v t wr => ∃ j : Nat, j ≤ L.length ∧ t = .int .i64 j ∧ wr.ownsRow w.heap.size 68 2 v (balsOf f ((srt L).take j)).length (cellsOf Bal.cells (balsOf f ((srt L).take j))) ∧
        wr.ownsRow w.heap.size 3 1 (.slice A4 L.length c4) L.length (intCells (srt L)) ∧ SumW Tryz.prog 3 3 wr b n f ∧ Below w.heap.size w wr) (fun _ t _ => L.length - (intOf t).toNat)
      case atStart => exact ⟨0, by omega, rfl, World.ownsRow_nil _ _ _ _, ho2, hS2, hb2⟩
      case round =>
        clear ho2 hS2 hb2
        obtain ⟨j, hj, rfl, ho, hoc, hS, hb⟩ := hrel
        have hz3 := hb.size
        by_cases hjn : j < L.length
        · have hjl : j < (srt L).length := by rw [srt_len]; exact hjn
          have hoc' := hoc
          rw [← srt_len L] at hoc'
          obtain ⟨ba, oa, hA4, hba, r0⟩ := int_at (own_rd hoc') hjl
          clear hoc'
          subst hA4
          have hc : (Lit.int .i64 (srt L)[j]).wf = true := HW2.out _ (List.getElem_mem hjl)
          have hLL := hS.look (t := 119) Tryz.underlying3 Tryz.underlying3 Tryz.underlying119 (zero_int _) hc
          have hne2 := hS.ne ho
          have HT := Lib.hid (balsOf_take f (srt L) j hjl)
          have hml : (balsOf f ((srt L).take j)).length ≤ n := by rw [balsOf_len, List.length_take]; omega
          go_wp2_with (at_builtin; refine wpList_append_rec Bal.cells 2 (fun _ => rfl) Bal.one rfl (.tmp 37) (.tmp 43) 46 rfl w.heap.size 68 j0 (.agg #[.int .i64 0, .int .i64 0]) 16 Tryz.underlying46 hj0 hj1 hj2 hj3 rfl (by decide) _ (balsOf f ((srt L).take j)) rfl (ho.alloc _) wr.heap.size 1 ⟨(srt L)[j], f (srt L)[j]⟩ _ rfl (Blk.new wr _ _) rfl ?c3 ?c4 ?c5 ?_)
          case c3 => simp only [maxLen]; omega
          case c4 => omega
          case c5 => simp; omega
          intro v4 w4 ho4 hg4
          have hb3 : Below w.heap.size w (wr.alloc (.cells #[.int .i64 (srt L)[j], .int .i64 (f (srt L)[j])] 68)) := (by repeat (first | exact hb | refine Below.alloc ?_ (by have hbs := hb.size; first | omega | (simp; done) | (simp; omega)) _ | refine Below.drew ?_ | refine below_drewN_ ?_ _ | refine Below.setCell ?_ (by simp) _))
          have hb4 := bel_own hb3 (by simp; omega) (ho.alloc _) hg4
          have hoc4 := own_apart (hoc.alloc (.cells #[.int .i64 (srt L)[j], .int .i64 (f (srt L)[j])] 68)) (ho.alloc _) (by decide) hg4
          have hS4 := (hS.alloc (.cells #[.int .i64 (srt L)[j], .int .i64 (f (srt L)[j])] 68)).kept hg4 hne2
          clear hg4 hb3 hLL
          go_wp2_with fail
          go_roundw
          case rel => exact ⟨j + 1, by omega, by go_num, by rw [HT.out, List.length_append]; exact ho4, hoc4, hS4, hb4⟩
          case measure => simp [intOf]; omega
        · have HT : Hid ((srt L).take j = srt L) := Lib.hid (List.take_of_length_le (by rw [srt_len]; omega))
          rw [HT.out] at ho
          go_wp2_with fail
          go_ret2
          exact ⟨_, _, 0, rfl, ho, hb, .inl ⟨rfl, isC_of (srt_asc HL.out) (fun c => by rw [srt_mem]; exact HEND.out.1 c), HEND.out.2⟩⟩
    · intro x c w1 cnt1 hwx hwc hlx hat hrg1 hlt hg1 hs1 hen
      have hcx : c = f x := by
        have h1 := hat (.lit (.int .i64 0))
        rw [HD.out x] at h1
        injection h1 with h1
        injection h1 with _ h1
        exact h1.symm
      subst hcx
      have HHAS := Lib.hid (Maps.has_true_of_atKey hat)
      have HLX := Lib.hid hlx
      have ho1 := ho.kept hg1 (.inr hnr)
      have hb1 : Below w.heap.size w w1 := Below.grown hb hg1 hz (fun k hk => by injection hk with hk; omega)
      have hnb1 := map_ne hrg1.owns ho1
      have hnr1 := range_ne hrg1 ho1
      have hz1' := hb1.size
      clear hs1 hg1 hat hlx hwc
      cases hm : amV (f x)
      · have HM2 := Lib.hid hm
        go_wp2_with (go_at_call 47; refine (money_any _ _).mono ?_; rintro e w2 ⟨rfl, rfl⟩)
        go_ret2
        exact ⟨_, [], 2, rfl, World.ownsRow_nil _ _ _ _, hb1, .inr ⟨rfl, rfl, x, HM2.out⟩⟩
      · have HM2 := Lib.hid hm
        by_cases h0 : f x = 0
        · have hd : (f x != 0) = false := by simp [h0]
          have HG := Lib.hid (gath_skip HC.out h0)
          clear h0
          go_wp2_with (go_at_call 47; refine (money_any _ _).mono ?_; rintro e w2 ⟨rfl, rfl⟩)
          go_roundw
          case rel => exact ⟨L, strike left x, cnt1, hrg1, HG.out, HW.out, ho1, by omega, hb1⟩
          case measure => rw [hrg1.left_eq, hrg.left_eq]; exact hlt
        · have hd : (f x != 0) = true := by simp [h0]
          have HG := Lib.hid (gath_take HC.out HLX.out HHAS.out h0 HM2.out)
          clear h0
          go_wp2_with (first
            | (go_at_call 47; refine (money_any _ _).mono ?_; rintro e w2 ⟨rfl, rfl⟩)
            | (at_builtin; refine wpList_append_own _ rfl (.tmp 25) (.tmp 27) 37 rfl w.heap.size 3 i0 (.int .i64 0) 1 8 Tryz.underlying37 hi hz0 hz1 hz2 rfl (by decide) _ (L).length (intCells (L)) rfl (ho1.alloc _) ⟨w1.heap.size, 0, none⟩ 1 1 [.int .i64 (x)] rfl rfl ?c1 (one_i64 _) ?c3 ?c4 ?c5 ?_))
          case c1 => exact cells_new _ _ _ _ rfl
          case c3 => simp only [maxLen]; omega
          case c4 => omega
          case c5 => simp; omega
          intro v4 w4 ho4 hg4 _
          have hb3 : Below w.heap.size w (w1.alloc (.cells #[.int .i64 x] 3)) := hb1.alloc hz1' _
          have hb4 := bel_own hb3 (by simp; omega) (ho1.alloc _) hg4
          have hrg4 := (hrg1.alloc (.cells #[.int .i64 x] 3)).kept hg4 hnb1 (Ne.symm hnr1)
          clear hg4 hb3 hen
          go_wp2_with fail
          go_roundw
          case rel =>
            refine ⟨L ++ [x], strike left x, cnt1, hrg4, HG.out, ?_, by rw [intCells_app, List.length_append]; exact ho4, by rw [List.length_append]; simp; omega, hb4⟩
            intro y hy
            rcases List.mem_append.1 hy with hy | hy
            · exact HW.out y hy
            · simp only [List.mem_singleton] at hy; subst hy; exact hwx
          case measure => rw [hrg4.left_eq, hrg.left_eq]; exact hlt
theorem colb_info : (Tryz.prog.info? 126).map (fun i => (i.zero, i.size, i.bytes)) = some (some (.agg #[.int .i64 0, .int .i64 0]), 2, 16) := by kernel_rfl
end Go.Proofs.YthfbpbbepogllaaGreat
/- Sums of amounts, wrapping around; the reference's way to the sums in order. No program. -/
namespace Go.Proofs.YthfbpbbepogllaaGreat
set_option linter.unusedVariables false
set_option linter.unusedSimpArgs false
open Go.RowKit

theorem ofW_put (m : List Bal) (k : Nat) (hk : k < m.length) :
    (fun d => if d = m[k].account then wrap64 (ofW (m.take k) m[k].account + m[k].amount) else ofW (m.take k) d) = ofW (m.take (k + 1)) := by
  funext d
  rw [ofW_take m k hk]
  by_cases h : d = m[k].account
  · subst h; simp
  · rw [if_neg h, if_neg (fun e => h e.symm)]
theorem ofW_zero (m : List Bal) : ofW (m.take 0) = fun _ => 0 := by funext c; rfl
/-- the sum of all amounts -/
def sumW (m : List Bal) : Int := m.foldl (fun n x => wrap64 (n + x.amount)) 0
theorem sumW_take (m : List Bal) (k : Nat) (h : k < m.length) : sumW (m.take (k + 1)) = wrap64 (sumW (m.take k) + m[k].amount) := by
  unfold sumW
  rw [List.take_succ_eq_append_getElem h, List.foldl_append]
  rfl
/-- the amounts negated -/
def negL (m : List Bal) : List Bal := m.map fun x => ⟨x.account, wrap64 (-x.amount)⟩
theorem negL_take (m : List Bal) (k : Nat) (h : k < m.length) : negL (m.take (k + 1)) = negL (m.take k) ++ [⟨m[k].account, wrap64 (-m[k].amount)⟩] := by
  unfold negL
  rw [List.take_succ_eq_append_getElem h, List.map_append]
  rfl
theorem negL_len (m : List Bal) : (negL m).length = m.length := by unfold negL; rw [List.length_map]
/-- may an account come up? -/
def elig (first : Bool) (last c : Int) : Bool := first || decide (last < c)
/-- what the search for the next account has found among the first ones -/
def Found (m : List Bal) (first : Bool) (last : Int) (found : Bool) (next : Int) : Prop :=
  (found = true → next ∈ m.map Bal.account ∧ elig first last next = true ∧ ∀ x ∈ m, elig first last x.account = true → next ≤ x.account) ∧ (found = false → ∀ x ∈ m, elig first last x.account = false)
theorem found_start (first : Bool) (last next : Int) : Found [] first last false next := ⟨fun h => by simp at h, fun _ x hx => by simp at hx⟩
theorem found_hit {m : List Bal} {first found : Bool} {last next : Int} {x : Bal} (h : Found m first last found next) (he : elig first last x.account = true) (hn : found = false ∨ x.account < next) : Found (m ++ [x]) first last true x.account := by
  refine ⟨fun _ => ⟨by simp, he, fun y hy hye => ?_⟩, fun h => by simp at h⟩
  rcases List.mem_append.1 hy with hy | hy
  · cases found with
    | false => rw [h.2 rfl y hy] at hye; cases hye
    | true =>
      have := (h.1 rfl).2.2 y hy hye
      rcases hn with hn | hn
      · cases hn
      · omega
  · simp only [List.mem_singleton] at hy
    subst hy
    omega
theorem found_miss {m : List Bal} {first found : Bool} {last next : Int} {x : Bal} (h : Found m first last found next) (hn : elig first last x.account = false ∨ (found = true ∧ next ≤ x.account)) : Found (m ++ [x]) first last found next := by
  refine ⟨fun hf => ?_, fun hf y hy => ?_⟩
  · obtain ⟨h1, h2, h3⟩ := h.1 hf
    refine ⟨by rw [List.map_append]; exact List.mem_append_left _ h1, h2, fun y hy hye => ?_⟩
    rcases List.mem_append.1 hy with hy | hy
    · exact h3 y hy hye
    · simp only [List.mem_singleton] at hy
      subst hy
      rcases hn with hn | hn
      · rw [hn] at hye; cases hye
      · exact hn.2
  · rcases List.mem_append.1 hy with hy | hy
    · exact h.2 hf y hy
    · simp only [List.mem_singleton] at hy
      subst hy
      rcases hn with hn | hn
      · exact hn
      · rw [hf] at hn; cases hn.1
/-- the accounts gone through, in order -/
def Part (f : Int → Int) (m : List Bal) (first : Bool) (last : Int) (L : List Int) : Prop :=
  L.Pairwise (· < ·) ∧ (∀ c, c ∈ L ↔ (f c ≠ 0 ∧ elig first last c = false ∧ c ∈ m.map Bal.account)) ∧ (∀ x ∈ m, elig first last x.account = false → amV (f x.account) = true)
theorem part_start (f : Int → Int) (m : List Bal) (last : Int) : Part f m true last [] := ⟨List.Pairwise.nil, fun c => by simp [elig], fun x _ h => by simp [elig] at h⟩
theorem elig_next {first : Bool} {last next c : Int} (h : elig first last next = true) : elig false next c = false ↔ c ≤ next := by simp [elig]
/-- one account more is gone through -/
theorem part_step {f : Int → Int} {m : List Bal} {first : Bool} {last next : Int} {L : List Int} (h : Part f m first last L) (hf : Found m first last true next) (ha : amV (f next) = true) :
    (f next = 0 → Part f m false next L) ∧ (f next ≠ 0 → Part f m false next (L ++ [next])) := by
  obtain ⟨h1, h2, h3⟩ := hf.1 rfl
  have hold : ∀ c, elig first last c = false → c < next := by
    intro c hc
    unfold elig at h2 hc
    cases first
    · simp at h2 hc; omega
    · simp at hc
  have hmid : ∀ x ∈ m, elig first last x.account = true → x.account ≤ next → x.account = next := fun x hx h4 h5 => by have := h3 x hx h4; omega
  have ham : ∀ x ∈ m, elig false next x.account = false → amV (f x.account) = true := by
    intro x hx hle
    rw [elig_next h2] at hle
    cases he : elig first last x.account with
    | false => exact h.2.2 x hx he
    | true => rw [hmid x hx he hle]; exact ha
  refine ⟨fun h0 => ⟨h.1, fun c => ?_, ham⟩, fun h0 => ⟨?_, fun c => ?_, ham⟩⟩
  · rw [h.2.1 c, elig_next h2]
    constructor
    · rintro ⟨a, b, d⟩; exact ⟨a, by have := hold c b; omega, d⟩
    · rintro ⟨a, b, d⟩
      refine ⟨a, ?_, d⟩
      cases he : elig first last c with
      | false => rfl
      | true =>
        obtain ⟨x, hx, rfl⟩ := List.mem_map.1 d
        rw [hmid x hx he b] at a
        exact absurd h0 a
  · rw [List.pairwise_append]
    refine ⟨h.1, by simp, fun a hal b hb => ?_⟩
    simp only [List.mem_singleton] at hb
    subst hb
    exact hold a ((h.2.1 a).1 hal).2.1
  · rw [List.mem_append, List.mem_singleton, h.2.1 c, elig_next h2]
    constructor
    · rintro (⟨a, b, d⟩ | rfl)
      · exact ⟨a, by have := hold c b; omega, d⟩
      · exact ⟨h0, by omega, h1⟩
    · rintro ⟨a, b, d⟩
      cases he : elig first last c with
      | false => exact .inl ⟨a, rfl, d⟩
      | true =>
        obtain ⟨x, hx, rfl⟩ := List.mem_map.1 d
        exact .inr (hmid x hx he b)
theorem part_end {m : List Bal} {first : Bool} {last next : Int} {L : List Int} (h : Part (ofW m) m first last L) (hf : Found m first last false next) : IsC (ofW m) (balsOf (ofW m) L) ∧ ∀ c, amV (ofW m c) = true := by
  have hz : ∀ c, c ∉ m.map Bal.account → ofW m c = 0 := by
    intro c hc
    unfold ofW
    have : ∀ (l : List Bal) (n : Int), (∀ x ∈ l, x.account ≠ c) → l.foldl (fun n x => if x.account = c then wrap64 (n + x.amount) else n) n = n := by
      intro l
      induction l with
      | nil => intro n _; rfl
      | cons a l ih => intro n hl; rw [List.foldl_cons, if_neg (hl a (by simp)), ih n (fun x hx => hl x (by simp [hx]))]
    exact this m 0 (fun x hx e => hc (List.mem_map.2 ⟨x, hx, e⟩))
  have hall : ∀ c, c ∈ m.map Bal.account → elig first last c = false := by
    intro c hc
    obtain ⟨x, hx, rfl⟩ := List.mem_map.1 hc
    exact hf.2 rfl x hx
  refine ⟨isC_of h.1 (fun c => ?_), fun c => ?_⟩
  · rw [h.2.1 c]
    constructor
    · exact fun hh => hh.1
    · intro hc
      by_cases hm : c ∈ m.map Bal.account
      · exact ⟨hc, hall c hm, hm⟩
      · exact absurd (hz c hm) hc
  · by_cases hm : c ∈ m.map Bal.account
    · obtain ⟨x, hx, rfl⟩ := List.mem_map.1 hm
      exact h.2.2 x hx (hf.2 rfl x hx)
    · rw [hz c hm]; rfl
/-- how many accounts may still come up -/
def togo (m : List Bal) : Value → Value → Nat
  | .bool true, _ => m.length + 1
  | _, .int _ last => (m.filter fun x => decide (last < x.account)).length
  | _, _ => 0
theorem togo_next {m : List Bal} {first : Bool} {last next : Int} (hf : Found m first last true next) : togo m (.bool false) (.int .i64 next) < togo m (.bool first) (.int .i64 last) := by
  obtain ⟨h1, h2, -⟩ := hf.1 rfl
  cases first with
  | true =>
    have := List.length_filter_le (fun x : Bal => decide (next < x.account)) m
    simp only [togo]
    omega
  | false =>
    simp only [togo]
    obtain ⟨x, hx, e⟩ := List.mem_map.1 h1
    have hlt : last < next := by simpa [elig] using h2
    clear hf h1 h2
    have hle : ∀ l : List Bal, (l.filter fun x => decide (next < x.account)).length ≤ (l.filter fun x => decide (last < x.account)).length := by
      intro l
      induction l with
      | nil => simp
      | cons b l ih =>
        rw [List.filter_cons, List.filter_cons]
        by_cases c1 : next < b.account
        · have : last < b.account := by omega
          simp [c1, this]; exact ih
        · by_cases c2 : last < b.account
          · simp [c1, c2]; omega
          · simp [c1, c2]; exact ih
    induction m with
    | nil => simp at hx
    | cons a m ih =>
      rw [List.filter_cons, List.filter_cons]
      rcases List.mem_cons.1 hx with rfl | hx
      · have h1 : ¬ next < x.account := by omega
        have h2 : last < x.account := by omega
        have := hle m
        simp [h1, h2]; omega
      · have := ih hx
        by_cases h1 : next < a.account
        · have h2 : last < a.account := by omega
          simp [h1, h2]; exact this
        · by_cases h2 : last < a.account
          · simp [h1, h2]; omega
          · simp [h1, h2]; exact this
theorem nodup_len_ (s t : List Int) (hd : s.Nodup) (hs : ∀ x ∈ s, x ∈ t) : s.length ≤ t.length := by
  induction s generalizing t with
  | nil => simp
  | cons a s ih =>
    have ha := hs a (by simp)
    have hn := List.nodup_cons.1 hd
    have := ih (t.erase a) hn.2 (fun x hx => by
      refine (List.mem_erase_of_ne ?_).2 (hs x (by simp [hx]))
      rintro rfl
      exact hn.1 hx)
    rw [List.length_erase_of_mem ha] at this
    have := List.length_pos_of_mem ha
    simp only [List.length_cons]
    omega
theorem part_len {f : Int → Int} {m : List Bal} {first : Bool} {last : Int} {L : List Int} (h : Part f m first last L) : L.length ≤ m.length := by
  have hd : L.Nodup := h.1.imp fun {a b} hab => by omega
  have := nodup_len_ L (m.map Bal.account) hd (fun c hc => ((h.2.1 c).1 hc).2.2)
  simpa using this
theorem take_snoc_ (m : List Bal) (k : Nat) (h : k < m.length) : m.take (k + 1) = m.take k ++ [m[k]] := List.take_succ_eq_append_getElem h
end Go.Proofs.YthfbpbbepogllaaGreat
/- The walks of Clean, Sum, Negate and of their references. -/
namespace Go.Proofs.YthfbpbbepogllaaGreat
set_option linter.unusedVariables false
set_option linter.unusedSimpArgs false
open Go.RowKit

theorem rmoney_any (n : Int) (w : World) : Calls Tryz.prog 48 #[.int .i64 n] w (fun e w' => e = .returned (.bool (amV n)) ∧ w = w') := by
  have HE : Hid (amV n = (decide (-1000000000000 ≤ n) && decide (n ≤ 1000000000000))) := Lib.hid rfl
  by_cases h1 : -1000000000000 ≤ n
  · by_cases h2 : n ≤ 1000000000000
    all_goals
      go_enter Tryz.func48, Tryz.ntmps48
      go_wp2_with fail
      go_ret
      exact ⟨ret_bool (by rw [HE.out]; simp [h1, h2] <;> omega), rfl⟩
  · go_enter Tryz.func48, Tryz.ntmps48
    go_wp2_with fail
    go_ret
    exact ⟨ret_bool (by rw [HE.out]; simp [h1] <;> omega), rfl⟩
set_option maxRecDepth 100000 in
set_option maxHeartbeats 1000000 in
theorem clean_any (m : List Bal) (A : Option Addr) (cap : Nat) (w : World) (hr : Rd w w.heap.size 2 A m.length (cellsOf Bal.cells m)) (hn : m.length ≤ 1000000) (hwf : ∀ x ∈ m, (Lit.int .i64 x.account).wf = true) :
    Calls Tryz.prog 40 #[.slice A m.length cap] w (ColPost 68 w.heap.size (ofW m) w) := by
  have hb := Below.refl w.heap.size w
  have HR := Lib.hid hr
  have HW := Lib.hid hwf
  have hmm := @run_makeMap Tryz.prog
  clear hr hwf
  go_enter Tryz.func40, Tryz.ntmps40
  go_wp2_with fail
  go_loopw [10] (fun t wr => ∃ k : Nat, k ≤ m.length ∧ t = .int .i64 k ∧ SumW Tryz.prog 3 3 wr w.heap.size k (ofW (m.take k)) ∧ Below w.heap.size w wr) (fun t _ => m.length - (intOf t).toNat)
  case atStart => exact ⟨0, by omega, rfl, by rw [ofW_zero]; exact SumW.made w, (by repeat (first | exact hb | refine Below.alloc ?_ (by have hbs := hb.size; first | omega | (simp; done) | (simp; omega)) _ | refine Below.drew ?_ | refine below_drewN_ ?_ _ | refine Below.setCell ?_ (by simp) _))⟩
  case round =>
    clear hb
    obtain ⟨k, hk, rfl, hS, hb⟩ := hrel
    have hz := hb.size
    by_cases hlt : k < m.length
    · obtain ⟨x, o, hA, hbo, f0, f1⟩ := Bal.at_ (HR.out.below hb (Nat.le_refl _)) hlt
      subst hA
      have hc : (Lit.int .i64 m[k].account).wf = true := HW.out _ (List.getElem_mem hlt)
      have hy := wrap64_wf (ofW (m.take k) m[k].account + m[k].amount)
      have hLL := (hS.alloc (.cells #[.int .i64 m[k].account, .int .i64 m[k].amount] 68)).look (t := 119) Tryz.underlying3 Tryz.underlying3 Tryz.underlying119 (zero_int _) hc
      have HP := Lib.hid (ofW_put m k hlt)
      go_wp2_with (at_mapUpdate; refine wpList_sum_put rfl _ _ _ 119 rfl Tryz.underlying3 Tryz.underlying3 Tryz.underlying119 (hS.alloc _) (by unfold maxLen; omega) _ _ hc hy rfl rfl rfl ?_; intro w4 hS4 hg4)
      rw [HP.out] at hS4
      have hb4 : Below w.heap.size w w4 := Below.grown (hb.alloc hz _) hg4 (by simp; omega) (fun k hk => by injection hk with hk; omega)
      clear hg4 hS hLL
      go_wp2_with fail
      go_roundw
      case rel => exact ⟨k + 1, by omega, by go_num, hS4, hb4⟩
      case measure => simp [intOf]; omega
    · have HE : Hid (m.take k = m) := Lib.hid (List.take_of_length_le (by omega))
      rw [HE.out] at hS
      go_wp2_with (go_at_call 75; refine (colp_any w.heap.size k (ofW m) wr hS (by omega)).mono ?_; rintro e w5 ⟨v5, L, E, rfl, ho5, hb5, hc5⟩)
      go_ret2
      exact ⟨v5, L, E, rfl, own_base ho5 hb.size, bel hb hb5, hc5⟩
def OwnParts (base : Nat) (L : List Bal) (w : World) (e : Ending) (w' : World) : Prop :=
  ∃ v, e = .returned v ∧ w'.ownsRow base 68 2 v L.length (cellsOf Bal.cells L) ∧ Below w.heap.size w w'
end Go.Proofs.YthfbpbbepogllaaGreat
