/- The walks of Path and Under, of both. -/
import Derived.Test.YtjcapeieahffnaaChartWalksI
import Derived.Test.YtjcapeieahffnaaChartMathD
namespace Go.Proofs.Ytjcapeieahffnaa
set_option linter.unusedVariables false
set_option linter.unusedSimpArgs false
open Go.RowKit

theorem rfind_gen (l : List Acc) (c : Int) (A : Option Addr) (cap : Nat) (w : World) (hr : Rd w w.heap.size 4 A l.length (Ch.cells l)) (hn : l.length ≤ 100000) :
    Calls Try.prog 14 #[.slice A l.length cap, .int .i64 c] w (fun e w' => e = .returned (.tuple #[.agg #[.int .i64 (Ch.fnV l c).code, .int .i64 (Ch.fnV l c).kind, .int .i64 (Ch.fnV l c).basis, .int .i64 (Ch.fnV l c).parent], .bool (Ch.fnB l c)]) ∧ Below w.heap.size w w') :=
  (rfind_any l c A cap w hr hn).mono (fun _ _ h => h)
theorem nil_ints (base : Nat) (w w' : World) (h : Below w.heap.size w w') (l : List Int) (hl : l = []) : OwnInts base l w (.returned (.slice none 0 0)) w' := ⟨_, rfl, by subst hl; exact World.ownsRow_nil _ _ _ _, h⟩

def IdxPost (w : World) (e : Ending) (w' : World) : Prop := ∃ k : Nat, e = .returned (.int .i64 k) ∧ w = w'
set_option maxHeartbeats 1000000 in
theorem index_is (l : List Int) (c : Int) (A : Option Addr) (cap : Nat) (w : World) (hr : Rd w w.heap.size 1 A l.length (intCells l)) (hn : l.length ≤ 1000000) (hm : c ∈ l) :
    Calls Try.prog 44 #[.slice A l.length cap, .int .i64 c] w (IdxPost w) := by
  have HR := Lib.hid hr
  have HM := Lib.hid hm
  clear hr hm
  go_enter Try.func44, Try.ntmps44
  go_wp2_with fail
  go_loopw [8] (fun t wr => ∃ k : Nat, k ≤ l.length ∧ (∀ j (h : j < k) (h2 : j < l.length), l[j]'h2 ≠ c) ∧ t = .int .i64 k ∧ w = wr) (fun t _ => l.length - (intOf t).toNat)
  case atStart => exact ⟨0, by omega, fun j h => by omega, rfl, rfl⟩
  case round =>
    obtain ⟨k, hk, hno, rfl, rfl⟩ := hrel
    have HN := Lib.hid hno
    clear hno
    by_cases hlt : k < l.length
    · obtain ⟨b, o, hA, hbo, f0⟩ := int_at HR.out hlt
      subst hA
      by_cases hc : l[k] = c
      · have hc' : (c == l[k]) = true := by simp [hc]
        clear hc
        go_wp2_with fail
        go_ret
        exact ⟨k, rfl, rfl⟩
      · have hc' : (c == l[k]) = false := by simpa using Ne.symm hc
        have HC := Lib.hid hc
        clear hc
        go_wp2_with fail
        go_roundw
        case rel =>
          refine ⟨k + 1, by omega, fun j h h2 => ?_, by go_num, trivial⟩
          by_cases hj : j = k
          · subst hj; exact HC.out
          · exact HN.out j (by omega) h2
        case measure => simp [intOf]; omega
    · obtain ⟨j, hj, e⟩ := List.mem_iff_getElem.1 HM.out
      exact absurd e (HN.out j (by omega) hj)
set_option maxHeartbeats 1000000 in
theorem index_not (l : List Int) (c : Int) (A : Option Addr) (cap : Nat) (w : World) (hr : Rd w w.heap.size 1 A l.length (intCells l)) (hn : l.length ≤ 1000000) (hm : ¬ c ∈ l) :
    Calls Try.prog 44 #[.slice A l.length cap, .int .i64 c] w (fun e w' => e = .returned (.int .i64 (-1)) ∧ w = w') := by
  have HR := Lib.hid hr
  have HM := Lib.hid hm
  clear hr hm
  go_enter Try.func44, Try.ntmps44
  go_wp2_with fail
  go_loopw [8] (fun t wr => ∃ k : Nat, k ≤ l.length ∧ t = .int .i64 k ∧ w = wr) (fun t _ => l.length - (intOf t).toNat)
  case atStart => exact ⟨0, by omega, rfl, rfl⟩
  case round =>
    obtain ⟨k, hk, rfl, rfl⟩ := hrel
    by_cases hlt : k < l.length
    · obtain ⟨b, o, hA, hbo, f0⟩ := int_at HR.out hlt
      subst hA
      have hc' : (c == l[k]) = false := by
        simp only [beq_eq_false_iff_ne, ne_eq]
        rintro rfl
        exact HM.out (List.getElem_mem hlt)
      go_wp2_with fail
      go_roundw
      case rel => exact ⟨k + 1, by omega, by go_num, trivial⟩
      case measure => simp [intOf]; omega
    · go_wp2_with fail
      go_ret
      exact ⟨rfl, rfl⟩
theorem contains_is (l : List Int) (c : Int) (A : Option Addr) (cap : Nat) (w : World) (hr : Rd w w.heap.size 1 A l.length (intCells l)) (hn : l.length ≤ 1000000) (hm : c ∈ l) :
    Calls Try.prog 35 #[.slice A l.length cap, .int .i64 c] w (fun e w' => e = .returned (.bool true) ∧ w = w') := by
  have HR := Lib.hid hr
  have HM := Lib.hid hm
  clear hr hm
  go_enter Try.func35, Try.ntmps35
  go_wp2_with (go_at_call 44; refine (index_is l c A cap w HR.out hn HM.out).mono ?_; rintro e w2 ⟨k, rfl, rfl⟩)
  go_ret
  exact ⟨rfl, rfl⟩
theorem contains_not (l : List Int) (c : Int) (A : Option Addr) (cap : Nat) (w : World) (hr : Rd w w.heap.size 1 A l.length (intCells l)) (hn : l.length ≤ 1000000) (hm : ¬ c ∈ l) :
    Calls Try.prog 35 #[.slice A l.length cap, .int .i64 c] w (fun e w' => e = .returned (.bool false) ∧ w = w') := by
  have HR := Lib.hid hr
  have HM := Lib.hid hm
  clear hr hm
  go_enter Try.func35, Try.ntmps35
  go_wp2_with (go_at_call 44; refine (index_not l c A cap w HR.out hn HM.out).mono ?_; rintro e w2 ⟨rfl, rfl⟩)
  go_ret
  exact ⟨rfl, rfl⟩
theorem rhas_is (l : List Int) (c : Int) (A : Option Addr) (cap : Nat) (w : World) (hr : Rd w w.heap.size 1 A l.length (intCells l)) (hn : l.length ≤ 1000000) (hm : c ∈ l) :
    Calls Try.prog 28 #[.slice A l.length cap, .int .i64 c] w (fun e w' => e = .returned (.bool true) ∧ w = w') := by
  have := rhas_any l c A cap w hr hn
  rwa [show decide (c ∈ l) = true from by simpa using hm] at this
theorem rhas_not (l : List Int) (c : Int) (A : Option Addr) (cap : Nat) (w : World) (hr : Rd w w.heap.size 1 A l.length (intCells l)) (hn : l.length ≤ 1000000) (hm : ¬ c ∈ l) :
    Calls Try.prog 28 #[.slice A l.length cap, .int .i64 c] w (fun e w' => e = .returned (.bool false) ∧ w = w') := by
  have := rhas_any l c A cap w hr hn
  rwa [show decide (c ∈ l) = false from by simpa using hm] at this

section
variable (l : List Acc) (c : Int) (A : Option Addr) (cap : Nat) (w : World) (hr : Rd w w.heap.size 4 A l.length (Ch.cells l)) (hn : l.length ≤ 100000) (hwf : ∀ a ∈ l, (Lit.int .i64 a.code).wf = true)
include hr hn hwf
set_option maxHeartbeats 1000000 in
theorem path_any : Calls Try.prog 21 #[.slice A l.length cap, .int .i64 c] w (OwnInts w.heap.size (Ch.pathV l c) w) := by
  have hb := Below.refl w.heap.size w
  have HR := Lib.hid hr
  have HW := Lib.hid hwf
  clear hr hwf
  cases h1 : Ch.eitherV l
  · go_enter Try.func21, Try.ntmps21
    go_wp2_with (go_at_call 33; refine (either_any l A cap _ (Rd.now HR.out hb) hn HW.out).mono ?_; rintro e w2 ⟨rfl, hb2⟩; replace hb := bel hb hb2; clear hb2)
    go_ret
    exact nil_ints _ _ _ hb _ (Ch.path_no l c h1)
  · cases h2 : Ch.fnB l c
    · go_enter Try.func21, Try.ntmps21
      go_wp2_with (first | (go_at_call 33; refine (either_any l A cap _ (Rd.now HR.out hb) hn HW.out).mono ?_; rintro e w2 ⟨rfl, hb2⟩; replace hb := bel hb hb2; clear hb2) | (go_at_call 34; refine (known_any l c A cap _ (Rd.now HR.out hb) hn HW.out h1).mono ?_; rintro e w2 ⟨rfl, hb2⟩; replace hb := bel hb hb2; clear hb2))
      go_ret
      exact nil_ints _ _ _ hb _ (Ch.path_un l c h2)
    · have HE := Lib.hid (Ch.path_yes l c h1)
      go_enter Try.func21, Try.ntmps21
      go_wp2_with (first
        | (go_at_call 33; refine (either_any l A cap _ (Rd.now HR.out hb) hn HW.out).mono ?_; rintro e w2 ⟨rfl, hb2⟩; replace hb := bel hb hb2; clear hb2)
        | (go_at_call 34; refine (known_any l c A cap _ (Rd.now HR.out hb) hn HW.out h1).mono ?_; rintro e w2 ⟨rfl, hb2⟩; replace hb := bel hb hb2; clear hb2)
        | (go_at_call 36; refine (climb_any l c A cap _ (Rd.now HR.out hb) hn HW.out).mono ?_; rintro e w3 ⟨v3, rfl, ho3, hb3⟩))
      go_ret
      exact ⟨v3, rfl, by rw [HE.out]; exact own_base ho3 hb.size, bel hb hb3⟩
omit hwf in
set_option maxHeartbeats 1000000 in
theorem rpath_any : Calls Try.prog 22 #[.slice A l.length cap, .int .i64 c] w (OwnInts w.heap.size (Ch.pathV l c) w) := by
  have hb := Below.refl w.heap.size w
  have HR := Lib.hid hr
  clear hr
  cases h1 : Ch.eitherV l
  · go_enter Try.func22, Try.ntmps22
    go_wp2_with (go_at_call 27; refine (reither_any l A cap _ (Rd.now HR.out hb) hn).mono ?_; rintro e w2 ⟨rfl, hb2⟩; replace hb := bel hb hb2; clear hb2)
    go_ret
    exact nil_ints _ _ _ hb _ (Ch.path_no l c h1)
  · have HE := Lib.hid (Ch.path_r l c h1)
    go_enter Try.func22, Try.ntmps22
    go_wp2_with (first
      | (go_at_call 27; refine (reither_any l A cap _ (Rd.now HR.out hb) hn).mono ?_; rintro e w2 ⟨rfl, hb2⟩; replace hb := bel hb hb2; clear hb2)
      | (go_at_call 32; refine (rclimb_any l c A cap _ (Rd.now HR.out hb) hn).mono ?_; rintro e w3 ⟨v3, rfl, ho3, hb3⟩))
    go_ret
    exact ⟨v3, rfl, by rw [← HE.out]; exact own_base ho3 hb.size, bel hb hb3⟩
set_option maxHeartbeats 4000000 in
theorem under_any : Calls Try.prog 19 #[.slice A l.length cap, .int .i64 c] w (OwnInts w.heap.size (Ch.underV l c) w) := by
  have hb := Below.refl w.heap.size w
  have HR := Lib.hid hr
  have HW := Lib.hid hwf
  obtain ⟨i0, hi, hz0, hz1, hz2⟩ := info_parts int_info
  clear hr hwf
  cases h1 : Ch.eitherV l
  · go_enter Try.func19, Try.ntmps19
    go_wp2_with (go_at_call 33; refine (either_any l A cap _ (Rd.now HR.out hb) hn HW.out).mono ?_; rintro e w2 ⟨rfl, hb2⟩; replace hb := bel hb hb2; clear hb2)
    go_ret
    exact nil_ints _ _ _ hb _ (Ch.under_no l c h1)
  cases h2 : Ch.fnB l c
  · go_enter Try.func19, Try.ntmps19
    go_wp2_with (first
      | (go_at_call 33; refine (either_any l A cap _ (Rd.now HR.out hb) hn HW.out).mono ?_; rintro e w2 ⟨rfl, hb2⟩; replace hb := bel hb hb2; clear hb2)
      | (go_at_call 34; refine (known_any l c A cap _ (Rd.now HR.out hb) hn HW.out h1).mono ?_; rintro e w2 ⟨rfl, hb2⟩; replace hb := bel hb hb2; clear hb2))
    go_ret
    exact nil_ints _ _ _ hb _ (Ch.under_un l c h2)
  have HE := Lib.hid (Ch.under_yes l c h1)
  go_enter Try.func19, Try.ntmps19
  go_wp2_with (first
    | (go_at_call 33; refine (either_any l A cap _ (Rd.now HR.out hb) hn HW.out).mono ?_; rintro e w2 ⟨rfl, hb2⟩; replace hb := bel hb hb2; clear hb2)
    | (go_at_call 34; refine (known_any l c A cap _ (Rd.now HR.out hb) hn HW.out h1).mono ?_; rintro e w2 ⟨rfl, hb2⟩; replace hb := bel hb hb2; clear hb2))
  go_loopw [5, 19] (fun v i wr => ∃ k : Nat, k ≤ l.length ∧ i = .int .i64 k ∧ wr.ownsRow w.heap.size 3 1 v (Ch.und l c (l.take k)).length (intCells (Ch.und l c (l.take k))) ∧ Below w.heap.size w wr) (fun _ i _ => l.length - (intOf i).toNat)
  case atStart => exact ⟨0, by simp, rfl, World.ownsRow_nil _ _ _ _, hb⟩
  case round =>
    clear hb
    obtain ⟨k, hk, rfl, ho, hb⟩ := hrel
    have hz := hb.size
    have hul := Ch.und_len l c (l.take k)
    rw [List.length_take] at hul
    by_cases hlt : k < l.length
    · obtain ⟨b, o, hA, hbo, f0, f1, f2, f3⟩ := Ch.at_ (HR.out.below hb (Nat.le_refl _)) hlt
      subst hA
      have hpl := Ch.pcl_len l l[k].code
      have HK := Lib.hid (Ch.und_take l c k hlt)
      by_cases hc : c ∈ Ch.pcl l l[k].code
      · have HE2 : Hid (Ch.und l c (l.take (k + 1)) = Ch.und l c (l.take k) ++ [l[k].code]) := Lib.hid (by rw [HK.out, if_pos hc])
        have HC := Lib.hid hc
        clear hc HK
        go_wp2_with (go_at_call 36; refine (climb_any l l[k].code _ cap _ (Rd.now HR.out (by repeat (first | exact hb | refine Below.alloc ?_ (by have hbs := hb.size; first | omega | (simp; done) | (simp; omega)) _ | refine Below.drew ?_ | refine below_drewN_ ?_ _ | refine Below.setCell ?_ (by simp) _))) hn HW.out).mono ?_; rintro e w2 ⟨v2, rfl, ho2, hb2⟩)
        obtain ⟨A2, c2, rfl, hr2⟩ := Rd.of_own ho2
        have HR2 := Lib.hid hr2
        have hB2 := (Blk.new wr 26 #[.int .i64 l[k].code, .int .i64 l[k].kind, .int .i64 l[k].basis, .int .i64 l[k].parent]).step hb2
        have q0 : w2.cell? ⟨wr.heap.size, 0, none⟩ = some (.int .i64 l[k].code) := hB2.cell 0
        have ho3 := own_step (ho.alloc (.cells #[.int .i64 l[k].code, .int .i64 l[k].kind, .int .i64 l[k].basis, .int .i64 l[k].parent] 26)) hb2
        have hb3 : Below w.heap.size w w2 := bel' (w := w) hb2 (by repeat (first | exact hb | refine Below.alloc ?_ (by have hbs := hb.size; first | omega | (simp; done) | (simp; omega)) _ | refine Below.drew ?_ | refine below_drewN_ ?_ _ | refine Below.setCell ?_ (by simp) _))
        have hz3 := hb3.size
        clear hr2 ho2 hB2 hb2
        go_wp2_with (first
          | (go_at_call 35; refine (contains_is (Ch.pcl l l[k].code) c A2 c2 w2 HR2.out (by omega) HC.out).mono ?_; rintro e w2 ⟨rfl, rfl⟩)
          | (at_builtin; refine wpList_append_own _ rfl (.tmp 29) (.tmp 32) 30 rfl w.heap.size 3 i0 (.int .i64 0) 1 8 Try.underlying30 hi hz0 hz1 hz2 rfl (by decide) _ (Ch.und l c (l.take k)).length (intCells (Ch.und l c (l.take k))) rfl (ho3.alloc _) ⟨w2.heap.size, 0, none⟩ 1 1 [.int .i64 (l[k].code)] rfl rfl ?c1 (one_i64 _) ?c3 ?c4 ?c5 ?_))
        case c1 => exact cells_new _ _ _ _ rfl
        case c3 => simp only [maxLen]; omega
        case c4 => omega
        case c5 => simp; omega
        intro v4 w4 ho4 hg4 _
        have hb4 := bel_own (hb3.alloc hb3.size (.cells #[.int .i64 l[k].code] 3)) (by simp; omega) (ho3.alloc _) hg4
        clear hg4
        go_wp2_with fail
        go_roundw
        case rel => exact ⟨k + 1, by omega, by go_num, by rw [HE2.out, intCells_app, List.length_append]; exact ho4, hb4⟩
        case measure => simp [intOf]; omega
      · have HE2 : Hid (Ch.und l c (l.take (k + 1)) = Ch.und l c (l.take k)) := Lib.hid (by rw [HK.out, if_neg hc])
        have HC := Lib.hid hc
        clear hc HK
        go_wp2_with (go_at_call 36; refine (climb_any l l[k].code _ cap _ (Rd.now HR.out (by repeat (first | exact hb | refine Below.alloc ?_ (by have hbs := hb.size; first | omega | (simp; done) | (simp; omega)) _ | refine Below.drew ?_ | refine below_drewN_ ?_ _ | refine Below.setCell ?_ (by simp) _))) hn HW.out).mono ?_; rintro e w2 ⟨v2, rfl, ho2, hb2⟩)
        obtain ⟨A2, c2, rfl, hr2⟩ := Rd.of_own ho2
        have HR2 := Lib.hid hr2
        have ho3 := own_step (ho.alloc (.cells #[.int .i64 l[k].code, .int .i64 l[k].kind, .int .i64 l[k].basis, .int .i64 l[k].parent] 26)) hb2
        have hb3 : Below w.heap.size w w2 := bel' (w := w) hb2 (by repeat (first | exact hb | refine Below.alloc ?_ (by have hbs := hb.size; first | omega | (simp; done) | (simp; omega)) _ | refine Below.drew ?_ | refine below_drewN_ ?_ _ | refine Below.setCell ?_ (by simp) _))
        clear hr2 ho2 hb2
        go_wp2_with (go_at_call 35; refine (contains_not (Ch.pcl l l[k].code) c A2 c2 w2 HR2.out (by omega) HC.out).mono ?_; rintro e w2 ⟨rfl, rfl⟩)
        go_roundw
        case rel => exact ⟨k + 1, by omega, by go_num, by rw [HE2.out]; exact ho3, hb3⟩
        case measure => simp [intOf]; omega
    · have HE2 : Hid (l.take k = l) := Lib.hid (List.take_of_length_le (by omega))
      go_wp2_with fail
      go_ret
      exact ⟨_, rfl, by have := ho; rw [HE2.out] at this; rw [HE.out]; exact this, hb⟩
omit hwf in
set_option maxHeartbeats 4000000 in
theorem runder_any : Calls Try.prog 20 #[.slice A l.length cap, .int .i64 c] w (OwnInts w.heap.size (Ch.underV l c) w) := by
  have hb := Below.refl w.heap.size w
  have HR := Lib.hid hr
  obtain ⟨i0, hi, hz0, hz1, hz2⟩ := info_parts int_info
  clear hr
  cases h1 : Ch.eitherV l
  · go_enter Try.func20, Try.ntmps20
    go_wp2_with (go_at_call 27; refine (reither_any l A cap _ (Rd.now HR.out hb) hn).mono ?_; rintro e w2 ⟨rfl, hb2⟩; replace hb := bel hb hb2; clear hb2)
    go_ret
    exact nil_ints _ _ _ hb _ (Ch.under_no l c h1)
  have HE := Lib.hid (Ch.under_yes l c h1)
  have HP : Hid (∀ x, Ch.rcl l x = Ch.pcl l x) := Lib.hid (fun x => by rw [Ch.path_r l x h1, Ch.path_yes l x h1])
  go_enter Try.func20, Try.ntmps20
  go_wp2_with (go_at_call 27; refine (reither_any l A cap _ (Rd.now HR.out hb) hn).mono ?_; rintro e w2 ⟨rfl, hb2⟩; replace hb := bel hb hb2; clear hb2)
  go_loopw [5, 6] (fun v i wr => ∃ k : Nat, k ≤ l.length ∧ i = .int .i64 k ∧ wr.ownsRow w.heap.size 3 1 v (Ch.und l c (l.take k)).length (intCells (Ch.und l c (l.take k))) ∧ Below w.heap.size w wr) (fun _ i _ => l.length - (intOf i).toNat)
  case atStart => exact ⟨0, by simp, rfl, World.ownsRow_nil _ _ _ _, hb⟩
  case round =>
    clear hb
    obtain ⟨k, hk, rfl, ho, hb⟩ := hrel
    have hz := hb.size
    have hul := Ch.und_len l c (l.take k)
    rw [List.length_take] at hul
    by_cases hlt : k < l.length
    · obtain ⟨b, o, hA, hbo, f0, f1, f2, f3⟩ := Ch.at_ (HR.out.below hb (Nat.le_refl _)) hlt
      subst hA
      have hpl := Ch.pcl_len l l[k].code
      have HK := Lib.hid (Ch.und_take l c k hlt)
      by_cases hc : c ∈ Ch.pcl l l[k].code
      · have HE2 : Hid (Ch.und l c (l.take (k + 1)) = Ch.und l c (l.take k) ++ [l[k].code]) := Lib.hid (by rw [HK.out, if_pos hc])
        have HC := Lib.hid hc
        clear hc HK
        go_wp2_with (go_at_call 32; refine (rclimb_any l l[k].code _ cap _ (Rd.now HR.out hb) hn).mono ?_; rintro e w2 ⟨v2, rfl, ho2, hb2⟩)
        rw [HP.out] at ho2
        obtain ⟨A2, c2, rfl, hr2⟩ := Rd.of_own ho2
        have HR2 := Lib.hid hr2
        have q0 : w2.cell? ⟨b, o + k * 4, none⟩ = some (.int .i64 l[k].code) := (hb2.cell (p := ⟨b, o + k * 4, none⟩) (by show b < _; omega)).trans f0
        have ho3 := own_step ho hb2
        have hb3 : Below w.heap.size w w2 := bel hb hb2
        have hz3 := hb3.size
        clear hr2 ho2 hb2 f0 f1 f2 f3
        go_wp2_with (first
          | (go_at_call 28; refine (rhas_is (Ch.pcl l l[k].code) c A2 c2 w2 HR2.out (by omega) HC.out).mono ?_; rintro e w2 ⟨rfl, rfl⟩)
          | (at_builtin; refine wpList_append_own _ rfl (.tmp 25) (.tmp 31) 30 rfl w.heap.size 3 i0 (.int .i64 0) 1 8 Try.underlying30 hi hz0 hz1 hz2 rfl (by decide) _ (Ch.und l c (l.take k)).length (intCells (Ch.und l c (l.take k))) rfl (ho3.alloc _) ⟨w2.heap.size, 0, none⟩ 1 1 [.int .i64 (l[k].code)] rfl rfl ?c1 (one_i64 _) ?c3 ?c4 ?c5 ?_))
        case c1 => exact cells_new _ _ _ _ rfl
        case c3 => simp only [maxLen]; omega
        case c4 => omega
        case c5 => simp; omega
        intro v4 w4 ho4 hg4 _
        have hb4 := bel_own (hb3.alloc hb3.size (.cells #[.int .i64 l[k].code] 3)) (by simp; omega) (ho3.alloc _) hg4
        clear hg4
        go_wp2_with fail
        go_roundw
        case rel => exact ⟨k + 1, by omega, by go_num, by rw [HE2.out, intCells_app, List.length_append]; exact ho4, hb4⟩
        case measure => simp [intOf]; omega
      · have HE2 : Hid (Ch.und l c (l.take (k + 1)) = Ch.und l c (l.take k)) := Lib.hid (by rw [HK.out, if_neg hc])
        have HC := Lib.hid hc
        clear hc HK
        go_wp2_with (go_at_call 32; refine (rclimb_any l l[k].code _ cap _ (Rd.now HR.out hb) hn).mono ?_; rintro e w2 ⟨v2, rfl, ho2, hb2⟩)
        rw [HP.out] at ho2
        obtain ⟨A2, c2, rfl, hr2⟩ := Rd.of_own ho2
        have HR2 := Lib.hid hr2
        have ho3 := own_step ho hb2
        have hb3 : Below w.heap.size w w2 := bel hb hb2
        clear hr2 ho2 hb2
        go_wp2_with (go_at_call 28; refine (rhas_not (Ch.pcl l l[k].code) c A2 c2 w2 HR2.out (by omega) HC.out).mono ?_; rintro e w2 ⟨rfl, rfl⟩)
        go_roundw
        case rel => exact ⟨k + 1, by omega, by go_num, by rw [HE2.out]; exact ho3, hb3⟩
        case measure => simp [intOf]; omega
    · have HE2 : Hid (l.take k = l) := Lib.hid (List.take_of_length_le (by omega))
      go_wp2_with fail
      go_ret
      exact ⟨_, rfl, by have := ho; rw [HE2.out] at this; rw [HE.out]; exact this, hb⟩
end
end Go.Proofs.Ytjcapeieahffnaa
