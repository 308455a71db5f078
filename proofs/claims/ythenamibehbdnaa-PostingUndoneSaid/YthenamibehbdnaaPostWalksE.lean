/- The walks of SameParts, small and awake. -/
import Derived.Test.YthenamibehbdnaaPostWalksD
namespace Go.Proofs.Ythenamibehbdnaa
set_option linter.unusedVariables false
set_option linter.unusedSimpArgs false
open Go.RowKit

theorem sameparts_any (m n : List Bal) (A B : Option Addr) (c1 c2 : Nat) (w : World) (hr : Rd w w.heap.size 2 A m.length (cellsOf Bal.cells m)) (hq : Rd w w.heap.size 2 B n.length (cellsOf Bal.cells n)) (hn : m.length ≤ 1000000) (hn2 : n.length ≤ 1000000) :
    Calls Try.prog 17 #[.slice A m.length c1, .slice B n.length c2] w (BoolPost (decide (m = n)) w) := by
  have H0 : Hid (cmpH ⟨0, 0, 0, 0⟩ ⟨0, 0, 0, 0⟩ = 0) := Lib.hid (by decide)
  go_enter Try.func17, Try.ntmps17
  go_wp2_with (go_at_call 32; refine (requal_any ⟨0, 0, 0, 0⟩ ⟨0, 0, 0, 0⟩ m n A B c1 c2 _ hr hq hn hn2).mono ?_; rintro e w2 ⟨rfl, hb2⟩)
  go_ret
  exact ⟨ret_bool (by simp [H0.out]), hb2⟩
set_option maxHeartbeats 1000000 in
theorem small_any (m : List Bal) (A : Option Addr) (cap : Nat) (w : World) (hr : Rd w w.heap.size 2 A m.length (cellsOf Bal.cells m)) (hn : m.length ≤ maxLen) :
    Calls Try.prog 15 #[.slice A m.length cap] w (fun e w' => e = .returned (.bool (smallV m)) ∧ w = w') := by
  have HR := Lib.hid hr
  unfold maxLen at hn
  clear hr
  go_enter Try.func15, Try.ntmps15
  go_wp2_with fail
  go_loopw [3] (fun t wr => ∃ k : Nat, k ≤ m.length ∧ (∀ j, j < k → smallAt m j = true) ∧ t = .int .i64 k ∧ w = wr) (fun t _ => m.length - (intOf t).toNat)
  case atStart => exact ⟨0, by omega, fun j h => by omega, rfl, rfl⟩
  case round =>
    obtain ⟨k, hk, hno, rfl, rfl⟩ := hrel
    have HN := Lib.hid hno
    clear hno
    by_cases hlt : k < m.length
    · obtain ⟨x, o, hA, hbo, f0, f1⟩ := Bal.at_ HR.out hlt
      subst hA
      have HS : Hid (smallAt m k = (decide (m[k].amount ≤ 1125899906842624) && decide (-1125899906842624 ≤ m[k].amount))) := Lib.hid (by unfold smallAt; rw [Bal.getD_at m k hlt])
      by_cases h1 : m[k].amount ≤ 1125899906842624
      · by_cases h2 : -1125899906842624 ≤ m[k].amount
        · have HE : Hid (smallAt m k = true) := Lib.hid (by rw [HS.out]; simp [h1, h2])
          go_wp2_with fail
          go_roundw
          case rel => exact ⟨k + 1, by omega, upto_succ HN.out HE.out, by go_num, trivial⟩
          case measure => simp [intOf]; omega
        · have HE : Hid (smallAt m k = false) := Lib.hid (by rw [HS.out]; simp [h1]; omega)
          have HF : Hid (smallV m = false) := Lib.hid (by unfold smallV; rw [allAt_no hlt HE.out]; rfl)
          go_wp2_with fail
          go_ret
          exact ⟨by rw [HF.out]; rfl, rfl⟩
      · have HE : Hid (smallAt m k = false) := Lib.hid (by rw [HS.out]; simp [h1])
        have HF : Hid (smallV m = false) := Lib.hid (by unfold smallV; rw [allAt_no hlt HE.out]; rfl)
        go_wp2_with fail
        go_ret
        exact ⟨by rw [HF.out]; rfl, rfl⟩
    · have HA : Hid (allAt m.length (smallAt m) = true) := Lib.hid (allAt_yes fun j hj => HN.out j (by omega))
      by_cases hl : m.length ≤ 200
      · have HE : Hid (smallV m = true) := Lib.hid (by unfold smallV; rw [HA.out]; simpa using hl)
        go_wp2_with fail
        go_ret
        exact ⟨ret_bool (by rw [HE.out]; simp; omega), rfl⟩
      · have HE : Hid (smallV m = false) := Lib.hid (by unfold smallV; rw [HA.out]; simp; omega)
        go_wp2_with fail
        go_ret
        exact ⟨ret_bool (by rw [HE.out]; simp; omega), rfl⟩
def sample : List Bal := [⟨3000, 5⟩, ⟨1000, 2⟩, ⟨3000, -5⟩, ⟨2000, -2⟩]
def sampleL : List Bal := [⟨1000, 2⟩, ⟨2000, -2⟩]
theorem sample_of (c : Int) : ofW sample c = if c = 1000 then 2 else if c = 2000 then -2 else 0 := by
  rw [ofW_eq' (M := 10) sample c (by unfold within sample; decide) (by decide) (by decide)]
  unfold ofV sample
  by_cases h1 : c = 1000
  · subst h1; decide
  by_cases h2 : c = 2000
  · subst h2; decide
  by_cases h3 : c = 3000
  · subst h3; decide
  rw [if_neg h1, if_neg h2]
  simp only [sm_cons, sm_nil]
  rw [if_neg (fun e => h3 e.symm), if_neg (fun e => h1 e.symm), if_neg (fun e => h3 e.symm), if_neg (fun e => h2 e.symm)]
  rfl
theorem sample_is : IsC (ofW sample) sampleL := by
  refine ⟨by decide, fun x => ?_⟩
  rw [sample_of]
  obtain ⟨a, n⟩ := x
  simp only [sampleL, List.mem_cons, List.not_mem_nil, or_false, Bal.mk.injEq]
  by_cases h1 : a = 1000
  · subst h1; simp; omega
  by_cases h2 : a = 2000
  · subst h2; simp; omega
  simp [h1, h2]
  omega
theorem sample_am (c : Int) : amV (ofW sample c) = true := by
  rw [sample_of]
  by_cases h1 : c = 1000
  · rw [if_pos h1]; decide
  by_cases h2 : c = 2000
  · rw [if_neg h1, if_pos h2]; decide
  · rw [if_neg h1, if_neg h2]; decide
theorem sample_wf : ∀ x ∈ sample, (Lit.int .i64 x.account).wf = true := by unfold sample; decide
set_option maxRecDepth 100000 in
set_option maxHeartbeats 1000000 in
theorem post_awake (w : World) : Calls Try.prog 14 #[] w (BoolPost true w) := by
  have hb := Below.refl w.heap.size w
  go_enter Try.func14, Try.ntmps14
  go_wp2_with fail
  have HR : Hid (Rd (w.alloc (.cells #[.int .i64 3000, .int .i64 5, .int .i64 1000, .int .i64 2, .int .i64 3000, .int .i64 (-5), .int .i64 2000, .int .i64 (-2)] 26)) (w.alloc (.cells #[.int .i64 3000, .int .i64 5, .int .i64 1000, .int .i64 2, .int .i64 3000, .int .i64 (-5), .int .i64 2000, .int .i64 (-2)] 26)).heap.size 2 (some ⟨w.heap.size, 0, none⟩) 4 (cellsOf Bal.cells sample)) := Lib.hid (Rd.of_blk (Blk.new w 26 #[.int .i64 3000, .int .i64 5, .int .i64 1000, .int .i64 2, .int .i64 3000, .int .i64 (-5), .int .i64 2000, .int .i64 (-2)]) rfl rfl)
  have hb1 : Below w.heap.size w (w.alloc (.cells #[.int .i64 3000, .int .i64 5, .int .i64 1000, .int .i64 2, .int .i64 3000, .int .i64 (-5), .int .i64 2000, .int .i64 (-2)] 26)) := (Below.refl _ _).alloc (Nat.le_refl _) _
  generalize w.alloc (.cells #[.int .i64 3000, .int .i64 5, .int .i64 1000, .int .i64 2, .int .i64 3000, .int .i64 (-5), .int .i64 2000, .int .i64 (-2)] 26) = W at HR hb1 ⊢
  refine (clean_any sample _ 4 W HR.out (by decide) sample_wf).mono ?_
  rintro e w2 ⟨v2, L, E, rfl, ho2, hb2, hc2⟩
  have hx : E = 0 ∧ L = sampleL := by
    rcases hc2 with ⟨e1, h1, _⟩ | ⟨_, _, c, h1⟩
    · exact ⟨e1, isC_unique h1 sample_is fun _ => rfl⟩
    · rw [sample_am c] at h1; cases h1
  obtain ⟨rfl, rfl⟩ := hx
  obtain ⟨A2, c2, rfl, hr2⟩ := Rd.of_own ho2
  have HR2 := Lib.hid hr2
  have hb0 := bel hb1 hb2
  clear hr2 ho2 hb2 HR hc2
  go_wp2_with (go_at_call 17; refine (sameparts_any sampleL sampleL A2 _ c2 2 _ ((HR2.out.alloc (Nat.le_refl _) _).more (by simp)) (Rd.of_blk (Blk.new w2 26 #[.int .i64 1000, .int .i64 2, .int .i64 2000, .int .i64 (-2)]) rfl rfl) (by decide) (by decide)).mono ?_; rintro e w3 ⟨rfl, hb3⟩; have hb4 : Below w2.heap.size w2 w3 := bel' (w := w2) hb3 ((Below.refl _ _).alloc (Nat.le_refl _) _))
  go_ret
  exact ⟨ret_bool (by simp), bel hb0 hb4⟩
end Go.Proofs.Ythenamibehbdnaa
