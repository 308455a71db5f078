/- The walk of PostingSorted. -/
import Derived.Test.YthenamibehbdnaaPostLaws
import Derived.Test.YthenamibehbdnaaLibI
namespace Go.Proofs.Ythenamibehbdnaa
set_option linter.unusedVariables false
set_option linter.unusedSimpArgs false
open Go.RowKit

/-- the last ones backwards, down to place i -/
def backTo (m : List Bal) (i : Nat) : List Bal := (m.drop i).reverse
theorem backTo_end (m : List Bal) : backTo m m.length = [] := by unfold backTo; simp
theorem backTo_step (m : List Bal) (i : Nat) (h : i < m.length) : backTo m i = backTo m (i + 1) ++ [m[i]] := by
  unfold backTo
  rw [List.drop_eq_getElem_cons h, List.reverse_cons]
theorem backTo_len (m : List Bal) (i : Nat) : (backTo m i).length = m.length - i := by unfold backTo; simp
theorem backTo_perm (m : List Bal) (k : Nat) : (backTo m k ++ m.take k).Perm m := by
  refine (List.Perm.append_right _ (List.reverse_perm _)).trans ?_
  refine List.perm_append_comm.trans ?_
  rw [List.take_append_drop]
theorem small_perm {l m : List Bal} (h : l.Perm m) (hs : smallV m = true) (c : Int) : ofW l c = ofW m c := by
  obtain ⟨h1, h2⟩ := small_is hs
  have hl := h.length_eq
  rw [ofW_eq' m c h1 (by omega) (by omega), ofW_eq' l c (M := 1125899906842624) (fun x hx => h1 x (h.mem_iff.1 hx)) (by omega) (by omega), ofV_perm h]
theorem rd_take {w : World} {B : Nat} {A : Option Addr} {m : List Bal} (h : Rd w B 2 A m.length (cellsOf Bal.cells m)) (k : Nat) (hk : k ≤ m.length) : Rd w B 2 A k (cellsOf Bal.cells (m.take k)) := by
  have hlen : ∀ l : List Bal, (cellsOf Bal.cells l).length = l.length * 2 := by
    intro l
    induction l with
    | nil => rfl
    | cons a l ih => simp only [cellsOf, List.length_append, ih, List.length_cons]; show 2 + _ = _; omega
  refine ⟨by rw [hlen, List.length_take, Nat.min_eq_left hk], fun h0 => ?_⟩
  obtain ⟨b, o, e, hb, hc⟩ := h.2 (by omega)
  refine ⟨b, o, e, hb, fun j u hu => hc j u ?_⟩
  have e2 : cellsOf Bal.cells m = cellsOf Bal.cells (m.take k) ++ cellsOf Bal.cells (m.drop k) := by rw [← cellsOf_app, List.take_append_drop]
  have hj : j < (cellsOf Bal.cells (m.take k)).length := (List.getElem?_eq_some_iff.1 hu).1
  rw [e2, List.getElem?_append_left hj]
  exact hu
set_option maxRecDepth 100000 in
set_option maxHeartbeats 4000000 in
theorem law_PostingSorted (m : List Bal) (A : Option Addr) (cap : Nat) (a : Nat) (w : World) (hm : m.length ≤ maxLen) (hcap : m.length ≤ cap) (ha : a ≤ 255) (hr : Rd w w.heap.size 2 A m.length (cellsOf Bal.cells m)) (hwf : ∀ x ∈ m, (Lit.int .i64 x.account).wf = true) :
    Calls Try.prog 3 #[.slice A m.length cap, .int .u8 a] w fun e w' => e = .returned (.bool true) ∧ Below w.heap.size w w' := by
  unfold maxLen at hm
  have hb := Below.refl w.heap.size w
  have HR := Lib.hid hr
  have HW := Lib.hid hwf
  obtain ⟨i0, hi, hz0, hz1, hz2⟩ := info_parts colp_info
  clear hr hwf
  cases hs : smallV m
  · go_enter Try.func3, Try.ntmps3
    go_wp2_with (first
      | (go_at_call 14; refine (post_awake _).mono ?_; rintro e w2 ⟨rfl, hb2⟩; replace hb := bel hb hb2; clear hb2)
      | (go_at_call 15; refine (small_any m A cap _ (Rd.now HR.out hb) (by unfold maxLen; omega)).mono ?_; rintro e w2 ⟨rfl, rfl⟩))
    go_ret
    exact ⟨rfl, hb⟩
  · have HS := Lib.hid hs
    have hl := (small_is hs).2
    by_cases h0 : m.length = 0
    · have hd : ((m.length : Int) == 0) = true := by simp [h0]
      clear h0
      go_enter Try.func3, Try.ntmps3
      go_wp2_with (first
        | (go_at_call 14; refine (post_awake _).mono ?_; rintro e w2 ⟨rfl, hb2⟩; replace hb := bel hb hb2; clear hb2)
        | (go_at_call 15; refine (small_any m A cap _ (Rd.now HR.out hb) (by unfold maxLen; omega)).mono ?_; rintro e w2 ⟨rfl, rfl⟩))
      go_ret
      exact ⟨rfl, hb⟩
    · have hd : ((m.length : Int) == 0) = false := by rw [beq_eq_false_iff_ne]; omega
      have e1 : Int.tmod (a : Int) (m.length : Int) = ((a % m.length : Nat) : Int) := rfl
      have hk : a % m.length < m.length := Nat.mod_lt _ (by omega)
      obtain ⟨k, hkk⟩ : ∃ k, k = a % m.length := ⟨_, rfl⟩
      rw [← hkk] at e1 hk
      clear hkk h0
      go_enter Try.func3, Try.ntmps3
      go_wp2_with (first
        | (go_at_call 14; refine (post_awake _).mono ?_; rintro e w2 ⟨rfl, hb2⟩; replace hb := bel hb hb2; clear hb2)
        | (go_at_call 15; refine (small_any m A cap _ (Rd.now HR.out hb) (by unfold maxLen; omega)).mono ?_; rintro e w2 ⟨rfl, rfl⟩))
      go_loopw [6, 7] (fun v t wr => ∃ (i : Nat) (z : Int), k ≤ i ∧ i ≤ m.length ∧ z + 1 = i ∧ t = .int .i64 z ∧ wr.ownsRow w.heap.size 26 2 v (backTo m i).length (cellsOf Bal.cells (backTo m i)) ∧ Below w.heap.size w wr) (fun _ t _ => (intOf t + 1).toNat)
      case atStart => exact ⟨m.length, _, by omega, by omega, by omega, rfl, by rw [backTo_end]; exact World.ownsRow_nil _ _ _ _, hb⟩
      case round =>
        clear hb
        obtain ⟨i, z, hki, him, hz, rfl, ho, hb⟩ := hrel
        have hsz := hb.size
        by_cases hlt : k < i
        · obtain ⟨j, rfl⟩ : ∃ j : Nat, z = j := ⟨z.toNat, by omega⟩
          obtain rfl : i = j + 1 := by omega
          clear hz
          have hkj : k ≤ j := by omega
          have hjm : j < m.length := by omega
          obtain ⟨x, o, hA, hbo, f0, f1⟩ := Bal.at_ (Rd.now HR.out hb) hjm
          subst hA
          have HP := Lib.hid (backTo_step m j hjm)
          have hln : (backTo m (j + 1)).length ≤ 200 := by rw [backTo_len]; omega
          go_wp2_with (at_builtin; refine wpList_append_rec Bal.cells 2 (fun _ => rfl) Bal.one rfl (.tmp 35) (.tmp 40) 22 rfl w.heap.size 26 i0 (.agg #[.int .i64 0, .int .i64 0]) 16 Try.underlying22 hi hz0 hz1 hz2 rfl (by decide) _ (backTo m (j + 1)) rfl (ho.alloc _) wr.heap.size 1 m[j] _ rfl (Blk.new wr _ _) rfl ?c3 ?c4 ?c5 ?_)
          case c3 => simp only [maxLen]; omega
          case c4 => omega
          case c5 => simp; omega
          intro v4 w4 ho4 hg4
          have hb3 : Below w.heap.size w (wr.alloc (.cells #[.int .i64 m[j].account, .int .i64 m[j].amount] 26)) := (by repeat (first | exact hb | refine Below.alloc ?_ (by have hbs := hb.size; first | omega | (simp; done) | (simp; omega)) _ | refine Below.drew ?_ | refine below_drewN_ ?_ _ | refine Below.setCell ?_ (by simp) _))
          have hb4 := bel_own hb3 (by simp; omega) (ho.alloc _) hg4
          clear hg4 hb3
          go_wp2_with fail
          go_roundw
          case rel => exact ⟨j, (j : Int) - 1, by omega, by omega, by omega, by go_num, by rw [HP.out, List.length_append]; exact ho4, hb4⟩
          case measure => simp [intOf]
        · have hzk : z < k := by omega
          obtain rfl : i = k := by omega
          have HZ := Lib.hid hz
          clear hz
          obtain ⟨x, o, hA, hbo, f0, f1⟩ := Bal.at_ (Rd.now HR.out hb) hk
          subst hA
          have HT := Lib.hid (rd_take (Rd.now HR.out hb) i (by omega))
          have hln : (backTo m i).length ≤ 200 := by rw [backTo_len]; omega
          go_wp2_with (at_builtin; refine wpList_append_any _ rfl (.tmp 42) (.tmp 45) 22 rfl w.heap.size 26 i0 (.agg #[.int .i64 0, .int .i64 0]) 2 16 Try.underlying22 hi hz0 hz1 hz2 rfl (by decide) _ (backTo m i).length _ rfl ho _ _ i _ _ rfl HT.out (cells_one Bal.one (m.take i)) ?c3 ?c4 ?c5 ?_)
          case c3 => simp only [maxLen]; omega
          case c4 => omega
          case c5 => omega
          intro v4 w4 ho4 hg4
          replace hb := bel_own hb hsz ho hg4
          clear hg4 ho HT
          obtain ⟨l, hl2⟩ : ∃ l, l = backTo m i ++ m.take i := ⟨_, rfl⟩
          have ho5 : w4.ownsRow w.heap.size 26 2 v4 l.length (cellsOf Bal.cells l) := by
            rw [hl2, cellsOf_app, List.length_append, List.length_take, Nat.min_eq_left him]; exact ho4
          have HP : Hid (l.Perm m) := Lib.hid (by rw [hl2]; exact backTo_perm m i)
          have HLL : Hid (l.length ≤ 200) := Lib.hid (by rw [HP.out.length_eq]; omega)
          clear hl2 ho4
          have HLW : Hid (∀ x ∈ l, (Lit.int .i64 x.account).wf = true) := Lib.hid fun x hx => HW.out x (HP.out.mem_iff.1 hx)
          obtain ⟨A4, c4, rfl, hrx⟩ := Rd.of_own ho5
          have H4 := Lib.hid hrx
          clear hrx ho5
          go_wp2_with fail
          refine (clean_any m _ cap _ (Rd.now HR.out hb) (by omega) HW.out).mono ?_
          rintro e w9 ⟨v5, L, E, rfl, ho5, hb9, hc5⟩
          replace hb := bel hb hb9
          replace H4 := Lib.hid (Rd.now (H4).out hb9)
          have HC5 : Hid (ColAlt (ofW m) L E) := Lib.hid hc5
          clear hb9 hc5
          have hL := col_len HC5.out rfl
          obtain ⟨A5, c5, rfl, hrx⟩ := Rd.of_own ho5
          have H5 := Lib.hid hrx
          clear hrx ho5
          go_wp2_with fail
          refine (clean_any l A4 c4 _ H4.out (by have := HLL.out; omega) HLW.out).mono ?_
          rintro e w9 ⟨v6, L', E', rfl, ho6, hb9, hc6⟩
          obtain ⟨rfl, rfl⟩ := col_same HC5.out hc6 (fun c => (small_perm HP.out HS.out c).symm)
          replace hb := bel hb hb9
          replace H5 := Lib.hid (Rd.now (H5).out hb9)
          clear hb9 hc6 H4
          obtain ⟨A6, c6, rfl, hrx⟩ := Rd.of_own ho6
          have H6 := Lib.hid hrx
          clear hrx ho6
          have he : (E == E) = true := by simp
          go_wp2_with fail
          refine (sameparts_yes L A5 A6 c5 c6 _ H5.out H6.out (by omega)).mono ?_
          rintro e w9 ⟨rfl, hb9⟩
          replace hb := bel hb hb9
          go_wp2_with fail
          go_ret
          exact ⟨rfl, hb⟩
end Go.Proofs.Ythenamibehbdnaa
