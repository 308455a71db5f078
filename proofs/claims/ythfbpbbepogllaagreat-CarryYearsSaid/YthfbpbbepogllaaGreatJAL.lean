/- Texts of this claim, put together. -/
import Derived.Test.YthfbpbbepogllaaGreatJAK
import Derived.Test.YthfbpbbepogllaaGreatJAA
import Derived.Test.YthfbpbbepogllaaGreatJAC
/- The walk of climb. -/
namespace Go.Proofs.YthfbpbbepogllaaGreat
set_option linter.unusedVariables false
set_option linter.unusedSimpArgs false
open Go.RowKit

theorem find_no (l : List Acc) (c : Int) (A : Option Addr) (cap : Nat) (w : World) (hr : Rd w w.heap.size 4 A l.length (Ch.cells l)) (hn : l.length ≤ 300000) (hf : Ch.find l c = none) :
    Calls Tryz.prog 114 #[.slice A l.length cap, .int .i64 c] w (fun e w' => e = .returned (.tuple #[.agg #[.int .i64 0, .int .i64 0, .int .i64 0, .int .i64 0], .bool false]) ∧ Below w.heap.size w w') :=
  (find_any l c A cap w hr hn).mono (fun e w' h => ⟨by rw [h.1]; unfold Ch.fnV Ch.fnB; rw [hf]; rfl, h.2⟩)
theorem find_is (l : List Acc) (c : Int) (a : Acc) (A : Option Addr) (cap : Nat) (w : World) (hr : Rd w w.heap.size 4 A l.length (Ch.cells l)) (hn : l.length ≤ 300000) (hf : Ch.find l c = some a) :
    Calls Tryz.prog 114 #[.slice A l.length cap, .int .i64 c] w (fun e w' => e = .returned (.tuple #[.agg #[.int .i64 a.code, .int .i64 a.kind, .int .i64 a.basis, .int .i64 a.parent], .bool true]) ∧ Below w.heap.size w w') :=
  (find_any l c A cap w hr hn).mono (fun e w' h => ⟨by rw [h.1]; unfold Ch.fnV Ch.fnB; rw [hf]; rfl, h.2⟩)


def OwnInts (base : Nat) (l : List Int) (w : World) (e : Ending) (w' : World) : Prop :=
  ∃ v, e = .returned v ∧ w'.ownsRow base 3 1 v l.length (intCells l) ∧ Below w.heap.size w w'

set_option maxHeartbeats 2000000 in
theorem climb_any (l : List Acc) (c : Int) (A : Option Addr) (cap : Nat) (w : World) (hr : Rd w w.heap.size 4 A l.length (Ch.cells l)) (hn : l.length ≤ 300000) (hwf : ∀ a ∈ l, (Lit.int .i64 a.code).wf = true) :
    Calls Tryz.prog 164 #[.slice A l.length cap, .int .i64 c] w (OwnInts w.heap.size (Ch.pcl l c) w) := by
  have hb := Below.refl w.heap.size w
  have HR := Lib.hid hr
  have HW := Lib.hid hwf
  have hmm := @run_makeMap Tryz.prog
  obtain ⟨i0, hi, hz0, hz1, hz2⟩ := info_parts int_info
  clear hr hwf
  go_enter Tryz.func164, Tryz.ntmps164
  go_wp2_with fail
  go_step3
  go_wp2_with fail
  go_step3
  go_wp2_with fail
  go_loopw [1, 5] (fun t v wr => ∃ (s : List Int) (d : Int), Ch.way l s ∧ Ch.up l (l.length + 1 - s.length) s d = Ch.pcl l c ∧ t = .int .i64 d ∧ wr.ownsRow w.heap.size 3 1 v s.length (intCells s) ∧ SetW Tryz.prog 3 4 wr w.heap.size s.length s ∧ Below w.heap.size w wr) (fun _ v _ => l.length + 1 - sliceLen v)
  case atStart => exact ⟨[], c, Ch.way_nil l, rfl, rfl, World.ownsRow_nil _ _ _ _, SetW.made w, (by repeat (first | exact hb | refine Below.alloc ?_ (by have hbs := hb.size; first | omega | (simp; done) | (simp; omega)) _ | refine Below.drew ?_ | refine below_drewN_ ?_ _ | refine Below.setCell ?_ (by simp) _))⟩
  case round =>
    clear hb
    obtain ⟨s, d, hs, hu, rfl, ho, hS, hb⟩ := hrel
    have hl := Ch.way_len hs
    obtain ⟨A1, c1, rfl, -⟩ := Rd.of_own ho
    have hne := hS.ne ho
    have hlt := hS.lt
    have HO := Lib.hid ho.lt
    have HU := Lib.hid hu
    have hz := hb.size
    have HR2 := Lib.hid ((HR.out.below hb (Nat.le_refl _)).more hz)
    clear hu
    cases hf : Ch.find l d with
    | none =>
      have HE : Hid (s = Ch.pcl l c) := Lib.hid (by rw [← HU.out, show l.length + 1 - s.length = l.length - s.length + 1 from by omega, Ch.up_none _ _ _ _ hf])
      go_wp2_with (go_at_call 114; refine (find_no l d A cap _ HR2.out hn hf).mono ?_; rintro e w2 ⟨rfl, hb2⟩; replace hb := bel hb hb2)
      rw [Exit.noGoto_ret]
      go_ret
      exact ⟨_, rfl, by rw [← HE.out]; exact (own_step ho hb2).alloc _, (by repeat (first | exact hb | refine Below.alloc ?_ (by have hbs := hb.size; first | omega | (simp; done) | (simp; omega)) _ | refine Below.drew ?_ | refine below_drewN_ ?_ _ | refine Below.setCell ?_ (by simp) _))⟩
    | some a =>
      have hwd : (Lit.int .i64 d).wf = true := by
        obtain ⟨m1, m2⟩ := Ch.find_some l d a hf
        rw [← m2]; exact HW.out a m1
      by_cases hds : d ∈ s
      · have HE : Hid (s = Ch.pcl l c) := Lib.hid (by rw [← HU.out, show l.length + 1 - s.length = l.length - s.length + 1 from by omega, Ch.up_seen _ _ _ _ hds])
        have hL : ∀ (W : World), SetW Tryz.prog 3 4 W w.heap.size s.length s → (Instr.lookup 168 (.map (some w.heap.size)) (.int .i64 d) false).run Tryz.prog W = .ok (.bool true) W := fun W h => by
          have := h.look (t := 168) Tryz.underlying3 Tryz.underlying4 Tryz.underlying168 (zero_bool _) hwd
          rwa [show decide (d ∈ s) = true from by simpa using hds] at this
        go_wp2_with (go_at_call 114; refine (find_is l d a A cap _ HR2.out hn hf).mono ?_; rintro e w2 ⟨rfl, hb2⟩; replace hb := bel hb hb2; have hLL := hL _ ((hS.step hb2).alloc (.cells #[.int .i64 a.code, .int .i64 a.kind, .int .i64 a.basis, .int .i64 a.parent] 129)))
        rw [Exit.noGoto_ret]
        go_ret
        exact ⟨_, rfl, by rw [← HE.out]; exact (own_step ho hb2).alloc _, (by repeat (first | exact hb | refine Below.alloc ?_ (by have hbs := hb.size; first | omega | (simp; done) | (simp; omega)) _ | refine Below.drew ?_ | refine below_drewN_ ?_ _ | refine Below.setCell ?_ (by simp) _))⟩
      · have HE : Hid (Ch.up l (l.length + 1 - (s ++ [d]).length) (s ++ [d]) a.parent = Ch.pcl l c) := Lib.hid (by
          rw [← HU.out, show l.length + 1 - s.length = l.length - s.length + 1 from by omega, Ch.up_on _ _ _ _ _ hf hds]
          simp)
        have hs2 := Ch.way_on hs hf hds
        have hl2 := Ch.way_len hs2
        simp only [List.length_append, List.length_singleton] at hl2
        have hL : ∀ (W : World), SetW Tryz.prog 3 4 W w.heap.size s.length s → (Instr.lookup 168 (.map (some w.heap.size)) (.int .i64 d) false).run Tryz.prog W = .ok (.bool false) W := fun W h => by
          have := h.look (t := 168) Tryz.underlying3 Tryz.underlying4 Tryz.underlying168 (zero_bool _) hwd
          rwa [show decide (d ∈ s) = false from by simpa using hds] at this
        go_wp2_with (first
          | (go_at_call 114; refine (find_is l d a A cap _ HR2.out hn hf).mono ?_; rintro e w2 ⟨rfl, hb2⟩; replace hb := bel hb hb2; have hLL := hL _ ((hS.step hb2).alloc (.cells #[.int .i64 a.code, .int .i64 a.kind, .int .i64 a.basis, .int .i64 a.parent] 129)))
          | (at_mapUpdate; refine wpList_set_put rfl _ _ _ 168 rfl Tryz.underlying3 Tryz.underlying4 Tryz.underlying168 ((hS.step hb2).alloc _) (by unfold maxLen; omega) d hwd rfl rfl rfl ?_; intro w3 hS3 hg3; have ho3 := ((own_step ho hb2).alloc (.cells #[.int .i64 a.code, .int .i64 a.kind, .int .i64 a.basis, .int .i64 a.parent] 129)).kept hg3 (.inr hne.symm))
          | (at_builtin; refine wpList_append_own _ rfl (.tmp 25) (.tmp 27) 37 rfl w.heap.size 3 i0 (.int .i64 0) 1 8 Tryz.underlying37 hi hz0 hz1 hz2 rfl (by decide) _ s.length (intCells s) rfl (ho3.alloc _) ⟨w3.heap.size, 0, none⟩ 1 1 [.int .i64 d] rfl rfl ?c1 (one_i64 d) ?c3 ?c4 ?c5 ?_))
        case c1 => exact cells_new _ _ _ _ rfl
        case c3 => simp only [maxLen]; omega
        case c4 => omega
        case c5 =>
          have z2 := hb2.size
          have z3 := hg3.size
          simp at z3 ⊢
          omega
        intro v4 w4 ho4 hg4 _
        have z2 := hb2.size
        have z3 := hg3.size
        simp at z3
        have hb3 : Below w.heap.size w w3 := Below.grown ((hb.alloc hb.size _)) hg3 (by simp; omega) (fun k hk => by injection hk with hk; omega)
        have hb4 := bel_own (hb3.alloc hb3.size _) (by simp; omega) (ho3.alloc _) hg4
        have hB4 := (((Blk.new w2 129 #[.int .i64 a.code, .int .i64 a.kind, .int .i64 a.basis, .int .i64 a.parent]).grown hg3 (by simp; omega)).alloc (.cells #[.int .i64 d] 3)).grown hg4 (fun e => by have := (HO.out _ e.symm).2; omega)
        have q3 : w4.cell? ⟨w2.heap.size, 3, none⟩ = some (.int .i64 a.parent) := hB4.cell 3
        have hS4 := (hS3.alloc (.cells #[.int .i64 d] 3)).kept hg4 hne
        have hl4 := own_slice ho4
        clear hg4 hg3 hLL hB4 ho3 hS3
        go_wp2_with fail
        go_roundw
        case rel =>
          refine ⟨s ++ [d], a.parent, hs2, HE.out, rfl, ?_, ?_, hb4⟩
          · rw [intCells_app, List.length_append]; exact ho4
          · rw [List.length_append]; exact hS4
        case measure =>
          show l.length + 1 - sliceLen v4 < l.length + 1 - s.length
          omega
end Go.Proofs.YthfbpbbepogllaaGreat
/- The walks of the reference's Find and climb, of both Children, of SameCodes and Has. -/
namespace Go.Proofs.YthfbpbbepogllaaGreat
set_option linter.unusedVariables false
set_option linter.unusedSimpArgs false
open Go.RowKit

set_option maxHeartbeats 1000000 in
theorem rfind_any (l : List Acc) (c : Int) (A : Option Addr) (cap : Nat) (w : World) (hr : Rd w w.heap.size 4 A l.length (Ch.cells l)) (hn : l.length ≤ 300000) :
    Calls Tryz.prog 126 #[.slice A l.length cap, .int .i64 c] w (FindPost l c w) := by
  have hb := Below.refl w.heap.size w
  have HR := Lib.hid hr
  clear hr
  go_enter Tryz.func126, Tryz.ntmps126
  go_wp2_with fail
  go_loopw [6] (fun t wr => ∃ k : Nat, k ≤ l.length ∧ (∀ j (h : j < k) (h2 : j < l.length), (l[j]'h2).code ≠ c) ∧ t = .int .i64 k ∧ Below w.heap.size w wr ∧ Blk wr w.heap.size 129 #[.int .i64 0, .int .i64 0, .int .i64 0, .int .i64 0]) (fun t _ => l.length - (intOf t).toNat)
  case atStart => exact ⟨0, by omega, fun j h => by omega, rfl, (by repeat (first | exact hb | refine Below.alloc ?_ (by have hbs := hb.size; first | omega | (simp; done) | (simp; omega)) _ | refine Below.drew ?_ | refine below_drewN_ ?_ _ | refine Below.setCell ?_ (by simp) _)), Blk.new w _ _⟩
  case round =>
    clear hb
    obtain ⟨k, hk, hno, rfl, hb, hB⟩ := hrel
    have HN := Lib.hid hno
    have hz := hb.size
    have hlt0 := hB.lt
    have q0 : wr.cell? ⟨w.heap.size, 0, none⟩ = some (.int .i64 0) := hB.cell 0
    have q1 : wr.cell? ⟨w.heap.size, 1, none⟩ = some (.int .i64 0) := hB.cell 1
    have q2 : wr.cell? ⟨w.heap.size, 2, none⟩ = some (.int .i64 0) := hB.cell 2
    have q3 : wr.cell? ⟨w.heap.size, 3, none⟩ = some (.int .i64 0) := hB.cell 3
    have z0 := hB.frozen 0
    have z1 := hB.frozen 1
    have z2 := hB.frozen 2
    have z3 := hB.frozen 3
    clear hno
    by_cases hlt : k < l.length
    · obtain ⟨b, o, hA, hbo, f0, f1, f2, f3⟩ := Ch.at_ (HR.out.below hb (Nat.le_refl _)) hlt
      subst hA
      by_cases hc : l[k].code = c
      · have hc' : (l[k].code == c) = true := by simpa using hc
        have HF := Lib.hid (Ch.find_at l c k hlt hc (fun j h => HN.out j h (by omega)))
        clear hc
        go_wp2_with fail
        have hB2 := (((hB.set_ 0 (.int .i64 l[k].code)).set_ 1 (.int .i64 l[k].kind)).set_ 2 (.int .i64 l[k].basis)).set_ 3 (.int .i64 l[k].parent)
        have p0 := hB2.cell 0
        have p1 := hB2.cell 1
        have p2 := hB2.cell 2
        have p3 := hB2.cell 3
        simp only [Array.setIfInBounds] at p0 p1 p2 p3
        refine bodyPost_ret (v := .tuple #[Ch.val l[k], .bool true]) (by simp [results, Tryz.results126, go_sem, Ch.val, p0, p1, p2, p3]) rfl ?_
        refine ⟨by rw [show Ch.fnV l c = l[k] from by unfold Ch.fnV; rw [HF.out]; rfl, show Ch.fnB l c = true from by unfold Ch.fnB; rw [HF.out]; rfl], (by repeat (first | exact hb | refine Below.alloc ?_ (by have hbs := hb.size; first | omega | (simp; done) | (simp; omega)) _ | refine Below.drew ?_ | refine below_drewN_ ?_ _ | refine Below.setCell ?_ (by simp) _))⟩
      · have hc' : (l[k].code == c) = false := by simpa using hc
        have HC := Lib.hid hc
        clear hc q0 q1 q2 q3 z0 z1 z2 z3
        go_wp2_with fail
        go_roundw
        case rel =>
          refine ⟨k + 1, by omega, fun j h h2 => ?_, by go_num, (by repeat (first | exact hb | refine Below.alloc ?_ (by have hbs := hb.size; first | omega | (simp; done) | (simp; omega)) _ | refine Below.drew ?_ | refine below_drewN_ ?_ _ | refine Below.setCell ?_ (by simp) _)), hB⟩
          by_cases hj : j = k
          · subst hj; exact HC.out
          · exact HN.out j (by omega) h2
        case measure => simp [intOf]; omega
    · have HF := Lib.hid (Ch.find_none l c (fun j h => HN.out j (by omega) h))
      go_wp2_with fail
      refine bodyPost_ret (v := .tuple #[Ch.val Ch.zero, .bool false]) (by simp [results, Tryz.results126, go_sem, Ch.val, Ch.zero, cell_ne, q0, q1, q2, q3]) rfl ?_
      refine ⟨by rw [show Ch.fnV l c = Ch.zero from by unfold Ch.fnV; rw [HF.out]; rfl, show Ch.fnB l c = false from by unfold Ch.fnB; rw [HF.out]; rfl], (by repeat (first | exact hb | refine Below.alloc ?_ (by have hbs := hb.size; first | omega | (simp; done) | (simp; omega)) _ | refine Below.drew ?_ | refine below_drewN_ ?_ _ | refine Below.setCell ?_ (by simp) _))⟩

theorem rfind_no (l : List Acc) (c : Int) (A : Option Addr) (cap : Nat) (w : World) (hr : Rd w w.heap.size 4 A l.length (Ch.cells l)) (hn : l.length ≤ 300000) (hf : Ch.find l c = none) :
    Calls Tryz.prog 126 #[.slice A l.length cap, .int .i64 c] w (fun e w' => e = .returned (.tuple #[.agg #[.int .i64 0, .int .i64 0, .int .i64 0, .int .i64 0], .bool false]) ∧ Below w.heap.size w w') :=
  (rfind_any l c A cap w hr hn).mono (fun e w' h => ⟨by rw [h.1]; unfold Ch.fnV Ch.fnB; rw [hf]; rfl, h.2⟩)
theorem rfind_is (l : List Acc) (c : Int) (a : Acc) (A : Option Addr) (cap : Nat) (w : World) (hr : Rd w w.heap.size 4 A l.length (Ch.cells l)) (hn : l.length ≤ 300000) (hf : Ch.find l c = some a) :
    Calls Tryz.prog 126 #[.slice A l.length cap, .int .i64 c] w (fun e w' => e = .returned (.tuple #[.agg #[.int .i64 a.code, .int .i64 a.kind, .int .i64 a.basis, .int .i64 a.parent], .bool true]) ∧ Below w.heap.size w w') :=
  (rfind_any l c A cap w hr hn).mono (fun e w' h => ⟨by rw [h.1]; unfold Ch.fnV Ch.fnB; rw [hf]; rfl, h.2⟩)

set_option maxHeartbeats 2000000 in
theorem rclimb_any (l : List Acc) (c : Int) (A : Option Addr) (cap : Nat) (w : World) (hr : Rd w w.heap.size 4 A l.length (Ch.cells l)) (hn : l.length ≤ 300000) :
    Calls Tryz.prog 128 #[.slice A l.length cap, .int .i64 c] w (OwnInts w.heap.size (Ch.rcl l c) w) := by
  have hb := Below.refl w.heap.size w
  have HR := Lib.hid hr
  obtain ⟨i0, hi, hz0, hz1, hz2⟩ := info_parts int_info
  clear hr
  go_enter Tryz.func128, Tryz.ntmps128
  go_wp2_with fail
  go_loopw [1, 5, 6] (fun t v i wr => ∃ (s : List Int) (d : Int), s.length ≤ l.length + 1 ∧ Ch.ru l (l.length + 1 - s.length) s d = Ch.rcl l c ∧ t = .int .i64 d ∧ i = .int .i64 s.length ∧ wr.ownsRow w.heap.size 3 1 v s.length (intCells s) ∧ Below w.heap.size w wr) (fun _ _ i _ => l.length + 1 - (intOf i).toNat)
  case atStart => exact ⟨[], c, by simp, rfl, rfl, rfl, World.ownsRow_nil _ _ _ _, (by repeat (first | exact hb | refine Below.alloc ?_ (by have hbs := hb.size; first | omega | (simp; done) | (simp; omega)) _ | refine Below.drew ?_ | refine below_drewN_ ?_ _ | refine Below.setCell ?_ (by simp) _))⟩
  case round =>
    clear hb
    obtain ⟨s, d, hs, hu, rfl, rfl, ho, hb⟩ := hrel
    obtain ⟨A1, c1, rfl, -⟩ := Rd.of_own ho
    have HO := Lib.hid ho.lt
    have HU := Lib.hid hu
    have hz := hb.size
    have HR2 := Lib.hid ((HR.out.below hb (Nat.le_refl _)).more hz)
    clear hu
    by_cases hlt : s.length ≤ l.length
    · cases hf : Ch.find l d with
      | none =>
        have HE : Hid (s = Ch.rcl l c) := Lib.hid (by rw [← HU.out, Ch.ru_none _ _ _ _ hf])
        go_wp2_with (go_at_call 126; refine (rfind_no l d A cap _ HR2.out hn hf).mono ?_; rintro e w2 ⟨rfl, hb2⟩; replace hb := bel hb hb2)
        go_ret
        exact ⟨_, rfl, by rw [← HE.out]; exact (own_step ho hb2).alloc _, (by repeat (first | exact hb | refine Below.alloc ?_ (by have hbs := hb.size; first | omega | (simp; done) | (simp; omega)) _ | refine Below.drew ?_ | refine below_drewN_ ?_ _ | refine Below.setCell ?_ (by simp) _))⟩
      | some a =>
        have HE : Hid (Ch.ru l (l.length + 1 - (s ++ [d]).length) (s ++ [d]) a.parent = Ch.rcl l c) := Lib.hid (by
          rw [← HU.out, show l.length + 1 - s.length = l.length - s.length + 1 from by omega, Ch.ru_on _ _ _ _ _ hf]
          simp)
        go_wp2_with (first
          | (go_at_call 126; refine (rfind_is l d a A cap _ HR2.out hn hf).mono ?_; rintro e w2 ⟨rfl, hb2⟩; replace hb := bel hb hb2)
          | (at_builtin; refine wpList_append_own _ rfl (.tmp 23) (.tmp 25) 37 rfl w.heap.size 3 i0 (.int .i64 0) 1 8 Tryz.underlying37 hi hz0 hz1 hz2 rfl (by decide) _ (s).length (intCells (s)) rfl (((own_step ho hb2).alloc (.cells #[.int .i64 a.code, .int .i64 a.kind, .int .i64 a.basis, .int .i64 a.parent] 129)).alloc _) ⟨w2.heap.size + 1, 0, none⟩ 1 1 [.int .i64 (d)] rfl rfl ?c1 (one_i64 _) ?c3 ?c4 ?c5 ?_))
        case c1 => exact cells_new2 _ _ _ _ _ rfl
        case c3 => simp only [maxLen]; omega
        case c4 => omega
        case c5 =>
          have z2 := hb2.size
          simp
          omega
        intro v4 w4 ho4 hg4 _
        have z2 := hb2.size
        have ho3 := ((own_step ho hb2).alloc (.cells #[.int .i64 a.code, .int .i64 a.kind, .int .i64 a.basis, .int .i64 a.parent] 129)).alloc (.cells #[.int .i64 d] 3)
        have hb3 : Below w.heap.size w ((w2.alloc (.cells #[.int .i64 a.code, .int .i64 a.kind, .int .i64 a.basis, .int .i64 a.parent] 129)).alloc (.cells #[.int .i64 d] 3)) := (by repeat (first | exact hb | refine Below.alloc ?_ (by have hbs := hb.size; first | omega | (simp; done) | (simp; omega)) _ | refine Below.drew ?_ | refine below_drewN_ ?_ _ | refine Below.setCell ?_ (by simp) _))
        have hb4 := bel_own (w := w) (base := w.heap.size) hb3 (by simp; omega) ho3 hg4
        have hB4 := ((Blk.new w2 129 #[.int .i64 a.code, .int .i64 a.kind, .int .i64 a.basis, .int .i64 a.parent]).alloc (.cells #[.int .i64 d] 3)).grown hg4 (fun e => by have := (HO.out _ e.symm).2; omega)
        have q3 : w4.cell? ⟨w2.heap.size, 3, none⟩ = some (.int .i64 a.parent) := hB4.cell 3
        clear hg4 hB4 ho3
        go_wp2_with fail
        go_roundw
        case rel =>
          refine ⟨s ++ [d], a.parent, by simp; omega, HE.out, rfl, ?_, ?_, hb4⟩
          · rw [List.length_append]; go_num
          · rw [intCells_app, List.length_append]; exact ho4
        case measure => simp [intOf]; omega
    · have HE : Hid (s = Ch.rcl l c) := Lib.hid (by rw [← HU.out, show l.length + 1 - s.length = 0 from by omega]; rfl)
      go_wp2_with fail
      go_ret
      exact ⟨_, rfl, by rw [← HE.out]; exact ho, (by repeat (first | exact hb | refine Below.alloc ?_ (by have hbs := hb.size; first | omega | (simp; done) | (simp; omega)) _ | refine Below.drew ?_ | refine below_drewN_ ?_ _ | refine Below.setCell ?_ (by simp) _))⟩
end Go.Proofs.YthfbpbbepogllaaGreat
