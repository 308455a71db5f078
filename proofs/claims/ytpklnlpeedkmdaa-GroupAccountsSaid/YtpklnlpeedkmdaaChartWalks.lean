/- The walks of Find and of climb. -/
import Derived.Test.YtpklnlpeedkmdaaChartMath
import Derived.Test.YtpklnlpeedkmdaaChecked
namespace Go.Proofs.Ytpklnlpeedkmdaa
set_option linter.unusedVariables false
set_option linter.unusedSimpArgs false
open Go.RowKit

def FindPost (l : List Acc) (c : Int) (w : World) (e : Ending) (w' : World) : Prop :=
  e = .returned (.tuple #[Ch.val (Ch.fnV l c), .bool (Ch.fnB l c)]) ∧ Below w.heap.size w w'

set_option maxHeartbeats 1000000 in
theorem find_any (l : List Acc) (c : Int) (A : Option Addr) (cap : Nat) (w : World) (hr : Rd w w.heap.size 4 A l.length (Ch.cells l)) (hn : l.length ≤ 100000) :
    Calls Try.prog 82 #[.slice A l.length cap, .int .i64 c] w (FindPost l c w) := by
  have hb := Below.refl w.heap.size w
  have HR := Lib.hid hr
  clear hr
  go_enter Try.func82, Try.ntmps82
  go_wp2_with fail
  go_loopw [10] (fun t wr => ∃ k : Nat, k ≤ l.length ∧ (∀ j (h : j < k) (h2 : j < l.length), (l[j]'h2).code ≠ c) ∧ t = .int .i64 k ∧ Below w.heap.size w wr ∧ Blk wr w.heap.size 45 #[.int .i64 0, .int .i64 0, .int .i64 0, .int .i64 0]) (fun t _ => l.length - (intOf t).toNat)
  case atStart => exact ⟨0, by omega, fun j h => by omega, rfl, (by repeat (first | exact hb | refine Below.alloc ?_ (by have hbs := hb.size; first | omega | (simp; done) | (simp; omega)) _ | refine Below.drew ?_ | refine below_drewN_ ?_ _ | refine Below.setCell ?_ (by simp) _)), Blk.new w _ _⟩
  case round =>
    clear hb
    obtain ⟨k, hk, hno, rfl, hb, hB⟩ := hrel
    have HN := Lib.hid hno
    have hz := hb.size
    have hlt0 := hB.lt
    clear hno
    by_cases hlt : k < l.length
    · obtain ⟨b, o, hA, hbo, f0, f1, f2, f3⟩ := Ch.at_ (HR.out.below hb (Nat.le_refl _)) hlt
      subst hA
      by_cases hc : l[k].code = c
      · have hc' : (l[k].code == c) = true := by simpa using hc
        have HF := Lib.hid (Ch.find_at l c k hlt hc (fun j h => HN.out j h (by omega)))
        have q0 : wr.cell? ⟨w.heap.size, 0, none⟩ = some (.int .i64 0) := hB.cell 0
        have q1 : wr.cell? ⟨w.heap.size, 1, none⟩ = some (.int .i64 0) := hB.cell 1
        have q2 : wr.cell? ⟨w.heap.size, 2, none⟩ = some (.int .i64 0) := hB.cell 2
        have q3 : wr.cell? ⟨w.heap.size, 3, none⟩ = some (.int .i64 0) := hB.cell 3
        have z0 := hB.frozen 0
        have z1 := hB.frozen 1
        have z2 := hB.frozen 2
        have z3 := hB.frozen 3
        clear hc
        go_wp2_with fail
        have hB2 := ((((hB.set_ 0 (.int .i64 l[k].code)).set_ 1 (.int .i64 l[k].kind)).set_ 2 (.int .i64 l[k].basis)).set_ 3 (.int .i64 l[k].parent)).alloc (.cells #[.int .i64 l[k].code, .int .i64 l[k].kind, .int .i64 l[k].basis, .int .i64 l[k].parent] 45)
        have p0 := hB2.cell 0
        have p1 := hB2.cell 1
        have p2 := hB2.cell 2
        have p3 := hB2.cell 3
        simp only [Array.setIfInBounds] at p0 p1 p2 p3
        refine bodyPost_ret (v := .tuple #[Ch.val l[k], .bool true]) (by simp [results, Try.results82, go_sem, Ch.val, p0, p1, p2, p3]) rfl ?_
        refine ⟨by rw [show Ch.fnV l c = l[k] from by unfold Ch.fnV; rw [HF.out]; rfl, show Ch.fnB l c = true from by unfold Ch.fnB; rw [HF.out]; rfl], (by repeat (first | exact hb | refine Below.alloc ?_ (by have hbs := hb.size; first | omega | (simp; done) | (simp; omega)) _ | refine Below.drew ?_ | refine below_drewN_ ?_ _ | refine Below.setCell ?_ (by simp) _))⟩
      · have hc' : (l[k].code == c) = false := by simpa using hc
        have HC := Lib.hid hc
        clear hc
        go_wp2_with fail
        go_roundw
        case rel =>
          refine ⟨k + 1, by omega, fun j h h2 => ?_, by go_num, (by repeat (first | exact hb | refine Below.alloc ?_ (by have hbs := hb.size; first | omega | (simp; done) | (simp; omega)) _ | refine Below.drew ?_ | refine below_drewN_ ?_ _ | refine Below.setCell ?_ (by simp) _)), hB.alloc _⟩
          by_cases hj : j = k
          · subst hj; exact HC.out
          · exact HN.out j (by omega) h2
        case measure => simp [intOf]; omega
    · have HF := Lib.hid (Ch.find_none l c (fun j h => HN.out j (by omega) h))
      have q0 : wr.cell? ⟨w.heap.size, 0, none⟩ = some (.int .i64 0) := hB.cell 0
      have q1 : wr.cell? ⟨w.heap.size, 1, none⟩ = some (.int .i64 0) := hB.cell 1
      have q2 : wr.cell? ⟨w.heap.size, 2, none⟩ = some (.int .i64 0) := hB.cell 2
      have q3 : wr.cell? ⟨w.heap.size, 3, none⟩ = some (.int .i64 0) := hB.cell 3
      have z0 := hB.frozen 0
      have z1 := hB.frozen 1
      have z2 := hB.frozen 2
      have z3 := hB.frozen 3
      go_wp2_with fail
      refine bodyPost_ret (v := .tuple #[Ch.val Ch.zero, .bool false]) (by simp [results, Try.results82, go_sem, Ch.val, Ch.zero, cell_ne, q0, q1, q2, q3]) rfl ?_
      refine ⟨by rw [show Ch.fnV l c = Ch.zero from by unfold Ch.fnV; rw [HF.out]; rfl, show Ch.fnB l c = false from by unfold Ch.fnB; rw [HF.out]; rfl], (by repeat (first | exact hb | refine Below.alloc ?_ (by have hbs := hb.size; first | omega | (simp; done) | (simp; omega)) _ | refine Below.drew ?_ | refine below_drewN_ ?_ _ | refine Below.setCell ?_ (by simp) _))⟩
end Go.Proofs.Ytpklnlpeedkmdaa
