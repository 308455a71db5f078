/- Texts of this claim, put together. -/
import Derived.Test.YtnddoehhcpejjaaGreatJAF
import Derived.Test.YtnddoehhcpejjaaGreatJAD
import Derived.Deep.RegionHeld3
import Derived.Deep.QuietTactic
import Derived.BigQuiet
/- The walks of the reference's Find and climb, of both Children, of SameCodes and Has. -/
namespace Go.Proofs.YtnddoehhcpejjaaGreat
set_option linter.unusedVariables false
set_option linter.unusedSimpArgs false
open Go.RowKit

set_option maxHeartbeats 1000000 in
theorem rfind_any (l : List Acc) (c : Int) (A : Option Addr) (cap : Nat) (w : World) (hr : Rd w w.heap.size 4 A l.length (Ch.cells l)) (hn : l.length ≤ 300000) :
    Calls Tryz.prog 106 #[.slice A l.length cap, .int .i64 c] w (FindPost l c w) := by
  have hb := Below.refl w.heap.size w
  have HR := Lib.hid hr
  clear hr
  go_enter Tryz.func106, Tryz.ntmps106
  go_wp2_with fail
  go_loopw [6] (fun t wr => ∃ k : Nat, k ≤ l.length ∧ (∀ j (h : j < k) (h2 : j < l.length), (l[j]'h2).code ≠ c) ∧ t = .int .i64 k ∧ Below w.heap.size w wr ∧ Blk wr w.heap.size 121 #[.int .i64 0, .int .i64 0, .int .i64 0, .int .i64 0]) (fun t _ => l.length - (intOf t).toNat)
  case atStart => exact ⟨0, by omega, fun j h => by omega, rfl, (by repeat (first | exact hb | refine Below.alloc ?_ (by have hbs := hb.size; first | omega | (simp; done) | (simp; omega)) _ | refine Below.drew ?_ | refine below_drewN_ ?_ _ | refine Below.setCell ?_ (by simp) _)), Blk.new w _ _⟩
  case round =>
    clear hb
    obtain ⟨k, hk, hno, rfl, hb, hB⟩ := hrel
    have HN := Lib.hid hno
    have hz := hb.size
    have hlt0 := hB.lt
    have q0 : wr.cell? ⟨w.heap.size, 0, none⟩ = some (.int .i64 0) := hB.cell 0
    have q1 : wr.cell? ⟨w.heap.size, 1, none⟩ = some (.int .i64 0) := hB.cell 1
    have q2 : wr.cell? ⟨w.heap.size, 2, none⟩ = some (.int .i64 0) := hB.cell 2
    have q3 : wr.cell? ⟨w.heap.size, 3, none⟩ = some (.int .i64 0) := hB.cell 3
    have z0 := hB.frozen 0
    have z1 := hB.frozen 1
    have z2 := hB.frozen 2
    have z3 := hB.frozen 3
    clear hno
    by_cases hlt : k < l.length
    · obtain ⟨b, o, hA, hbo, f0, f1, f2, f3⟩ := Ch.at_ (HR.out.below hb (Nat.le_refl _)) hlt
      subst hA
      by_cases hc : l[k].code = c
      · have hc' : (l[k].code == c) = true := by simpa using hc
        have HF := Lib.hid (Ch.find_at l c k hlt hc (fun j h => HN.out j h (by omega)))
        clear hc
        go_wp2_with fail
        have hB2 := (((hB.set_ 0 (.int .i64 l[k].code)).set_ 1 (.int .i64 l[k].kind)).set_ 2 (.int .i64 l[k].basis)).set_ 3 (.int .i64 l[k].parent)
        have p0 := hB2.cell 0
        have p1 := hB2.cell 1
        have p2 := hB2.cell 2
        have p3 := hB2.cell 3
        simp only [Array.setIfInBounds] at p0 p1 p2 p3
        refine bodyPost_ret (v := .tuple #[Ch.val l[k], .bool true]) (by simp [results, Tryz.results106, go_sem, Ch.val, p0, p1, p2, p3]) rfl ?_
        refine ⟨by rw [show Ch.fnV l c = l[k] from by unfold Ch.fnV; rw [HF.out]; rfl, show Ch.fnB l c = true from by unfold Ch.fnB; rw [HF.out]; rfl], (by repeat (first | exact hb | refine Below.alloc ?_ (by have hbs := hb.size; first | omega | (simp; done) | (simp; omega)) _ | refine Below.drew ?_ | refine below_drewN_ ?_ _ | refine Below.setCell ?_ (by simp) _))⟩
      · have hc' : (l[k].code == c) = false := by simpa using hc
        have HC := Lib.hid hc
        clear hc q0 q1 q2 q3 z0 z1 z2 z3
        go_wp2_with fail
        go_roundw
        case rel =>
          refine ⟨k + 1, by omega, fun j h h2 => ?_, by go_num, (by repeat (first | exact hb | refine Below.alloc ?_ (by have hbs := hb.size; first | omega | (simp; done) | (simp; omega)) _ | refine Below.drew ?_ | refine below_drewN_ ?_ _ | refine Below.setCell ?_ (by simp) _)), hB⟩
          by_cases hj : j = k
          · subst hj; exact HC.out
          · exact HN.out j (by omega) h2
        case measure => simp [intOf]; omega
    · have HF := Lib.hid (Ch.find_none l c (fun j h => HN.out j (by omega) h))
      go_wp2_with fail
      refine bodyPost_ret (v := .tuple #[Ch.val Ch.zero, .bool false]) (by simp [results, Tryz.results106, go_sem, Ch.val, Ch.zero, cell_ne, q0, q1, q2, q3]) rfl ?_
      refine ⟨by rw [show Ch.fnV l c = Ch.zero from by unfold Ch.fnV; rw [HF.out]; rfl, show Ch.fnB l c = false from by unfold Ch.fnB; rw [HF.out]; rfl], (by repeat (first | exact hb | refine Below.alloc ?_ (by have hbs := hb.size; first | omega | (simp; done) | (simp; omega)) _ | refine Below.drew ?_ | refine below_drewN_ ?_ _ | refine Below.setCell ?_ (by simp) _))⟩

theorem rfind_no (l : List Acc) (c : Int) (A : Option Addr) (cap : Nat) (w : World) (hr : Rd w w.heap.size 4 A l.length (Ch.cells l)) (hn : l.length ≤ 300000) (hf : Ch.find l c = none) :
    Calls Tryz.prog 106 #[.slice A l.length cap, .int .i64 c] w (fun e w' => e = .returned (.tuple #[.agg #[.int .i64 0, .int .i64 0, .int .i64 0, .int .i64 0], .bool false]) ∧ Below w.heap.size w w') :=
  (rfind_any l c A cap w hr hn).mono (fun e w' h => ⟨by rw [h.1]; unfold Ch.fnV Ch.fnB; rw [hf]; rfl, h.2⟩)
theorem rfind_is (l : List Acc) (c : Int) (a : Acc) (A : Option Addr) (cap : Nat) (w : World) (hr : Rd w w.heap.size 4 A l.length (Ch.cells l)) (hn : l.length ≤ 300000) (hf : Ch.find l c = some a) :
    Calls Tryz.prog 106 #[.slice A l.length cap, .int .i64 c] w (fun e w' => e = .returned (.tuple #[.agg #[.int .i64 a.code, .int .i64 a.kind, .int .i64 a.basis, .int .i64 a.parent], .bool true]) ∧ Below w.heap.size w w') :=
  (rfind_any l c A cap w hr hn).mono (fun e w' h => ⟨by rw [h.1]; unfold Ch.fnV Ch.fnB; rw [hf]; rfl, h.2⟩)

set_option maxHeartbeats 2000000 in
theorem rclimb_any (l : List Acc) (c : Int) (A : Option Addr) (cap : Nat) (w : World) (hr : Rd w w.heap.size 4 A l.length (Ch.cells l)) (hn : l.length ≤ 300000) :
    Calls Tryz.prog 127 #[.slice A l.length cap, .int .i64 c] w (OwnInts w.heap.size (Ch.rcl l c) w) := by
  have hb := Below.refl w.heap.size w
  have HR := Lib.hid hr
  obtain ⟨i0, hi, hz0, hz1, hz2⟩ := info_parts int_info
  clear hr
  go_enter Tryz.func127, Tryz.ntmps127
  go_wp2_with fail
  go_loopw [1, 5, 6] (fun t v i wr => ∃ (s : List Int) (d : Int), s.length ≤ l.length + 1 ∧ Ch.ru l (l.length + 1 - s.length) s d = Ch.rcl l c ∧ t = .int .i64 d ∧ i = .int .i64 s.length ∧ wr.ownsRow w.heap.size 3 1 v s.length (intCells s) ∧ Below w.heap.size w wr) (fun _ _ i _ => l.length + 1 - (intOf i).toNat)
  case atStart => exact ⟨[], c, by simp, rfl, rfl, rfl, World.ownsRow_nil _ _ _ _, (by repeat (first | exact hb | refine Below.alloc ?_ (by have hbs := hb.size; first | omega | (simp; done) | (simp; omega)) _ | refine Below.drew ?_ | refine below_drewN_ ?_ _ | refine Below.setCell ?_ (by simp) _))⟩
  case round =>
    clear hb
    obtain ⟨s, d, hs, hu, rfl, rfl, ho, hb⟩ := hrel
    obtain ⟨A1, c1, rfl, -⟩ := Rd.of_own ho
    have HO := Lib.hid ho.lt
    have HU := Lib.hid hu
    have hz := hb.size
    have HR2 := Lib.hid ((HR.out.below hb (Nat.le_refl _)).more hz)
    clear hu
    by_cases hlt : s.length ≤ l.length
    · cases hf : Ch.find l d with
      | none =>
        have HE : Hid (s = Ch.rcl l c) := Lib.hid (by rw [← HU.out, Ch.ru_none _ _ _ _ hf])
        go_wp2_with (go_at_call 106; refine (rfind_no l d A cap _ HR2.out hn hf).mono ?_; rintro e w2 ⟨rfl, hb2⟩; replace hb := bel hb hb2)
        go_ret
        exact ⟨_, rfl, by rw [← HE.out]; exact (own_step ho hb2).alloc _, (by repeat (first | exact hb | refine Below.alloc ?_ (by have hbs := hb.size; first | omega | (simp; done) | (simp; omega)) _ | refine Below.drew ?_ | refine below_drewN_ ?_ _ | refine Below.setCell ?_ (by simp) _))⟩
      | some a =>
        have HE : Hid (Ch.ru l (l.length + 1 - (s ++ [d]).length) (s ++ [d]) a.parent = Ch.rcl l c) := Lib.hid (by
          rw [← HU.out, show l.length + 1 - s.length = l.length - s.length + 1 from by omega, Ch.ru_on _ _ _ _ _ hf]
          simp)
        go_wp2_with (first
          | (go_at_call 106; refine (rfind_is l d a A cap _ HR2.out hn hf).mono ?_; rintro e w2 ⟨rfl, hb2⟩; replace hb := bel hb hb2)
          | (at_builtin; refine wpList_append_own _ rfl (.tmp 23) (.tmp 25) 113 rfl w.heap.size 3 i0 (.int .i64 0) 1 8 Tryz.underlying113 hi hz0 hz1 hz2 rfl (by decide) _ (s).length (intCells (s)) rfl (((own_step ho hb2).alloc (.cells #[.int .i64 a.code, .int .i64 a.kind, .int .i64 a.basis, .int .i64 a.parent] 121)).alloc _) ⟨w2.heap.size + 1, 0, none⟩ 1 1 [.int .i64 (d)] rfl rfl ?c1 (one_i64 _) ?c3 ?c4 ?c5 ?_))
        case c1 => exact cells_new2 _ _ _ _ _ rfl
        case c3 => simp only [maxLen]; omega
        case c4 => omega
        case c5 =>
          have z2 := hb2.size
          simp
          omega
        intro v4 w4 ho4 hg4 _
        have z2 := hb2.size
        have ho3 := ((own_step ho hb2).alloc (.cells #[.int .i64 a.code, .int .i64 a.kind, .int .i64 a.basis, .int .i64 a.parent] 121)).alloc (.cells #[.int .i64 d] 3)
        have hb3 : Below w.heap.size w ((w2.alloc (.cells #[.int .i64 a.code, .int .i64 a.kind, .int .i64 a.basis, .int .i64 a.parent] 121)).alloc (.cells #[.int .i64 d] 3)) := (by repeat (first | exact hb | refine Below.alloc ?_ (by have hbs := hb.size; first | omega | (simp; done) | (simp; omega)) _ | refine Below.drew ?_ | refine below_drewN_ ?_ _ | refine Below.setCell ?_ (by simp) _))
        have hb4 := bel_own (w := w) (base := w.heap.size) hb3 (by simp; omega) ho3 hg4
        have hB4 := ((Blk.new w2 121 #[.int .i64 a.code, .int .i64 a.kind, .int .i64 a.basis, .int .i64 a.parent]).alloc (.cells #[.int .i64 d] 3)).grown hg4 (fun e => by have := (HO.out _ e.symm).2; omega)
        have q3 : w4.cell? ⟨w2.heap.size, 3, none⟩ = some (.int .i64 a.parent) := hB4.cell 3
        clear hg4 hB4 ho3
        go_wp2_with fail
        go_roundw
        case rel =>
          refine ⟨s ++ [d], a.parent, by simp; omega, HE.out, rfl, ?_, ?_, hb4⟩
          · rw [List.length_append]; go_num
          · rw [intCells_app, List.length_append]; exact ho4
        case measure => simp [intOf]; omega
    · have HE : Hid (s = Ch.rcl l c) := Lib.hid (by rw [← HU.out, show l.length + 1 - s.length = 0 from by omega]; rfl)
      go_wp2_with fail
      go_ret
      exact ⟨_, rfl, by rw [← HE.out]; exact ho, (by repeat (first | exact hb | refine Below.alloc ?_ (by have hbs := hb.size; first | omega | (simp; done) | (simp; omega)) _ | refine Below.drew ?_ | refine below_drewN_ ?_ _ | refine Below.setCell ?_ (by simp) _))⟩
end Go.Proofs.YtnddoehhcpejjaaGreat
/- The walks of proper and Valid. -/
namespace Go.Proofs.YtnddoehhcpejjaaGreat
set_option linter.unusedVariables false
set_option linter.unusedSimpArgs false
open Go.RowKit


theorem find_gen (l : List Acc) (c : Int) (A : Option Addr) (cap : Nat) (w : World) (hr : Rd w w.heap.size 4 A l.length (Ch.cells l)) (hn : l.length ≤ 300000) :
    Calls Tryz.prog 88 #[.slice A l.length cap, .int .i64 c] w (fun e w' => e = .returned (.tuple #[.agg #[.int .i64 (Ch.fnV l c).code, .int .i64 (Ch.fnV l c).kind, .int .i64 (Ch.fnV l c).basis, .int .i64 (Ch.fnV l c).parent], .bool (Ch.fnB l c)]) ∧ Below w.heap.size w w') :=
  (find_any l c A cap w hr hn).mono (fun _ _ h => h)
section
variable (l : List Acc) (a : Acc) (g : Bool) (A : Option Addr) (cap : Nat) (w : World)
theorem proper_no (h : Ch.fieldsV a g = false) : Calls Tryz.prog 121 #[.slice A l.length cap, .agg #[.int .i64 a.code, .int .i64 a.kind, .int .i64 a.basis, .int .i64 a.parent], .bool g] w (BoolPost false w) := by
  have hb := Below.refl w.heap.size w
  unfold Ch.fieldsV at h
  by_cases h1 : a.code < 1
  · clear h
    go_enter Tryz.func121, Tryz.ntmps121
    go_wp2_with fail
    go_ret
    exact ⟨rfl, (by repeat (first | exact hb | refine Below.alloc ?_ (by have hbs := hb.size; first | omega | (simp; done) | (simp; omega)) _ | refine Below.drew ?_ | refine below_drewN_ ?_ _ | refine Below.setCell ?_ (by simp) _))⟩
  by_cases h2 : 99999 < a.code
  · clear h
    go_enter Tryz.func121, Tryz.ntmps121
    go_wp2_with fail
    go_ret
    exact ⟨rfl, (by repeat (first | exact hb | refine Below.alloc ?_ (by have hbs := hb.size; first | omega | (simp; done) | (simp; omega)) _ | refine Below.drew ?_ | refine below_drewN_ ?_ _ | refine Below.setCell ?_ (by simp) _))⟩
  by_cases h3 : a.kind < 1
  · clear h
    go_enter Tryz.func121, Tryz.ntmps121
    go_wp2_with fail
    go_ret
    exact ⟨rfl, (by repeat (first | exact hb | refine Below.alloc ?_ (by have hbs := hb.size; first | omega | (simp; done) | (simp; omega)) _ | refine Below.drew ?_ | refine below_drewN_ ?_ _ | refine Below.setCell ?_ (by simp) _))⟩
  by_cases h4 : 5 < a.kind
  · clear h
    go_enter Tryz.func121, Tryz.ntmps121
    go_wp2_with fail
    go_ret
    exact ⟨rfl, (by repeat (first | exact hb | refine Below.alloc ?_ (by have hbs := hb.size; first | omega | (simp; done) | (simp; omega)) _ | refine Below.drew ?_ | refine below_drewN_ ?_ _ | refine Below.setCell ?_ (by simp) _))⟩
  cases g
  · have h5 : (a.basis != 0) = true := by
      simp at h
      have := h (by omega) (by omega) (by omega) (by omega)
      simpa using this
    clear h
    go_enter Tryz.func121, Tryz.ntmps121
    go_wp2_with fail
    go_ret
    exact ⟨rfl, (by repeat (first | exact hb | refine Below.alloc ?_ (by have hbs := hb.size; first | omega | (simp; done) | (simp; omega)) _ | refine Below.drew ?_ | refine below_drewN_ ?_ _ | refine Below.setCell ?_ (by simp) _))⟩
  · by_cases h6 : a.basis < 1
    · clear h
      go_enter Tryz.func121, Tryz.ntmps121
      go_wp2_with fail
      go_ret
      exact ⟨rfl, (by repeat (first | exact hb | refine Below.alloc ?_ (by have hbs := hb.size; first | omega | (simp; done) | (simp; omega)) _ | refine Below.drew ?_ | refine below_drewN_ ?_ _ | refine Below.setCell ?_ (by simp) _))⟩
    · have h7 : 3 < a.basis := by
        simp at h
        have := h (by omega) (by omega) (by omega) (by omega)
        omega
      clear h
      go_enter Tryz.func121, Tryz.ntmps121
      go_wp2_with fail
      go_ret
      exact ⟨rfl, (by repeat (first | exact hb | refine Below.alloc ?_ (by have hbs := hb.size; first | omega | (simp; done) | (simp; omega)) _ | refine Below.drew ?_ | refine below_drewN_ ?_ _ | refine Below.setCell ?_ (by simp) _))⟩

theorem proper_top (h1 : ¬ a.code < 1) (h2 : ¬ 99999 < a.code) (h3 : ¬ a.kind < 1) (h4 : ¬ 5 < a.kind) (h0 : a.parent = 0) (hg : (g = true ∧ ¬ a.basis < 1 ∧ ¬ 3 < a.basis) ∨ (g = false ∧ (a.basis != 0) = false)) :
    Calls Tryz.prog 121 #[.slice A l.length cap, .agg #[.int .i64 a.code, .int .i64 a.kind, .int .i64 a.basis, .int .i64 a.parent], .bool g] w (BoolPost true w) := by
  have hb := Below.refl w.heap.size w
  have hp : (a.parent == 0) = true := by simpa using h0
  clear h0
  rcases hg with ⟨rfl, h5, h6⟩ | ⟨rfl, h5⟩
  · go_enter Tryz.func121, Tryz.ntmps121
    go_wp2_with fail
    go_ret
    exact ⟨rfl, (by repeat (first | exact hb | refine Below.alloc ?_ (by have hbs := hb.size; first | omega | (simp; done) | (simp; omega)) _ | refine Below.drew ?_ | refine below_drewN_ ?_ _ | refine Below.setCell ?_ (by simp) _))⟩
  · go_enter Tryz.func121, Tryz.ntmps121
    go_wp2_with fail
    go_ret
    exact ⟨rfl, (by repeat (first | exact hb | refine Below.alloc ?_ (by have hbs := hb.size; first | omega | (simp; done) | (simp; omega)) _ | refine Below.drew ?_ | refine below_drewN_ ?_ _ | refine Below.setCell ?_ (by simp) _))⟩

set_option maxHeartbeats 4000000 in
theorem proper_rest (h1 : ¬ a.code < 1) (h2 : ¬ 99999 < a.code) (h3 : ¬ a.kind < 1) (h4 : ¬ 5 < a.kind) (h0 : a.parent ≠ 0) (hg : (g = true ∧ ¬ a.basis < 1 ∧ ¬ 3 < a.basis) ∨ (g = false ∧ (a.basis != 0) = false))
    (hr : Rd w w.heap.size 4 A l.length (Ch.cells l)) (hn : l.length ≤ 300000) (hwf : ∀ a ∈ l, (Lit.int .i64 a.code).wf = true) (hne : Ch.pcl l a.code ≠ []) :
    Calls Tryz.prog 121 #[.slice A l.length cap, .agg #[.int .i64 a.code, .int .i64 a.kind, .int .i64 a.basis, .int .i64 a.parent], .bool g] w (BoolPost (Ch.restV l a) w) := by
  have hb := Below.refl w.heap.size w
  have hp : (a.parent == 0) = false := by simpa using h0
  have HR := Lib.hid hr
  have HW := Lib.hid hwf
  have HNE := Lib.hid hne
  clear h0 hr hwf hne
  cases hf : Ch.find l a.parent with
  | none =>
    have HE : Hid (Ch.restV l a = false) := Lib.hid (by unfold Ch.restV; rw [hf])
    rcases hg with ⟨rfl, h5, h6⟩ | ⟨rfl, h5⟩
    · go_enter Tryz.func121, Tryz.ntmps121
      go_wp2_with (go_at_call 88; refine (find_no l a.parent A cap _ (Rd.now HR.out (by repeat (first | exact hb | refine Below.alloc ?_ (by have hbs := hb.size; first | omega | (simp; done) | (simp; omega)) _ | refine Below.drew ?_ | refine below_drewN_ ?_ _ | refine Below.setCell ?_ (by simp) _))) hn hf).mono ?_; rintro e w2 ⟨rfl, hb2⟩; obtain ⟨hc2, -⟩ := bcell hb2; have hz2 := hb2.size; (try simp at hz2); (try have hy2 : w.heap.size < w2.heap.size := by omega); replace hb := bel' (w := w) hb2 (by repeat (first | exact hb | refine Below.alloc ?_ (by have hbs := hb.size; first | omega | (simp; done) | (simp; omega)) _ | refine Below.drew ?_ | refine below_drewN_ ?_ _ | refine Below.setCell ?_ (by simp) _)); clear hb2)
      go_ret
      exact ⟨by rw [HE.out]; rfl, (by repeat (first | exact hb | refine Below.alloc ?_ (by have hbs := hb.size; first | omega | (simp; done) | (simp; omega)) _ | refine Below.drew ?_ | refine below_drewN_ ?_ _ | refine Below.setCell ?_ (by simp) _))⟩
    · go_enter Tryz.func121, Tryz.ntmps121
      go_wp2_with (go_at_call 88; refine (find_no l a.parent A cap _ (Rd.now HR.out (by repeat (first | exact hb | refine Below.alloc ?_ (by have hbs := hb.size; first | omega | (simp; done) | (simp; omega)) _ | refine Below.drew ?_ | refine below_drewN_ ?_ _ | refine Below.setCell ?_ (by simp) _))) hn hf).mono ?_; rintro e w2 ⟨rfl, hb2⟩; obtain ⟨hc2, -⟩ := bcell hb2; have hz2 := hb2.size; (try simp at hz2); (try have hy2 : w.heap.size < w2.heap.size := by omega); replace hb := bel' (w := w) hb2 (by repeat (first | exact hb | refine Below.alloc ?_ (by have hbs := hb.size; first | omega | (simp; done) | (simp; omega)) _ | refine Below.drew ?_ | refine below_drewN_ ?_ _ | refine Below.setCell ?_ (by simp) _)); clear hb2)
      go_ret
      exact ⟨by rw [HE.out]; rfl, (by repeat (first | exact hb | refine Below.alloc ?_ (by have hbs := hb.size; first | omega | (simp; done) | (simp; omega)) _ | refine Below.drew ?_ | refine below_drewN_ ?_ _ | refine Below.setCell ?_ (by simp) _))⟩
  | some p =>
    by_cases h8 : p.code = a.code
    · have h8' : (p.code == a.code) = true := by simpa using h8
      have HE : Hid (Ch.restV l a = false) := Lib.hid (by unfold Ch.restV; rw [hf]; simp [h8])
      clear h8
      rcases hg with ⟨rfl, h5, h6⟩ | ⟨rfl, h5⟩
      · go_enter Tryz.func121, Tryz.ntmps121
        go_wp2_with (go_at_call 88; refine (find_is l a.parent p A cap _ (Rd.now HR.out (by repeat (first | exact hb | refine Below.alloc ?_ (by have hbs := hb.size; first | omega | (simp; done) | (simp; omega)) _ | refine Below.drew ?_ | refine below_drewN_ ?_ _ | refine Below.setCell ?_ (by simp) _))) hn hf).mono ?_; rintro e w2 ⟨rfl, hb2⟩; obtain ⟨hc2, -⟩ := bcell hb2; have hz2 := hb2.size; (try simp at hz2); (try have hy2 : w.heap.size < w2.heap.size := by omega); replace hb := bel' (w := w) hb2 (by repeat (first | exact hb | refine Below.alloc ?_ (by have hbs := hb.size; first | omega | (simp; done) | (simp; omega)) _ | refine Below.drew ?_ | refine below_drewN_ ?_ _ | refine Below.setCell ?_ (by simp) _)); clear hb2)
        go_ret
        exact ⟨by rw [HE.out]; rfl, (by repeat (first | exact hb | refine Below.alloc ?_ (by have hbs := hb.size; first | omega | (simp; done) | (simp; omega)) _ | refine Below.drew ?_ | refine below_drewN_ ?_ _ | refine Below.setCell ?_ (by simp) _))⟩
      · go_enter Tryz.func121, Tryz.ntmps121
        go_wp2_with (go_at_call 88; refine (find_is l a.parent p A cap _ (Rd.now HR.out (by repeat (first | exact hb | refine Below.alloc ?_ (by have hbs := hb.size; first | omega | (simp; done) | (simp; omega)) _ | refine Below.drew ?_ | refine below_drewN_ ?_ _ | refine Below.setCell ?_ (by simp) _))) hn hf).mono ?_; rintro e w2 ⟨rfl, hb2⟩; obtain ⟨hc2, -⟩ := bcell hb2; have hz2 := hb2.size; (try simp at hz2); (try have hy2 : w.heap.size < w2.heap.size := by omega); replace hb := bel' (w := w) hb2 (by repeat (first | exact hb | refine Below.alloc ?_ (by have hbs := hb.size; first | omega | (simp; done) | (simp; omega)) _ | refine Below.drew ?_ | refine below_drewN_ ?_ _ | refine Below.setCell ?_ (by simp) _)); clear hb2)
        go_ret
        exact ⟨by rw [HE.out]; rfl, (by repeat (first | exact hb | refine Below.alloc ?_ (by have hbs := hb.size; first | omega | (simp; done) | (simp; omega)) _ | refine Below.drew ?_ | refine below_drewN_ ?_ _ | refine Below.setCell ?_ (by simp) _))⟩
    have h8' : (p.code == a.code) = false := by simpa using h8
    by_cases h9 : p.kind = a.kind
    · have h9' : (p.kind != a.kind) = false := by simpa using h9
      have HE : Hid (Ch.restV l a = (Ch.top l a.code == 0)) := Lib.hid (by unfold Ch.restV; rw [hf]; simp [h8, h9])
      clear h8 h9
      have hpl : 0 < (Ch.pcl l a.code).length := List.length_pos_iff.2 HNE.out
      have hpl2 : (Ch.pcl l a.code).length ≤ 300000 := Nat.le_trans (Ch.pcl_len l a.code) hn
      have HT : Hid (Ch.top l a.code = (Ch.fnV l ((Ch.pcl l a.code)[(Ch.pcl l a.code).length - 1]'(by omega))).parent) := Lib.hid (by unfold Ch.top; rw [List.getLast?_eq_getElem?, List.getElem?_eq_getElem (by omega)]; rfl)
      have e1 : IntKind.i64.wrap (((Ch.pcl l a.code).length : Int) - 1) = (((Ch.pcl l a.code).length - 1 : Nat) : Int) := by rw [IntWalk.i64_in _ (by omega)]; omega
      have hidx : (Ch.pcl l a.code).length - 1 < (Ch.pcl l a.code).length := by omega
      rcases hg with ⟨rfl, h5, h6⟩ | ⟨rfl, h5⟩
      · go_enter Tryz.func121, Tryz.ntmps121
        go_wp2_with (go_at_call 88; refine (find_is l a.parent p A cap _ (Rd.now HR.out (by repeat (first | exact hb | refine Below.alloc ?_ (by have hbs := hb.size; first | omega | (simp; done) | (simp; omega)) _ | refine Below.drew ?_ | refine below_drewN_ ?_ _ | refine Below.setCell ?_ (by simp) _))) hn hf).mono ?_; rintro e w2 ⟨rfl, hb2⟩; obtain ⟨hc2, -⟩ := bcell hb2; have hz2 := hb2.size; (try simp at hz2); (try have hy2 : w.heap.size < w2.heap.size := by omega); replace hb := bel' (w := w) hb2 (by repeat (first | exact hb | refine Below.alloc ?_ (by have hbs := hb.size; first | omega | (simp; done) | (simp; omega)) _ | refine Below.drew ?_ | refine below_drewN_ ?_ _ | refine Below.setCell ?_ (by simp) _)); clear hb2)
        refine (climb_any l a.code A cap _ (Rd.now HR.out (by repeat (first | exact hb | refine Below.alloc ?_ (by have hbs := hb.size; first | omega | (simp; done) | (simp; omega)) _ | refine Below.drew ?_ | refine below_drewN_ ?_ _ | refine Below.setCell ?_ (by simp) _))) hn HW.out).mono ?_
        rintro e w4 ⟨v4, rfl, ho4, hb4⟩
        replace hb := bel' (w := w) hb4 (by repeat (first | exact hb | refine Below.alloc ?_ (by have hbs := hb.size; first | omega | (simp; done) | (simp; omega)) _ | refine Below.drew ?_ | refine below_drewN_ ?_ _ | refine Below.setCell ?_ (by simp) _))
        obtain ⟨g, c4, rfl, hg4, hg5, -⟩ := own_form ho4 hpl
        have hl4 := ho4.cells (g := g) rfl ((Ch.pcl l a.code).length - 1) (.int .i64 ((Ch.pcl l a.code)[(Ch.pcl l a.code).length - 1]'hidx)) (by unfold intCells; simp [hidx])
        rw [add_zero_] at hl4
        clear hb4 hc2 hz2 hy2 ho4 hg4
        go_wp2_with (go_at_call 88; refine (find_gen l ((Ch.pcl l a.code)[(Ch.pcl l a.code).length - 1]'hidx) A cap _ (Rd.now HR.out (by repeat (first | exact hb | refine Below.alloc ?_ (by have hbs := hb.size; first | omega | (simp; done) | (simp; omega)) _ | refine Below.drew ?_ | refine below_drewN_ ?_ _ | refine Below.setCell ?_ (by simp) _))) hn).mono ?_; rintro e w2 ⟨rfl, hb2⟩; replace hb := bel hb hb2; clear hb2)
        go_ret
        exact ⟨by rw [HE.out, HT.out]; rfl, (by repeat (first | exact hb | refine Below.alloc ?_ (by have hbs := hb.size; first | omega | (simp; done) | (simp; omega)) _ | refine Below.drew ?_ | refine below_drewN_ ?_ _ | refine Below.setCell ?_ (by simp) _))⟩
      · go_enter Tryz.func121, Tryz.ntmps121
        go_wp2_with (go_at_call 88; refine (find_is l a.parent p A cap _ (Rd.now HR.out (by repeat (first | exact hb | refine Below.alloc ?_ (by have hbs := hb.size; first | omega | (simp; done) | (simp; omega)) _ | refine Below.drew ?_ | refine below_drewN_ ?_ _ | refine Below.setCell ?_ (by simp) _))) hn hf).mono ?_; rintro e w2 ⟨rfl, hb2⟩; obtain ⟨hc2, -⟩ := bcell hb2; have hz2 := hb2.size; (try simp at hz2); (try have hy2 : w.heap.size < w2.heap.size := by omega); replace hb := bel' (w := w) hb2 (by repeat (first | exact hb | refine Below.alloc ?_ (by have hbs := hb.size; first | omega | (simp; done) | (simp; omega)) _ | refine Below.drew ?_ | refine below_drewN_ ?_ _ | refine Below.setCell ?_ (by simp) _)); clear hb2)
        refine (climb_any l a.code A cap _ (Rd.now HR.out (by repeat (first | exact hb | refine Below.alloc ?_ (by have hbs := hb.size; first | omega | (simp; done) | (simp; omega)) _ | refine Below.drew ?_ | refine below_drewN_ ?_ _ | refine Below.setCell ?_ (by simp) _))) hn HW.out).mono ?_
        rintro e w4 ⟨v4, rfl, ho4, hb4⟩
        replace hb := bel' (w := w) hb4 (by repeat (first | exact hb | refine Below.alloc ?_ (by have hbs := hb.size; first | omega | (simp; done) | (simp; omega)) _ | refine Below.drew ?_ | refine below_drewN_ ?_ _ | refine Below.setCell ?_ (by simp) _))
        obtain ⟨g, c4, rfl, hg4, hg5, -⟩ := own_form ho4 hpl
        have hl4 := ho4.cells (g := g) rfl ((Ch.pcl l a.code).length - 1) (.int .i64 ((Ch.pcl l a.code)[(Ch.pcl l a.code).length - 1]'hidx)) (by unfold intCells; simp [hidx])
        rw [add_zero_] at hl4
        clear hb4 hc2 hz2 hy2 ho4 hg4
        go_wp2_with (go_at_call 88; refine (find_gen l ((Ch.pcl l a.code)[(Ch.pcl l a.code).length - 1]'hidx) A cap _ (Rd.now HR.out (by repeat (first | exact hb | refine Below.alloc ?_ (by have hbs := hb.size; first | omega | (simp; done) | (simp; omega)) _ | refine Below.drew ?_ | refine below_drewN_ ?_ _ | refine Below.setCell ?_ (by simp) _))) hn).mono ?_; rintro e w2 ⟨rfl, hb2⟩; replace hb := bel hb hb2; clear hb2)
        go_ret
        exact ⟨by rw [HE.out, HT.out]; rfl, (by repeat (first | exact hb | refine Below.alloc ?_ (by have hbs := hb.size; first | omega | (simp; done) | (simp; omega)) _ | refine Below.drew ?_ | refine below_drewN_ ?_ _ | refine Below.setCell ?_ (by simp) _))⟩
    · have h9' : (p.kind != a.kind) = true := by simpa using h9
      have HE : Hid (Ch.restV l a = false) := Lib.hid (by unfold Ch.restV; rw [hf]; simp [h9])
      clear h8 h9
      rcases hg with ⟨rfl, h5, h6⟩ | ⟨rfl, h5⟩
      · go_enter Tryz.func121, Tryz.ntmps121
        go_wp2_with (go_at_call 88; refine (find_is l a.parent p A cap _ (Rd.now HR.out (by repeat (first | exact hb | refine Below.alloc ?_ (by have hbs := hb.size; first | omega | (simp; done) | (simp; omega)) _ | refine Below.drew ?_ | refine below_drewN_ ?_ _ | refine Below.setCell ?_ (by simp) _))) hn hf).mono ?_; rintro e w2 ⟨rfl, hb2⟩; obtain ⟨hc2, -⟩ := bcell hb2; have hz2 := hb2.size; (try simp at hz2); (try have hy2 : w.heap.size < w2.heap.size := by omega); replace hb := bel' (w := w) hb2 (by repeat (first | exact hb | refine Below.alloc ?_ (by have hbs := hb.size; first | omega | (simp; done) | (simp; omega)) _ | refine Below.drew ?_ | refine below_drewN_ ?_ _ | refine Below.setCell ?_ (by simp) _)); clear hb2)
        go_ret
        exact ⟨by rw [HE.out]; rfl, (by repeat (first | exact hb | refine Below.alloc ?_ (by have hbs := hb.size; first | omega | (simp; done) | (simp; omega)) _ | refine Below.drew ?_ | refine below_drewN_ ?_ _ | refine Below.setCell ?_ (by simp) _))⟩
      · go_enter Tryz.func121, Tryz.ntmps121
        go_wp2_with (go_at_call 88; refine (find_is l a.parent p A cap _ (Rd.now HR.out (by repeat (first | exact hb | refine Below.alloc ?_ (by have hbs := hb.size; first | omega | (simp; done) | (simp; omega)) _ | refine Below.drew ?_ | refine below_drewN_ ?_ _ | refine Below.setCell ?_ (by simp) _))) hn hf).mono ?_; rintro e w2 ⟨rfl, hb2⟩; obtain ⟨hc2, -⟩ := bcell hb2; have hz2 := hb2.size; (try simp at hz2); (try have hy2 : w.heap.size < w2.heap.size := by omega); replace hb := bel' (w := w) hb2 (by repeat (first | exact hb | refine Below.alloc ?_ (by have hbs := hb.size; first | omega | (simp; done) | (simp; omega)) _ | refine Below.drew ?_ | refine below_drewN_ ?_ _ | refine Below.setCell ?_ (by simp) _)); clear hb2)
        go_ret
        exact ⟨by rw [HE.out]; rfl, (by repeat (first | exact hb | refine Below.alloc ?_ (by have hbs := hb.size; first | omega | (simp; done) | (simp; omega)) _ | refine Below.drew ?_ | refine below_drewN_ ?_ _ | refine Below.setCell ?_ (by simp) _))⟩

theorem fields_of (h : Ch.fieldsV a g = true) : ¬ a.code < 1 ∧ ¬ 99999 < a.code ∧ ¬ a.kind < 1 ∧ ¬ 5 < a.kind ∧ ((g = true ∧ ¬ a.basis < 1 ∧ ¬ 3 < a.basis) ∨ (g = false ∧ (a.basis != 0) = false)) := by
  unfold Ch.fieldsV at h
  cases g
  · simp at h
    refine ⟨by omega, by omega, by omega, by omega, .inr ⟨rfl, by simp [h.2]⟩⟩
  · simp at h
    exact ⟨by omega, by omega, by omega, by omega, .inl ⟨rfl, by omega, by omega⟩⟩

theorem proper_any (hr : Rd w w.heap.size 4 A l.length (Ch.cells l)) (hn : l.length ≤ 300000) (hwf : ∀ a ∈ l, (Lit.int .i64 a.code).wf = true) (hne : Ch.pcl l a.code ≠ []) :
    Calls Tryz.prog 121 #[.slice A l.length cap, .agg #[.int .i64 a.code, .int .i64 a.kind, .int .i64 a.basis, .int .i64 a.parent], .bool g] w (BoolPost (Ch.properV l a g) w) := by
  unfold Ch.properV
  cases hF : Ch.fieldsV a g
  · exact proper_no l a g A cap w hF
  · obtain ⟨h1, h2, h3, h4, hg⟩ := fields_of a g hF
    by_cases h0 : a.parent = 0
    · rw [show (true && (a.parent == 0 || Ch.restV l a)) = true from by simp [h0]]
      exact proper_top l a g A cap w h1 h2 h3 h4 h0 hg
    · rw [show (true && (a.parent == 0 || Ch.restV l a)) = Ch.restV l a from by simp [h0]]
      exact proper_rest l a g A cap w h1 h2 h3 h4 h0 hg hr hn hwf hne
end
end Go.Proofs.YtnddoehhcpejjaaGreat
/- The walks of Compare, of known's own function, of SameCodes, Has, Index and Contains. -/
namespace Go.Proofs.YtnddoehhcpejjaaGreat
set_option linter.unusedVariables false
set_option linter.unusedSimpArgs false
open Go.RowKit

theorem same_of (xs ys : List Int) (hl : xs.length = ys.length) (h : ∀ j (h : j < xs.length), xs[j] = ys[j]'(by omega)) : xs = ys := List.ext_getElem hl (fun j h1 _ => h j h1)

end Go.Proofs.YtnddoehhcpejjaaGreat
