/- Texts of this claim, put together. -/
import Derived.Test.YtnddoehhcpejjaaGreatJAE
import Derived.Test.YtnddoehhcpejjaaGreatJAF
import Derived.Test.YtnddoehhcpejjaaGreatChartWalksHZ
import Derived.Test.YtnddoehhcpejjaaGreatJAD
import Derived.Test.YtnddoehhcpejjaaGreatChecked
/- The walks of Role, Account, Result, Equity, and of their references. -/
namespace Go.Proofs.YtnddoehhcpejjaaGreat
set_option linter.unusedVariables false
set_option linter.unusedSimpArgs false
open Go.RowKit

theorem cfind_gen (l : List Acc) (c : Int) (A : Option Addr) (cap : Nat) (w : World) (hr : Rd w w.heap.size 4 A l.length (Ch.cells l)) (hn : l.length ≤ 300000) :
    Calls Tryz.prog 106 #[.slice A l.length cap, .int .i64 c] w (fun e w' => e = .returned (.tuple #[.agg #[.int .i64 (Ch.fnV l c).code, .int .i64 (Ch.fnV l c).kind, .int .i64 (Ch.fnV l c).basis, .int .i64 (Ch.fnV l c).parent], .bool (Ch.fnB l c)]) ∧ Below w.heap.size w w') :=
  (rfind_any l c A cap w hr hn).mono (fun _ _ h => h)
def codeIs (c : Int) (a : Acc) : Bool := a.code == c
theorem fidx_code (l : List Acc) (c : Int) : (fidx (codeIs c) l = -1 ∧ Ch.find l c = none) ∨ ∃ (k : Nat) (h : k < l.length), fidx (codeIs c) l = k ∧ Ch.find l c = some l[k] := by
  unfold fidx
  cases hf : l.findIdx? (codeIs c) with
  | none =>
    refine .inl ⟨rfl, Ch.find_none l c fun j h => ?_⟩
    rw [List.findIdx?_eq_none_iff] at hf
    have := hf l[j] (List.getElem_mem h)
    simpa [codeIs] using this
  | some k =>
    rw [List.findIdx?_eq_some_iff_getElem] at hf
    obtain ⟨hk, h1, h2⟩ := hf
    refine .inr ⟨k, hk, rfl, Ch.find_at l c k hk (by simpa [codeIs] using h1) fun j hj => ?_⟩
    have := h2 j hj
    simpa [codeIs] using this
def AccPost (l : List Acc) (c : Int) (w : World) (e : Ending) (w' : World) : Prop :=
  e = .returned (.tuple #[.agg #[.int .i64 (Ch.fnV l c).code, .int .i64 (Ch.fnV l c).kind, .int .i64 (Ch.fnV l c).basis, .int .i64 (Ch.fnV l c).parent], .bool (Ch.fnB l c)]) ∧ Below w.heap.size w w'
section
variable (gcs : Array Value) (cur : ByteArray) (y m p : Int) (cl : List Acc) (cA : Option Addr) (cc : Nat) (ro : RolesR) (el : List EntR) (eA : Option Addr) (ec : Nat) (w : World)
end
end Go.Proofs.YtnddoehhcpejjaaGreat
/- The walks of Role, Result, Equity, and of the references of these and of Account. -/
namespace Go.Proofs.YtnddoehhcpejjaaGreat
set_option linter.unusedVariables false
set_option linter.unusedSimpArgs false
open Go.RowKit

section
variable (gcs : Array Value) (cur : ByteArray) (y m p : Int) (cl : List Acc) (cA : Option Addr) (cc : Nat) (ro : RolesR) (el : List EntR) (eA : Option Addr) (ec : Nat) (w : World)
set_option maxRecDepth 100000 in
set_option maxHeartbeats 2000000 in
theorem raccount_any (c : Int) (HG : Hid (gcs = #[.string cur, .int .i64 y, .int .i64 m, .int .i64 p, .slice cA cl.length cc, .int .i64 ro.investment, .int .i64 ro.goodwill, .int .i64 ro.associates, .int .i64 ro.inventory, .int .i64 ro.reserve, .int .i64 ro.minority, .int .i64 ro.retained, .int .i64 ro.acquired, .int .i64 ro.owners, .int .i64 ro.disposal, .int .i64 ro.associateProfit, .int .i64 ro.dividends, .int .i64 ro.minorityProfit, .int .i64 ro.difference, .int .i64 ro.margin, .slice eA el.length ec])) (h : GIn w cl cA el eA) (hn : cl.length ≤ 300000) :
    Calls Tryz.prog 102 #[.agg gcs, .int .i64 c] w (AccPost cl c w) := by
  have H := Lib.hid h
  clear h
  have hb : Below w.heap.size w ((w.alloc (.cells gcs 29)).alloc (.cells #[.int .i64 0, .int .i64 0, .int .i64 0, .int .i64 0] 121)) := by
    have hb := Below.refl w.heap.size w
    exact (by repeat (first | exact hb | refine Below.alloc ?_ (by have hbs := hb.size; first | omega | (simp; done) | (simp; omega)) _ | refine Below.drew ?_ | refine below_drewN_ ?_ _ | refine Below.setCell ?_ (by simp) _))
  have HB := Lib.hid ((Blk.new w 29 gcs).alloc (.cells #[.int .i64 0, .int .i64 0, .int .i64 0, .int .i64 0] 121))
  have hD0 := Blk.new (w.alloc (.cells gcs 29)) 121 #[.int .i64 0, .int .i64 0, .int .i64 0, .int .i64 0]
  have e1 : (w.alloc (.cells gcs 29)).heap.size = w.heap.size + 1 := by simp
  rw [e1] at hD0
  have HD := Lib.hid hD0
  clear hD0 e1
  have e4 : ((w.alloc (.cells gcs 29)).alloc (.cells #[.int .i64 0, .int .i64 0, .int .i64 0, .int .i64 0] 121)).cell? ⟨w.heap.size, 4, none⟩ = some (.slice cA cl.length cc) := (HB.out.cell 4).trans (by rw [HG.out]; rfl)
  go_enter Tryz.func102, Tryz.ntmps102
  go_wp2_with fail
  clear e4
  generalize hgen : (w.alloc (.cells gcs 29)).alloc (.cells #[.int .i64 0, .int .i64 0, .int .i64 0, .int .i64 0] 121) = W at *
  clear hgen
  refine (cfind_gen cl c cA cc W (Rd.now H.out.ch hb) hn).mono ?_
  rintro e w2 ⟨rfl, hb9⟩
  replace hb := bel hb hb9
  have hD := HD.out.step hb9
  clear hb9 HB HD
  have q0 : w2.cell? ⟨w.heap.size + 1, 0, none⟩ = some (.int .i64 0) := hD.cell 0
  have q1 : w2.cell? ⟨w.heap.size + 1, 1, none⟩ = some (.int .i64 0) := hD.cell 1
  have q2 : w2.cell? ⟨w.heap.size + 1, 2, none⟩ = some (.int .i64 0) := hD.cell 2
  have q3 : w2.cell? ⟨w.heap.size + 1, 3, none⟩ = some (.int .i64 0) := hD.cell 3
  have z0 := hD.frozen 0
  have z1 := hD.frozen 1
  have z2 := hD.frozen 2
  have z3 := hD.frozen 3
  have hDS := Lib.hid hD
  clear hD
  go_wp2_with fail
  have hB2 := (((hDS.out.set_ 0 (.int .i64 (Ch.fnV cl c).code)).set_ 1 (.int .i64 (Ch.fnV cl c).kind)).set_ 2 (.int .i64 (Ch.fnV cl c).basis)).set_ 3 (.int .i64 (Ch.fnV cl c).parent)
  have p0 := hB2.cell 0
  have p1 := hB2.cell 1
  have p2 := hB2.cell 2
  have p3 := hB2.cell 3
  simp only [Array.setIfInBounds] at p0 p1 p2 p3
  refine bodyPost_ret (v := .tuple #[.agg #[.int .i64 (Ch.fnV cl c).code, .int .i64 (Ch.fnV cl c).kind, .int .i64 (Ch.fnV cl c).basis, .int .i64 (Ch.fnV cl c).parent], .bool (Ch.fnB cl c)]) (by simp [results, Tryz.results102, go_sem, p0, p1, p2, p3]) rfl ?_
  exact ⟨rfl, (((hb.setCell (by simp) _).setCell (by simp) _).setCell (by simp) _).setCell (by simp) _⟩
def RolePost (R : List RoleR) (c : Int) (w : World) (e : Ending) (w' : World) : Prop := e = .returned (.tuple #[.string (Gr.roleN R c), .bool (Gr.roleB R c)]) ∧ Below w.heap.size w w'
def resB (cl : List Acc) (c : Int) : Bool := (Ch.fnV cl c).kind == 4 || (Ch.fnV cl c).kind == 5
def eqB (cl : List Acc) (c : Int) : Bool := (Ch.fnV cl c).kind == 3
end
end Go.Proofs.YtnddoehhcpejjaaGreat
/- The walks of currency, letter, name, based, and of their references. -/
namespace Go.Proofs.YtnddoehhcpejjaaGreat
set_option linter.unusedVariables false
set_option linter.unusedSimpArgs false
open Go.RowKit

theorem u8_le (c : UInt8) : 0 ≤ (c.toNat : Int) ∧ (c.toNat : Int) ≤ 255 := by have := c.toNat_lt; omega
set_option maxHeartbeats 1000000 in
theorem currency_any (s : ByteArray) (w : World) (hs : s.size ≤ maxLen) : Calls Tryz.prog 57 #[.string s] w fun e w' => e = .returned (.bool (Gr.curV s)) ∧ w = w' := by
  unfold maxLen at hs
  go_enter Tryz.func57, Tryz.ntmps57
  go_wp2_with fail
  go_loopw [3, 6] (fun _ t wr => ∃ k : Nat, k ≤ s.size ∧ (∀ j, j < k → Gr.upB (Gr.byte s j) = true) ∧ t = .int .i64 k ∧ w = wr) (fun _ t _ => s.size - (intOf t).toNat)
  case atStart => exact ⟨0, by omega, fun j h => by omega, rfl, rfl⟩
  case round =>
    obtain ⟨k, hk, hno, rfl, rfl⟩ := hrel
    have HN := Lib.hid hno
    clear hno
    by_cases hlt : k < s.size
    · have HB := Lib.hid (Gr.byte_at s k hlt)
      have h255 := u8_le s[k]
      by_cases h1 : 65 ≤ (s[k].toNat : Int)
      · by_cases h2 : (s[k].toNat : Int) ≤ 90
        · have HE : Hid (Gr.upB (Gr.byte s k) = true) := Lib.hid (by rw [HB.out]; unfold Gr.upB; simp [h1, h2])
          go_wp2_with fail
          go_roundw
          case rel =>
            refine ⟨k + 1, by omega, fun j h => ?_, by go_num, trivial⟩
            by_cases e : j = k
            · subst e; exact HE.out
            · exact HN.out j (by omega)
          case measure => simp [intOf]; omega
        · have HE : Hid (Gr.curV s = false) := Lib.hid (by unfold Gr.curV; rw [allAt_no hlt (by rw [HB.out]; unfold Gr.upB; simp [h2])]; rfl)
          go_wp2_with fail
          go_ret
          exact ⟨by rw [HE.out]; rfl, rfl⟩
      · have HE : Hid (Gr.curV s = false) := Lib.hid (by unfold Gr.curV; rw [allAt_no hlt (by rw [HB.out]; unfold Gr.upB; simp [h1])]; rfl)
        go_wp2_with fail
        go_ret
        exact ⟨by rw [HE.out]; rfl, rfl⟩
    · have HA : Hid (allAt s.size (fun k => Gr.upB (Gr.byte s k)) = true) := Lib.hid (allAt_yes fun j hj => HN.out j (by omega))
      cases h3 : ((s.size : Int) == 3)
      · have HE : Hid (Gr.curV s = false) := Lib.hid (by unfold Gr.curV; rw [HA.out]; simp at h3 ⊢; omega)
        go_wp2_with fail
        go_ret
        exact ⟨by rw [HE.out]; rfl, rfl⟩
      · have HE : Hid (Gr.curV s = true) := Lib.hid (by unfold Gr.curV; rw [HA.out]; simp at h3 ⊢; omega)
        go_wp2_with fail
        go_ret
        exact ⟨by rw [HE.out]; rfl, rfl⟩
set_option maxHeartbeats 1000000 in
theorem rcurrency_any (s : ByteArray) (w : World) (hs : s.size ≤ maxLen) : Calls Tryz.prog 98 #[.string s] w fun e w' => e = .returned (.bool (Gr.curV s)) ∧ w = w' := by
  unfold maxLen at hs
  go_enter Tryz.func98, Tryz.ntmps98
  go_wp2_with fail
  go_loopw [3] (fun t wr => ∃ k : Nat, k ≤ s.size ∧ (∀ j, j < k → Gr.upB (Gr.byte s j) = true) ∧ t = .int .i64 k ∧ w = wr) (fun t _ => s.size - (intOf t).toNat)
  case atStart => exact ⟨0, by omega, fun j h => by omega, rfl, rfl⟩
  case round =>
    obtain ⟨k, hk, hno, rfl, rfl⟩ := hrel
    have HN := Lib.hid hno
    clear hno
    by_cases hlt : k < s.size
    · have HB := Lib.hid (Gr.byte_at s k hlt)
      have h255 := u8_le s[k]
      by_cases h1 : 65 ≤ (s[k].toNat : Int)
      · by_cases h2 : (s[k].toNat : Int) ≤ 90
        · have HE : Hid (Gr.upB (Gr.byte s k) = true) := Lib.hid (by rw [HB.out]; unfold Gr.upB; simp [h1, h2])
          go_wp2_with fail
          go_roundw
          case rel =>
            refine ⟨k + 1, by omega, fun j h => ?_, by go_num, trivial⟩
            by_cases e : j = k
            · subst e; exact HE.out
            · exact HN.out j (by omega)
          case measure => simp [intOf]; omega
        · have HE : Hid (Gr.curV s = false) := Lib.hid (by unfold Gr.curV; rw [allAt_no hlt (by rw [HB.out]; unfold Gr.upB; simp [h2])]; rfl)
          go_wp2_with fail
          go_ret
          exact ⟨by rw [HE.out]; rfl, rfl⟩
      · have HE : Hid (Gr.curV s = false) := Lib.hid (by unfold Gr.curV; rw [allAt_no hlt (by rw [HB.out]; unfold Gr.upB; simp [h1])]; rfl)
        go_wp2_with fail
        go_ret
        exact ⟨by rw [HE.out]; rfl, rfl⟩
    · have HA : Hid (allAt s.size (fun k => Gr.upB (Gr.byte s k)) = true) := Lib.hid (allAt_yes fun j hj => HN.out j (by omega))
      cases h3 : ((s.size : Int) == 3)
      · have HE : Hid (Gr.curV s = false) := Lib.hid (by unfold Gr.curV; rw [HA.out]; simp at h3 ⊢; omega)
        go_wp2_with fail
        go_ret
        exact ⟨by rw [HE.out]; rfl, rfl⟩
      · have HE : Hid (Gr.curV s = true) := Lib.hid (by unfold Gr.curV; rw [HA.out]; simp at h3 ⊢; omega)
        go_wp2_with fail
        go_ret
        exact ⟨by rw [HE.out]; rfl, rfl⟩
set_option maxHeartbeats 1000000 in
theorem based_any (a : Acc) (w : World) : Calls Tryz.prog 86 #[.agg #[.int .i64 a.code, .int .i64 a.kind, .int .i64 a.basis, .int .i64 a.parent]] w (fun e w' => e = .returned (.bool (Gr.based a)) ∧ Below w.heap.size w w') := by
  have hb : Below w.heap.size w (w.alloc (.cells #[.int .i64 a.code, .int .i64 a.kind, .int .i64 a.basis, .int .i64 a.parent] 121)) := (Below.refl _ _).alloc (Nat.le_refl _) _
  have HB := Lib.hid hb
  have HD : Hid (Gr.based a = if a.kind = 1 ∨ a.kind = 2 then decide (a.basis = 1 ∨ a.basis = 3) else if a.kind = 3 then decide (a.basis = 3) else decide (a.basis = 2)) := Lib.hid rfl
  clear hb
  cases k1 : (a.kind == 1) <;> cases k2 : (a.kind == 2) <;> cases k3 : (a.kind == 3) <;> cases b1 : (a.basis == 1) <;> cases b2 : (a.basis == 2) <;> cases b3 : (a.basis == 3)
  all_goals first
    | (exfalso; simp at k1 k2 k3 b1 b2 b3; omega)
    | (have HE := HD
       go_enter Tryz.func86, Tryz.ntmps86
       go_wp2_with fail
       go_ret
       refine ⟨?_, HB.out⟩
       rw [HE.out]
       simp at k1 k2 k3 b1 b2 b3
       simp [k1, k2, k3, b1, b2, b3])
set_option maxHeartbeats 1000000 in
theorem rbased_any (a : Acc) (w : World) : Calls Tryz.prog 100 #[.agg #[.int .i64 a.code, .int .i64 a.kind, .int .i64 a.basis, .int .i64 a.parent]] w (fun e w' => e = .returned (.bool (Gr.based a)) ∧ Below w.heap.size w w') := by
  have hb : Below w.heap.size w (w.alloc (.cells #[.int .i64 a.code, .int .i64 a.kind, .int .i64 a.basis, .int .i64 a.parent] 121)) := (Below.refl _ _).alloc (Nat.le_refl _) _
  have HB := Lib.hid hb
  have HD : Hid (Gr.based a = if a.kind = 1 ∨ a.kind = 2 then decide (a.basis = 1 ∨ a.basis = 3) else if a.kind = 3 then decide (a.basis = 3) else decide (a.basis = 2)) := Lib.hid rfl
  clear hb
  cases k1 : (a.kind == 1) <;> cases k2 : (a.kind == 2) <;> cases k3 : (a.kind == 3) <;> cases b1 : (a.basis == 1) <;> cases b2 : (a.basis == 2) <;> cases b3 : (a.basis == 3)
  all_goals first
    | (exfalso; simp at k1 k2 k3 b1 b2 b3; omega)
    | (have HE := HD
       go_enter Tryz.func100, Tryz.ntmps100
       go_wp2_with fail
       go_ret
       refine ⟨?_, HB.out⟩
       rw [HE.out]
       simp at k1 k2 k3 b1 b2 b3
       simp [k1, k2, k3, b1, b2, b3])
end Go.Proofs.YtnddoehhcpejjaaGreat
/- The walks of letter and name, and of their references. -/
namespace Go.Proofs.YtnddoehhcpejjaaGreat
set_option linter.unusedVariables false
set_option linter.unusedSimpArgs false
open Go.RowKit

set_option maxHeartbeats 1000000 in
theorem letter_any (c : UInt8) (w : World) : Calls Tryz.prog 123 #[.int .u8 c.toNat] w fun e w' => e = .returned (.bool (Gr.letB c)) ∧ w = w' := by
  have h255 := u8_le c
  have HD : Hid (Gr.letB c = ((decide (97 ≤ (c.toNat : Int)) && decide ((c.toNat : Int) ≤ 122)) || (decide (65 ≤ (c.toNat : Int)) && decide ((c.toNat : Int) ≤ 90)))) := Lib.hid rfl
  generalize (c.toNat : Int) = n at *
  generalize Gr.letB c = b at *
  by_cases h1 : 97 ≤ n <;> by_cases h2 : n ≤ 122 <;> by_cases h3 : 65 ≤ n <;> by_cases h4 : n ≤ 90
  all_goals first
    | (exfalso; omega)
    | (go_enter Tryz.func123, Tryz.ntmps123
       go_wp2_with fail
       go_ret
       exact ⟨ret_bool (by rw [HD.out]; simp [h1, h2, h3, h4]), rfl⟩)
set_option maxHeartbeats 1000000 in
theorem rletter_any (c : UInt8) (w : World) : Calls Tryz.prog 128 #[.int .u8 c.toNat] w fun e w' => e = .returned (.bool (Gr.letB c)) ∧ w = w' := by
  have h255 := u8_le c
  have HD : Hid (Gr.letB c = ((decide (97 ≤ (c.toNat : Int)) && decide ((c.toNat : Int) ≤ 122)) || (decide (65 ≤ (c.toNat : Int)) && decide ((c.toNat : Int) ≤ 90)))) := Lib.hid rfl
  generalize (c.toNat : Int) = n at *
  generalize Gr.letB c = b at *
  by_cases h1 : 97 ≤ n <;> by_cases h2 : n ≤ 122 <;> by_cases h3 : 65 ≤ n <;> by_cases h4 : n ≤ 90
  all_goals first
    | (exfalso; omega)
    | (go_enter Tryz.func128, Tryz.ntmps128
       go_wp2_with fail
       go_ret
       exact ⟨ret_bool (by rw [HD.out]; simp [h1, h2, h3, h4]), rfl⟩)
set_option maxHeartbeats 4000000 in
theorem name_any (s : ByteArray) (w : World) (hs : s.size ≤ maxLen) : Calls Tryz.prog 89 #[.string s] w fun e w' => e = .returned (.bool (Gr.namV s)) ∧ w = w' := by
  unfold maxLen at hs
  go_enter Tryz.func89, Tryz.ntmps89
  go_wp2_with fail
  go_loopw [3, 4, 7] (fun _ _ t wr => ∃ k : Nat, k ≤ s.size ∧ (∀ j, j < k → Gr.namAt s j = true) ∧ t = .int .i64 k ∧ w = wr) (fun _ _ t _ => s.size - (intOf t).toNat)
  case atStart => exact ⟨0, by omega, fun j h => by omega, rfl, rfl⟩
  case round =>
    obtain ⟨k, hk, hno, rfl, rfl⟩ := hrel
    have HN := Lib.hid hno
    clear hno
    by_cases hlt : k < s.size
    · have HB := Lib.hid (Gr.byte_at s k hlt)
      have h255 := u8_le s[k]
      cases hl : Gr.letB s[k]
      · cases hk0 : ((k : Int) == 0)
        · cases h45 : ((s[k].toNat : Int) != 45)
          · have HE : Hid (Gr.namAt s k = true) := Lib.hid (by unfold Gr.namAt; rw [HB.out]; simp only [Bool.or_eq_true, Bool.and_eq_true, decide_eq_true_eq]; first | exact .inl hl | ((try simp at hk0); (try simp at h45); exact .inr ⟨by omega, by omega⟩))
            go_wp2_with (go_at_call 123; refine (letter_any _ _).mono ?_; rintro e w2 ⟨rfl, rfl⟩; rw [hl])
            go_roundw
            case rel =>
              refine ⟨k + 1, by omega, fun j h => ?_, by go_num, trivial⟩
              by_cases e : j = k
              · subst e; exact HE.out
              · exact HN.out j (by omega)
            case measure => simp [intOf]; omega
          · by_cases h1 : 48 ≤ (s[k].toNat : Int)
            · by_cases h2 : (s[k].toNat : Int) ≤ 57
              · have HE : Hid (Gr.namAt s k = true) := Lib.hid (by unfold Gr.namAt; rw [HB.out]; simp only [Bool.or_eq_true, Bool.and_eq_true, decide_eq_true_eq]; first | exact .inl hl | ((try simp at hk0); (try simp at h45); exact .inr ⟨by omega, by omega⟩))
                go_wp2_with (go_at_call 123; refine (letter_any _ _).mono ?_; rintro e w2 ⟨rfl, rfl⟩; rw [hl])
                go_roundw
                case rel =>
                  refine ⟨k + 1, by omega, fun j h => ?_, by go_num, trivial⟩
                  by_cases e : j = k
                  · subst e; exact HE.out
                  · exact HN.out j (by omega)
                case measure => simp [intOf]; omega
              · have HE0 : Hid (Gr.namAt s k = false) := Lib.hid (by unfold Gr.namAt; rw [HB.out, ← Bool.not_eq_true]; simp only [Bool.or_eq_true, Bool.and_eq_true, decide_eq_true_eq]; rintro (h | ⟨h8, h9⟩) <;> first | (rw [hl] at h; cases h; done) | ((try simp at hk0); (try simp at h45); omega))
                have HE : Hid (Gr.namV s = false) := Lib.hid (by unfold Gr.namV; rw [allAt_no hlt HE0.out]; rfl)
                go_wp2_with (go_at_call 123; refine (letter_any _ _).mono ?_; rintro e w2 ⟨rfl, rfl⟩; rw [hl])
                go_ret
                exact ⟨by rw [HE.out]; rfl, rfl⟩
            · have HE0 : Hid (Gr.namAt s k = false) := Lib.hid (by unfold Gr.namAt; rw [HB.out, ← Bool.not_eq_true]; simp only [Bool.or_eq_true, Bool.and_eq_true, decide_eq_true_eq]; rintro (h | ⟨h8, h9⟩) <;> first | (rw [hl] at h; cases h; done) | ((try simp at hk0); (try simp at h45); omega))
              have HE : Hid (Gr.namV s = false) := Lib.hid (by unfold Gr.namV; rw [allAt_no hlt HE0.out]; rfl)
              go_wp2_with (go_at_call 123; refine (letter_any _ _).mono ?_; rintro e w2 ⟨rfl, rfl⟩; rw [hl])
              go_ret
              exact ⟨by rw [HE.out]; rfl, rfl⟩
        · have h45 : (true : Bool) = true := rfl
          have HE0 : Hid (Gr.namAt s k = false) := Lib.hid (by unfold Gr.namAt; rw [HB.out, ← Bool.not_eq_true]; simp only [Bool.or_eq_true, Bool.and_eq_true, decide_eq_true_eq]; rintro (h | ⟨h8, h9⟩) <;> first | (rw [hl] at h; cases h; done) | ((try simp at hk0); (try simp at h45); omega))
          have HE : Hid (Gr.namV s = false) := Lib.hid (by unfold Gr.namV; rw [allAt_no hlt HE0.out]; rfl)
          go_wp2_with (go_at_call 123; refine (letter_any _ _).mono ?_; rintro e w2 ⟨rfl, rfl⟩; rw [hl])
          go_ret
          exact ⟨by rw [HE.out]; rfl, rfl⟩
      · have h45 : (1 : Nat) = 1 := rfl
        have hk0 : (1 : Nat) = 1 := rfl
        have HE : Hid (Gr.namAt s k = true) := Lib.hid (by unfold Gr.namAt; rw [HB.out]; simp only [Bool.or_eq_true, Bool.and_eq_true, decide_eq_true_eq]; first | exact .inl hl | ((try simp at hk0); (try simp at h45); exact .inr ⟨by omega, by omega⟩))
        go_wp2_with (go_at_call 123; refine (letter_any _ _).mono ?_; rintro e w2 ⟨rfl, rfl⟩; rw [hl])
        go_roundw
        case rel =>
          refine ⟨k + 1, by omega, fun j h => ?_, by go_num, trivial⟩
          by_cases e : j = k
          · subst e; exact HE.out
          · exact HN.out j (by omega)
        case measure => simp [intOf]; omega
    · have HA : Hid (allAt s.size (Gr.namAt s) = true) := Lib.hid (allAt_yes fun j hj => HN.out j (by omega))
      by_cases h1 : 1 ≤ s.size
      · by_cases h2 : s.size ≤ 16
        · have HE : Hid (Gr.namV s = true) := Lib.hid (by unfold Gr.namV; rw [HA.out]; simp [h1, h2])
          go_wp2_with fail
          go_ret
          exact ⟨ret_bool (by rw [HE.out]; simp; omega), rfl⟩
        · have HE : Hid (Gr.namV s = false) := Lib.hid (by unfold Gr.namV; rw [HA.out]; simp [h1, h2])
          go_wp2_with fail
          go_ret
          exact ⟨ret_bool (by rw [HE.out]; simp; omega), rfl⟩
      · have HE : Hid (Gr.namV s = false) := Lib.hid (by unfold Gr.namV; rw [HA.out]; simp [h1])
        go_wp2_with fail
        go_ret
        exact ⟨ret_bool (by rw [HE.out] <;> first | rfl | (simp; done) | (simp; omega)), rfl⟩
set_option maxHeartbeats 4000000 in
theorem rname_any (s : ByteArray) (w : World) (hs : s.size ≤ maxLen) : Calls Tryz.prog 103 #[.string s] w fun e w' => e = .returned (.bool (Gr.namV s)) ∧ w = w' := by
  unfold maxLen at hs
  go_enter Tryz.func103, Tryz.ntmps103
  go_wp2_with fail
  go_loopw [3] (fun t wr => ∃ k : Nat, k ≤ s.size ∧ (∀ j, j < k → Gr.namAt s j = true) ∧ t = .int .i64 k ∧ w = wr) (fun t _ => s.size - (intOf t).toNat)
  case atStart => exact ⟨0, by omega, fun j h => by omega, rfl, rfl⟩
  case round =>
    obtain ⟨k, hk, hno, rfl, rfl⟩ := hrel
    have HN := Lib.hid hno
    clear hno
    by_cases hlt : k < s.size
    · have HB := Lib.hid (Gr.byte_at s k hlt)
      have h255 := u8_le s[k]
      cases hl : Gr.letB s[k]
      · cases hk0 : ((k : Int) == 0)
        · cases h45 : ((s[k].toNat : Int) != 45)
          · have HE : Hid (Gr.namAt s k = true) := Lib.hid (by unfold Gr.namAt; rw [HB.out]; simp only [Bool.or_eq_true, Bool.and_eq_true, decide_eq_true_eq]; first | exact .inl hl | ((try simp at hk0); (try simp at h45); exact .inr ⟨by omega, by omega⟩))
            go_wp2_with (go_at_call 128; refine (rletter_any _ _).mono ?_; rintro e w2 ⟨rfl, rfl⟩; rw [hl])
            go_roundw
            case rel =>
              refine ⟨k + 1, by omega, fun j h => ?_, by go_num, trivial⟩
              by_cases e : j = k
              · subst e; exact HE.out
              · exact HN.out j (by omega)
            case measure => simp [intOf]; omega
          · by_cases h1 : 48 ≤ (s[k].toNat : Int)
            · by_cases h2 : (s[k].toNat : Int) ≤ 57
              · have HE : Hid (Gr.namAt s k = true) := Lib.hid (by unfold Gr.namAt; rw [HB.out]; simp only [Bool.or_eq_true, Bool.and_eq_true, decide_eq_true_eq]; first | exact .inl hl | ((try simp at hk0); (try simp at h45); exact .inr ⟨by omega, by omega⟩))
                go_wp2_with (go_at_call 128; refine (rletter_any _ _).mono ?_; rintro e w2 ⟨rfl, rfl⟩; rw [hl])
                go_roundw
                case rel =>
                  refine ⟨k + 1, by omega, fun j h => ?_, by go_num, trivial⟩
                  by_cases e : j = k
                  · subst e; exact HE.out
                  · exact HN.out j (by omega)
                case measure => simp [intOf]; omega
              · have HE0 : Hid (Gr.namAt s k = false) := Lib.hid (by unfold Gr.namAt; rw [HB.out, ← Bool.not_eq_true]; simp only [Bool.or_eq_true, Bool.and_eq_true, decide_eq_true_eq]; rintro (h | ⟨h8, h9⟩) <;> first | (rw [hl] at h; cases h; done) | ((try simp at hk0); (try simp at h45); omega))
                have HE : Hid (Gr.namV s = false) := Lib.hid (by unfold Gr.namV; rw [allAt_no hlt HE0.out]; rfl)
                go_wp2_with (go_at_call 128; refine (rletter_any _ _).mono ?_; rintro e w2 ⟨rfl, rfl⟩; rw [hl])
                go_ret
                exact ⟨by rw [HE.out]; rfl, rfl⟩
            · have HE0 : Hid (Gr.namAt s k = false) := Lib.hid (by unfold Gr.namAt; rw [HB.out, ← Bool.not_eq_true]; simp only [Bool.or_eq_true, Bool.and_eq_true, decide_eq_true_eq]; rintro (h | ⟨h8, h9⟩) <;> first | (rw [hl] at h; cases h; done) | ((try simp at hk0); (try simp at h45); omega))
              have HE : Hid (Gr.namV s = false) := Lib.hid (by unfold Gr.namV; rw [allAt_no hlt HE0.out]; rfl)
              go_wp2_with (go_at_call 128; refine (rletter_any _ _).mono ?_; rintro e w2 ⟨rfl, rfl⟩; rw [hl])
              go_ret
              exact ⟨by rw [HE.out]; rfl, rfl⟩
        · have h45 : (true : Bool) = true := rfl
          have HE0 : Hid (Gr.namAt s k = false) := Lib.hid (by unfold Gr.namAt; rw [HB.out, ← Bool.not_eq_true]; simp only [Bool.or_eq_true, Bool.and_eq_true, decide_eq_true_eq]; rintro (h | ⟨h8, h9⟩) <;> first | (rw [hl] at h; cases h; done) | ((try simp at hk0); (try simp at h45); omega))
          have HE : Hid (Gr.namV s = false) := Lib.hid (by unfold Gr.namV; rw [allAt_no hlt HE0.out]; rfl)
          go_wp2_with (go_at_call 128; refine (rletter_any _ _).mono ?_; rintro e w2 ⟨rfl, rfl⟩; rw [hl])
          go_ret
          exact ⟨by rw [HE.out]; rfl, rfl⟩
      · have h45 : (1 : Nat) = 1 := rfl
        have hk0 : (1 : Nat) = 1 := rfl
        have HE : Hid (Gr.namAt s k = true) := Lib.hid (by unfold Gr.namAt; rw [HB.out]; simp only [Bool.or_eq_true, Bool.and_eq_true, decide_eq_true_eq]; first | exact .inl hl | ((try simp at hk0); (try simp at h45); exact .inr ⟨by omega, by omega⟩))
        go_wp2_with (go_at_call 128; refine (rletter_any _ _).mono ?_; rintro e w2 ⟨rfl, rfl⟩; rw [hl])
        go_roundw
        case rel =>
          refine ⟨k + 1, by omega, fun j h => ?_, by go_num, trivial⟩
          by_cases e : j = k
          · subst e; exact HE.out
          · exact HN.out j (by omega)
        case measure => simp [intOf]; omega
    · have HA : Hid (allAt s.size (Gr.namAt s) = true) := Lib.hid (allAt_yes fun j hj => HN.out j (by omega))
      by_cases h1 : 1 ≤ s.size
      · by_cases h2 : s.size ≤ 16
        · have HE : Hid (Gr.namV s = true) := Lib.hid (by unfold Gr.namV; rw [HA.out]; simp [h1, h2])
          go_wp2_with fail
          go_ret
          exact ⟨ret_bool (by rw [HE.out]; simp; omega), rfl⟩
        · have HE : Hid (Gr.namV s = false) := Lib.hid (by unfold Gr.namV; rw [HA.out]; simp [h1, h2])
          go_wp2_with fail
          go_ret
          exact ⟨ret_bool (by rw [HE.out]; simp; omega), rfl⟩
      · have HE : Hid (Gr.namV s = false) := Lib.hid (by unfold Gr.namV; rw [HA.out]; simp [h1])
        go_wp2_with fail
        go_ret
        exact ⟨ret_bool (by rw [HE.out] <;> first | rfl | (simp; done) | (simp; omega)), rfl⟩
end Go.Proofs.YtnddoehhcpejjaaGreat
