/- Texts of this claim, put together. -/
import Derived.Test.YtnddoehhcpejjaaGreatJAQ
import Derived.Test.YtnddoehhcpejjaaGreatJAS
import Derived.Test.YtnddoehhcpejjaaGreatJAD
import Derived.Deep.DeepCutAuto
import Derived.Test.YtnddoehhcpejjaaGreatJAE
/- The walks of Opposite, of its closure, of EqualFunc, and of the reference's. -/
namespace Go.Proofs.YtnddoehhcpejjaaGreat
set_option linter.unusedVariables false
set_option linter.unusedSimpArgs false
open Go.RowKit

instance decLineR : DecidableEq LineR := fun a b => decidable_of_iff (a.account = b.account ∧ a.amount = b.amount ∧ a.partner = b.partner) (by cases a; cases b; simp)
namespace Jn
/-- one line is the opposite of another -/
def op1 (x y : LineR) : Bool := x.account == y.account && (x.partner == y.partner && x.amount == -y.amount)
theorem op_at {a b : List LineR} (h : oppB a b = true) {k : Nat} (hk : k < a.length) (hk2 : k < b.length) : op1 a[k] b[k] = true := by
  obtain ⟨x, y, z⟩ := ((opp_is a b).1 h).2 k hk hk2
  unfold op1
  simp [x, y, z]
theorem op_all {a b : List LineR} (hl : a.length = b.length) (h : ∀ k (hk : k < a.length) (hk2 : k < b.length), op1 a[k] b[k] = true) : oppB a b = true := by
  refine (opp_is a b).2 ⟨hl, fun k hk hk2 => ?_⟩
  have := h k hk hk2
  unfold op1 at this
  simp only [Bool.and_eq_true, beq_iff_eq] at this
  exact ⟨this.1, this.2.1, this.2.2⟩
theorem op_no {a b : List LineR} {k : Nat} (hk : k < a.length) (hk2 : k < b.length) (h : op1 a[k] b[k] = false) : oppB a b = false := by
  cases h2 : oppB a b
  · rfl
  · rw [op_at h2 hk hk2] at h; cases h
theorem op_len {a b : List LineR} (h : ¬ a.length = b.length) : oppB a b = false := by
  cases h2 : oppB a b
  · rfl
  · exact absurd ((opp_is a b).1 h2).1 h
theorem op_neg (a b : List LineR) : decide (a = b.map neg) = oppB a b := by
  rw [Bool.eq_iff_iff, decide_eq_true_eq, opp_is]
  constructor
  · rintro rfl
    refine ⟨by simp, fun k hk hk2 => ?_⟩
    rw [List.getElem_map]
    exact ⟨rfl, rfl, rfl⟩
  · rintro ⟨hl, h⟩
    refine List.ext_getElem (by simpa using hl) fun k hk hk2 => ?_
    rw [List.getElem_map]
    obtain ⟨x, y, z⟩ := h k hk (by omega)
    have e : ∀ u : LineR, u = ⟨u.account, u.amount, u.partner⟩ := fun _ => rfl
    rw [e a[k], x, y, z]
    rfl
theorem ln_cases (s t : LineR) : s = t ∨ ((s.account == t.account) = false ∧ s ≠ t) ∨ ((s.account == t.account) = true ∧ (s.amount == t.amount) = false ∧ s ≠ t) ∨ ((s.account == t.account) = true ∧ (s.amount == t.amount) = true ∧ (s.partner == t.partner) = false ∧ s ≠ t) := by
  by_cases h1 : s.account = t.account
  · by_cases h2 : s.amount = t.amount
    · by_cases h3 : s.partner = t.partner
      · refine .inl ?_
        cases s; cases t; simp at h1 h2 h3 ⊢; exact ⟨h1, h2, h3⟩
      · exact .inr (.inr (.inr ⟨by simpa using h1, by simpa using h2, by simpa using h3, fun e => h3 (by rw [e])⟩))
    · exact .inr (.inr (.inl ⟨by simpa using h1, by simpa using h2, fun e => h2 (by rw [e])⟩))
  · exact .inr (.inl ⟨by simpa using h1, fun e => h1 (by rw [e])⟩)
end Jn
set_option maxHeartbeats 2000000 in
theorem op1_any (x y : LineR) (w : World) (hy : -4611686018427387904 ≤ y.amount ∧ y.amount ≤ 4611686018427387904) :
    Calls Tryz.prog 97 #[.agg #[.int .i64 x.account, .int .i64 x.amount, .int .i64 x.partner], .agg #[.int .i64 y.account, .int .i64 y.amount, .int .i64 y.partner]] w (BoolPost (Jn.op1 x y) w) := by
  have hb : Below w.heap.size w ((w.alloc (.cells #[.int .i64 x.account, .int .i64 x.amount, .int .i64 x.partner] 69)).alloc (.cells #[.int .i64 y.account, .int .i64 y.amount, .int .i64 y.partner] 69)) := ((Below.refl _ _).alloc (Nat.le_refl _) _).alloc (by simp) _
  have HB := Lib.hid hb
  clear hb
  obtain ⟨xa, xm, xp⟩ := x
  obtain ⟨ya, ym, yp⟩ := y
  dsimp only at *
  obtain ⟨m0, m1⟩ := hy
  have hw : IntKind.i64.wrap (-ym) = -ym := IntWalk.i64_in _ (by omega)
  have hw2 : wrap64 (-ym) = -ym := IntWalk.wrap64_in _ ⟨by omega, by omega⟩
  have HD : Hid (Jn.op1 ⟨xa, xm, xp⟩ ⟨ya, ym, yp⟩ = (xa == ya && (xp == yp && xm == -ym))) := Lib.hid rfl
  cases h1 : (xa == ya)
  · go_enter Tryz.func97, Tryz.ntmps97
    go_wp2_with fail
    go_ret
    exact ⟨by rw [HD.out, h1]; rfl, HB.out⟩
  · cases h2 : (xp == yp)
    · go_enter Tryz.func97, Tryz.ntmps97
      go_wp2_with fail
      go_ret
      exact ⟨by rw [HD.out, h1, h2]; rfl, HB.out⟩
    · cases h3 : (xm == -ym)
      · go_enter Tryz.func97, Tryz.ntmps97
        go_wp2_with fail
        go_ret
        exact ⟨by rw [HD.out, h1, h2, h3]; rfl, HB.out⟩
      · go_enter Tryz.func97, Tryz.ntmps97
        go_wp2_with fail
        go_ret
        exact ⟨by rw [HD.out, h1, h2, h3]; rfl, HB.out⟩
set_option maxHeartbeats 4000000 in
theorem eqf_any (a b : List LineR) (A B : Option Addr) (c1 c2 : Nat) (w : World) (hr : Rd w w.heap.size 3 A a.length (cellsOf LineR.cells a)) (hq : Rd w w.heap.size 3 B b.length (cellsOf LineR.cells b)) (hn : a.length ≤ 1000) (hn2 : b.length ≤ 1000)
    (hm : ∀ y ∈ b, -4611686018427387904 ≤ y.amount ∧ y.amount ≤ 4611686018427387904) :
    Calls Tryz.prog 96 #[.slice A a.length c1, .slice B b.length c2, .func (.func 97) #[] #[]] w (BoolPost (Jn.oppB a b) w) := by
  have hb := Below.refl w.heap.size w
  have HR := Lib.hid hr
  have HQ := Lib.hid hq
  have HM := Lib.hid hm
  clear hr hq hm
  cases hl : ((a.length : Int) != (b.length : Int))
  · have HL : Hid (a.length = b.length) := Lib.hid (by simp at hl; omega)
    go_enter Tryz.func96, Tryz.ntmps96
    go_wp2_with fail
    go_loopw [7, 17] (fun _ t wr => ∃ k : Nat, k ≤ a.length ∧ (∀ j (h : j < k) (h1 : j < a.length) (h2 : j < b.length), Jn.op1 (a[j]'h1) (b[j]'h2) = true) ∧ t = .int .i64 k ∧ Below w.heap.size w wr) (fun _ t _ => a.length - (intOf t).toNat)
    case atStart => exact ⟨0, by omega, fun j h => by omega, rfl, hb⟩
    case round =>
      clear hb
      obtain ⟨k, hk, hno, rfl, hb⟩ := hrel
      have HN := Lib.hid hno
      have hz := hb.size
      clear hno
      by_cases hlt : k < a.length
      · have hlt2 : k < b.length := by have := HL.out; omega
        obtain ⟨x, o, hA, hbo, f0, f1, f2⟩ := LineR.at_ (Rd.now HR.out hb) hlt
        obtain ⟨y, p, hB, hbp, g0, g1, g2⟩ := LineR.at_ (Rd.now HQ.out hb) hlt2
        subst hA hB
        have HNO := Lib.hid (Jn.op_no (a := a) (b := b) hlt hlt2)
        have HST : Hid (Jn.op1 a[k] b[k] = true → ∀ j (h : j < k + 1) (h1 : j < a.length) (h2 : j < b.length), Jn.op1 (a[j]'h1) (b[j]'h2) = true) := Lib.hid (fun hq j h h1 h2 => by
          by_cases e : j = k
          · subst e; exact hq
          · exact HN.out j (by omega) h1 h2)
        have HMK := Lib.hid (HM.out _ (List.getElem_mem hlt2))
        generalize a[k] = u at *
        generalize b[k] = v at *
        have HK := Lib.hid (fun W => op1_any u v W HMK.out)
        obtain ⟨ua, um, up⟩ := u
        obtain ⟨va, vm, vp⟩ := v
        dsimp only at *
        have g0' : (wr.alloc (.cells #[.int .i64 ua, .int .i64 um, .int .i64 up] 69)).cell? ⟨y, p + k * 3, none⟩ = some (.int .i64 va) := (World.cell?_alloc_lt wr _ ⟨y, p + k * 3, none⟩ hbp).trans g0
        have g1' : (wr.alloc (.cells #[.int .i64 ua, .int .i64 um, .int .i64 up] 69)).cell? ⟨y, p + k * 3 + 1, none⟩ = some (.int .i64 vm) := (World.cell?_alloc_lt wr _ ⟨y, p + k * 3 + 1, none⟩ hbp).trans g1
        have g2' : (wr.alloc (.cells #[.int .i64 ua, .int .i64 um, .int .i64 up] 69)).cell? ⟨y, p + k * 3 + 2, none⟩ = some (.int .i64 vp) := (World.cell?_alloc_lt wr _ ⟨y, p + k * 3 + 2, none⟩ hbp).trans g2
        have hb2 : Below w.heap.size w ((wr.alloc (.cells #[.int .i64 ua, .int .i64 um, .int .i64 up] 69)).alloc (.cells #[.int .i64 va, .int .i64 vm, .int .i64 vp] 69)) := (hb.alloc hz _).alloc (by simp; omega) _
        cases hop : Jn.op1 ⟨ua, um, up⟩ ⟨va, vm, vp⟩
        · have HE := Lib.hid (HNO.out hop)
          rw [hop] at HK
          clear hop
          go_wp2_with (go_at_call 97; refine (HK.out _).mono ?_; rintro e w5 ⟨rfl, hb9⟩; have hb5 := bel hb2 hb9; clear hb9)
          go_ret
          exact ⟨ret_bool HE.out.symm, hb5⟩
        · have HE := Lib.hid (HST.out hop)
          rw [hop] at HK
          clear hop
          go_wp2_with (go_at_call 97; refine (HK.out _).mono ?_; rintro e w5 ⟨rfl, hb9⟩; have hb5 := bel hb2 hb9; clear hb9)
          go_roundw
          case rel => exact ⟨k + 1, by omega, HE.out, by go_num, hb5⟩
          case measure => simp [intOf]; omega
      · have HE : Hid (Jn.oppB a b = true) := Lib.hid (Jn.op_all HL.out (fun j h1 h2 => HN.out j (by omega) h1 h2))
        go_wp2_with fail
        go_ret
        exact ⟨ret_bool HE.out.symm, hb⟩
  · have HE : Hid (Jn.oppB a b = false) := Lib.hid (Jn.op_len (fun e => by rw [e] at hl; simp at hl))
    go_enter Tryz.func96, Tryz.ntmps96
    go_wp2_with fail
    go_ret
    exact ⟨ret_bool HE.out.symm, hb⟩
theorem opp_any (a b : List LineR) (A B : Option Addr) (c1 c2 : Nat) (w : World) (hr : Rd w w.heap.size 3 A a.length (cellsOf LineR.cells a)) (hq : Rd w w.heap.size 3 B b.length (cellsOf LineR.cells b)) (hn : a.length ≤ 1000) (hn2 : b.length ≤ 1000)
    (hm : ∀ y ∈ b, -4611686018427387904 ≤ y.amount ∧ y.amount ≤ 4611686018427387904) :
    Calls Tryz.prog 68 #[.slice A a.length c1, .slice B b.length c2] w (BoolPost (Jn.oppB a b) w) := by
  have HK := Lib.hid (eqf_any a b A B c1 c2 w hr hq hn hn2 hm)
  clear hr hq hm
  generalize Jn.oppB a b = V at *
  go_enter Tryz.func68, Tryz.ntmps68
  go_wp2_with (go_at_call 96; refine HK.out.mono ?_; rintro e w5 ⟨rfl, hb9⟩)
  go_ret
  exact ⟨rfl, hb9⟩
set_option maxHeartbeats 4000000 in
theorem rsame_any (m n : List LineR) (A B : Option Addr) (c1 c2 : Nat) (w : World) (hr : Rd w w.heap.size 3 A m.length (cellsOf LineR.cells m)) (hq : Rd w w.heap.size 3 B n.length (cellsOf LineR.cells n)) (hn : m.length ≤ 1000) (hn2 : n.length ≤ 1000) :
    Calls Tryz.prog 109 #[.slice A m.length c1, .slice B n.length c2] w (BoolPost (decide (m = n)) w) := by
  have hb := Below.refl w.heap.size w
  have HR := Lib.hid hr
  have HQ := Lib.hid hq
  clear hr hq
  cases hl : ((m.length : Int) != (n.length : Int))
  · have HL : Hid (m.length = n.length) := Lib.hid (by simp at hl; omega)
    go_enter Tryz.func109, Tryz.ntmps109
    go_wp2_with fail
    go_loopw [5] (fun t wr => ∃ k : Nat, k ≤ m.length ∧ (∀ j (h : j < k) (h1 : j < m.length) (h2 : j < n.length), m[j]'h1 = n[j]'h2) ∧ t = .int .i64 k ∧ Below w.heap.size w wr) (fun t _ => m.length - (intOf t).toNat)
    case atStart => exact ⟨0, by omega, fun j h => by omega, rfl, hb⟩
    case round =>
      clear hb
      obtain ⟨k, hk, hno, rfl, hb⟩ := hrel
      have HN := Lib.hid hno
      clear hno
      by_cases hlt : k < m.length
      · have hlt2 : k < n.length := by have := HL.out; omega
        obtain ⟨x, o, hA, hbo, f0, f1, f2⟩ := LineR.at_ (Rd.now HR.out hb) hlt
        obtain ⟨y, p, hB, hbp, g0, g1, g2⟩ := LineR.at_ (Rd.now HQ.out hb) hlt2
        subst hA hB
        have q0 : ∀ d : Later wr, d.now.cell? ⟨x, o + k * 3, none⟩ = some (.int .i64 m[k].account) := fun d => d.cell hbo f0
        have q1 : ∀ d : Later wr, d.now.cell? ⟨x, o + k * 3 + 1, none⟩ = some (.int .i64 m[k].amount) := fun d => d.cell hbo f1
        have q2 : ∀ d : Later wr, d.now.cell? ⟨x, o + k * 3 + 2, none⟩ = some (.int .i64 m[k].partner) := fun d => d.cell hbo f2
        have q3 : ∀ d : Later wr, d.now.cell? ⟨y, p + k * 3, none⟩ = some (.int .i64 n[k].account) := fun d => d.cell hbp g0
        have q4 : ∀ d : Later wr, d.now.cell? ⟨y, p + k * 3 + 1, none⟩ = some (.int .i64 n[k].amount) := fun d => d.cell hbp g1
        have q5 : ∀ d : Later wr, d.now.cell? ⟨y, p + k * 3 + 2, none⟩ = some (.int .i64 n[k].partner) := fun d => d.cell hbp g2
        clear f0 f1 f2 g0 g1 g2
        rcases Jn.ln_cases m[k] n[k] with hc | ⟨hc1, hc2⟩ | ⟨hc1, hc2, hc3⟩ | ⟨hc0, hc1, hc2, hc3⟩
        · have HC := Lib.hid hc
          rw [hc] at q0 q1 q2
          clear hc
          go_wp2_with fail
          refine wp_region_later (by kernel_rfl) (by kernel_rfl) ?_; (repeat (go_big_quiet_step ((fail)))); refine wpQuiet_nil ?_; rintro _ ⟨dq, rfl⟩
          have hbe := bel hb dq.below
          go_wp2_with fail
          go_roundw
          case rel =>
            refine ⟨k + 1, by omega, fun j h h1 h2 => ?_, by go_num, hbe⟩
            by_cases hj : j = k
            · subst hj; exact HC.out
            · exact HN.out j (by omega) h1 h2
          case measure => simp [intOf]; omega
        · have HE : Hid (¬ m = n) := Lib.hid (fun e => hc2 (by subst e; rfl))
          clear hc2
          go_wp2_with fail
          refine wp_region_later (by kernel_rfl) (by kernel_rfl) ?_; (repeat (go_big_quiet_step ((fail)))); refine wpQuiet_nil ?_; rintro _ ⟨dq, rfl⟩
          have hbe := bel hb dq.below
          go_wp2_with fail
          go_ret
          exact ⟨ret_bool (by simp [HE.out]), hbe⟩
        · have HE : Hid (¬ m = n) := Lib.hid (fun e => hc3 (by subst e; rfl))
          clear hc3
          go_wp2_with fail
          refine wp_region_later (by kernel_rfl) (by kernel_rfl) ?_; (repeat (go_big_quiet_step ((fail)))); refine wpQuiet_nil ?_; rintro _ ⟨dq, rfl⟩
          have hbe := bel hb dq.below
          go_wp2_with fail
          go_ret
          exact ⟨ret_bool (by simp [HE.out]), hbe⟩
        · have HE : Hid (¬ m = n) := Lib.hid (fun e => hc3 (by subst e; rfl))
          clear hc3
          go_wp2_with fail
          refine wp_region_later (by kernel_rfl) (by kernel_rfl) ?_; (repeat (go_big_quiet_step ((fail)))); refine wpQuiet_nil ?_; rintro _ ⟨dq, rfl⟩
          have hbe := bel hb dq.below
          go_wp2_with fail
          go_ret
          exact ⟨ret_bool (by simp [HE.out]), hbe⟩
      · have HE : Hid (m = n) := Lib.hid (List.ext_getElem HL.out (fun j h1 h2 => HN.out j (by omega) h1 h2))
        go_wp2_with fail
        go_ret
        exact ⟨ret_bool (by simp [HE.out]), hb⟩
  · have HE : Hid (¬ m = n) := Lib.hid (fun e => by subst e; simp at hl)
    go_enter Tryz.func109, Tryz.ntmps109
    go_wp2_with fail
    go_ret
    exact ⟨ret_bool (by simp [HE.out]), hb⟩
end Go.Proofs.YtnddoehhcpejjaaGreat
/- The walk of Opposite of the reference. -/
namespace Go.Proofs.YtnddoehhcpejjaaGreat
set_option linter.unusedVariables false
set_option linter.unusedSimpArgs false
open Go.RowKit

set_option maxHeartbeats 4000000 in
theorem ropp_any (a b : List LineR) (A B : Option Addr) (c1 c2 : Nat) (w : World) (hr : Rd w w.heap.size 3 A a.length (cellsOf LineR.cells a)) (hq : Rd w w.heap.size 3 B b.length (cellsOf LineR.cells b)) (hn : a.length ≤ 1000) (hn2 : b.length ≤ 1000)
    (hm : ∀ y ∈ b, -4611686018427387904 ≤ y.amount ∧ y.amount ≤ 4611686018427387904) :
    Calls Tryz.prog 77 #[.slice A a.length c1, .slice B b.length c2] w (BoolPost (Jn.oppB a b) w) := by
  have hb := Below.refl w.heap.size w
  have HR := Lib.hid hr
  have HQ := Lib.hid hq
  have HM := Lib.hid hm
  obtain ⟨i0, hi, hz0, hz1, hz2⟩ := info_parts LineR.info
  clear hr hq hm
  go_enter Tryz.func77, Tryz.ntmps77
  go_wp2_with fail
  go_loopw [5, 6] (fun v t wr => ∃ k : Nat, k ≤ b.length ∧ t = .int .i64 k ∧ wr.ownsRow w.heap.size 69 3 v ((b.take k).map Jn.neg).length (cellsOf LineR.cells ((b.take k).map Jn.neg)) ∧ Below w.heap.size w wr) (fun _ t _ => b.length - (intOf t).toNat)
  case atStart => exact ⟨0, by omega, rfl, World.ownsRow_nil _ _ _ _, hb⟩
  case round =>
    clear hb
    obtain ⟨k, hk, rfl, ho, hb⟩ := hrel
    have hz := hb.size
    by_cases hlt : k < b.length
    · obtain ⟨x, o, hA, hbo, f0, f1, f2⟩ := LineR.at_ (Rd.now HQ.out hb) hlt
      subst hA
      obtain ⟨m0, m1⟩ := HM.out _ (List.getElem_mem hlt)
      have HT : Hid ((b.take (k + 1)).map Jn.neg = (b.take k).map Jn.neg ++ [Jn.neg b[k]]) := Lib.hid (by rw [List.take_succ_eq_append_getElem hlt, List.map_append]; rfl)
      have hln : ((b.take k).map Jn.neg).length ≤ 1000 := by rw [List.length_map, List.length_take]; omega
      generalize (b.take k).map Jn.neg = S at *
      generalize b[k] = u at *
      obtain ⟨ua, um, up⟩ := u
      dsimp only at *
      have HO := Lib.hid ho
      clear ho
      have hw : IntKind.i64.wrap (-um) = -um := IntWalk.i64_in _ (by omega)
      have hw2 : wrap64 (-um) = -um := IntWalk.wrap64_in _ ⟨by omega, by omega⟩
      have hst := (Below.refl wr.heap.size wr).alloc (Nat.le_refl _) (.cells #[.int .i64 ua, .int .i64 (-um), .int .i64 up] 69)
      have hst2 := hst.alloc hst.size (.cells #[.int .i64 ua, .int .i64 (-um), .int .i64 up] 69)
      go_wp2_with (at_builtin; refine wpList_append_rec LineR.cells 3 (fun _ => rfl) LineR.one rfl (.tmp 22) (.tmp 24) 65 rfl w.heap.size 69 i0 (.agg #[.int .i64 0, .int .i64 0, .int .i64 0]) 24 Tryz.underlying65 hi hz0 hz1 hz2 rfl (by decide) _ S rfl (own_step HO.out hst2) (wr.heap.size + 1) 1 ⟨ua, -um, up⟩ _ rfl (blk_new2 _ _ _ _) rfl (by simp only [maxLen]; omega) (by omega) (by simp; omega) ?_)
      intro v7 w7 ho7 hg7
      have hb7 : Below w.heap.size w w7 := bel_own (bel hb hst2) (by have := hst2.size; omega) (own_step HO.out hst2) hg7
      clear hg7
      go_wp2_with fail
      go_roundw
      case rel => exact ⟨k + 1, by omega, by go_num, by rw [HT.out, List.length_append, List.length_singleton]; exact ho7, hb7⟩
      case measure => simp [intOf]; omega
    · have hke : b.take k = b := List.take_of_length_le (by omega)
      rw [hke] at ho
      have hlm : (b.map Jn.neg).length ≤ 1000 := by rw [List.length_map]; exact hn2
      have HN := Lib.hid (Jn.op_neg a b)
      generalize b.map Jn.neg = S at *
      obtain ⟨A5, c5, rfl, hrx⟩ := Rd.of_own ho
      have H5 := Lib.hid hrx
      clear hrx ho
      go_wp2_with (go_at_call 109; refine (rsame_any a S A A5 c1 c5 _ (Rd.now HR.out hb) H5.out hn hlm).mono ?_; rintro e w5 ⟨rfl, hb9⟩; have hb5 := bel hb hb9; clear hb9)
      go_ret
      exact ⟨ret_bool HN.out, hb5⟩
end Go.Proofs.YtnddoehhcpejjaaGreat
/- Structs of many cells, whole: loaded out of a list, stored into a block, handed back. Over any program. -/
namespace Go.Proofs.YtnddoehhcpejjaaGreat
set_option linter.unusedVariables false
set_option linter.unusedSimpArgs false
open Go.RowKit

theorem blk_row {w : World} {g : Nat} {t : TypeId} {cs : Array Value} (h : Blk w g t cs) (cs' : Array Value) : Blk (w.setRow g cs') g t cs' := setRow_heap w g cs cs' t (0, 0) h
theorem blk_row_other {w : World} {g g' : Nat} {t : TypeId} {cs : Array Value} (h : Blk w g t cs) (hg : g ≠ g') (cs' : Array Value) : Blk (w.setRow g' cs') g t cs := (setRow_other w g' g cs' hg).trans h
theorem below_row {B g : Nat} {w w' : World} {cs : Array Value} (h : Below B w w') (hg : B ≤ g) : Below B w (w'.setRow g cs) :=
  ⟨h.os, h.tape, h.output, by have := h.size; simpa [World.setRow] using this, fun b hb => (setRow_other w' g b cs (by omega)).trans (h.block b hb)⟩
theorem alloc_row (w : World) (zs cs : Array Value) (t : TypeId) : (w.alloc (.cells zs t)).setRow w.heap.size cs = w.alloc (.cells cs t) := by
  unfold World.setRow World.alloc
  simp only
  congr 1
  apply Array.ext
  · simp
  · intro i h1 h2
    simp only [Array.getElem_modify, Array.getElem_push]
    simp only [Array.size_modify, Array.size_push] at h1
    by_cases e : i < w.heap.size
    · simp [e, Nat.ne_of_gt e]
    · have : i = w.heap.size := by omega
      subst this
      simp
section
variable {P : Program} {ops : Array Oper} {w W : World} {o : Oper} {rest : List Oper} {a : Act} {t T : TypeId} {fs : Array Field}
theorem wpList_load_arr {Q : Exit → Act → World → Prop} (hgd : o.guard = none) (ty : TypeId) (x : Operand) (ho : o.op = .load ty x) (b off : Nat) (hx : a.eval x = .pointer (some ⟨b, off, none⟩)) (arr : Array Value) (hc : w.rangeAt b off arr.toList)
    (hu : P.underlying ty = some (.struct fs)) (n : Nat) (hi : (P.info? ty).map (·.size) = some n) (hn : arr.size = n)
    (h : wpList P ops Q rest (a.put o.dst (.agg arr)) w) : wpList P ops Q (o :: rest) a w :=
  wpList_load_mid hgd ty x ho b off hx arr.toList _ hc hu rfl (by rw [hi, Array.length_toList, hn]) (by simpa using h)
theorem wpList_alloc_put {Q : Exit → Act → World → Prop} (hgd : o.guard = none) (ty : TypeId) (x y : Operand) (ho : o.op = .store ty x y) (hd : o.dst = none)
    (cells : Array Value) (zs : Array Value) (hx : a.eval x = .pointer (some ⟨w.heap.size, 0, none⟩)) (hy : a.eval y = .agg cells)
    (n : Nat) (hi : (P.info? ty).map (·.size) = some n) (hn : cells.size = n) (hz : zs.size = n) (h1 : cells.all (·.oneCell') = true)
    (h : wpList P ops Q rest a (w.alloc (.cells cells t))) : wpList P ops Q (o :: rest) a (w.alloc (.cells zs t)) := by
  refine wpList_store_row hgd ty x y ho w.heap.size cells hx hy t zs (Blk.new w t zs) (by rw [hi, hn]) (by rw [hz, hn]) h1 ?_
  rw [alloc_row, hd]
  exact h
theorem wpList_builtV {Q : Exit → Act → World → Prop} (hg : o.guard = none) (dst : Tmp) (hdst : o.dst = some dst) (T : TypeId) (parts : Array (Nat × Operand)) (ho : o.op = .build T parts) (cs : Array Value) (vs : List (Nat × Value))
    (hv : (parts.map fun (i, x) => (i, a.eval x)).toList = vs) (h : P.built T vs = some cs) (hK : wpList P ops Q rest (a.put (some dst) (.agg cs)) w) : wpList P ops Q (o :: rest) a w :=
  wpList_built hg dst hdst T parts ho cs (hv ▸ h) hK
theorem quiet_load_arr {Q : Act → Prop} (ty : TypeId) (x : Operand) (ho : o.op = .load ty x) (b off : Nat) (hx : a.eval x = .pointer (some ⟨b, off, none⟩)) (hw : Region.wanted o (yielded ops a.tmps) = true) (arr : Array Value) (hc : W.rangeAt b off arr.toList) (hb : b < W.heap.size)
    (hu : P.underlying ty = some (.struct fs)) (n : Nat) (hi : (P.info? ty).map (·.size) = some n) (hn : arr.size = n)
    (hK : wpQuiet P ops (fun w' => ∃ d : Later W, w' = d.now) Q rest (a.put o.dst (.agg arr))) : wpQuiet P ops (fun w' => ∃ d : Later W, w' = d.now) Q (o :: rest) a := by
  refine BigFrame.wpQuiet_want hw fun K hh => ⟨.agg arr, fun w' hw' => ?_, hh _ hK⟩
  obtain ⟨dd, rfl⟩ := hw'
  have hr : dd.now.rangeAt b off arr.toList := fun j u hu2 => (dd.below.cell (p := ⟨b, off + j, none⟩) hb).trans (hc j u hu2)
  have h1 : (execOp a.eval o).run P dd.now = .ok (.value (.agg arr)) dd.now := by
    unfold execOp
    simp only [ho, hx, Instr.loadAt, Instr.sureAddr, Sem.run_bind, Sem.run_pure, Result.andThen_ok, run_loadVar_mid dd.now b off ty arr.toList _ hr hu rfl (by rw [hi, Array.length_toList, hn])]
  unfold Oper.quietAt
  rw [h1]
  exact ⟨rfl, rfl⟩
theorem results_row2 {fn : Func} {p q : Tmp} {ty : TypeId} (h : fn.results = #[.cell p ty, .tmp q]) (tmps : Array Value) (w : World) (g : Nat) (t : TypeId) (cs : Array Value)
    (hp : tmps.getD p undef = .pointer (some ⟨g, 0, none⟩)) (hg : Blk w g t cs) (hu : P.underlying ty = some (.struct fs)) (hi : (P.info? ty).map (·.size) = some cs.size) :
    (results fn tmps).run P w = .ok (.tuple #[.agg cs, tmps.getD q undef]) w := by
  have hp' : tmps[p]?.getD undef = .pointer (some ⟨g, 0, none⟩) := by simpa using hp
  simp [results, h, hp', asAddr, run_loadVar_row w g t ty cs (0, 0) _ hg hu rfl hi]
end
end Go.Proofs.YtnddoehhcpejjaaGreat
