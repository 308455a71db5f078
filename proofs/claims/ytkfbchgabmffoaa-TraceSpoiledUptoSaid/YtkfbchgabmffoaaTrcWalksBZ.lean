/- Texts of this claim, put together. -/
import Derived.Test.YtkfbchgabmffoaaTrcWalksZ
import Derived.Test.YtkfbchgabmffoaaJAK
import Derived.Test.YtkfbchgabmffoaaTotWalksBZ
/- The walks of Check of a result, of its reference and of Has. -/
namespace Go.Proofs.Ytkfbchgabmffoaa
set_option linter.unusedVariables false
set_option linter.unusedSimpArgs false
open Go.RowKit
open Go.Maps (Keyed)

theorem keyed_ref : Keyed Try.prog 35 := Keyed.of_law (deep_law_laid (by kernel_rfl) (m := 3) (by decide) (of_decide_eq_true (by kernel_rfl)) (by kernel_rfl) (by kernel_rfl))
theorem int_lits_ (d : Nat) (hd : 0 < d) {a : Int} (ha : (Lit.int .i64 a).wf = true) : (Try.prog).keyLits d 3 [.int .i64 a] = some [.int .i64 a] := by
  obtain ⟨d, rfl⟩ : ∃ k, d = k + 1 := ⟨d - 1, by omega⟩
  unfold Program.keyLits
  rw [Try.underlying3]
  simp [ha]
def rval (r : RefR) : Value := .agg #[.int .i64 r.entry, .int .i64 r.line]
theorem rval_inj {a b : RefR} (h : rval a = rval b) : a = b := by
  cases a; cases b; unfold rval at h; simpa using h
theorem ref_key {r : RefR} (ha : Wf r.entry) (hb : Wf r.line) : ∃ l, keyOf Try.prog 35 (rval r) = some l := by
  obtain ⟨a, b⟩ := r
  have h1 : (Try.prog).keyType 35 = true := by kernel_rfl
  have h2 : (Try.prog).cellsOf 35 = 2 := by kernel_rfl
  have h3 : (Try.prog).cellsOf 3 = 1 := by kernel_rfl
  unfold keyOf rval
  rw [Try.underlying35]
  simp only [h1, Value.formed, Try.underlying35, h2, Bool.true_and]
  unfold Program.keyLits
  rw [Try.underlying35]
  simp [h2, h3, Value.cells, int_lits_ _ _ ha, int_lits_ _ _ hb]
theorem zero_unit (w : World) : (zeroValue 59).run Try.prog w = .ok (.agg #[]) w := by kernel_rfl
open Classical in
/-- the references of the items before number k -/
noncomputable def refSeen (I : List ItemR) (k : Nat) (v : Value) : Bool := decide (∃ x ∈ I.take k, v = rval x.ref)
theorem refSeen_zero (I : List ItemR) : refSeen I 0 = fun _ => false := by
  funext v
  simp [refSeen]
def refBefore (I : List ItemR) (k : Nat) (r : RefR) : Bool := ((I.take k).map ItemR.ref).contains r
theorem refSeen_at (I : List ItemR) (k : Nat) (r : RefR) : refSeen I k (rval r) = refBefore I k r := by
  unfold refSeen refBefore
  rw [List.contains_eq_mem, Bool.eq_iff_iff]
  simp only [decide_eq_true_eq, List.mem_map]
  constructor
  · rintro ⟨x, hx, e⟩; exact ⟨x, hx, (rval_inj e).symm⟩
  · rintro ⟨x, hx, rfl⟩; exact ⟨x, hx, rfl⟩
theorem refSeen_here (I : List ItemR) (k : Nat) (h : k < I.length) : refSeen I (k + 1) (rval I[k].ref) = true := by
  unfold refSeen
  rw [List.take_succ_eq_append_getElem h]
  simp only [decide_eq_true_eq]
  exact ⟨I[k], List.mem_append.2 (.inr (List.mem_singleton.2 rfl)), rfl⟩
theorem refSeen_other (I : List ItemR) (k : Nat) (h : k < I.length) (u : Value) (hu : u ≠ rval I[k].ref) : refSeen I (k + 1) u = refSeen I k u := by
  unfold refSeen
  rw [List.take_succ_eq_append_getElem h, Bool.eq_iff_iff]
  simp only [decide_eq_true_eq, List.mem_append, List.mem_singleton]
  constructor
  · rintro ⟨x, hx | rfl, e⟩
    · exact ⟨x, hx, e⟩
    · exact absurd e hu
  · rintro ⟨x, hx, e⟩; exact ⟨x, .inl hx, e⟩
theorem getD_item (I : List ItemR) (k : Nat) (h : k < I.length) : I.getD k default = I[k] := by simp [h]
theorem item_yes {I : List ItemR} {k : Nat} (hk : k < I.length) (h0 : k = 0 ∨ cmpI (I[k - 1]'(by omega)) I[k] < 0) (hc : refBefore I k I[k].ref = false) : itemAt I k = true := by
  unfold itemAt
  rw [getD_item I k hk]
  unfold refBefore at hc
  rw [hc]
  rcases h0 with rfl | h0
  · rfl
  · rw [getD_item I (k - 1) (by omega)]; simp [h0]
theorem item_no1 {I : List ItemR} {k : Nat} (hk : k < I.length) (hc : refBefore I k I[k].ref = true) : itemAt I k = false := by
  unfold itemAt
  rw [getD_item I k hk]
  unfold refBefore at hc
  rw [hc]; simp
theorem item_no2 {I : List ItemR} {k : Nat} (hk : k < I.length) (h0 : 0 < k) (hc : 0 ≤ cmpI (I[k - 1]'(by omega)) I[k]) : itemAt I k = false := by
  unfold itemAt
  rw [getD_item I k hk, getD_item I (k - 1) (by omega)]
  have h1 : (k == 0) = false := by simp; omega
  have h2 : decide (cmpI (I[k - 1]'(by omega)) I[k] < 0) = false := by simp; omega
  rw [h1, h2]; rfl
theorem check_bad {I : List ItemR} {P : List PostR} {T : List Bal} {k : Nat} (hk : k < I.length) (h : itemAt I k = false) : checkV I P T = false :=
  check_no fun hc => by
    have := allAt_at hc.1 hk
    rw [h] at this; cases this
theorem check_tot {I : List ItemR} {P : List PostR} {T L : List Bal} {E : Int} (h : itemsV I = true) (hc : ColAlt (ofW (allB I P)) L E) : checkV I P T = ((E == 0) && decide (L = T)) := by
  rcases hc with ⟨rfl, h1, h2⟩ | ⟨rfl, rfl, c, h1⟩
  · by_cases e : L = T
    · subst e; rw [check_yes ⟨h, h1, h2⟩]; simp
    · rw [check_no fun hk => e (isC_unique h1 hk.2.1 fun _ => rfl)]; simp [e]
  · rw [check_no fun hk => by have := hk.2.2 c; rw [h1] at this; cases this]; rfl
theorem ref_cases (s t : RefR) : s = t ∨ ((s.entry == t.entry) = false ∧ s ≠ t) ∨ ((s.entry == t.entry) = true ∧ (s.line == t.line) = false ∧ s ≠ t) := by
  by_cases h1 : s.entry = t.entry
  · by_cases h2 : s.line = t.line
    · refine .inl ?_
      cases s; cases t; simp at h1 h2 ⊢; exact ⟨h1, h2⟩
    · exact .inr (.inr ⟨by simpa using h1, by simpa using h2, fun e => h2 (by rw [e])⟩)
  · exact .inr (.inl ⟨by simpa using h1, fun e => h1 (by rw [e])⟩)
def hasV (I : List ItemR) (r : RefR) : Bool := (I.map ItemR.ref).contains r
theorem has_hit {I : List ItemR} {r : RefR} {k : Nat} (hk : k < I.length) (h : I[k].ref = r) : hasV I r = true := by
  unfold hasV; rw [List.contains_eq_mem, decide_eq_true_eq]; exact List.mem_map.2 ⟨_, List.getElem_mem hk, h⟩
theorem has_miss {I : List ItemR} {r : RefR} (h : ∀ j (hj : j < I.length), I[j].ref ≠ r) : hasV I r = false := by
  unfold hasV; rw [List.contains_eq_mem, decide_eq_false_iff_not, List.mem_map]
  rintro ⟨x, hx, e⟩
  obtain ⟨j, hj, rfl⟩ := List.mem_iff_getElem.1 hx
  exact h j hj e
set_option maxRecDepth 100000 in
set_option maxHeartbeats 2000000 in
theorem rhas_any (per : Int) (I : List ItemR) (A : Option Addr) (c : Nat) (vP vT : Value) (r : RefR) (w : World) (hI : Rd w w.heap.size 7 A I.length (cellsOf ItemR.cells I)) (hn : I.length ≤ 2000000) :
    Calls Try.prog 24 #[.agg #[.int .i64 per, .slice A I.length c, vP, vT], .agg #[.int .i64 r.entry, .int .i64 r.line]] w (BoolPost (hasV I r) w) := by
  have hb0 := Below.refl w.heap.size w
  have hb : Below w.heap.size w ((w.alloc (.cells #[.int .i64 per, .slice A I.length c, vP, vT] 26)).alloc (.cells #[.int .i64 r.entry, .int .i64 r.line] 35)) := by
    have hb := hb0
    exact (by repeat (first | exact hb | refine Below.alloc ?_ (by have hbs := hb.size; first | omega | (simp; done) | (simp; omega)) _ | refine Below.drew ?_ | refine below_drewN_ ?_ _ | refine Below.setCell ?_ (by simp) _))
  clear hb0
  have HB := Lib.hid ((Blk.new w 26 #[.int .i64 per, .slice A I.length c, vP, vT]).alloc (.cells #[.int .i64 r.entry, .int .i64 r.line] 35))
  have HR0 := Blk.new (w.alloc (.cells #[.int .i64 per, .slice A I.length c, vP, vT] 26)) 35 #[.int .i64 r.entry, .int .i64 r.line]
  rw [World.size_alloc] at HR0
  have HR := Lib.hid HR0
  have H := Lib.hid hI
  clear hI HR0
  go_enter Try.func24, Try.ntmps24
  go_wp2_with fail
  generalize hWW : (w.alloc (.cells #[.int .i64 per, .slice A I.length c, vP, vT] 26)).alloc (.cells #[.int .i64 r.entry, .int .i64 r.line] 35) = W at *
  clear hWW
  go_loopw [5] (fun t wr => ∃ k : Nat, k ≤ I.length ∧ (∀ j (hj : j < k) (h : j < I.length), (I[j]'h).ref ≠ r) ∧ t = .int .i64 k ∧ Below W.heap.size W wr) (fun t _ => I.length - (intOf t).toNat)
  case atStart => exact ⟨0, by omega, fun j h => by omega, rfl, Below.refl _ _⟩
  case round =>
    obtain ⟨k, hk, hno, rfl, hbr⟩ := hrel
    have HN := Lib.hid hno
    clear hno
    have hbw := bel hb hbr
    have HB2 := HB.out.step hbr
    have HR2 := HR.out.step hbr
    have e1 : wr.cell? ⟨w.heap.size, 1, none⟩ = some (.slice A I.length c) := HB2.cell 1
    have l1 := HB2.lt
    have l2 := HR2.lt
    have q7 : ∀ d : Later wr, d.now.cell? ⟨w.heap.size + 1, 0, none⟩ = some (.int .i64 r.entry) := fun d => d.cell l2 (HR2.cell 0)
    have q8 : ∀ d : Later wr, d.now.cell? ⟨w.heap.size + 1, 1, none⟩ = some (.int .i64 r.line) := fun d => d.cell l2 (HR2.cell 1)
    clear HB2 HR2
    by_cases hlt : k < I.length
    · obtain ⟨b, o, hA, hbo, f0, f1, f2, f3, f4, f5, f6⟩ := ItemR.at_ (Rd.now H.out hbw) hlt
      subst hA
      have q0 : ∀ d : Later wr, d.now.cell? ⟨b, o + k * 7, none⟩ = some (.int .i64 I[k].ref.entry) := fun d => d.cell hbo f0
      have q1 : ∀ d : Later wr, d.now.cell? ⟨b, o + k * 7 + 1, none⟩ = some (.int .i64 I[k].ref.line) := fun d => d.cell hbo f1
      have q9 : ∀ d : Later wr, d.now.cell? ⟨w.heap.size, 1, none⟩ = some (.slice (some ⟨b, o, none⟩) I.length c) := fun d => d.cell l1 e1
      clear f0 f1 f2 f3 f4 f5 f6
      rcases ref_cases I[k].ref r with hc | ⟨hc1, hc2⟩ | ⟨hc1, hc2, hc3⟩
      · have HE : Hid (hasV I r = true) := Lib.hid (has_hit hlt hc)
        rw [hc] at q0 q1
        clear hc
        go_wp2_with fail
        refine wp_region_later (by kernel_rfl) (by kernel_rfl) ?_; (repeat (go_big_quiet_step ((fail)))); refine wpQuiet_nil ?_; rintro _ ⟨dq, rfl⟩
        have hbe := bel hbw dq.below
        go_wp2_with fail
        go_ret
        exact ⟨ret_bool HE.out.symm, hbe⟩
      · have HC := Lib.hid hc2
        clear hc2
        go_wp2_with fail
        refine wp_region_later (by kernel_rfl) (by kernel_rfl) ?_; (repeat (go_big_quiet_step ((fail)))); refine wpQuiet_nil ?_; rintro _ ⟨dq, rfl⟩
        have hbe := bel hbr dq.below
        go_wp2_with fail
        go_roundw
        case rel =>
          refine ⟨k + 1, by omega, fun j h h1 => ?_, by go_num, hbe⟩
          by_cases hj : j = k
          · subst hj; exact HC.out
          · exact HN.out j (by omega) h1
        case measure => simp [intOf]; omega
      · have HC := Lib.hid hc3
        clear hc3
        go_wp2_with fail
        refine wp_region_later (by kernel_rfl) (by kernel_rfl) ?_; (repeat (go_big_quiet_step ((fail)))); refine wpQuiet_nil ?_; rintro _ ⟨dq, rfl⟩
        have hbe := bel hbr dq.below
        go_wp2_with fail
        go_roundw
        case rel =>
          refine ⟨k + 1, by omega, fun j h h1 => ?_, by go_num, hbe⟩
          by_cases hj : j = k
          · subst hj; exact HC.out
          · exact HN.out j (by omega) h1
        case measure => simp [intOf]; omega
    · have HE : Hid (hasV I r = false) := Lib.hid (has_miss fun j hj => HN.out j (by omega) hj)
      go_wp2_with fail
      go_ret
      exact ⟨ret_bool HE.out.symm, hbw⟩
end Go.Proofs.Ytkfbchgabmffoaa
