/- Texts of this claim, put together. -/
import Derived.Test.YtnkmjdaeafeaaaaJAA
import Derived.Test.YtnkmjdaeafeaaaaJAU
import Derived.Test.YtnkmjdaeafeaaaaJAE
import Derived.Test.YtnkmjdaeafeaaaaJAT
import Derived.Test.YtnkmjdaeafeaaaaJAP
/- A region that draws its order and ends in a store: operations that read are taken first, if the store (operation number t) waits for them; blocks below B stay, but for that store. Over any program. -/
namespace Go.Proofs.Ytnkmjdaeafeaaaa
set_option linter.unusedVariables false
set_option linter.unusedSimpArgs false
open Go.RowKit

/-- a world in which all below B is as it was -/
structure LaterB (B : Nat) (w : World) where
  now : World
  below : Below B w now
instance instLaterB (B : Nat) (w : World) : Nonempty (LaterB B w) := ⟨⟨w, Below.refl _ _⟩⟩
theorem LaterB.cell {B : Nat} {w : World} (d : LaterB B w) {b o : Nat} {v : Value} (hb : b < B) (h : w.cell? ⟨b, o, none⟩ = some v) : d.now.cell? ⟨b, o, none⟩ = some v := (d.below.cell (p := ⟨b, o, none⟩) hb).trans h
def NearB (B : Nat) (W w : World) : Prop := ∃ d : LaterB B W, w = d.now
theorem NearB.of {B : Nat} {W w : World} (h : Below B W w) : NearB B W w := ⟨⟨w, h⟩, rfl⟩
theorem NearB.below {B : Nat} {W w : World} (h : NearB B W w) : Below B W w := by obtain ⟨d, rfl⟩ := h; exact d.below
def waitsB (ops : Array Oper) (t i : Nat) : Bool := match ops[t]? with
  | some o => o.after.any fun e => Region.binds .any e && e.on == i
  | none => true
section
variable {P : Program} {ops : Array Oper} {Q : Exit → Act → World → Prop} {S : World → Prop}
def wpAnyT (P : Program) (ops : Array Oper) (Q : Exit → Act → World → Prop) (S : World → Prop) (t : Nat) : Nat → Array Bool → Act → World → Prop
  | 0, listed, a, w => Region.ready .any ops listed = [] ∧ Q .normal a w
  | fuel + 1, listed, a, w =>
    (Region.ready .any ops listed = [] → Q .normal a w) ∧
    ∀ i ∈ Region.ready .any ops listed, wpOp P ops Q i (fun a' w' => (listed.getD t false = true ∨ i = t ∨ S w') ∧ wpAnyT P ops Q S t fuel (listed.setIfInBounds i true) a' w') a w
theorem wpAny_of_tail {t : Nat} : ∀ (fuel : Nat) (listed : Array Bool) (a : Act) (w : World), wpAnyT P ops Q S t fuel listed a w → wpAny P .any ops Q fuel listed a w
  | 0, _, _, _, h => h
  | fuel + 1, _, _, _, h => ⟨h.1, fun i hi => wpOp_mono (fun a' w' h' => wpAny_of_tail fuel _ a' w' h'.2) (h.2 i hi)⟩
theorem getD_false_ne {l : Array Bool} {i t : Nat} (h : i ≠ t) : (l.setIfInBounds i true).getD t false = l.getD t false := by
  simp only [Array.getD_eq_getD_getElem?]
  rw [Array.getElem?_setIfInBounds_ne h]
theorem wpAnyT_first {t i : Nat} {oi : Oper} {v : Value} (hit : i ≠ t) (hwait : waitsB ops t i = true) (hi : ops[i]? = some oi) (hsel : ∀ (j : Nat) (o : Oper) cs b, ops[j]? = some o → o.op ≠ .select cs b)
    (hQ : ∀ c a w, Q (.panic c) (a.put oi.dst v) w → Q (.panic c) a w) :
    ∀ (fuel : Nat) (listed : Array Bool) (a : Act) (w : World), listed.getD t false = false →
      (∀ j oj, ops[j]? = some oj → j ≠ i → listed.getD j true = false → (∀ e ∈ oj.after, Region.binds .any e = true → e.on ≠ i) → oi.apart ops oj = true) →
      i ∈ Region.ready .any ops listed → YieldsIf P ops S oi v a → S w →
      wpAnyT P ops Q S t fuel (listed.setIfInBounds i true) (a.put oi.dst v) w → wpAnyT P ops Q S t (fuel + 1) listed a w := by
  intro fuel
  induction fuel with
  | zero =>
    intro listed a w _ _ hr hy hS H
    refine ⟨fun h => (by rw [h] at hr; cases hr), fun j hj => ?_⟩
    by_cases hji : j = i
    · subst hji; exact hy.wpOp hi hS ⟨.inr (.inr hS), H⟩
    · have := ready_mono hj hji
      rw [H.1] at this
      cases this
  | succ fuel ih =>
    intro listed a w ht hfree hr hy hS H
    refine ⟨fun h => (by rw [h] at hr; cases hr), fun j hj => ?_⟩
    by_cases hji : j = i
    · subst hji; exact hy.wpOp hi hS ⟨.inr (.inr hS), H⟩
    · have h1 := H.2 j (ready_mono hj hji)
      obtain ⟨hjun, oj, hoj, hall⟩ := mem_ready.1 hj
      have hnot : ∀ e ∈ oj.after, Region.binds .any e = true → e.on ≠ i := fun e he hb heq => by
        have h1 := hall e he hb
        have h0 := (mem_ready.1 hr).1
        rw [heq] at h1
        rcases Nat.lt_or_ge i listed.size with h' | h'
        · simp [h'] at h0 h1; rw [h0] at h1; cases h1
        · simp [Array.getElem?_eq_none h'] at h1
      have hjt : j ≠ t := by
        rintro rfl
        unfold waitsB at hwait
        rw [hoj] at hwait
        simp only [Array.any_eq_true, Bool.and_eq_true, beq_iff_eq] at hwait
        obtain ⟨x, hx, hb, he⟩ := hwait
        exact hnot _ (Array.getElem_mem hx) hb he
      have ht1 : (listed.setIfInBounds i true).getD t false = false := by rw [getD_false_ne hit]; exact ht
      have h2 := wpOp_putIf hoj (hfree j oj hoj hji hjun hnot) (fun cs b => hsel i oi cs b hi) (fun cs b => hsel j oj cs b hoj) hQ hy h1
      have hfree' : ∀ k ok, ops[k]? = some ok → k ≠ i → (listed.setIfInBounds j true).getD k true = false →
          (∀ e ∈ ok.after, Region.binds .any e = true → e.on ≠ i) → oi.apart ops ok = true := fun k ok hk hki hun hno => by
        refine hfree k ok hk hki ?_ hno
        by_cases hjk : j = k
        · subst hjk; exact hjun
        · rw [getD_set_ne true hjk] at hun; exact hun
      refine wpOp_mono (fun a' w' h3 => ?_) h2
      have hS' : S w' := by
        rcases h3.2.1 with h | h | h
        · rw [ht1] at h; cases h
        · exact absurd h hjt
        · exact h
      refine ⟨.inr (.inr hS'), ih (listed.setIfInBounds j true) a' w' (by rw [getD_false_ne hjt]; exact ht) hfree' (ready_mono hr (Ne.symm hji)) h3.1 hS' ?_⟩
      rw [Array.setIfInBounds_comm _ _ hji]
      exact h3.2.2
theorem wpAnyT_done {t : Nat} {listed : Array Bool} {a : Act} {w : World} (hr : Region.ready .any ops listed = []) (h : Q .normal a w) : ∀ fuel, wpAnyT P ops Q S t fuel listed a w
  | 0 => ⟨hr, h⟩
  | _ + 1 => ⟨fun _ => h, by rw [hr]; simp⟩
end
section
variable {P : Program} {ops : Array Oper} {Q : Exit → Act → World → Prop} {B t : Nat} {W w : World} {i fuel : Nat} {o : Oper} {a : Act} {listed : Array Bool}
theorem relT_begin {id n : Nat} {l : List Oper} (B t : Nat) (W : World) (hm : P.follows .mixedOrders = true) (hn : l.length = n)
    (h : wpAnyT P l.toArray Q (fun w' => ∃ d : LaterB B W, w' = d.now) t n (Array.replicate n false) a w.drew) : (Code.region id l.toArray true).wp P Q a w := by
  subst hn
  exact wp_region_any hm (wpAny_of_tail _ _ _ _ (by simpa using h))
theorem relT_want {rest : List Oper} (hl : ops.toList.drop i = o :: rest) (hp : plainB o.op = true) (hs : Region.noSelect ops = true) (hf : Region.free .any ops listed i = true) (hr : (Region.ready .any ops listed).contains i = true)
    (hw : Region.wanted o (yielded ops a.tmps) = true) (hit : decide (i ≠ t) = true) (hwait : waitsB ops t i = true) (ht : listed.getD t false = false) (hQ : ∀ c a v w, Q (.panic c) (Act.put a o.dst v) w → Q (.panic c) a w) (hS : NearB B W w)
    (h : ∀ K : Act → Prop, (∀ a', wpAnyT P ops Q (fun w' => ∃ d : LaterB B W, w' = d.now) t fuel (listed.setIfInBounds i true) a' w → K a') → o.quiet P a (fun w' => ∃ d : LaterB B W, w' = d.now) K) :
    wpAnyT P ops Q (fun w' => ∃ d : LaterB B W, w' = d.now) t (fuel + 1) listed a w := by
  obtain ⟨v, h1, h2⟩ := h (fun a' => wpAnyT P ops Q (fun w' => ∃ d : LaterB B W, w' = d.now) t fuel (listed.setIfInBounds i true) a' w) (fun _ h => h)
  refine wpAnyT_first (v := v) (of_decide_eq_true hit) hwait (drop_at hl) (Region.noSelect_spec hs) (fun c a w h => hQ c a _ w h) fuel listed a w ht (Region.free_spec (drop_at hl) hf) (by simpa using hr) (.inl ⟨hw, fun w' hw' => ?_⟩) hS h2
  have h3 := h1 w' hw'
  unfold Oper.quietAt at h3
  generalize hx : (execOp a.eval o).run P w' = r at h3
  cases r with
  | ok n w2 =>
    obtain ⟨u, rfl⟩ := plain_value hp hx
    simp only [Oper.quietUpon] at h3
    rw [h3.1, h3.2]
  | halt x w2 => simp only [Oper.quietUpon] at h3
theorem relT_call {rest : List Oper} (hr : Region.ready .any ops listed = [i]) (hl : ops.toList.drop i = o :: rest) (hw : Region.wanted o (yielded ops a.tmps) = true)
    (h : ∀ K : Act → World → Prop, (∀ a' w', (listed.getD t false = true ∨ i = t ∨ NearB B W w') → wpAnyT P ops Q (fun w' => ∃ d : LaterB B W, w' = d.now) t fuel (listed.setIfInBounds i true) a' w' → K a' w') → o.wp P a w K Q) :
    wpAnyT P ops Q (fun w' => ∃ d : LaterB B W, w' = d.now) t (fuel + 1) listed a w := by
  refine ⟨fun h0 => absurd (hr ▸ h0) (by simp), fun j hj => ?_⟩
  rw [hr, List.mem_singleton] at hj
  subst hj
  unfold wpOp
  rw [drop_at hl]
  show if Region.wanted o (yielded ops a.tmps) = true then _ else _
  rw [if_pos hw]
  exact .inl (h _ fun a' w' hn hh => ⟨hn, hh⟩)
theorem relT_calls {is : List Nat} (hr : Region.ready .any ops listed = is) (hne : is ≠ []) (h : ∀ i ∈ is, ∃ o, ops[i]? = some o ∧ Region.wanted o (yielded ops a.tmps) = true ∧
      ∀ K : Act → World → Prop, (∀ a' w', (listed.getD t false = true ∨ i = t ∨ NearB B W w') → wpAnyT P ops Q (fun w' => ∃ d : LaterB B W, w' = d.now) t fuel (listed.setIfInBounds i true) a' w' → K a' w') → o.wp P a w K Q) :
    wpAnyT P ops Q (fun w' => ∃ d : LaterB B W, w' = d.now) t (fuel + 1) listed a w := by
  refine ⟨fun h0 => absurd (hr ▸ h0) hne, fun j hj => ?_⟩
  rw [hr] at hj
  obtain ⟨o, ho, hw, h⟩ := h j hj
  unfold wpOp
  rw [ho]
  show if Region.wanted o (yielded ops a.tmps) = true then _ else _
  rw [if_pos hw]
  exact .inl (h _ fun a' w' hn hh => ⟨hn, hh⟩)
end
end Go.Proofs.Ytnkmjdaeafeaaaa
/- The walk of SamePostings, for lists that are equal. -/
namespace Go.Proofs.Ytnkmjdaeafeaaaa
set_option linter.unusedVariables false
set_option linter.unusedSimpArgs false
open Go.RowKit

def SameP (x y : PostR) : Prop := x.kind = y.kind ∧ x.entity = y.entity ∧ x.other = y.other ∧ x.rule = y.rule ∧ x.parts.l = y.parts.l
/-- postings as they lie in a world -/
structure PIn (w : World) (L : List PostR) (A : Option Addr) : Prop where
  rd : Rd w w.heap.size 5 A L.length (cellsOf PostR.cells L)
  pt : ∀ x ∈ L, Rd w w.heap.size 2 x.parts.A x.parts.l.length (cellsOf Bal.cells x.parts.l)
  few : ∀ x ∈ L, x.parts.l.length ≤ 1000000
  len : L.length ≤ 1000000
theorem PIn.step {w w2 : World} {L : List PostR} {A : Option Addr} (h : PIn w L A) (hb : Below w.heap.size w w2) : PIn w2 L A :=
  ⟨Rd.now h.rd hb, fun x hx => Rd.now (h.pt x hx) hb, h.few, h.len⟩
set_option maxRecDepth 100000 in
set_option maxHeartbeats 16000000 in
theorem samep_yes (L M : List PostR) (A B : Option Addr) (c1 c2 : Nat) (w : World) (hL : PIn w L A) (hM : PIn w M B) (hlen : L.length = M.length) (hs : ∀ k (h1 : k < L.length) (h2 : k < M.length), SameP L[k] M[k]) :
    Calls Try.prog 29 #[.slice A L.length c1, .slice B M.length c2] w (BoolPost true w) := by
  have hb := Below.refl w.heap.size w
  have HL := Lib.hid hL
  have HM := Lib.hid hM
  have HS := Lib.hid hs
  have hn := hL.len
  rw [← hlen]
  have HE := Lib.hid hlen
  clear hL hM hs hlen
  have hnn : ((L.length : Int) != (L.length : Int)) = false := by simp
  go_enter Try.func29, Try.ntmps29
  go_wp2_with fail
  clear hnn
  go_loopw [5] (fun t wr => ∃ k : Nat, k ≤ L.length ∧ t = .int .i64 k ∧ Below w.heap.size w wr) (fun t _ => L.length - (intOf t).toNat)
  case atStart => exact ⟨0, by omega, rfl, hb⟩
  case round =>
    clear hb
    obtain ⟨k, hk, rfl, hb⟩ := hrel
    by_cases hlt : k < L.length
    · have hlt2 : k < M.length := by have := HE.out; omega
      obtain ⟨b, o, hA, hbo, hx⟩ := rd_at (f := PostR.cells) (sz := 5) (fun _ => rfl) (Rd.now HL.out.rd hb) hlt
      subst hA
      obtain ⟨b2, o2, hA2, hbo2, hx2⟩ := rd_at (f := PostR.cells) (sz := 5) (fun _ => rfl) (Rd.now HM.out.rd hb) hlt2
      subst hA2
      have HX := Lib.hid hx
      have HZ := Lib.hid hx2
      have HSK := Lib.hid (HS.out k hlt hlt2)
      have HPL := Lib.hid (HL.out.pt _ (List.getElem_mem hlt))
      have HPM := Lib.hid (HM.out.pt _ (List.getElem_mem hlt2))
      have hfew := HL.out.few _ (List.getElem_mem hlt)
      clear hx hx2
      generalize L[k] = x at *
      generalize M[k] = z at *
      obtain ⟨xk, xe, xo, xr, ⟨pl, pA, pc⟩⟩ := x
      obtain ⟨zk, ze, zo, zr, ⟨pm, qA, qc⟩⟩ := z
      obtain ⟨e1, e2, e3, e4, e5⟩ := HSK.out
      dsimp only at e1 e2 e3 e4 e5
      subst e1 e2 e3 e4 e5
      clear HSK
      dsimp only at *
      have q0 : ∀ d : Later wr, d.now.cell? ⟨b, o + k * 5, none⟩ = some (.int .i64 xk) := fun d => d.cell hbo (HX.out 0 _ rfl)
      have q1 : ∀ d : Later wr, d.now.cell? ⟨b, o + k * 5 + 1, none⟩ = some (.int .i64 xe) := fun d => d.cell hbo (HX.out 1 _ rfl)
      have q2 : ∀ d : Later wr, d.now.cell? ⟨b, o + k * 5 + 2, none⟩ = some (.int .i64 xo) := fun d => d.cell hbo (HX.out 2 _ rfl)
      have q3 : ∀ d : Later wr, d.now.cell? ⟨b, o + k * 5 + 3, none⟩ = some (.int .i64 xr) := fun d => d.cell hbo (HX.out 3 _ rfl)
      have q4 : ∀ d : Later wr, d.now.cell? ⟨b, o + k * 5 + 4, none⟩ = some (.slice pA pl.length pc) := fun d => d.cell hbo (HX.out 4 _ rfl)
      have p0 : ∀ d : Later wr, d.now.cell? ⟨b2, o2 + k * 5, none⟩ = some (.int .i64 xk) := fun d => d.cell hbo2 (HZ.out 0 _ rfl)
      have p1 : ∀ d : Later wr, d.now.cell? ⟨b2, o2 + k * 5 + 1, none⟩ = some (.int .i64 xe) := fun d => d.cell hbo2 (HZ.out 1 _ rfl)
      have p2 : ∀ d : Later wr, d.now.cell? ⟨b2, o2 + k * 5 + 2, none⟩ = some (.int .i64 xo) := fun d => d.cell hbo2 (HZ.out 2 _ rfl)
      have p3 : ∀ d : Later wr, d.now.cell? ⟨b2, o2 + k * 5 + 3, none⟩ = some (.int .i64 xr) := fun d => d.cell hbo2 (HZ.out 3 _ rfl)
      have p4 : ∀ d : Later wr, d.now.cell? ⟨b2, o2 + k * 5 + 4, none⟩ = some (.slice qA pl.length qc) := fun d => d.cell hbo2 (HZ.out 4 _ rfl)
      go_upto_region 6 with fail
      go_cut [6, 7] (fun s6 s7 wx => ∃ g1 g2 : Nat, s6 = .pointer (some ⟨g1, 0, none⟩) ∧ s7 = .pointer (some ⟨g2, 0, none⟩) ∧ Blk wx g1 55 (PostR.arr ⟨xk, xe, xo, xr, ⟨pl, pA, pc⟩⟩) ∧ Blk wx g2 55 (PostR.arr ⟨xk, xe, xo, xr, ⟨pl, qA, qc⟩⟩) ∧ Below wr.heap.size wr wx)
      case first =>
        refine rel_begin (n := 12) (wr) (by kernel_rfl) rfl ?_; have hC := Near.drew (wr)
        (first | (refine rel_want (i := 0) rfl rfl (by kernel_rfl) (by kernel_rfl) (by kernel_rfl) rfl (fun _ _ _ _ h => h) hC ?_; intro K hK; go_big_quiet_op; go_big_quiet_on) | (refine rel_skip (i := 0) rfl (by kernel_rfl) (by kernel_rfl) (by kernel_rfl) rfl (fun _ _ _ _ h => h) hC ?_; simp only [Act.put, List.setIfInBounds_toArray, List.set_cons_zero, List.set_cons_succ])); (first | (refine rel_want (i := 1) rfl rfl (by kernel_rfl) (by kernel_rfl) (by kernel_rfl) rfl (fun _ _ _ _ h => h) hC ?_; intro K hK; go_big_quiet_op; go_big_quiet_on) | (refine rel_skip (i := 1) rfl (by kernel_rfl) (by kernel_rfl) (by kernel_rfl) rfl (fun _ _ _ _ h => h) hC ?_; simp only [Act.put, List.setIfInBounds_toArray, List.set_cons_zero, List.set_cons_succ])); (first | (refine rel_want (i := 2) rfl rfl (by kernel_rfl) (by kernel_rfl) (by kernel_rfl) rfl (fun _ _ _ _ h => h) hC ?_; intro K hK; go_big_quiet_op; go_big_quiet_on) | (refine rel_skip (i := 2) rfl (by kernel_rfl) (by kernel_rfl) (by kernel_rfl) rfl (fun _ _ _ _ h => h) hC ?_; simp only [Act.put, List.setIfInBounds_toArray, List.set_cons_zero, List.set_cons_succ])); (first | (refine rel_want (i := 3) rfl rfl (by kernel_rfl) (by kernel_rfl) (by kernel_rfl) rfl (fun _ _ _ _ h => h) hC ?_; intro K hK; go_big_quiet_op; go_big_quiet_on) | (refine rel_skip (i := 3) rfl (by kernel_rfl) (by kernel_rfl) (by kernel_rfl) rfl (fun _ _ _ _ h => h) hC ?_; simp only [Act.put, List.setIfInBounds_toArray, List.set_cons_zero, List.set_cons_succ])); (first | (refine rel_want (i := 4) rfl rfl (by kernel_rfl) (by kernel_rfl) (by kernel_rfl) rfl (fun _ _ _ _ h => h) hC ?_; intro K hK; go_big_quiet_op; go_big_quiet_on) | (refine rel_skip (i := 4) rfl (by kernel_rfl) (by kernel_rfl) (by kernel_rfl) rfl (fun _ _ _ _ h => h) hC ?_; simp only [Act.put, List.setIfInBounds_toArray, List.set_cons_zero, List.set_cons_succ])); (first | (refine rel_want (i := 5) rfl rfl (by kernel_rfl) (by kernel_rfl) (by kernel_rfl) rfl (fun _ _ _ _ h => h) hC ?_; intro K hK; go_big_quiet_op; go_big_quiet_on) | (refine rel_skip (i := 5) rfl (by kernel_rfl) (by kernel_rfl) (by kernel_rfl) rfl (fun _ _ _ _ h => h) hC ?_; simp only [Act.put, List.setIfInBounds_toArray, List.set_cons_zero, List.set_cons_succ])); (first | (refine rel_want (i := 6) rfl rfl (by kernel_rfl) (by kernel_rfl) (by kernel_rfl) rfl (fun _ _ _ _ h => h) hC ?_; intro K hK; go_big_quiet_op; go_big_quiet_on) | (refine rel_skip (i := 6) rfl (by kernel_rfl) (by kernel_rfl) (by kernel_rfl) rfl (fun _ _ _ _ h => h) hC ?_; simp only [Act.put, List.setIfInBounds_toArray, List.set_cons_zero, List.set_cons_succ])); (first | (refine rel_want (i := 7) rfl rfl (by kernel_rfl) (by kernel_rfl) (by kernel_rfl) rfl (fun _ _ _ _ h => h) hC ?_; intro K hK; go_big_quiet_op; go_big_quiet_on) | (refine rel_skip (i := 7) rfl (by kernel_rfl) (by kernel_rfl) (by kernel_rfl) rfl (fun _ _ _ _ h => h) hC ?_; simp only [Act.put, List.setIfInBounds_toArray, List.set_cons_zero, List.set_cons_succ]))
        clear q0 q1 q2 q3 q4 p0 p1 p2 p3 p4
        refine rel_calls (is := [8, 9]) (by kernel_rfl) (by simp) ?_
        intro j hj
        simp only [List.mem_cons, List.not_mem_nil, or_false] at hj
        rcases hj with rfl | rfl
        · refine ⟨_, rfl, rfl, ?_⟩
          intro K hK
          go_simp
          have hC4 : Below wr.heap.size wr (wr.alloc (.cells #[.int .i64 0, .int .i64 0, .int .i64 0, .int .i64 0, .slice none 0 0] 55)).drew := ((Below.refl _ _).alloc (Nat.le_refl _) _).drew
          have hX0 : Blk (wr.alloc (.cells #[.int .i64 0, .int .i64 0, .int .i64 0, .int .i64 0, .slice none 0 0] 55)).drew wr.heap.size 55 zeroPost := (Blk.new wr _ _).drew
          refine hK _ _ (Near.of hC4) ?_
          clear hK K hC
          generalize (wr.alloc (.cells #[.int .i64 0, .int .i64 0, .int .i64 0, .int .i64 0, .slice none 0 0] 55)).drew = w4 at *
          intro hC
          (try simp only [Act.put, List.setIfInBounds_toArray, List.set_cons_zero, List.set_cons_succ])
          refine rel_call (i := 9) (by kernel_rfl) rfl rfl ?_
          intro K hK
          go_simp
          have hlt4 := hX0.lt
          have hC5 : Below wr.heap.size wr (w4.alloc (.cells #[.int .i64 0, .int .i64 0, .int .i64 0, .int .i64 0, .slice none 0 0] 55)) := hC4.alloc hC4.size _
          have hX1 : Blk (w4.alloc (.cells #[.int .i64 0, .int .i64 0, .int .i64 0, .int .i64 0, .slice none 0 0] 55)) wr.heap.size 55 zeroPost := hX0.alloc _
          have hX2 : Blk (w4.alloc (.cells #[.int .i64 0, .int .i64 0, .int .i64 0, .int .i64 0, .slice none 0 0] 55)) w4.heap.size 55 zeroPost := Blk.new w4 _ _
          refine hK _ _ (Near.of hC5) ?_
          clear hK K hC
          generalize w4.alloc (.cells #[.int .i64 0, .int .i64 0, .int .i64 0, .int .i64 0, .slice none 0 0] 55) = w5 at *
          intro hC
          (try simp only [Act.put, List.setIfInBounds_toArray, List.set_cons_zero, List.set_cons_succ])
          refine rel_call (i := 10) (by kernel_rfl) rfl rfl ?_
          intro K hK
          refine wp_store_row 55 (.tmp 6) (.tmp 23) rfl (wr.heap.size) (PostR.arr ⟨xk, xe, xo, xr, ⟨pl, pA, pc⟩⟩) rfl rfl 55 zeroPost hX1 post_size rfl (PostR.arr_one _) ?_
          have hY1 : Blk (w5.setRow (wr.heap.size) (PostR.arr ⟨xk, xe, xo, xr, ⟨pl, pA, pc⟩⟩)) (wr.heap.size) 55 (PostR.arr ⟨xk, xe, xo, xr, ⟨pl, pA, pc⟩⟩) := setRow_heap _ _ zeroPost _ _ _ hX1
          have hY2 : Blk (w5.setRow (wr.heap.size) (PostR.arr ⟨xk, xe, xo, xr, ⟨pl, pA, pc⟩⟩)) (w4.heap.size) 55 zeroPost := (setRow_other _ _ _ _ (by omega)).trans hX2
          have hC6 := below_row (cs := (PostR.arr ⟨xk, xe, xo, xr, ⟨pl, pA, pc⟩⟩)) (g := wr.heap.size) hC5 (by omega)
          refine hK _ _ (Near.of hC6) ?_
          clear hK K hC hX1 hX2
          generalize w5.setRow (wr.heap.size) (PostR.arr ⟨xk, xe, xo, xr, ⟨pl, pA, pc⟩⟩) = w6 at *
          intro hC
          (try simp only [Act.put, List.setIfInBounds_toArray, List.set_cons_zero, List.set_cons_succ])
          refine rel_call (i := 11) (by kernel_rfl) rfl rfl ?_
          intro K hK
          refine wp_store_row 55 (.tmp 7) (.tmp 27) rfl (w4.heap.size) (PostR.arr ⟨xk, xe, xo, xr, ⟨pl, qA, qc⟩⟩) rfl rfl 55 zeroPost hY2 post_size rfl (PostR.arr_one _) ?_
          have hZ2 : Blk (w6.setRow (w4.heap.size) (PostR.arr ⟨xk, xe, xo, xr, ⟨pl, qA, qc⟩⟩)) (w4.heap.size) 55 (PostR.arr ⟨xk, xe, xo, xr, ⟨pl, qA, qc⟩⟩) := setRow_heap _ _ zeroPost _ _ _ hY2
          have hZ1 : Blk (w6.setRow (w4.heap.size) (PostR.arr ⟨xk, xe, xo, xr, ⟨pl, qA, qc⟩⟩)) (wr.heap.size) 55 (PostR.arr ⟨xk, xe, xo, xr, ⟨pl, pA, pc⟩⟩) := (setRow_other _ _ _ _ (by omega)).trans hY1
          have hC7 := below_row (cs := (PostR.arr ⟨xk, xe, xo, xr, ⟨pl, qA, qc⟩⟩)) (g := w4.heap.size) hC6 (by omega)
          refine hK _ _ (Near.of hC7) ?_
          clear hK K hC
          generalize w6.setRow (w4.heap.size) (PostR.arr ⟨xk, xe, xo, xr, ⟨pl, qA, qc⟩⟩) = w7 at *
          intro hC
          (try simp only [Act.put, List.setIfInBounds_toArray, List.set_cons_zero, List.set_cons_succ])
          refine wpAnyH_done (by kernel_rfl) ?_ _
          go_wp2_with fail
          go_meet
          exact ⟨wr.heap.size, w4.heap.size, rfl, rfl, hZ1, hZ2, hC7⟩
        · refine ⟨_, rfl, rfl, ?_⟩
          intro K hK
          go_simp
          have hC4 : Below wr.heap.size wr (wr.alloc (.cells #[.int .i64 0, .int .i64 0, .int .i64 0, .int .i64 0, .slice none 0 0] 55)).drew := ((Below.refl _ _).alloc (Nat.le_refl _) _).drew
          have hX0 : Blk (wr.alloc (.cells #[.int .i64 0, .int .i64 0, .int .i64 0, .int .i64 0, .slice none 0 0] 55)).drew wr.heap.size 55 zeroPost := (Blk.new wr _ _).drew
          refine hK _ _ (Near.of hC4) ?_
          clear hK K hC
          generalize (wr.alloc (.cells #[.int .i64 0, .int .i64 0, .int .i64 0, .int .i64 0, .slice none 0 0] 55)).drew = w4 at *
          intro hC
          (try simp only [Act.put, List.setIfInBounds_toArray, List.set_cons_zero, List.set_cons_succ])
          refine rel_call (i := 8) (by kernel_rfl) rfl rfl ?_
          intro K hK
          go_simp
          have hlt4 := hX0.lt
          have hC5 : Below wr.heap.size wr (w4.alloc (.cells #[.int .i64 0, .int .i64 0, .int .i64 0, .int .i64 0, .slice none 0 0] 55)) := hC4.alloc hC4.size _
          have hX1 : Blk (w4.alloc (.cells #[.int .i64 0, .int .i64 0, .int .i64 0, .int .i64 0, .slice none 0 0] 55)) wr.heap.size 55 zeroPost := hX0.alloc _
          have hX2 : Blk (w4.alloc (.cells #[.int .i64 0, .int .i64 0, .int .i64 0, .int .i64 0, .slice none 0 0] 55)) w4.heap.size 55 zeroPost := Blk.new w4 _ _
          refine hK _ _ (Near.of hC5) ?_
          clear hK K hC
          generalize w4.alloc (.cells #[.int .i64 0, .int .i64 0, .int .i64 0, .int .i64 0, .slice none 0 0] 55) = w5 at *
          intro hC
          (try simp only [Act.put, List.setIfInBounds_toArray, List.set_cons_zero, List.set_cons_succ])
          refine rel_call (i := 10) (by kernel_rfl) rfl rfl ?_
          intro K hK
          refine wp_store_row 55 (.tmp 6) (.tmp 23) rfl (w4.heap.size) (PostR.arr ⟨xk, xe, xo, xr, ⟨pl, pA, pc⟩⟩) rfl rfl 55 zeroPost hX2 post_size rfl (PostR.arr_one _) ?_
          have hY1 : Blk (w5.setRow (w4.heap.size) (PostR.arr ⟨xk, xe, xo, xr, ⟨pl, pA, pc⟩⟩)) (w4.heap.size) 55 (PostR.arr ⟨xk, xe, xo, xr, ⟨pl, pA, pc⟩⟩) := setRow_heap _ _ zeroPost _ _ _ hX2
          have hY2 : Blk (w5.setRow (w4.heap.size) (PostR.arr ⟨xk, xe, xo, xr, ⟨pl, pA, pc⟩⟩)) (wr.heap.size) 55 zeroPost := (setRow_other _ _ _ _ (by omega)).trans hX1
          have hC6 := below_row (cs := (PostR.arr ⟨xk, xe, xo, xr, ⟨pl, pA, pc⟩⟩)) (g := w4.heap.size) hC5 (by omega)
          refine hK _ _ (Near.of hC6) ?_
          clear hK K hC hX1 hX2
          generalize w5.setRow (w4.heap.size) (PostR.arr ⟨xk, xe, xo, xr, ⟨pl, pA, pc⟩⟩) = w6 at *
          intro hC
          (try simp only [Act.put, List.setIfInBounds_toArray, List.set_cons_zero, List.set_cons_succ])
          refine rel_call (i := 11) (by kernel_rfl) rfl rfl ?_
          intro K hK
          refine wp_store_row 55 (.tmp 7) (.tmp 27) rfl (wr.heap.size) (PostR.arr ⟨xk, xe, xo, xr, ⟨pl, qA, qc⟩⟩) rfl rfl 55 zeroPost hY2 post_size rfl (PostR.arr_one _) ?_
          have hZ2 : Blk (w6.setRow (wr.heap.size) (PostR.arr ⟨xk, xe, xo, xr, ⟨pl, qA, qc⟩⟩)) (wr.heap.size) 55 (PostR.arr ⟨xk, xe, xo, xr, ⟨pl, qA, qc⟩⟩) := setRow_heap _ _ zeroPost _ _ _ hY2
          have hZ1 : Blk (w6.setRow (wr.heap.size) (PostR.arr ⟨xk, xe, xo, xr, ⟨pl, qA, qc⟩⟩)) (w4.heap.size) 55 (PostR.arr ⟨xk, xe, xo, xr, ⟨pl, pA, pc⟩⟩) := (setRow_other _ _ _ _ (by omega)).trans hY1
          have hC7 := below_row (cs := (PostR.arr ⟨xk, xe, xo, xr, ⟨pl, qA, qc⟩⟩)) (g := wr.heap.size) hC6 (by omega)
          refine hK _ _ (Near.of hC7) ?_
          clear hK K hC
          generalize w6.setRow (wr.heap.size) (PostR.arr ⟨xk, xe, xo, xr, ⟨pl, qA, qc⟩⟩) = w7 at *
          intro hC
          (try simp only [Act.put, List.setIfInBounds_toArray, List.set_cons_zero, List.set_cons_succ])
          refine wpAnyH_done (by kernel_rfl) ?_ _
          go_wp2_with fail
          go_meet
          exact ⟨w4.heap.size, wr.heap.size, rfl, rfl, hZ1, hZ2, hC7⟩
      case rest =>
        obtain ⟨g1, g2, rfl, rfl, h1, h2, hbc⟩ := hcut
        have h10 : wc.cell? ⟨g1, 0, none⟩ = some (.int .i64 xk) := h1.cell 0
        have h11 : wc.cell? ⟨g1, 1, none⟩ = some (.int .i64 xe) := h1.cell 1
        have h12 : wc.cell? ⟨g1, 2, none⟩ = some (.int .i64 xo) := h1.cell 2
        have h13 : wc.cell? ⟨g1, 3, none⟩ = some (.int .i64 xr) := h1.cell 3
        have h14 : wc.cell? ⟨g1, 4, none⟩ = some (.slice pA pl.length pc) := h1.cell 4
        have h20 : wc.cell? ⟨g2, 0, none⟩ = some (.int .i64 xk) := h2.cell 0
        have h21 : wc.cell? ⟨g2, 1, none⟩ = some (.int .i64 xe) := h2.cell 1
        have h22 : wc.cell? ⟨g2, 2, none⟩ = some (.int .i64 xo) := h2.cell 2
        have h23 : wc.cell? ⟨g2, 3, none⟩ = some (.int .i64 xr) := h2.cell 3
        have h24 : wc.cell? ⟨g2, 4, none⟩ = some (.slice qA pl.length qc) := h2.cell 4
        have H1 := Lib.hid h1
        have H2 := Lib.hid h2
        have hbw := bel hb hbc
        have n1 : (xk != xk) = false := by simp
        have n2 : (xe != xe) = false := by simp
        have n3 : (xo != xo) = false := by simp
        have n4 : (xr != xr) = false := by simp
        have n5 : ((pl.length : Int) != (pl.length : Int)) = false := by simp
        have HPL2 := Lib.hid (Rd.now HPL.out hbw)
        have HPM2 := Lib.hid (Rd.now HPM.out hbw)
        clear h1 h2 q0 q1 q2 q3 q4 p0 p1 p2 p3 p4 HX HZ
        go_wp2_with fail
        clear h10 h11 h12 h13 h14 h20 h21 h22 h23 h24 n1 n2 n3 n4 n5
        obtain ⟨wo, hwo⟩ : ∃ x, x = wr := ⟨_, rfl⟩
        subst hwo
        go_loopw [8] (fun t ws => ∃ j : Nat, j ≤ pl.length ∧ t = .int .i64 j ∧ Below wc.heap.size wc ws) (fun t _ => pl.length - (intOf t).toNat)
        case atStart => exact ⟨0, by omega, rfl, Below.refl _ _⟩
        case round =>
          obtain ⟨j, hj, rfl, hbs⟩ := hrel
          have H1s := Lib.hid (H1.out.step hbs)
          have H2s := Lib.hid (H2.out.step hbs)
          have h14 : wr.cell? ⟨g1, 4, none⟩ = some (.slice pA pl.length pc) := H1s.out.cell 4
          have hbz := bel hbw hbs
          by_cases hjl : j < pl.length
          · obtain ⟨b3, o3, hA3, hbo3, f0, f1⟩ := Bal.at_ (Rd.now HPL2.out hbs) hjl
            subst hA3
            obtain ⟨b4, o4, hA4, hbo4, f2, f3⟩ := Bal.at_ (Rd.now HPM2.out hbs) hjl
            subst hA4
            generalize pl[j] = x at *
            obtain ⟨xc, xa⟩ := x
            dsimp only at *
            have q1 : ∀ d : Later wr, d.now.cell? ⟨g1, 4, none⟩ = some (.slice (some ⟨b3, o3, none⟩) pl.length pc) := fun d => d.cell H1s.out.lt (H1s.out.cell 4)
            have q2 : ∀ d : Later wr, d.now.cell? ⟨g2, 4, none⟩ = some (.slice (some ⟨b4, o4, none⟩) pl.length qc) := fun d => d.cell H2s.out.lt (H2s.out.cell 4)
            have q3 : ∀ d : Later wr, d.now.cell? ⟨b3, o3 + j * 2, none⟩ = some (.int .i64 xc) := fun d => d.cell hbo3 f0
            have q4 : ∀ d : Later wr, d.now.cell? ⟨b3, o3 + j * 2 + 1, none⟩ = some (.int .i64 xa) := fun d => d.cell hbo3 f1
            have q5 : ∀ d : Later wr, d.now.cell? ⟨b4, o4 + j * 2, none⟩ = some (.int .i64 xc) := fun d => d.cell hbo4 f2
            have q6 : ∀ d : Later wr, d.now.cell? ⟨b4, o4 + j * 2 + 1, none⟩ = some (.int .i64 xa) := fun d => d.cell hbo4 f3
            have n1 : (xc == xc) = true := by simp
            have n2 : (xa == xa) = true := by simp
            go_wp2_with fail
            refine wp_region_later (by kernel_rfl) (by kernel_rfl) ?_
            (repeat (go_big_quiet_step ((fail)))); refine wpQuiet_nil ?_; rintro _ ⟨dq, rfl⟩
            have hbe := bel hbs dq.below
            clear q1 q2 q3 q4 q5 q6 f0 f1 f2 f3 h14
            go_wp2_with fail
            go_roundw
            case rel => exact ⟨j + 1, by omega, by go_num, hbe⟩
            case measure => simp [intOf]; omega
          · go_wp2_with fail
            go_roundw
            case rel => exact ⟨k + 1, by omega, by go_num, hbz⟩
            case measure => simp [intOf]; omega
    · go_wp2_with fail
      go_ret
      exact ⟨rfl, hb⟩
end Go.Proofs.Ytnkmjdaeafeaaaa
/- The walks of the law's own 'small', 'few' and 'both'. -/
namespace Go.Proofs.Ytnkmjdaeafeaaaa
set_option linter.unusedVariables false
set_option linter.unusedSimpArgs false
open Go.RowKit

def itSmall (x : ItemR) : Bool := decide (x.amount ≤ 1125899906842624) && decide (-1125899906842624 ≤ x.amount)
theorem itsmall_any (I : List ItemR) (A : Option Addr) (c : Nat) (w : World) (hr : Rd w w.heap.size 7 A I.length (cellsOf ItemR.cells I)) (hn : I.length ≤ maxLen) :
    Calls Try.prog 33 #[.slice A I.length c] w (fun e w' => e = .returned (.bool (I.all itSmall)) ∧ w = w') := by
  have HR := Lib.hid hr
  unfold maxLen at hn
  clear hr
  go_enter Try.func33, Try.ntmps33
  go_wp2_with fail
  go_loopw [6] (fun t wr => ∃ k : Nat, k ≤ I.length ∧ (∀ j (h : j < k) (h1 : j < I.length), itSmall (I[j]'h1) = true) ∧ t = .int .i64 k ∧ w = wr) (fun t _ => I.length - (intOf t).toNat)
  case atStart => exact ⟨0, by omega, fun j h => by omega, rfl, rfl⟩
  case round =>
    obtain ⟨k, hk, hno, rfl, rfl⟩ := hrel
    have HN := Lib.hid hno
    clear hno
    by_cases hlt : k < I.length
    · obtain ⟨x, o, hA, hbo, f0, f1, f2, f3, f4, f5, f6⟩ := ItemR.at_ HR.out hlt
      subst hA
      have HS : Hid (itSmall I[k] = (decide (I[k].amount ≤ 1125899906842624) && decide (-1125899906842624 ≤ I[k].amount))) := Lib.hid rfl
      have HF : Hid (itSmall I[k] = false → I.all itSmall = false) := Lib.hid fun h => by
        rw [List.all_eq_false]
        exact ⟨_, List.getElem_mem hlt, by rw [h]; decide⟩
      clear f0 f1 f2 f3 f4 f5
      by_cases h1 : I[k].amount ≤ 1125899906842624
      · by_cases h2 : -1125899906842624 ≤ I[k].amount
        · have HE : Hid (itSmall I[k] = true) := Lib.hid (by rw [HS.out]; simp [h1, h2])
          go_wp2_with fail
          go_roundw
          case rel =>
            refine ⟨k + 1, by omega, fun j h h1 => ?_, by go_num, trivial⟩
            by_cases e : j = k
            · subst e; exact HE.out
            · exact HN.out j (by omega) h1
          case measure => simp [intOf]; omega
        · have HE : Hid (itSmall I[k] = false) := Lib.hid (by rw [HS.out]; simp [h1]; omega)
          go_wp2_with fail
          go_ret
          exact ⟨by rw [HF.out HE.out]; rfl, rfl⟩
      · have HE : Hid (itSmall I[k] = false) := Lib.hid (by rw [HS.out]; simp [h1])
        go_wp2_with fail
        go_ret
        exact ⟨by rw [HF.out HE.out]; rfl, rfl⟩
    · have HA : Hid (I.all itSmall = true) := Lib.hid (by
        rw [List.all_eq_true]
        intro x hx
        obtain ⟨j, hj, rfl⟩ := List.mem_iff_getElem.1 hx
        exact HN.out j (by omega) hj)
      go_wp2_with fail
      go_ret
      exact ⟨by rw [HA.out]; rfl, rfl⟩
/-- what the law's argument is -/
structure OIn (w : World) (l : List ConR) (A : Option Addr) : Prop where
  rd : Rd w w.heap.size 3 A l.length (cellsOf ConR.own l)
  it : ∀ x ∈ l, Rd w w.heap.size 7 x.items.A x.items.l.length (cellsOf ItemR.cells x.items.l) ∧ x.items.l.length ≤ maxLen
  len : l.length ≤ maxLen
theorem OIn.step {w w2 : World} {l : List ConR} {A : Option Addr} (h : OIn w l A) (hb : Below w.heap.size w w2) : OIn w2 l A :=
  ⟨Rd.now h.rd hb, fun x hx => ⟨Rd.now (h.it x hx).1 hb, (h.it x hx).2⟩, h.len⟩
def conOk (x : ConR) : Bool := decide (x.items.l.length ≤ 40) && x.items.l.all itSmall
structure DFew (cur : ByteArray) (cl : List Acc) (el : List EntR) (l : List ConR) : Prop where
  grp : FewOk cur cl el
  len : l.length ≤ 14
  it : ∀ x ∈ l, conOk x = true
section
variable (cur : ByteArray) (y m p : Int) (cl : List Acc) (cA : Option Addr) (cc : Nat) (ro : RolesR) (el : List EntR) (eA : Option Addr) (ec : Nat) (w : World)
set_option maxRecDepth 100000 in
set_option maxHeartbeats 8000000 in
theorem dfew_any (gcs : Array Value) (l : List ConR) (A : Option Addr) (c : Nat) (HG : Hid (gcs = #[.string cur, .int .i64 y, .int .i64 m, .int .i64 p, .slice cA cl.length cc, .int .i64 ro.investment, .int .i64 ro.goodwill, .int .i64 ro.associates, .int .i64 ro.inventory, .int .i64 ro.reserve, .int .i64 ro.minority, .int .i64 ro.retained, .int .i64 ro.acquired, .int .i64 ro.owners, .int .i64 ro.disposal, .int .i64 ro.associateProfit, .int .i64 ro.dividends, .int .i64 ro.minorityProfit, .int .i64 ro.difference, .int .i64 ro.margin, .slice eA el.length ec])) (h : GIn w cl cA el eA) (hO : OIn w l A) (hc : cur.size ≤ maxLen) (hcl : cl.length ≤ maxLen) (hel : el.length ≤ maxLen) :
    Calls Try.prog 25 #[.agg gcs, .slice A l.length c] w (MayPost' (DFew cur cl el l) w) := by
  have hgi : (Try.prog.info? 29).map (·.size) = some gcs.size := by rw [HG.out]; exact grp_size
  have H := Lib.hid h
  have HO := Lib.hid hO
  have hll := hO.len
  have K0 := Lib.hid (fun W h => HG.out.symm ▸ few_any cur y m p cl cA cc ro el eA ec W h hc hcl hel)
  clear h hO
  have hb : Below w.heap.size w (w.alloc (.cells gcs 29)) := (Below.refl _ _).alloc (Nat.le_refl _) _
  have HB := Lib.hid (Blk.new w 29 gcs)
  unfold maxLen at hll hc hcl hel
  go_enter Try.func25, Try.ntmps25
  go_wp2_with fail
  generalize w.alloc (.cells gcs 29) = W at *
  go_loopw [9] (fun t wr => ∃ k : Nat, k ≤ l.length ∧ t = .int .i64 k ∧ (∀ j (h : j < k) (h1 : j < l.length), conOk (l[j]'h1) = true) ∧ Blk wr w.heap.size 29 gcs ∧ Below w.heap.size w wr) (fun t _ => l.length - (intOf t).toNat)
  case atStart => exact ⟨0, by omega, rfl, fun j h => by omega, HB.out, hb⟩
  case round =>
    clear hb HB
    obtain ⟨k, hk, rfl, hno, hB, hb⟩ := hrel
    have HB := Lib.hid hB
    have HN := Lib.hid hno
    have hz := hb.size
    clear hB hno
    by_cases hlt : k < l.length
    · obtain ⟨b, o, hA, hbo, f0, f1, f2⟩ := ConR.own_at (Rd.now HO.out.rd hb) hlt
      subst hA
      have HI := Lib.hid (HO.out.it _ (List.getElem_mem hlt))
      have HNK : Hid (conOk l[k] = true → ∀ j (h : j < k + 1) (h1 : j < l.length), conOk (l[j]'h1) = true) := Lib.hid fun hh j h h1 => by
        by_cases e : j = k
        · subst e; exact hh
        · exact HN.out j (by omega) h1
      generalize l[k] = x at *
      obtain ⟨xe, xm, ⟨il, iA, ic⟩⟩ := x
      dsimp only [Sl.val] at *
      have hil := HI.out.2
      unfold maxLen at hil
      have hb1 : Below w.heap.size w (wr.alloc (.cells #[.int .i64 xe, .int .i64 xm, .slice iA il.length ic] 83)) := hb.alloc hz _
      have HB1 := Lib.hid (HB.out.alloc (.cells #[.int .i64 xe, .int .i64 xm, .slice iA il.length ic] 83))
      by_cases h1 : il.length ≤ 40
      · have KS := Lib.hid (itsmall_any il iA ic (wr.alloc (.cells #[.int .i64 xe, .int .i64 xm, .slice iA il.length ic] 83)) (Rd.now HI.out.1 hb1) (by unfold maxLen; omega))
        cases hs : il.all itSmall
        · rw [hs] at KS
          clear hs
          go_wp2_with (go_at_call 33; refine KS.out.mono ?_; rintro en w5 ⟨rfl, rfl⟩)
          go_ret
          exact ⟨false, rfl, hb1, fun h => by cases h⟩
        · have HOK : Hid (conOk ⟨xe, xm, ⟨il, iA, ic⟩⟩ = true) := Lib.hid (by unfold conOk; simp only [hs]; simp [h1])
          rw [hs] at KS
          clear hs
          go_wp2_with (go_at_call 33; refine KS.out.mono ?_; rintro en w5 ⟨rfl, rfl⟩)
          go_roundw
          case rel => exact ⟨k + 1, by omega, by go_num, HNK.out HOK.out, HB1.out, hb1⟩
          case measure => simp [intOf]; omega
      · have h1' : 40 < il.length := by omega
        go_wp2_with fail
        go_ret
        exact ⟨false, rfl, hb1, fun h => by cases h⟩
    · have HA : Hid (∀ x ∈ l, conOk x = true) := Lib.hid (by
        intro x hx
        obtain ⟨j, hj, rfl⟩ := List.mem_iff_getElem.1 hx
        exact HN.out j (by omega) hj)
      go_upto_region 7 with fail
      by_cases h14 : l.length ≤ 14
      · go_wp2_with (first
          | (refine wpList_load_blk 29 (.tmp 2) rfl (w.heap.size) rfl (by kernel_rfl) (HB).out Try.underlying29 hgi ?_)
          | (go_at_call 11; refine (K0.out _ (H.out.step hb)).mono ?_; rintro en w5 ⟨bb, rfl, hb9, hok⟩; have hb5 := bel hb hb9; clear hb9; have HOK := Lib.hid hok; clear hok; cases bb))
        all_goals go_ret
        · exact ⟨false, rfl, hb5, fun h => by cases h⟩
        · exact ⟨_, rfl, hb5, fun _ => ⟨by first | exact HOK.out rfl | exact HOK.out trivial, by omega, HA.out⟩⟩
      · have h14' : 14 < l.length := by omega
        go_wp2_with (first
          | (refine wpList_load_blk 29 (.tmp 2) rfl (w.heap.size) rfl (by kernel_rfl) (HB).out Try.underlying29 hgi ?_)
          | (go_at_call 11; refine (K0.out _ (H.out.step hb)).mono ?_; rintro en w5 ⟨bb, rfl, hb9, -⟩; have hb5 := bel hb hb9; clear hb9; cases bb))
        all_goals go_ret
        all_goals exact ⟨_, rfl, hb5, fun h => by first | (cases h; done) | (exfalso; simp at h; omega)⟩
end
end Go.Proofs.Ytnkmjdaeafeaaaa
/- The walk of the law's own 'both'. -/
namespace Go.Proofs.Ytnkmjdaeafeaaaa
set_option linter.unusedVariables false
set_option linter.unusedSimpArgs false
open Go.RowKit

theorem con_info : (Try.prog.info? 139).map (fun i => (i.zero, i.size, i.bytes)) = some (some (.agg zeroCon), 13, 200) := by kernel_rfl
theorem rcon_info : (Try.prog.info? 145).map (fun i => (i.zero, i.size, i.bytes)) = some (some (.agg zeroCon), 13, 200) := by kernel_rfl
def BothPost (l : List ConR) (w : World) (e : Ending) (w' : World) : Prop :=
  ∃ v u : Value, e = .returned (.tuple #[v, u]) ∧ w'.ownsRow w.heap.size 139 13 v l.length (cellsOf ConR.cells l) ∧ w'.ownsRow w.heap.size 145 13 u l.length (cellsOf ConR.cells l) ∧ Below w.heap.size w w'
set_option maxRecDepth 100000 in
set_option maxHeartbeats 8000000 in
theorem both_any (l : List ConR) (A : Option Addr) (c : Nat) (w : World) (hO : OIn w l A) (hn : l.length ≤ 1000) :
    Calls Try.prog 26 #[.slice A l.length c] w (BothPost l w) := by
  have hb := Below.refl w.heap.size w
  have HO := Lib.hid hO
  obtain ⟨i0, hi, hz0, hz1, hz2⟩ := info_parts con_info
  obtain ⟨j0, hj, hy0, hy1, hy2⟩ := info_parts rcon_info
  clear hO
  go_enter Try.func26, Try.ntmps26
  go_wp2_with fail
  go_loopw [4, 5, 10] (fun v u t wr => ∃ k : Nat, k ≤ l.length ∧ t = .int .i64 k ∧ wr.ownsRow w.heap.size 139 13 v (l.take k).length (cellsOf ConR.cells (l.take k)) ∧ wr.ownsRow w.heap.size 145 13 u (l.take k).length (cellsOf ConR.cells (l.take k)) ∧ Below w.heap.size w wr) (fun _ _ t _ => l.length - (intOf t).toNat)
  case atStart => exact ⟨0, by omega, rfl, World.ownsRow_nil _ _ _ _, World.ownsRow_nil _ _ _ _, hb⟩
  case round =>
    clear hb
    obtain ⟨k, hk, rfl, ho, ho5, hb⟩ := hrel
    have hz := hb.size
    by_cases hlt : k < l.length
    · obtain ⟨b, o, hA, hbo, f0, f1, f2⟩ := ConR.own_at (Rd.now HO.out.rd hb) hlt
      subst hA
      have HT : Hid (l.take (k + 1) = l.take k ++ [l[k]]) := Lib.hid (List.take_succ_eq_append_getElem hlt)
      have HLK : Hid ((l.take (k + 1)).length = k + 1) := Lib.hid (by rw [List.length_take]; omega)
      have hln : (l.take k).length ≤ 1000 := by rw [List.length_take]; omega
      generalize l[k] = x at *
      obtain ⟨xe, xm, ⟨il, iA, ic⟩⟩ := x
      dsimp only [Sl.val] at *
      have HOV := Lib.hid ho
      have HOU := Lib.hid ho5
      clear ho ho5
      go_wp2_with (at_builtin; refine wpList_append_rec ConR.cells 13 ConR.len ConR.one rfl (.tmp 14) (.tmp 22) 62 rfl w.heap.size 139 i0 (.agg zeroCon) 200 Try.underlying62 hi hz0 hz1 hz2 rfl (by decide) _ (l.take k) rfl ((HOV.out.alloc (.cells #[.int .i64 xe, .int .i64 xm, .slice iA il.length ic] 83)).alloc _) (wr.heap.size + 1) 1 ⟨xe, xm, ⟨il, iA, ic⟩⟩ (conCs xe xm (.slice iA il.length ic)) rfl (blk_new2 _ _ _ _) rfl (by simp only [maxLen]; omega) (by omega) (by simp; omega) ?_)
      intro v4 w4 ho4 hg4
      have hb3 : Below w.heap.size w ((wr.alloc (.cells #[.int .i64 xe, .int .i64 xm, .slice iA il.length ic] 83)).alloc (.cells (conCs xe xm (.slice iA il.length ic)) 139)) := (hb.alloc hz _).alloc (by simp; omega) _
      have hb4 := bel_own hb3 (by simp; omega) ((HOV.out.alloc _).alloc _) hg4
      have ho5 := own_apart ((HOU.out.alloc _).alloc _) ((HOV.out.alloc _).alloc _) (by decide) hg4
      have hXB : Blk ((wr.alloc (.cells #[.int .i64 xe, .int .i64 xm, .slice iA il.length ic] 83)).alloc (.cells (conCs xe xm (.slice iA il.length ic)) 139)) wr.heap.size 83 #[.int .i64 xe, .int .i64 xm, .slice iA il.length ic] := (Blk.new _ _ _).alloc _
      have hB4 := hXB.grown hg4 (own_ne_blk ((HOV.out.alloc _).alloc _) hXB (by decide))
      have k0 : w4.cell? ⟨wr.heap.size, 0, none⟩ = some (.int .i64 xe) := hB4.cell 0
      have k1 : w4.cell? ⟨wr.heap.size, 1, none⟩ = some (.int .i64 xm) := hB4.cell 1
      have k2 : w4.cell? ⟨wr.heap.size, 2, none⟩ = some (.slice iA il.length ic) := hB4.cell 2
      have HO4 := Lib.hid ho4
      have HO5 := Lib.hid ho5
      have hz4 := hb4.size
      clear hg4 hb3 ho4 ho5 hB4
      go_wp2_with (at_builtin; refine wpList_append_rec ConR.cells 13 ConR.len ConR.one rfl (.tmp 24) (.tmp 32) 63 rfl w.heap.size 145 j0 (.agg zeroCon) 200 Try.underlying63 hj hy0 hy1 hy2 rfl (by decide) _ (l.take k) rfl (HO5.out.alloc _) w4.heap.size 1 ⟨xe, xm, ⟨il, iA, ic⟩⟩ (conCs xe xm (.slice iA il.length ic)) rfl (Blk.new w4 _ _) rfl (by simp only [maxLen]; omega) (by omega) (by simp; omega) ?_)
      intro v6 w6 ho6 hg6
      have hb6 := bel_own (hb4.alloc hz4 _) (by simp; omega) (HO5.out.alloc _) hg6
      have ho7 := own_apart (HO4.out.alloc _) (HO5.out.alloc _) (by decide) hg6
      have HO6 := Lib.hid ho6
      have HO7 := Lib.hid ho7
      clear hg6 k0 k1 k2 ho6 ho7
      go_wp2_with fail
      go_roundw
      case rel => exact ⟨k + 1, by omega, by go_num, by rw [HLK.out, HT.out]; exact HO7.out, by rw [HLK.out, HT.out]; exact HO6.out, hb6⟩
      case measure => simp [intOf]; omega
    · have HE : Hid (l.take k = l) := Lib.hid (List.take_of_length_le (by omega))
      rw [HE.out] at ho ho5
      go_wp2_with fail
      go_ret2
      exact ⟨_, _, rfl, ho, ho5, hb⟩
end Go.Proofs.Ytnkmjdaeafeaaaa
/- The law's own 'awake' for dividends. -/
namespace Go.Proofs.Ytnkmjdaeafeaaaa
set_option linter.unusedVariables false
set_option linter.unusedSimpArgs false
open Go.RowKit

/-- books that hold a group alone -/
def bkOf (gcs : Array Value) : Array Value := (gcs.toList ++ ([.slice none 0 0, .slice none 0 0, .slice none 0 0, .slice none 0 0, .slice none 0 0, .string ⟨#[]⟩] : List Value)).toArray
theorem bkOf_is {gcs : Array Value} (h : gcs.size = 21) : BkIs (bkOf gcs) gcs := by
  refine ⟨?_, h, fun j hj => ?_⟩
  · simp [bkOf, h]
  · have : j < gcs.toList.length := by rw [Array.length_toList, h]; exact hj
    unfold bkOf
    rw [List.getElem?_toArray, List.getElem?_append_left this, Array.getElem?_toList]
theorem bkOf_built {gcs : Array Value} {cur : ByteArray} {y m p : Int} {cl : List Acc} {cA : Option Addr} {cc : Nat} {ro : RolesR} {el : List EntR} {eA : Option Addr} {ec : Nat} (HG : gcs = #[.string cur, .int .i64 y, .int .i64 m, .int .i64 p, .slice cA cl.length cc, .int .i64 ro.investment, .int .i64 ro.goodwill, .int .i64 ro.associates, .int .i64 ro.inventory, .int .i64 ro.reserve, .int .i64 ro.minority, .int .i64 ro.retained, .int .i64 ro.acquired, .int .i64 ro.owners, .int .i64 ro.disposal, .int .i64 ro.associateProfit, .int .i64 ro.dividends, .int .i64 ro.minorityProfit, .int .i64 ro.difference, .int .i64 ro.margin, .slice eA el.length ec]) :
    (Try.prog).built 72 [(0, .agg gcs)] = some (bkOf gcs) := by
  rw [HG]
  kernel_rfl
theorem gsize21 {gcs : Array Value} {cur : ByteArray} {y m p : Int} {cl : List Acc} {cA : Option Addr} {cc : Nat} {ro : RolesR} {el : List EntR} {eA : Option Addr} {ec : Nat} (HG : gcs = #[.string cur, .int .i64 y, .int .i64 m, .int .i64 p, .slice cA cl.length cc, .int .i64 ro.investment, .int .i64 ro.goodwill, .int .i64 ro.associates, .int .i64 ro.inventory, .int .i64 ro.reserve, .int .i64 ro.minority, .int .i64 ro.retained, .int .i64 ro.acquired, .int .i64 ro.owners, .int .i64 ro.disposal, .int .i64 ro.associateProfit, .int .i64 ro.dividends, .int .i64 ro.minorityProfit, .int .i64 ro.difference, .int .i64 ro.margin, .slice eA el.length ec]) : gcs.size = 21 := by rw [HG]; rfl
def awkI : List ItemR := [⟨⟨0, 0⟩, 0, 4700, 1, 0, -30⟩]
def awk (g : Nat) : List ConR := [⟨0, 3, ⟨awkI, some ⟨g, 0, none⟩, 1⟩⟩, ⟨1, 3, ⟨[], none, 0⟩⟩]
def awkP : List Bal := [⟨4700, 30⟩, ⟨3300, -30⟩]
def awkL : List Bal := [⟨3300, -30⟩, ⟨4700, 30⟩]
theorem awk_of (c : Int) : ofW awkP c = if c = 4700 then 30 else if c = 3300 then -30 else 0 := by
  rw [ofW_eq' (M := 30) awkP c (by unfold within awkP; decide) (by decide) (by decide)]
  unfold ofV awkP
  by_cases h1 : c = 4700
  · subst h1; decide
  by_cases h2 : c = 3300
  · subst h2; decide
  rw [if_neg h1, if_neg h2]
  simp only [sm_cons, sm_nil]
  rw [if_neg (fun e => h1 e.symm), if_neg (fun e => h2 e.symm)]
  rfl
theorem awk_is : IsC (ofW awkP) awkL := by
  refine ⟨by decide, fun x => ?_⟩
  rw [awk_of]
  obtain ⟨a, n⟩ := x
  simp only [awkL, List.mem_cons, List.not_mem_nil, or_false, Bal.mk.injEq]
  by_cases h1 : a = 4700
  · subst h1; simp; omega
  by_cases h2 : a = 3300
  · subst h2; simp; omega
  simp [h1, h2]
  omega
theorem awk_am (c : Int) : amV (ofW awkP c) = true := by
  rw [awk_of]
  by_cases h1 : c = 4700
  · rw [if_pos h1]; decide
  by_cases h2 : c = 3300
  · rw [if_neg h1, if_pos h2]; decide
  · rw [if_neg h1, if_neg h2]; decide
theorem awk_cln : clnL awkP = awkL ∧ clnE awkP = 0 := by
  obtain ⟨h1, h2⟩ := cln_is (m := awkP) (L := awkL) (E := 0) (.inl ⟨rfl, awk_is, awk_am⟩)
  exact ⟨h1.symm, h2.symm⟩
theorem awk_parts (g : Nat) : Dv.parts 4700 3300 (Dv.rec 4700 (awk g) 1 0) = awkP := by kernel_rfl
theorem awk_e (g : Nat) : Dv.pE true 0 36 4 4700 3300 (awk g) 1 0 = 0 := by
  unfold Dv.pE
  rw [if_pos (by decide), if_pos (by decide), if_pos (by kernel_rfl), awk_parts, awk_cln.2]
theorem awk_l (g : Nat) : Dv.pL true 0 36 4 4700 3300 (awk g) 1 0 = awkL := by
  unfold Dv.pL
  rw [if_pos ⟨by decide, by decide, by kernel_rfl⟩, awk_parts, awk_cln.1]
theorem awk_in (w : World) : OIn ((w.alloc (.cells #[.int .i64 0, .int .i64 0, .int .i64 0, .int .i64 4700, .int .i64 1, .int .i64 0, .int .i64 (-30)] 87)).alloc (.cells #[.int .i64 0, .int .i64 3, .slice (some ⟨w.heap.size, 0, none⟩) 1 1, .int .i64 1, .int .i64 3, .slice none 0 0] 83)) (awk w.heap.size) (some ⟨w.heap.size + 1, 0, none⟩) := by
  refine ⟨Rd.of_blk (blk_new2 w _ _ _) rfl rfl, fun x hx => ?_, by show 2 ≤ maxLen; unfold maxLen; decide⟩
  simp only [awk, List.mem_cons, List.not_mem_nil, or_false] at hx
  rcases hx with rfl | rfl
  · exact ⟨Rd.of_blk ((Blk.new w 87 _).alloc _) rfl rfl, by show 1 ≤ maxLen; unfold maxLen; decide⟩
  · exact ⟨Rd.none_, by unfold maxLen; decide⟩
theorem own_cin {w : World} {base : Nat} {T : TypeId} {A : Option Addr} {n c : Nat} {l : List ConR} (h : w.ownsRow base T 13 (.slice A n c) l.length (cellsOf ConR.cells l)) (hi : ∀ x ∈ l, Rd w w.heap.size 7 x.items.A x.items.l.length (cellsOf ItemR.cells x.items.l)) (hf : ∀ x ∈ l, x.items.l.length ≤ 1000) (hl : l.length ≤ 1000) : n = l.length ∧ CIn w l A := by
  obtain ⟨A', c', e, hr⟩ := Rd.of_own h
  injection e with e1 e2 e3
  subst e1 e2 e3
  exact ⟨rfl, hr, hi, hf, hl⟩
theorem wf_sam : Wf Sam.ro.dividends ∧ Wf Sam.ro.retained := ⟨by decide, by decide⟩
theorem ent_len (s1 s2 s3 s4 : Sl Acc) (r1 r2 r3 r4 : Sl LinkR) : (Sam.ents s1 s2 s3 s4 r1 r2 r3 r4).length ≤ 1000 := by show 4 ≤ 1000; omega
theorem sampost_any (g : Nat) (gcs : Array Value) (cA : Option Addr) (cc : Nat) (s1 s2 s3 s4 : Sl Acc) (r1 r2 r3 r4 : Sl LinkR) (eA : Option Addr) (ec : Nat) (w : World) (hg : gcs = gcells Sam.eur 2026 1 36 Sam.chart cA cc Sam.ro (Sam.ents s1 s2 s3 s4 r1 r2 r3 r4) eA ec)
    (hG : GIn w Sam.chart cA (Sam.ents s1 s2 s3 s4 r1 r2 r3 r4) eA) (A : Option Addr) (c : Nat) (hC : CIn w (awk g) A) :
    Calls Try.prog 27 #[.agg (bkOf gcs), .slice A 2 c, .int .i64 1, .int .i64 0, .int .i64 0] w (PPost 129 9 1 0 awkL 0 w) := by
  have := dposting_any gcs Sam.eur 2026 1 36 Sam.chart cA cc Sam.ro (Sam.ents s1 s2 s3 s4 r1 r2 r3 r4) eA ec w (bkOf gcs) (awk g) 1 0 0 A c (Lib.hid hg) (bkOf_is (gsize21 hg)) hG (Sam.small s1 s2 s3 s4 r1 r2 r3 r4) (ent_len s1 s2 s3 s4 r1 r2 r3 r4) hC wf_sam.1 wf_sam.2
  rw [Sam.good] at this
  have e1 : Dv.pL true 0 36 (Sam.ents s1 s2 s3 s4 r1 r2 r3 r4).length Sam.ro.dividends Sam.ro.retained (awk g) 1 0 = awkL := awk_l g
  have e2 : Dv.pE true 0 36 (Sam.ents s1 s2 s3 s4 r1 r2 r3 r4).length Sam.ro.dividends Sam.ro.retained (awk g) 1 0 = 0 := awk_e g
  rw [e1, e2] at this
  exact this
theorem awk_pins (w : World) (xA : Option Addr) (xc : Nat) (h : Rd w w.heap.size 2 xA awkL.length (cellsOf Bal.cells awkL)) :
    PIn ((((w.alloc (.cells #[.int .i64 9, .int .i64 1, .int .i64 0, .int .i64 0, .slice xA awkL.length xc] 55)).alloc (.cells #[.int .i64 9, .int .i64 1, .int .i64 0, .int .i64 0, .slice xA awkL.length xc] 55)).alloc (.cells #[.int .i64 3300, .int .i64 (-30), .int .i64 4700, .int .i64 30] 129)).alloc (.cells #[.int .i64 9, .int .i64 1, .int .i64 0, .int .i64 0, .slice (some ⟨w.heap.size + 1 + 1, 0, none⟩) 2 2] 55)) [⟨9, 1, 0, 0, ⟨awkL, xA, xc⟩⟩] (some ⟨w.heap.size + 1, 0, none⟩) ∧ PIn ((((w.alloc (.cells #[.int .i64 9, .int .i64 1, .int .i64 0, .int .i64 0, .slice xA awkL.length xc] 55)).alloc (.cells #[.int .i64 9, .int .i64 1, .int .i64 0, .int .i64 0, .slice xA awkL.length xc] 55)).alloc (.cells #[.int .i64 3300, .int .i64 (-30), .int .i64 4700, .int .i64 30] 129)).alloc (.cells #[.int .i64 9, .int .i64 1, .int .i64 0, .int .i64 0, .slice (some ⟨w.heap.size + 1 + 1, 0, none⟩) 2 2] 55)) [⟨9, 1, 0, 0, ⟨awkL, some ⟨w.heap.size + 1 + 1, 0, none⟩, 2⟩⟩] (some ⟨w.heap.size + 1 + 1 + 1, 0, none⟩) := by
  refine ⟨⟨Rd.of_blk (((Blk.newAt (by simp)).alloc _).alloc _) rfl rfl, fun x hx => ?_, fun x hx => ?_, by show 1 ≤ 1000000; omega⟩, ⟨Rd.of_blk (Blk.newAt (by simp)) rfl rfl, fun x hx => ?_, fun x hx => ?_, by show 1 ≤ 1000000; omega⟩⟩
  · simp only [List.mem_cons, List.not_mem_nil, or_false] at hx
    subst hx
    exact Rd.now h (((((Below.refl _ _).alloc (Nat.le_refl _) _).alloc (by simp) _).alloc (by simp; omega) _).alloc (by simp; omega) _)
  · simp only [List.mem_cons, List.not_mem_nil, or_false] at hx
    subst hx
    show 2 ≤ 1000000; omega
  · simp only [List.mem_cons, List.not_mem_nil, or_false] at hx
    subst hx
    exact Rd.of_blk ((Blk.newAt (by simp)).alloc _) rfl rfl
  · simp only [List.mem_cons, List.not_mem_nil, or_false] at hx
    subst hx
    show 2 ≤ 1000000; omega
set_option maxRecDepth 100000 in
set_option maxHeartbeats 8000000 in
theorem div_awake (w : World) : Calls Try.prog 24 #[] w (BoolPost true w) := by
  have hb : Below w.heap.size w ((w.alloc (.cells #[.int .i64 0, .int .i64 0, .int .i64 0, .int .i64 4700, .int .i64 1, .int .i64 0, .int .i64 (-30)] 87)).alloc (.cells #[.int .i64 0, .int .i64 3, .slice (some ⟨w.heap.size, 0, none⟩) 1 1, .int .i64 1, .int .i64 3, .slice none 0 0] 83)) := ((Below.refl _ _).alloc (Nat.le_refl _) _).alloc (by simp) _
  have HIN := Lib.hid (awk_in w)
  have HLT : w.heap.size < ((w.alloc (.cells #[.int .i64 0, .int .i64 0, .int .i64 0, .int .i64 4700, .int .i64 1, .int .i64 0, .int .i64 (-30)] 87)).alloc (.cells #[.int .i64 0, .int .i64 3, .slice (some ⟨w.heap.size, 0, none⟩) 1 1, .int .i64 1, .int .i64 3, .slice none 0 0] 83)).heap.size := by simp; omega
  go_enter Try.func24, Try.ntmps24
  go_wp2_with fail
  generalize (w.alloc (.cells #[.int .i64 0, .int .i64 0, .int .i64 0, .int .i64 4700, .int .i64 1, .int .i64 0, .int .i64 (-30)] 87)).alloc (.cells #[.int .i64 0, .int .i64 3, .slice (some ⟨w.heap.size, 0, none⟩) 1 1, .int .i64 1, .int .i64 3, .slice none 0 0] 83) = W at *
  refine (both_any (awk w.heap.size) (some ⟨w.heap.size + 1, 0, none⟩) 2 W HIN.out (by show 2 ≤ 1000; omega)).mono ?_
  rintro en w3 ⟨v, u, rfl, hv, hu, hb9⟩
  obtain ⟨A, n, c, hvv⟩ := own_shape hv
  subst hvv
  obtain ⟨hn, hC⟩ := own_cin hv (fun x hx => Rd.now (HIN.out.it x hx).1 hb9) (fun x hx => by
    simp only [awk, List.mem_cons, List.not_mem_nil, or_false] at hx
    rcases hx with rfl | rfl
    · show 1 ≤ 1000; omega
    · show 0 ≤ 1000; omega) (by show 2 ≤ 1000; omega)
  have hn2 : n = 2 := hn
  clear hn
  subst hn2
  have HC := Lib.hid hC
  replace hb := bel hb hb9
  clear hv hu hb9 hC
  go_wp2_with fail
  refine (sample_any w3).mono ?_
  rintro en w4 ⟨gcs, cA, cc, s1, s2, s3, s4, r1, r2, r3, r4, eA, ec, rfl, hg, hG, hb9⟩
  have HBT := Lib.hid (bkOf_built hg)
  have K := Lib.hid (sampost_any w.heap.size gcs cA cc s1 s2 s3 s4 r1 r2 r3 r4 eA ec w4 hg hG A c (HC.out.step hb9))
  replace hb := bel hb hb9
  clear hg hG hb9
  go_upto_region 3 with (first
    | (refine wpList_builtV rfl 16 rfl 72 _ rfl (bkOf gcs) [(0, .agg gcs)] (by kernel_rfl) HBT.out ?_)
    | (go_at_call 27; refine K.out.mono ?_; rintro en w5 ⟨x, rfl, hI, hOw, hb9⟩; replace hb := bel hb hb9; obtain ⟨xk, xe, xo, xr, ⟨xl, xA, xc⟩⟩ := x; obtain ⟨h1, h2, h3⟩ := hI; dsimp only at h1 h2 h3; obtain ⟨h3, -⟩ | ⟨-, h4, h5, h6⟩ := h3; · exact absurd h3 (by decide)
       subst h1 h2 h4 h5 h6; have hrx := own_rd hOw; have HRX := Lib.hid hrx; simp only [PostR.arr, Sl.val]; clear hb9 hOw hrx K))
  have KP := Lib.hid (awk_pins w5 xA xc HRX.out)
  go_wp2_with (go_at_call 29; refine (samep_yes [⟨9, 1, 0, 0, ⟨awkL, xA, xc⟩⟩] [⟨9, 1, 0, 0, ⟨awkL, some ⟨w5.heap.size + 1 + 1, 0, none⟩, 2⟩⟩] (some ⟨w5.heap.size + 1, 0, none⟩) (some ⟨w5.heap.size + 1 + 1 + 1, 0, none⟩) 1 1 _ KP.out.1 KP.out.2 rfl (fun k h1 h2 => by
    have : k = 0 := by have h3 : k < 1 := h1; omega
    subst this
    exact ⟨rfl, rfl, rfl, rfl, rfl⟩)).mono ?_; rintro en w6 ⟨rfl, hb9⟩; replace hb := bel' (w := w) hb9 ((((hb.alloc hb.size _).alloc (by have := hb.size; simp; omega) _).alloc (by have := hb.size; simp; omega) _).alloc (by have := hb.size; simp; omega) _); clear hb9)
  go_ret
  exact ⟨rfl, hb⟩
end Go.Proofs.Ytnkmjdaeafeaaaa
