/- Texts of this claim, put together. -/
import Derived.Test.YthfbpbbepogllaaGreatJAW
import Derived.Test.YthfbpbbepogllaaGreatJAB
/- The walks of inventory's check and of its reference. -/
namespace Go.Proofs.YthfbpbbepogllaaGreat
set_option linter.unusedVariables false
set_option linter.unusedSimpArgs false
open Go.RowKit

section
variable (gcs : Array Value) (cur : ByteArray) (y m p : Int) (cl : List Acc) (cA : Option Addr) (cc : Nat) (ro : RolesR) (el : List EntR) (eA : Option Addr) (ec : Nat) (w : World)
set_option maxRecDepth 100000 in
set_option maxHeartbeats 4000000 in
theorem icheck_any (l : List StkR) (A : Option Addr) (lc : Nat) (q : Int) (HG : Hid (gcs = #[.string cur, .int .i64 y, .int .i64 m, .int .i64 p, .slice cA cl.length cc, .int .i64 ro.investment, .int .i64 ro.goodwill, .int .i64 ro.associates, .int .i64 ro.inventory, .int .i64 ro.reserve, .int .i64 ro.minority, .int .i64 ro.retained, .int .i64 ro.acquired, .int .i64 ro.owners, .int .i64 ro.disposal, .int .i64 ro.associateProfit, .int .i64 ro.dividends, .int .i64 ro.minorityProfit, .int .i64 ro.difference, .int .i64 ro.margin, .slice eA el.length ec])) (h : GIn w cl cA el eA) (hF : FewOk cur cl el) (hS : SIn w l A) :
    Calls Tryz.prog 35 #[.agg gcs, .slice A l.length lc, .int .i64 q] w (IntPost (Dv.ck (Iv.val (Gr.gv cur cl ro el (Cal.ok y m p)) p el.length l) q p) w) := by
  have hgi : (Tryz.prog.info? 29).map (·.size) = some gcs.size := by rw [HG.out]; exact grp_size
  have hb : Below w.heap.size w (w.alloc (.cells gcs 29)) := (Below.refl _ _).alloc (Nat.le_refl _) _
  have HB := Lib.hid (Blk.new w 29 gcs)
  have KV := Lib.hid (ivalid_any gcs cur y m p cl cA cc ro el eA ec (w.alloc (.cells gcs 29)) l A lc HG (h.step hb) hF (hS.step hb))
  clear h hF hS
  unfold IntPost
  have HCK : Hid (Dv.ck (Iv.val (Gr.gv cur cl ro el (Cal.ok y m p)) p el.length l) q p = if Iv.val (Gr.gv cur cl ro el (Cal.ok y m p)) p el.length l = true then (if 0 ≤ q ∧ q < p then 0 else 2) else 1) := Lib.hid rfl
  generalize Dv.ck (Iv.val (Gr.gv cur cl ro el (Cal.ok y m p)) p el.length l) q p = ck at *
  generalize Iv.val (Gr.gv cur cl ro el (Cal.ok y m p)) p el.length l = V at *
  cases V
  · have HE : Hid (ck = 1) := Lib.hid HCK.out
    clear HCK
    go_enter Tryz.func35, Tryz.ntmps35
    go_wp2_with (first
      | (refine wpList_load_blk 29 (.tmp 3) rfl (w.heap.size) rfl (by kernel_rfl) (HB).out Tryz.underlying29 hgi ?_)
      | (go_at_call 21; refine KV.out.mono ?_; rintro en w2 ⟨rfl, hb9⟩; replace hb := bel hb hb9; clear hb9))
    go_ret
    exact ⟨by rw [HE.out]; first | done | rfl, hb⟩
  · by_cases h0 : q < 0
    · have HE : Hid (ck = 2) := Lib.hid (by rw [HCK.out, if_pos rfl, if_neg (by omega)])
      clear HCK
      go_enter Tryz.func35, Tryz.ntmps35
      go_wp2_with (first
        | (refine wpList_load_blk 29 (.tmp 3) rfl (w.heap.size) rfl (by kernel_rfl) (HB).out Tryz.underlying29 hgi ?_)
        | (go_at_call 21; refine KV.out.mono ?_; rintro en w2 ⟨rfl, hb9⟩; replace hb := bel hb hb9; clear hb9))
      go_ret
      exact ⟨by rw [HE.out]; first | done | rfl, hb⟩
    · by_cases h1 : q < p
      · have HE : Hid (ck = 0) := Lib.hid (by rw [HCK.out, if_pos rfl, if_pos (by omega)])
        clear HCK
        go_enter Tryz.func35, Tryz.ntmps35
        go_wp2_with (first
          | (refine wpList_load_blk 29 (.tmp 3) rfl (w.heap.size) rfl (by kernel_rfl) (HB).out Tryz.underlying29 hgi ?_)
          | (go_at_call 21; refine KV.out.mono ?_; rintro en w2 ⟨rfl, hb9⟩; replace hb := bel hb hb9; have k3 : w2.cell? ⟨w.heap.size, 3, none⟩ = some (.int .i64 p) := ((HB.out.step hb9).cell 3).trans (by rw [HG.out]; rfl); clear hb9))
        go_ret
        exact ⟨by rw [HE.out]; first | done | rfl, hb⟩
      · have h1' : p ≤ q := by omega
        have HE : Hid (ck = 2) := Lib.hid (by rw [HCK.out, if_pos rfl, if_neg (by omega)])
        clear HCK
        go_enter Tryz.func35, Tryz.ntmps35
        go_wp2_with (first
          | (refine wpList_load_blk 29 (.tmp 3) rfl (w.heap.size) rfl (by kernel_rfl) (HB).out Tryz.underlying29 hgi ?_)
          | (go_at_call 21; refine KV.out.mono ?_; rintro en w2 ⟨rfl, hb9⟩; replace hb := bel hb hb9; have k3 : w2.cell? ⟨w.heap.size, 3, none⟩ = some (.int .i64 p) := ((HB.out.step hb9).cell 3).trans (by rw [HG.out]; rfl); clear hb9))
        go_ret
        exact ⟨by rw [HE.out]; first | done | rfl, hb⟩
set_option maxRecDepth 100000 in
set_option maxHeartbeats 4000000 in
theorem richeck_any (l : List StkR) (A : Option Addr) (lc : Nat) (q : Int) (HG : Hid (gcs = #[.string cur, .int .i64 y, .int .i64 m, .int .i64 p, .slice cA cl.length cc, .int .i64 ro.investment, .int .i64 ro.goodwill, .int .i64 ro.associates, .int .i64 ro.inventory, .int .i64 ro.reserve, .int .i64 ro.minority, .int .i64 ro.retained, .int .i64 ro.acquired, .int .i64 ro.owners, .int .i64 ro.disposal, .int .i64 ro.associateProfit, .int .i64 ro.dividends, .int .i64 ro.minorityProfit, .int .i64 ro.difference, .int .i64 ro.margin, .slice eA el.length ec])) (h : GIn w cl cA el eA) (hF : FewOk cur cl el) (hS : SIn w l A) :
    Calls Tryz.prog 41 #[.agg gcs, .slice A l.length lc, .int .i64 q] w (IntPost (Dv.ck (Iv.val (Gr.gv cur cl ro el (Cal.ok y m p)) p el.length l) q p) w) := by
  have hgi : (Tryz.prog.info? 29).map (·.size) = some gcs.size := by rw [HG.out]; exact grp_size
  have hb : Below w.heap.size w (w.alloc (.cells gcs 29)) := (Below.refl _ _).alloc (Nat.le_refl _) _
  have HB := Lib.hid (Blk.new w 29 gcs)
  have KV := Lib.hid (rivalid_any gcs cur y m p cl cA cc ro el eA ec (w.alloc (.cells gcs 29)) l A lc HG (h.step hb) hF (hS.step hb))
  clear h hF hS
  unfold IntPost
  have HCK : Hid (Dv.ck (Iv.val (Gr.gv cur cl ro el (Cal.ok y m p)) p el.length l) q p = if Iv.val (Gr.gv cur cl ro el (Cal.ok y m p)) p el.length l = true then (if 0 ≤ q ∧ q < p then 0 else 2) else 1) := Lib.hid rfl
  generalize Dv.ck (Iv.val (Gr.gv cur cl ro el (Cal.ok y m p)) p el.length l) q p = ck at *
  generalize Iv.val (Gr.gv cur cl ro el (Cal.ok y m p)) p el.length l = V at *
  cases V
  · have HE : Hid (ck = 1) := Lib.hid HCK.out
    clear HCK
    go_enter Tryz.func41, Tryz.ntmps41
    go_wp2_with (first
      | (refine wpList_load_blk 29 (.tmp 3) rfl (w.heap.size) rfl (by kernel_rfl) (HB).out Tryz.underlying29 hgi ?_)
      | (go_at_call 16; refine KV.out.mono ?_; rintro en w2 ⟨rfl, hb9⟩; replace hb := bel hb hb9; clear hb9))
    go_ret
    exact ⟨by rw [HE.out]; first | done | rfl, hb⟩
  · by_cases h0 : q < 0
    · have HE : Hid (ck = 2) := Lib.hid (by rw [HCK.out, if_pos rfl, if_neg (by omega)])
      clear HCK
      go_enter Tryz.func41, Tryz.ntmps41
      go_wp2_with (first
        | (refine wpList_load_blk 29 (.tmp 3) rfl (w.heap.size) rfl (by kernel_rfl) (HB).out Tryz.underlying29 hgi ?_)
        | (go_at_call 16; refine KV.out.mono ?_; rintro en w2 ⟨rfl, hb9⟩; replace hb := bel hb hb9; clear hb9))
      go_ret
      exact ⟨by rw [HE.out]; first | done | rfl, hb⟩
    · by_cases h1 : q < p
      · have HE : Hid (ck = 0) := Lib.hid (by rw [HCK.out, if_pos rfl, if_pos (by omega)])
        clear HCK
        go_enter Tryz.func41, Tryz.ntmps41
        go_wp2_with (first
          | (refine wpList_load_blk 29 (.tmp 3) rfl (w.heap.size) rfl (by kernel_rfl) (HB).out Tryz.underlying29 hgi ?_)
          | (go_at_call 16; refine KV.out.mono ?_; rintro en w2 ⟨rfl, hb9⟩; replace hb := bel hb hb9; have k3 : w2.cell? ⟨w.heap.size, 3, none⟩ = some (.int .i64 p) := ((HB.out.step hb9).cell 3).trans (by rw [HG.out]; rfl); clear hb9))
        go_ret
        exact ⟨by rw [HE.out]; first | done | rfl, hb⟩
      · have h1' : p ≤ q := by omega
        have HE : Hid (ck = 2) := Lib.hid (by rw [HCK.out, if_pos rfl, if_neg (by omega)])
        clear HCK
        go_enter Tryz.func41, Tryz.ntmps41
        go_wp2_with (first
          | (refine wpList_load_blk 29 (.tmp 3) rfl (w.heap.size) rfl (by kernel_rfl) (HB).out Tryz.underlying29 hgi ?_)
          | (go_at_call 16; refine KV.out.mono ?_; rintro en w2 ⟨rfl, hb9⟩; replace hb := bel hb hb9; have k3 : w2.cell? ⟨w.heap.size, 3, none⟩ = some (.int .i64 p) := ((HB.out.step hb9).cell 3).trans (by rw [HG.out]; rfl); clear hb9))
        go_ret
        exact ⟨by rw [HE.out]; first | done | rfl, hb⟩
end
end Go.Proofs.YthfbpbbepogllaaGreat
/- The walk of the reference's profit. -/
namespace Go.Proofs.YthfbpbbepogllaaGreat
set_option linter.unusedVariables false
set_option linter.unusedSimpArgs false
open Go.RowKit

section
variable (p : Int) (w : World)
set_option maxRecDepth 100000 in
set_option maxHeartbeats 8000000 in
theorem riprofit_any (l : List StkR) (A : Option Addr) (lc : Nat) (s b q : Int) (n : Nat) (hS : SIn w l A) (hok : l.all (Iv.ok p n) = true) (hn : l.length ≤ 200) :
    Calls Tryz.prog 44 #[.slice A l.length lc, .int .i64 s, .int .i64 b, .int .i64 q] w (IntPost (Iv.sum s b q l) w) := by
  unfold IntPost
  have HS := Lib.hid hS
  have HOK := Lib.hid hok
  clear hS hok
  go_enter Tryz.func44, Tryz.ntmps44
  go_wp2_with fail
  go_loopw [9, 10] (fun u t wr => ∃ k : Nat, k ≤ l.length ∧ u = .int .i64 (Iv.sum s b q (l.take k)) ∧ t = .int .i64 k ∧ Below w.heap.size w wr) (fun _ t _ => l.length - (intOf t).toNat)
  case atStart => exact ⟨0, by omega, rfl, rfl, Below.refl _ _⟩
  case round =>
    obtain ⟨k, hk, rfl, rfl, hb⟩ := hrel
    by_cases hlt : k < l.length
    · obtain ⟨b0, o, hA, hbo, f0, f1, f2, f3, f4⟩ := StkR.at_ (Rd.now HS.out.rd hb) hlt
      subst hA
      have HT := Lib.hid (iv_sum_take s b q l k hlt)
      have hox : Iv.ok p n l[k] = true := List.all_eq_true.1 HOK.out _ (List.getElem_mem hlt)
      obtain ⟨m0, m1⟩ := iv_mul hox
      obtain ⟨s0, s1⟩ := iv_sum_in (p := p) (n := n) s b q (l.take k) (List.all_eq_true.2 fun x hx => List.all_eq_true.1 HOK.out x (List.mem_of_mem_take hx))
      have hlk : (l.take k).length ≤ 200 := by rw [List.length_take]; omega
      obtain ⟨o0, o1⟩ := iv_one hox
      have KR := Lib.hid (fun W => rnd_rany (l[k].amount * l[k].margin) W m0 (by omega))
      unfold RndPost at KR
      have hH : Hid (∀ x : StkR, Iv.hit s b q x = (x.period == q && (x.seller == s && x.buyer == b))) := Lib.hid (fun _ => rfl)
      have HO1 : Hid (Iv.one l[k] = rndV (l[k].amount * l[k].margin)) := Lib.hid rfl
      generalize hS1 : Iv.sum s b q (l.take (k + 1)) = S1 at *
      have HS1 := Lib.hid hS1
      clear hS1
      generalize Iv.sum s b q (l.take k) = S0 at *
      rw [HO1.out] at o0 o1 HT
      clear HO1
      rw [hH.out] at HT
      clear hox hH
      generalize l[k] = x at *
      obtain ⟨e, xs, xb, am, mg⟩ := x
      dsimp only at *
      generalize rndV (am * mg) = r at *
      have hS0 : S0 ≤ 200000000000000 := by omega
      clear s1 hlk
      have q3 : ∀ d : Later wr, d.now.cell? ⟨b0, o + k * 5 + 3, none⟩ = some (.int .i64 am) := fun d => d.cell hbo f3
      have q4 : ∀ d : Later wr, d.now.cell? ⟨b0, o + k * 5 + 4, none⟩ = some (.int .i64 mg) := fun d => d.cell hbo f4
      clear f3 f4
      cases c1 : (e == q)
      · have HE : Hid (S1 = S0) := Lib.hid (by rw [HT.out, c1]; simp)
        go_wp2_with fail
        go_roundw
        case rel => exact ⟨k + 1, by omega, by rw [HS1.out, HE.out], by go_num, hb⟩
        case measure => simp [intOf]; omega
      cases c2 : (xs == s)
      · have HE : Hid (S1 = S0) := Lib.hid (by rw [HT.out, c2]; simp)
        go_wp2_with fail
        go_roundw
        case rel => exact ⟨k + 1, by omega, by rw [HS1.out, HE.out], by go_num, hb⟩
        case measure => simp [intOf]; omega
      cases c3 : (xb == b)
      · have HE : Hid (S1 = S0) := Lib.hid (by rw [HT.out, c3]; simp)
        go_wp2_with fail
        go_roundw
        case rel => exact ⟨k + 1, by omega, by rw [HS1.out, HE.out], by go_num, hb⟩
        case measure => simp [intOf]; omega
      have HE : Hid (S1 = S0 + r) := Lib.hid (by rw [HT.out, c1, c2, c3]; simp)
      clear HT
      have hm : IntKind.i64.wrap (am * mg) = am * mg := IntWalk.i64_in _ (by omega)
      have hx0 : 0 ≤ S0 + r := by omega
      have hx1 : S0 + r ≤ 300000000000000 := by omega
      go_wp2_with fail
      refine wp_region_later (by kernel_rfl) (by kernel_rfl) ?_
      (repeat (go_big_quiet_step ((fail)))); go_big_quiet_step ((go_at_call 77; exact Later.call _ (KR.out _)))
      (repeat (go_big_quiet_step ((fail)))); refine wpQuiet_nil ?_; rintro _ ⟨dq, rfl⟩
      have hbe := bel hb dq.below
      go_wp2_with fail
      go_roundw
      case rel => exact ⟨k + 1, by omega, by rw [HS1.out, HE.out], by go_num, hbe⟩
      case measure => simp [intOf]; omega
    · have he : k = l.length := by omega
      have HE : Hid (Iv.sum s b q (l.take k) = Iv.sum s b q l) := Lib.hid (by rw [List.take_of_length_le (by omega)])
      rw [HE.out]
      clear he
      go_wp2_with fail
      go_ret
      exact ⟨rfl, hb⟩
end
end Go.Proofs.YthfbpbbepogllaaGreat
/- A region that draws its order and ends in a store: operations that read are taken first, if the store (operation number t) waits for them; blocks below B stay, but for that store. Over any program. -/
namespace Go.Proofs.YthfbpbbepogllaaGreat
set_option linter.unusedVariables false
set_option linter.unusedSimpArgs false
open Go.RowKit

/-- a world in which all below B is as it was -/
structure LaterB (B : Nat) (w : World) where
  now : World
  below : Below B w now
instance instLaterB (B : Nat) (w : World) : Nonempty (LaterB B w) := ⟨⟨w, Below.refl _ _⟩⟩
theorem LaterB.cell {B : Nat} {w : World} (d : LaterB B w) {b o : Nat} {v : Value} (hb : b < B) (h : w.cell? ⟨b, o, none⟩ = some v) : d.now.cell? ⟨b, o, none⟩ = some v := (d.below.cell (p := ⟨b, o, none⟩) hb).trans h
def NearB (B : Nat) (W w : World) : Prop := ∃ d : LaterB B W, w = d.now
theorem NearB.of {B : Nat} {W w : World} (h : Below B W w) : NearB B W w := ⟨⟨w, h⟩, rfl⟩
theorem NearB.below {B : Nat} {W w : World} (h : NearB B W w) : Below B W w := by obtain ⟨d, rfl⟩ := h; exact d.below
def waitsB (ops : Array Oper) (t i : Nat) : Bool := match ops[t]? with
  | some o => o.after.any fun e => Region.binds .any e && e.on == i
  | none => true
section
variable {P : Program} {ops : Array Oper} {Q : Exit → Act → World → Prop} {S : World → Prop}
def wpAnyT (P : Program) (ops : Array Oper) (Q : Exit → Act → World → Prop) (S : World → Prop) (t : Nat) : Nat → Array Bool → Act → World → Prop
  | 0, listed, a, w => Region.ready .any ops listed = [] ∧ Q .normal a w
  | fuel + 1, listed, a, w =>
    (Region.ready .any ops listed = [] → Q .normal a w) ∧
    ∀ i ∈ Region.ready .any ops listed, wpOp P ops Q i (fun a' w' => (listed.getD t false = true ∨ i = t ∨ S w') ∧ wpAnyT P ops Q S t fuel (listed.setIfInBounds i true) a' w') a w
theorem wpAny_of_tail {t : Nat} : ∀ (fuel : Nat) (listed : Array Bool) (a : Act) (w : World), wpAnyT P ops Q S t fuel listed a w → wpAny P .any ops Q fuel listed a w
  | 0, _, _, _, h => h
  | fuel + 1, _, _, _, h => ⟨h.1, fun i hi => wpOp_mono (fun a' w' h' => wpAny_of_tail fuel _ a' w' h'.2) (h.2 i hi)⟩
theorem getD_false_ne {l : Array Bool} {i t : Nat} (h : i ≠ t) : (l.setIfInBounds i true).getD t false = l.getD t false := by
  simp only [Array.getD_eq_getD_getElem?]
  rw [Array.getElem?_setIfInBounds_ne h]
theorem wpAnyT_first {t i : Nat} {oi : Oper} {v : Value} (hit : i ≠ t) (hwait : waitsB ops t i = true) (hi : ops[i]? = some oi) (hsel : ∀ (j : Nat) (o : Oper) cs b, ops[j]? = some o → o.op ≠ .select cs b)
    (hQ : ∀ c a w, Q (.panic c) (a.put oi.dst v) w → Q (.panic c) a w) :
    ∀ (fuel : Nat) (listed : Array Bool) (a : Act) (w : World), listed.getD t false = false →
      (∀ j oj, ops[j]? = some oj → j ≠ i → listed.getD j true = false → (∀ e ∈ oj.after, Region.binds .any e = true → e.on ≠ i) → oi.apart ops oj = true) →
      i ∈ Region.ready .any ops listed → YieldsIf P ops S oi v a → S w →
      wpAnyT P ops Q S t fuel (listed.setIfInBounds i true) (a.put oi.dst v) w → wpAnyT P ops Q S t (fuel + 1) listed a w := by
  intro fuel
  induction fuel with
  | zero =>
    intro listed a w _ _ hr hy hS H
    refine ⟨fun h => (by rw [h] at hr; cases hr), fun j hj => ?_⟩
    by_cases hji : j = i
    · subst hji; exact hy.wpOp hi hS ⟨.inr (.inr hS), H⟩
    · have := ready_mono hj hji
      rw [H.1] at this
      cases this
  | succ fuel ih =>
    intro listed a w ht hfree hr hy hS H
    refine ⟨fun h => (by rw [h] at hr; cases hr), fun j hj => ?_⟩
    by_cases hji : j = i
    · subst hji; exact hy.wpOp hi hS ⟨.inr (.inr hS), H⟩
    · have h1 := H.2 j (ready_mono hj hji)
      obtain ⟨hjun, oj, hoj, hall⟩ := mem_ready.1 hj
      have hnot : ∀ e ∈ oj.after, Region.binds .any e = true → e.on ≠ i := fun e he hb heq => by
        have h1 := hall e he hb
        have h0 := (mem_ready.1 hr).1
        rw [heq] at h1
        rcases Nat.lt_or_ge i listed.size with h' | h'
        · simp [h'] at h0 h1; rw [h0] at h1; cases h1
        · simp [Array.getElem?_eq_none h'] at h1
      have hjt : j ≠ t := by
        rintro rfl
        unfold waitsB at hwait
        rw [hoj] at hwait
        simp only [Array.any_eq_true, Bool.and_eq_true, beq_iff_eq] at hwait
        obtain ⟨x, hx, hb, he⟩ := hwait
        exact hnot _ (Array.getElem_mem hx) hb he
      have ht1 : (listed.setIfInBounds i true).getD t false = false := by rw [getD_false_ne hit]; exact ht
      have h2 := wpOp_putIf hoj (hfree j oj hoj hji hjun hnot) (fun cs b => hsel i oi cs b hi) (fun cs b => hsel j oj cs b hoj) hQ hy h1
      have hfree' : ∀ k ok, ops[k]? = some ok → k ≠ i → (listed.setIfInBounds j true).getD k true = false →
          (∀ e ∈ ok.after, Region.binds .any e = true → e.on ≠ i) → oi.apart ops ok = true := fun k ok hk hki hun hno => by
        refine hfree k ok hk hki ?_ hno
        by_cases hjk : j = k
        · subst hjk; exact hjun
        · rw [getD_set_ne true hjk] at hun; exact hun
      refine wpOp_mono (fun a' w' h3 => ?_) h2
      have hS' : S w' := by
        rcases h3.2.1 with h | h | h
        · rw [ht1] at h; cases h
        · exact absurd h hjt
        · exact h
      refine ⟨.inr (.inr hS'), ih (listed.setIfInBounds j true) a' w' (by rw [getD_false_ne hjt]; exact ht) hfree' (ready_mono hr (Ne.symm hji)) h3.1 hS' ?_⟩
      rw [Array.setIfInBounds_comm _ _ hji]
      exact h3.2.2
theorem wpAnyT_done {t : Nat} {listed : Array Bool} {a : Act} {w : World} (hr : Region.ready .any ops listed = []) (h : Q .normal a w) : ∀ fuel, wpAnyT P ops Q S t fuel listed a w
  | 0 => ⟨hr, h⟩
  | _ + 1 => ⟨fun _ => h, by rw [hr]; simp⟩
end
section
variable {P : Program} {ops : Array Oper} {Q : Exit → Act → World → Prop} {B t : Nat} {W w : World} {i fuel : Nat} {o : Oper} {a : Act} {listed : Array Bool}
theorem relT_begin {id n : Nat} {l : List Oper} (B t : Nat) (W : World) (hm : P.follows .mixedOrders = true) (hn : l.length = n)
    (h : wpAnyT P l.toArray Q (fun w' => ∃ d : LaterB B W, w' = d.now) t n (Array.replicate n false) a w.drew) : (Code.region id l.toArray true).wp P Q a w := by
  subst hn
  exact wp_region_any hm (wpAny_of_tail _ _ _ _ (by simpa using h))
theorem relT_want {rest : List Oper} (hl : ops.toList.drop i = o :: rest) (hp : plainB o.op = true) (hs : Region.noSelect ops = true) (hf : Region.free .any ops listed i = true) (hr : (Region.ready .any ops listed).contains i = true)
    (hw : Region.wanted o (yielded ops a.tmps) = true) (hit : decide (i ≠ t) = true) (hwait : waitsB ops t i = true) (ht : listed.getD t false = false) (hQ : ∀ c a v w, Q (.panic c) (Act.put a o.dst v) w → Q (.panic c) a w) (hS : NearB B W w)
    (h : ∀ K : Act → Prop, (∀ a', wpAnyT P ops Q (fun w' => ∃ d : LaterB B W, w' = d.now) t fuel (listed.setIfInBounds i true) a' w → K a') → o.quiet P a (fun w' => ∃ d : LaterB B W, w' = d.now) K) :
    wpAnyT P ops Q (fun w' => ∃ d : LaterB B W, w' = d.now) t (fuel + 1) listed a w := by
  obtain ⟨v, h1, h2⟩ := h (fun a' => wpAnyT P ops Q (fun w' => ∃ d : LaterB B W, w' = d.now) t fuel (listed.setIfInBounds i true) a' w) (fun _ h => h)
  refine wpAnyT_first (v := v) (of_decide_eq_true hit) hwait (drop_at hl) (Region.noSelect_spec hs) (fun c a w h => hQ c a _ w h) fuel listed a w ht (Region.free_spec (drop_at hl) hf) (by simpa using hr) (.inl ⟨hw, fun w' hw' => ?_⟩) hS h2
  have h3 := h1 w' hw'
  unfold Oper.quietAt at h3
  generalize hx : (execOp a.eval o).run P w' = r at h3
  cases r with
  | ok n w2 =>
    obtain ⟨u, rfl⟩ := plain_value hp hx
    simp only [Oper.quietUpon] at h3
    rw [h3.1, h3.2]
  | halt x w2 => simp only [Oper.quietUpon] at h3
theorem relT_call {rest : List Oper} (hr : Region.ready .any ops listed = [i]) (hl : ops.toList.drop i = o :: rest) (hw : Region.wanted o (yielded ops a.tmps) = true)
    (h : ∀ K : Act → World → Prop, (∀ a' w', (listed.getD t false = true ∨ i = t ∨ NearB B W w') → wpAnyT P ops Q (fun w' => ∃ d : LaterB B W, w' = d.now) t fuel (listed.setIfInBounds i true) a' w' → K a' w') → o.wp P a w K Q) :
    wpAnyT P ops Q (fun w' => ∃ d : LaterB B W, w' = d.now) t (fuel + 1) listed a w := by
  refine ⟨fun h0 => absurd (hr ▸ h0) (by simp), fun j hj => ?_⟩
  rw [hr, List.mem_singleton] at hj
  subst hj
  unfold wpOp
  rw [drop_at hl]
  show if Region.wanted o (yielded ops a.tmps) = true then _ else _
  rw [if_pos hw]
  exact .inl (h _ fun a' w' hn hh => ⟨hn, hh⟩)
theorem relT_calls {is : List Nat} (hr : Region.ready .any ops listed = is) (hne : is ≠ []) (h : ∀ i ∈ is, ∃ o, ops[i]? = some o ∧ Region.wanted o (yielded ops a.tmps) = true ∧
      ∀ K : Act → World → Prop, (∀ a' w', (listed.getD t false = true ∨ i = t ∨ NearB B W w') → wpAnyT P ops Q (fun w' => ∃ d : LaterB B W, w' = d.now) t fuel (listed.setIfInBounds i true) a' w' → K a' w') → o.wp P a w K Q) :
    wpAnyT P ops Q (fun w' => ∃ d : LaterB B W, w' = d.now) t (fuel + 1) listed a w := by
  refine ⟨fun h0 => absurd (hr ▸ h0) hne, fun j hj => ?_⟩
  rw [hr] at hj
  obtain ⟨o, ho, hw, h⟩ := h j hj
  unfold wpOp
  rw [ho]
  show if Region.wanted o (yielded ops a.tmps) = true then _ else _
  rw [if_pos hw]
  exact .inl (h _ fun a' w' hn hh => ⟨hn, hh⟩)
end
end Go.Proofs.YthfbpbbepogllaaGreat
