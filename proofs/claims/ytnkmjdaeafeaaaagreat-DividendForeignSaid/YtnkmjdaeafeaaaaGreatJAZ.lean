/- Texts of this claim, put together. -/
import Derived.Test.YtnkmjdaeafeaaaaGreatJAY
import Derived.Test.YtnkmjdaeafeaaaaGreatPsWalksZ
import Derived.Test.YtnkmjdaeafeaaaaGreatJAW
/- The parts of a dividend's posting; the number of pairs. No walk. -/
namespace Go.Proofs.YtnkmjdaeafeaaaaGreat
set_option linter.unusedVariables false
set_option linter.unusedSimpArgs false
open Go.RowKit

theorem of_two (d r a b c : Int) : ofW [⟨d, a⟩, ⟨r, b⟩] c = (if r = c then wrap64 ((if d = c then wrap64 (0 + a) else 0) + b) else (if d = c then wrap64 (0 + a) else 0)) := rfl
theorem am_bd {n : Int} (h : amV n = true) : -1000000000000 ≤ n ∧ n ≤ 1000000000000 := by
  unfold amV at h
  simp at h
  omega
/-- the parts: none, or two that add up to 0 -/
def Two0 (L : List Bal) : Prop := L = [] ∨ ∃ c1 a1 c2 a2 : Int, L = [⟨c1, a1⟩, ⟨c2, a2⟩] ∧ a1 + a2 = 0 ∧ -1000000000000 ≤ a1 ∧ a1 ≤ 1000000000000 ∧ -1000000000000 ≤ a2 ∧ a2 ≤ 1000000000000
theorem isC_none {f : Int → Int} {L : List Bal} (h : IsC f L) (h0 : ∀ c, f c = 0) : L = [] := by
  cases L with
  | nil => rfl
  | cons x L =>
    have := (h.2 x).1 (by simp)
    rw [h0] at this
    exact absurd this.1.symm this.2
theorem isC_two {f : Int → Int} {L : List Bal} {c1 c2 : Int} (h : IsC f L) (hlt : c1 < c2) (h0 : ∀ c, c ≠ c1 → c ≠ c2 → f c = 0) (h1 : f c1 ≠ 0) (h2 : f c2 ≠ 0) : L = [⟨c1, f c1⟩, ⟨c2, f c2⟩] := by
  have hM : IsC f [⟨c1, f c1⟩, ⟨c2, f c2⟩] := by
    refine ⟨by simp [hlt], fun x => ?_⟩
    obtain ⟨a, n⟩ := x
    simp only [List.mem_cons, List.not_mem_nil, or_false, Bal.mk.injEq]
    constructor
    · rintro (⟨rfl, rfl⟩ | ⟨rfl, rfl⟩)
      · exact ⟨rfl, h1⟩
      · exact ⟨rfl, h2⟩
    · rintro ⟨e, hn⟩
      by_cases e1 : a = c1
      · subst e1; exact .inl ⟨rfl, e.symm⟩
      by_cases e2 : a = c2
      · subst e2; exact .inr ⟨rfl, e.symm⟩
      exact absurd (e.symm.trans (h0 a e1 e2)) hn
  exact isC_unique h hM fun _ => rfl
theorem parts_two (d r n : Int) : Two0 (clnL (Dv.parts d r n)) := by
  rcases cln_alt (Dv.parts d r n) with ⟨_, h, hv⟩ | ⟨_, h, _⟩
  · have hd := hv d
    have hr := hv r
    have h0 : ∀ c, c ≠ d → c ≠ r → ofW (Dv.parts d r n) c = 0 := fun c e1 e2 => by
      unfold Dv.parts
      rw [of_two, if_neg (fun e => e2 e.symm), if_neg (fun e => e1 e.symm)]
    by_cases e : d = r
    · subst e
      refine .inl (isC_none h fun c => ?_)
      by_cases ec : c = d
      · subst ec
        unfold Dv.parts
        rw [of_two, if_pos rfl, if_pos rfl]
        unfold wrap64
        omega
      · exact h0 c ec ec
    · have vd : ofW (Dv.parts d r n) d = wrap64 (0 + wrap64 (-n)) := by
        unfold Dv.parts
        rw [of_two, if_neg (fun h => e h.symm), if_pos rfl]
      have vr : ofW (Dv.parts d r n) r = wrap64 (0 + n) := by
        unfold Dv.parts
        rw [of_two, if_pos rfl, if_neg e]
      have bd := am_bd hd
      have br := am_bd hr
      have hs : ofW (Dv.parts d r n) d + ofW (Dv.parts d r n) r = 0 := by
        rw [vd, vr] at *
        unfold wrap64 at *
        omega
      by_cases hz : ofW (Dv.parts d r n) d = 0
      · refine .inl (isC_none h fun c => ?_)
        by_cases e1 : c = d
        · subst e1; exact hz
        by_cases e2 : c = r
        · subst e2; omega
        exact h0 c e1 e2
      · right
        rcases Int.lt_or_gt_of_ne e with hlt | hlt
        · exact ⟨_, _, _, _, isC_two h hlt h0 hz (by omega), hs, bd.1, bd.2, br.1, br.2⟩
        · exact ⟨_, _, _, _, isC_two h hlt (fun c a b => h0 c b a) (by omega) hz, by omega, br.1, br.2, bd.1, bd.2⟩
  · exact .inl h
theorem pL_two {V : Bool} {p P : Int} {n : Nat} {d r : Int} {l : List ConR} {i k : Int} : Two0 (Dv.pL V p P n d r l i k) := by
  unfold Dv.pL
  split
  · exact parts_two _ _ _
  · exact .inl rfl
theorem Two0.len {L : List Bal} (h : Two0 L) : L.length ≤ 2 := by
  rcases h with rfl | ⟨_, _, _, _, rfl, _⟩
  · exact Nat.zero_le _
  · exact Nat.le_refl _
theorem Ps.pre_len (n i : Nat) : ∀ k, (Ps.pre n i k).length = i * n + k := by
  intro k
  unfold Ps.pre
  rw [List.length_append, List.length_map, List.length_range]
  congr 1
  induction i with
  | zero => simp
  | succ i ih => rw [List.range_succ, List.flatMap_append, List.length_append, ih]; simp [Ps.row, Nat.succ_mul]
theorem Ps.is_len {kd : Int} {g : Int → Int → List Bal} {n : Nat} {L : List PostR} {D : List (Int × Int)} (h : Ps.Is kd g D L) (hD : D.length ≤ (Ps.pairs n).length) (hn : n ≤ 20) : L.length ≤ 400 := by
  have h2 := Ps.pre_len n n 0
  have h3 : n * n ≤ 20 * 20 := Nat.mul_le_mul hn hn
  have h4 := h.1
  unfold Ps.pairs at hD
  omega
end Go.Proofs.YtnkmjdaeafeaaaaGreat
/- The walk of DividendPostings. -/
namespace Go.Proofs.YtnkmjdaeafeaaaaGreat
set_option linter.unusedVariables false
set_option linter.unusedSimpArgs false
open Go.RowKit

theorem Ps.two {kd : Int} {g : Int → Int → List Bal} {D : List (Int × Int)} {L : List PostR} (h : Ps.Is kd g D L) (hD : ∀ x ∈ D, Ps.some_ g x = true) (h2 : ∀ i k, Two0 (g i k)) : ∀ x ∈ L, ∃ c1 a c2 : Int, x.parts.l = [⟨c1, a⟩, ⟨c2, -a⟩] ∧ -1000000000000 ≤ a ∧ a ≤ 1000000000000 := by
  intro x hx
  obtain ⟨j, hj, rfl⟩ := List.mem_iff_getElem.1 hx
  have hjD : j < D.length := by rw [← h.1]; exact hj
  have hI := h.2 j hj hjD
  have hs := hD _ (List.getElem_mem hjD)
  have ht := h2 D[j].1 D[j].2
  rw [← hI.1] at ht
  rcases ht with ht | ⟨c1, a1, c2, a2, e, h1, h2, h3, h4, h5⟩
  · unfold Ps.some_ at hs
    rw [← hI.1, ht] at hs
    cases hs
  · refine ⟨c1, a1, c2, ?_, h2, h3⟩
    rw [e]
    have : a2 = -a1 := by omega
    rw [this]
theorem psD_some {V : Bool} {p P : Int} {n : Nat} {d r : Int} {l : List ConR} : (∀ x ∈ Dv.psD V p P n d r l, Ps.some_ (Dv.pL V p P n d r l) x = true) ∧ (Dv.psD V p P n d r l).length ≤ (Ps.pairs n).length := by
  unfold Dv.psD
  split
  · exact ⟨fun x hx => (List.mem_filter.1 hx).2, List.length_filter_le _ _⟩
  · exact ⟨(fun x hx => by cases hx), Nat.zero_le _⟩
theorem ps_parts {kd : Int} {V : Bool} {p P : Int} {n : Nat} {d r : Int} {l : List ConR} {D : List (Int × Int)} {L : List PostR} (h : Ps.Is kd (Dv.pL V p P n d r l) D L) : ∀ x ∈ L, x.parts.l.length ≤ 2 := by
  intro x hx
  obtain ⟨j, hj, rfl⟩ := List.mem_iff_getElem.1 hx
  have hjD : j < D.length := by rw [← h.1]; exact hj
  rw [(h.2 j hj hjD).1]
  exact pL_len
theorem ps_pin {T TP : TypeId} {base : Nat} {w : World} {A : Option Addr} {n c : Nat} {L : List PostR} (h : OwnPs T TP base w (.slice A n c) L) (hl : L.length ≤ 400) (hf : ∀ x ∈ L, x.parts.l.length ≤ 2) : n = L.length ∧ PIn w L A := by
  obtain ⟨h1, h2, h3⟩ := pin_own h (by omega) (fun x hx => by have := hf x hx; omega)
  exact ⟨h1, h2, h3, fun x hx => by have := hf x hx; omega, by omega⟩
section
variable (cur : ByteArray) (y m p : Int) (cl : List Acc) (cA : Option Addr) (cc : Nat) (ro : RolesR) (el : List EntR) (eA : Option Addr) (ec : Nat) (w : World)
set_option maxRecDepth 100000 in
set_option maxHeartbeats 16000000 in
theorem law_DividendPostings (l : List ConR) (A : Option Addr) (c : Nat) (q : Int) (h : GIn w cl cA el eA) (hc : cur.size ≤ maxLen) (hcl : cl.length ≤ maxLen) (hel : el.length ≤ maxLen) (hO : OIn w l A) (hw1 : Wf ro.dividends) (hw2 : Wf ro.retained) :
    Calls Tryz.prog 3 #[.agg #[.string cur, .int .i64 y, .int .i64 m, .int .i64 p, .slice cA cl.length cc, .int .i64 ro.investment, .int .i64 ro.goodwill, .int .i64 ro.associates, .int .i64 ro.inventory, .int .i64 ro.reserve, .int .i64 ro.minority, .int .i64 ro.retained, .int .i64 ro.acquired, .int .i64 ro.owners, .int .i64 ro.disposal, .int .i64 ro.associateProfit, .int .i64 ro.dividends, .int .i64 ro.minorityProfit, .int .i64 ro.difference, .int .i64 ro.margin, .slice eA el.length ec], .slice A l.length c, .int .i64 q] w fun e w' => e = .returned (.bool true) ∧ Below w.heap.size w w' := by
  have H := Lib.hid h
  have HO := Lib.hid hO
  clear h hO
  obtain ⟨gcs, hgc⟩ : ∃ x : Array Value, x = #[.string cur, .int .i64 y, .int .i64 m, .int .i64 p, .slice cA cl.length cc, .int .i64 ro.investment, .int .i64 ro.goodwill, .int .i64 ro.associates, .int .i64 ro.inventory, .int .i64 ro.reserve, .int .i64 ro.minority, .int .i64 ro.retained, .int .i64 ro.acquired, .int .i64 ro.owners, .int .i64 ro.disposal, .int .i64 ro.associateProfit, .int .i64 ro.dividends, .int .i64 ro.minorityProfit, .int .i64 ro.difference, .int .i64 ro.margin, .slice eA el.length ec] := ⟨_, rfl⟩
  have hgi : (Tryz.prog.info? 29).map (·.size) = some gcs.size := by rw [hgc]; exact grp_size
  have HG := Lib.hid hgc
  rw [← hgc]
  clear hgc
  have HBT := Lib.hid (bkOf_built HG.out)
  have HBS := Lib.hid (bkOf_is (gsize21 HG.out))
  have K0 := Lib.hid (fun W h hO => dfew_any cur y m p cl cA cc ro el eA ec W gcs l A c HG h hO hc hcl hel)
  clear hcl hel
  have hb : Below w.heap.size w (w.alloc (.cells gcs 29)) := (Below.refl _ _).alloc (Nat.le_refl _) _
  have HB := Lib.hid (Blk.new w 29 gcs)
  go_enter Tryz.func3, Tryz.ntmps3
  go_wp2_with fail
  generalize w.alloc (.cells gcs 29) = W at *
  refine (div_awake _).mono ?_
  rintro e w2 ⟨rfl, hb9⟩
  replace hb := bel hb hb9
  replace HB := Lib.hid (HB.out.step hb9)
  clear hb9
  go_wp2_with ((refine wpList_load_blk 29 (.tmp 3) rfl (w.heap.size) rfl (by kernel_rfl) (HB).out Tryz.underlying29 hgi ?_))
  refine (K0.out _ (H.out.step hb) (HO.out.step hb)).mono ?_
  rintro e w3 ⟨b, rfl, hb9, hok⟩
  replace hb := bel hb hb9
  replace HB := Lib.hid (HB.out.step hb9)
  clear hb9 K0
  cases b
  · clear hok
    go_wp2_with (go_at_call 8; refine (div_awake _).mono ?_; rintro e w4 ⟨rfl, hb9⟩; replace hb := bel hb hb9; clear hb9)
    go_ret
    exact ⟨rfl, hb⟩
  · have OK := Lib.hid (hok rfl)
    clear hok
    have hl14 := OK.out.len
    have hen := OK.out.grp.en
    have KP := Lib.hid (fun W A c h hC => dpostings_any gcs cur y m p cl cA cc ro el eA ec W (bkOf gcs) l q A c HG HBS.out h OK.out.grp (by omega) hC hw1 hw2)
    have KQ := Lib.hid (fun W A c h hC => rdpostings_any gcs cur y m p cl cA cc ro el eA ec W (bkOf gcs) l q A c HG HBS.out h OK.out.grp (by omega) hC)
    have HPD := Lib.hid (psD_some (V := Gr.gv cur cl ro el (Cal.ok y m p)) (p := q) (P := p) (n := el.length) (d := ro.dividends) (r := ro.retained) (l := l))
    have HP2 : Hid (∀ i k, Two0 (Dv.pL (Gr.gv cur cl ro el (Cal.ok y m p)) q p el.length ro.dividends ro.retained l i k)) := Lib.hid (fun i k => pL_two)
    have HPP := Lib.hid (fun D L => ps_parts (kd := 9) (V := Gr.gv cur cl ro el (Cal.ok y m p)) (p := q) (P := p) (n := el.length) (d := ro.dividends) (r := ro.retained) (l := l) (D := D) (L := L))
    generalize Dv.psD (Gr.gv cur cl ro el (Cal.ok y m p)) q p el.length ro.dividends ro.retained l = D at *
    generalize Dv.psE (Gr.gv cur cl ro el (Cal.ok y m p)) q p el.length ro.dividends ro.retained l = E at *
    generalize Dv.pL (Gr.gv cur cl ro el (Cal.ok y m p)) q p el.length ro.dividends ro.retained l = g at *
    have hE : (E == E) = true := by simp
    have KB := Lib.hid (both_any l A c w3 (HO.out.step hb) (by omega))
    go_upto_region 4 with (go_at_call 10; refine KB.out.mono ?_; rintro e w4 ⟨v, u, rfl, hv, hu, hb9⟩; obtain ⟨A2, c2, rfl, hC⟩ := both_in (w3 := w3) (HO.out.step hb) hb9 hv (by omega) OK.out.its; obtain ⟨A3, c3, rfl, hD⟩ := both_in (w3 := w3) (HO.out.step hb) hb9 hu (by omega) OK.out.its; have HC := Lib.hid hC; have HD := Lib.hid hD; replace hb := bel hb hb9; replace HB := Lib.hid (HB.out.step hb9); clear hb9 hv hu hC hD)
    go_upto_region 5 with (first
      | (refine wpList_load_blk 29 (.tmp 3) rfl (w.heap.size) rfl (by kernel_rfl) (HB).out Tryz.underlying29 hgi ?_)
      | (refine wpList_builtV rfl 31 rfl 47 _ rfl (bkOf gcs) [(0, .agg gcs)] (by kernel_rfl) HBT.out ?_)
      | (go_at_call 11; refine (KP.out _ _ _ (H.out.step hb) HC.out).mono ?_; rintro e w5 ⟨v, L, rfl, hOP, hIS, hb9⟩; have hb5 := bel hb hb9; have HB5 := Lib.hid (HB.out.step hb9); have HD5 := Lib.hid (HD.out.step hb9); obtain ⟨A5, n5, c5, hv⟩ := own_shape hOP.own; subst hv; have hLL := Ps.is_len hIS HPD.out.2 hen; obtain ⟨hn5, hPI⟩ := ps_pin hOP hLL (HPP.out _ _ hIS); subst hn5; have HPI := Lib.hid hPI; have HIS := Lib.hid hIS; clear hb9 hOP hPI hIS))
    go_upto_region 6 with (first
      | (refine wpList_load_blk 29 (.tmp 3) rfl (w.heap.size) rfl (by kernel_rfl) (HB5).out Tryz.underlying29 hgi ?_)
      | (refine wpList_builtV rfl 39 rfl 47 _ rfl (bkOf gcs) [(0, .agg gcs)] (by kernel_rfl) HBT.out ?_)
      | (go_at_call 12; refine (KQ.out _ _ _ (H.out.step hb5) HD5.out).mono ?_; rintro e w6 ⟨v, M, rfl, hOP, hIS, hb9⟩; have hb6 := bel hb5 hb9; replace HPI := Lib.hid (HPI.out.step hb9); obtain ⟨A6, n6, c6, hv⟩ := own_shape hOP.own; subst hv; have hMM := Ps.is_len hIS HPD.out.2 hen; obtain ⟨hn6, hPI⟩ := ps_pin hOP hMM (HPP.out _ _ hIS); subst hn6; have HPJ := Lib.hid hPI; have HIT := Lib.hid hIS; clear hb9 hOP hPI hIS))
    have HTW := Lib.hid (Ps.two HIS.out HPD.out.1 HP2.out)
    have HSA := Lib.hid (Ps.same HIS.out HIT.out (fun a b => isP_same a b))
    clear hb5 HB5 HD5
    go_wp2_with fail
    go_loopw [47] (fun t wr => ∃ k : Nat, k ≤ L.length ∧ t = .int .i64 k ∧ Below w6.heap.size w6 wr) (fun t _ => L.length - (intOf t).toNat)
    case atStart => exact ⟨0, by omega, rfl, Below.refl _ _⟩
    case round =>
      obtain ⟨k, hk, rfl, hbr⟩ := hrel
      have hbw := bel hb6 hbr
      by_cases hlt : k < L.length
      · obtain ⟨b, o, hA, hbo, hx⟩ := rd_at (f := PostR.cells) (sz := 5) (fun _ => rfl) (Rd.now HPI.out.rd hbr) hlt
        subst hA
        have HX := Lib.hid hx
        have HR := Lib.hid (Rd.now (HPI.out.pt _ (List.getElem_mem hlt)) hbr)
        have HTK := Lib.hid (HTW.out _ (List.getElem_mem hlt))
        clear hx
        generalize L[k] = x at *
        obtain ⟨xk, xe, xo, xr, ⟨xl, xA, xc⟩⟩ := x
        obtain ⟨c1, a, c2, hxl, ha1, ha2⟩ := HTK.out
        dsimp only at hxl
        subst hxl
        have f0 : wr.cell? ⟨b, o + k * 5, none⟩ = some (.int .i64 xk) := HX.out 0 _ rfl
        have f1 : wr.cell? ⟨b, o + k * 5 + 1, none⟩ = some (.int .i64 xe) := HX.out 1 _ rfl
        have f2 : wr.cell? ⟨b, o + k * 5 + 2, none⟩ = some (.int .i64 xo) := HX.out 2 _ rfl
        have f3 : wr.cell? ⟨b, o + k * 5 + 3, none⟩ = some (.int .i64 xr) := HX.out 3 _ rfl
        have f4 : wr.cell? ⟨b, o + k * 5 + 4, none⟩ = some (.slice xA 2 xc) := HX.out 4 _ rfl
        have hst := (Below.refl wr.heap.size wr).alloc (Nat.le_refl _) (.cells #[.int .i64 xk, .int .i64 xe, .int .i64 xo, .int .i64 xr, .slice xA 2 xc] 51)
        have HN := Lib.hid (Blk.new wr 51 #[.int .i64 xk, .int .i64 xe, .int .i64 xo, .int .i64 xr, .slice xA 2 xc])
        obtain ⟨b2, o2, hA2, hbo2, g0, g1⟩ := Bal.at_ (k := 0) (Rd.now HR.out hst) (by show 0 < 2; omega)
        obtain ⟨b3, o3, hA3, hbo3, g2, g3⟩ := Bal.at_ (k := 1) (Rd.now HR.out hst) (by show 1 < 2; omega)
        dsimp only at hA2 hA3
        subst hA2
        injection hA3 with hA3
        injection hA3 with hA4 hA5
        subst hA4 hA5
        go_upto_region 9 with fail
        clear f0 f1 f2 f3 f4
        generalize wr.alloc (.cells #[.int .i64 xk, .int .i64 xe, .int .i64 xo, .int .i64 xr, .slice (some ⟨b2, o2, none⟩) 2 xc] 51) = w8 at *
        have q4 : ∀ d : Later w8, d.now.cell? ⟨wr.heap.size, 4, none⟩ = some (.slice (some ⟨b2, o2, none⟩) 2 xc) := fun d => d.cell HN.out.lt (HN.out.cell 4)
        have q1 : ∀ d : Later w8, d.now.cell? ⟨b2, o2 + 1, none⟩ = some (.int .i64 a) := fun d => d.cell hbo2 (by simpa using g1)
        have q3 : ∀ d : Later w8, d.now.cell? ⟨b2, o2 + 2 + 1, none⟩ = some (.int .i64 (-a)) := fun d => d.cell hbo2 (by simpa using g3)
        have q5 : ∀ d : Later w8, d.now.cell? ⟨b2, o2 + 3, none⟩ = some (.int .i64 (-a)) := fun d => d.cell hbo2 (by simpa using g3)
        clear g0 g1 g2 g3
        have ew : IntKind.i64.wrap (a + -a) = 0 := by rw [Int.add_right_neg]; rfl
        refine wp_region_later (by kernel_rfl) (by kernel_rfl) ?_
        (repeat (go_big_quiet_step ((fail)))); refine wpQuiet_nil ?_; rintro _ ⟨dq, rfl⟩
        have hbe := bel hbr (bel hst dq.below)
        clear ew q1 q3 q4 q5
        go_wp2_with fail
        go_roundw
        case rel => exact ⟨k + 1, by omega, by go_num, hbe⟩
        case measure => simp [intOf]; omega
      · go_wp2_with (go_at_call 13; refine (samep_yes L M A5 A6 c5 c6 wr (HPI.out.step hbr) (HPJ.out.step hbr) HSA.out.1 (fun j a b => HSA.out.2 j a b)).mono ?_; rintro en w9 ⟨rfl, hb9⟩; replace hbw := bel hbw hb9; clear hb9)
        go_ret
        exact ⟨rfl, hbw⟩
end
end Go.Proofs.YtnkmjdaeafeaaaaGreat
/- How the law's argument is opened: contributions. -/
namespace Go.Proofs.YtnkmjdaeafeaaaaGreat
set_option linter.unusedVariables false
set_option linter.unusedSimpArgs false
open Go.RowKit Go.WideShapes Go.ChangeShapes

variable {H : Type} {enc : TypeId × Value → H} {w : World} {base : Nat} {spare : Nat → Bool} {held : Bool}
theorem opens_Own : Opens enc Tryz.prog w base spare held 78 ConR.own (ConR.Ok w) :=
  (opens_struct Tryz.underlying78 (by kernel_rfl) (opensF_cons (k := 1) (opens_int Tryz.underlying3) rfl (by kernel_rfl) (opensF_cons (k := 1) (opens_int Tryz.underlying3) rfl (by kernel_rfl) (opensF_cons (k := 1) (opens_slice Tryz.underlying76 (by kernel_rfl) (by decide) ItemR.len opens_ItemR) rfl (by kernel_rfl) (opensF_nil _))))).map (fun p => (⟨p.1, p.2.1, p.2.2.1⟩ : ConR)) (fun _ => rfl) (fun _ h => ⟨h.1, h.2.1, h.2.2.1⟩)
theorem oin_of {s : Sl ConR} (h : s.Lies w ConR.own 3 ∧ ∀ x ∈ s.l, x.Ok w) : OIn w s.l s.A :=
  ⟨h.1.1, fun x hx => ⟨(h.2 x hx).2.2.1.1, Nat.le_trans (h.2 x hx).2.2.1.2.1 (h.2 x hx).2.2.1.2.2⟩, Nat.le_trans h.1.2.1 h.1.2.2⟩
end Go.Proofs.YtnkmjdaeafeaaaaGreat
