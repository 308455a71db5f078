/- Texts of this claim, put together. -/
import Derived.Test.YtnkmjdaeafeaaaaJAV
/- The walk of DividendPosting. -/
namespace Go.Proofs.Ytnkmjdaeafeaaaa
set_option linter.unusedVariables false
set_option linter.unusedSimpArgs false
open Go.RowKit

theorem isP_same {kd i k : Int} {L : List Bal} {x z : PostR} (h1 : Dv.IsP kd i k L x) (h2 : Dv.IsP kd i k L z) : SameP x z := by
  obtain ⟨a1, a2, a3⟩ := h1
  obtain ⟨b1, b2, b3⟩ := h2
  rcases a3 with ⟨e, c1, c2, c3⟩ | ⟨e, c1, c2, c3⟩
  · rcases b3 with ⟨_, d1, d2, d3⟩ | ⟨e2, _⟩
    · exact ⟨c1.trans d1.symm, c2.trans d2.symm, c3.trans d3.symm, a2.trans b2.symm, a1.trans b1.symm⟩
    · exact absurd e e2
  · rcases b3 with ⟨e2, _⟩ | ⟨_, d1, d2, d3⟩
    · exact absurd e2 e
    · exact ⟨c1.trans d1.symm, c2.trans d2.symm, c3.trans d3.symm, a2.trans b2.symm, a1.trans b1.symm⟩
theorem clnL_len (m : List Bal) : (clnL m).length ≤ m.length := by
  rcases cln_alt m with ⟨_, h, _⟩ | ⟨_, h, _⟩
  · exact clean_len h
  · rw [h]; exact Nat.zero_le _
theorem pL_len {V : Bool} {p P : Int} {n : Nat} {d r : Int} {l : List ConR} {i k : Int} : (Dv.pL V p P n d r l i k).length ≤ 2 := by
  unfold Dv.pL
  split
  · exact clnL_len _
  · exact Nat.zero_le _
theorem bkOf_one {gcs : Array Value} (h : gcs.all (·.oneCell') = true) : (bkOf gcs).all (·.oneCell') = true := by
  rw [← Array.all_toList, List.all_eq_true] at h ⊢
  intro u hu
  unfold bkOf at hu
  simp only [List.mem_append] at hu
  rcases hu with hu | hu
  · exact h u hu
  · simp only [List.mem_cons, List.not_mem_nil, or_false] at hu
    rcases hu with rfl | rfl | rfl | rfl | rfl | rfl
    all_goals rfl
theorem pin_one {w : World} {g : Nat} {x : PostR} {T : TypeId} (h : Blk w g T x.arr) (hr : Rd w w.heap.size 2 x.parts.A x.parts.l.length (cellsOf Bal.cells x.parts.l)) (hl : x.parts.l.length ≤ 2) : PIn w [x] (some ⟨g, 0, none⟩) := by
  refine ⟨Rd.of_blk h (by simp [cellsOf, PostR.arr, PostR.cells]) rfl, fun y hy => ?_, fun y hy => ?_, by show 1 ≤ 1000000; omega⟩
  · rw [List.mem_singleton] at hy
    subst hy
    exact hr
  · rw [List.mem_singleton] at hy
    subst hy
    omega
theorem one_same {x z : PostR} (h : SameP x z) : ∀ k (h1 : k < [x].length) (h2 : k < [z].length), SameP [x][k] [z][k] := by
  intro k h1 h2
  have : k = 0 := by simp at h1; omega
  subst this
  exact h
theorem books_size : (Try.prog.info? 72).map (·.size) = some 27 := by kernel_rfl
theorem both_in {w w2 w3 : World} {base : Nat} {T : TypeId} {v : Value} {l : List ConR} {A : Option Addr} (hO : OIn w l A) (hb : Below w.heap.size w w2) (hv : w2.ownsRow base T 13 v l.length (cellsOf ConR.cells l)) (hl : l.length ≤ 1000) (hf : ∀ x ∈ l, x.items.l.length ≤ 1000) :
    ∃ A2 c2, v = .slice A2 l.length c2 ∧ CIn w2 l A2 := by
  obtain ⟨A2, c2, rfl, hr⟩ := Rd.of_own hv
  exact ⟨A2, c2, rfl, hr, fun x hx => Rd.now (hO.it x hx).1 hb, hf, hl⟩
theorem DFew.its {cur : ByteArray} {cl : List Acc} {el : List EntR} {l : List ConR} (h : DFew cur cl el l) : ∀ x ∈ l, x.items.l.length ≤ 1000 := fun x hx => by
  have := h.it x hx
  unfold conOk at this
  simp only [Bool.and_eq_true, decide_eq_true_eq] at this
  omega
section
variable (cur : ByteArray) (y m p : Int) (cl : List Acc) (cA : Option Addr) (cc : Nat) (ro : RolesR) (el : List EntR) (eA : Option Addr) (ec : Nat) (w : World)
set_option maxRecDepth 100000 in
set_option maxHeartbeats 16000000 in
theorem law_DividendPosting (l : List ConR) (A : Option Addr) (c : Nat) (i k q : Int) (h : GIn w cl cA el eA) (hc : cur.size ≤ maxLen) (hcl : cl.length ≤ maxLen) (hel : el.length ≤ maxLen) (hO : OIn w l A) (hw1 : Wf ro.dividends) (hw2 : Wf ro.retained) :
    Calls Try.prog 6 #[.agg #[.string cur, .int .i64 y, .int .i64 m, .int .i64 p, .slice cA cl.length cc, .int .i64 ro.investment, .int .i64 ro.goodwill, .int .i64 ro.associates, .int .i64 ro.inventory, .int .i64 ro.reserve, .int .i64 ro.minority, .int .i64 ro.retained, .int .i64 ro.acquired, .int .i64 ro.owners, .int .i64 ro.disposal, .int .i64 ro.associateProfit, .int .i64 ro.dividends, .int .i64 ro.minorityProfit, .int .i64 ro.difference, .int .i64 ro.margin, .slice eA el.length ec], .slice A l.length c, .agg #[.int .i64 i, .int .i64 k, .int .i64 q]] w fun e w' => e = .returned (.bool true) ∧ Below w.heap.size w w' := by
  have H := Lib.hid h
  have HO := Lib.hid hO
  clear h hO
  obtain ⟨gcs, hgc⟩ : ∃ x : Array Value, x = #[.string cur, .int .i64 y, .int .i64 m, .int .i64 p, .slice cA cl.length cc, .int .i64 ro.investment, .int .i64 ro.goodwill, .int .i64 ro.associates, .int .i64 ro.inventory, .int .i64 ro.reserve, .int .i64 ro.minority, .int .i64 ro.retained, .int .i64 ro.acquired, .int .i64 ro.owners, .int .i64 ro.disposal, .int .i64 ro.associateProfit, .int .i64 ro.dividends, .int .i64 ro.minorityProfit, .int .i64 ro.difference, .int .i64 ro.margin, .slice eA el.length ec] := ⟨_, rfl⟩
  have hgi : (Try.prog.info? 29).map (·.size) = some gcs.size := by rw [hgc]; exact grp_size
  have HG := Lib.hid hgc
  rw [← hgc]
  clear hgc
  have HBT := Lib.hid (bkOf_built HG.out)
  have HBS := Lib.hid (bkOf_is (gsize21 HG.out))
  have HB1 := Lib.hid (bkOf_one (grp_one HG.out))
  have K0 := Lib.hid (fun W h hO => dfew_any cur y m p cl cA cc ro el eA ec W gcs l A c HG h hO hc hcl hel)
  clear hcl hel
  have hb : Below w.heap.size w ((w.alloc (.cells gcs 29)).alloc (.cells #[.int .i64 i, .int .i64 k, .int .i64 q] 60)) := ((Below.refl _ _).alloc (Nat.le_refl _) _).alloc (by simp) _
  have HB := Lib.hid ((Blk.new w 29 gcs).alloc (.cells #[.int .i64 i, .int .i64 k, .int .i64 q] 60))
  have HT := Lib.hid (blk_new2 w (.cells gcs 29) 60 #[.int .i64 i, .int .i64 k, .int .i64 q])
  go_enter Try.func6, Try.ntmps6
  go_wp2_with fail
  generalize (w.alloc (.cells gcs 29)).alloc (.cells #[.int .i64 i, .int .i64 k, .int .i64 q] 60) = W at *
  refine (div_awake _).mono ?_
  rintro e w2 ⟨rfl, hb9⟩
  replace hb := bel hb hb9
  replace HB := Lib.hid (HB.out.step hb9)
  replace HT := Lib.hid (HT.out.step hb9)
  clear hb9
  go_wp2_with ((refine wpList_load_blk 29 (.tmp 3) rfl (w.heap.size) rfl (by kernel_rfl) (HB).out Try.underlying29 hgi ?_))
  refine (K0.out _ (H.out.step hb) (HO.out.step hb)).mono ?_
  rintro e w3 ⟨b, rfl, hb9, hok⟩
  replace hb := bel hb hb9
  replace HB := Lib.hid (HB.out.step hb9)
  replace HT := Lib.hid (HT.out.step hb9)
  clear hb9 K0
  cases b
  · clear hok
    go_wp2_with (go_at_call 24; refine (div_awake _).mono ?_; rintro e w4 ⟨rfl, hb9⟩; replace hb := bel hb hb9; clear hb9)
    go_ret
    exact ⟨rfl, hb⟩
  · have OK := Lib.hid (hok rfl)
    clear hok
    have hl14 := OK.out.len
    have KB := Lib.hid (both_any l A c w3 (HO.out.step hb) (by omega))
    have KP := Lib.hid (fun W A c h hC => dposting_any gcs cur y m p cl cA cc ro el eA ec W (bkOf gcs) l i k q A c HG HBS.out h OK.out.grp (by have := OK.out.grp.en; omega) hC hw1 hw2)
    have KQ := Lib.hid (fun W A c h hC => rdposting_any gcs cur y m p cl cA cc ro el eA ec W (bkOf gcs) l i k q A c HG HBS.out h OK.out.grp (by have := OK.out.grp.en; omega) hC)
    have KR := Lib.hid (fun W A c h => drec_any gcs cur y m p cl cA cc ro el eA ec W l i k A c HG h)
    have KS := Lib.hid (fun W A c h => rdrec_any gcs cur y m p cl cA cc ro el eA ec W l i k A c HG h)
    have HLN := Lib.hid (pL_len (V := Gr.gv cur cl ro el (Cal.ok y m p)) (p := q) (P := p) (n := el.length) (d := ro.dividends) (r := ro.retained) (l := l) (i := i) (k := k))
    generalize Dv.pL (Gr.gv cur cl ro el (Cal.ok y m p)) q p el.length ro.dividends ro.retained l i k = L at *
    generalize Dv.pE (Gr.gv cur cl ro el (Cal.ok y m p)) q p el.length ro.dividends ro.retained l i k = E at *
    generalize Dv.rec ro.dividends l i k = n at *
    have hE : (E == E) = true := by simp
    have hn : (n == n) = true := by simp
    go_upto_region 4 with (go_at_call 26; refine KB.out.mono ?_; rintro e w4 ⟨v, u, rfl, hv, hu, hb9⟩; obtain ⟨A2, c2, rfl, hC⟩ := both_in (w3 := w3) (HO.out.step hb) hb9 hv (by omega) OK.out.its; obtain ⟨A3, c3, rfl, hD⟩ := both_in (w3 := w3) (HO.out.step hb) hb9 hu (by omega) OK.out.its; have HC := Lib.hid hC; have HD := Lib.hid hD; replace hb := bel hb hb9; replace HB := Lib.hid (HB.out.step hb9); replace HT := Lib.hid (HT.out.step hb9); clear hb9 hv hu hC hD)
    go_upto_region 5 with (first
      | (refine wpList_load_blk 29 (.tmp 3) rfl (w.heap.size) rfl (by kernel_rfl) (HB).out Try.underlying29 hgi ?_)
      | (refine wpList_builtV rfl 29 rfl 72 _ rfl (bkOf gcs) [(0, .agg gcs)] (by kernel_rfl) HBT.out ?_)
      | (refine wpList_alloc_put rfl 72 (.tmp 9) (.tmp 29) rfl rfl (bkOf gcs) _ rfl rfl 27 books_size HBS.out.size rfl HB1.out ?_))
    have hz4 := hb.size
    replace hb := hb.alloc hz4 (.cells (bkOf gcs) 72)
    have HBK := Lib.hid (Blk.new w4 72 (bkOf gcs))
    replace HB := Lib.hid (HB.out.alloc (.cells (bkOf gcs) 72))
    replace HT := Lib.hid (HT.out.alloc (.cells (bkOf gcs) 72))
    replace HC := Lib.hid (HC.out.step ((Below.refl _ _).alloc (Nat.le_refl _) (.cells (bkOf gcs) 72)))
    replace HD := Lib.hid (HD.out.step ((Below.refl _ _).alloc (Nat.le_refl _) (.cells (bkOf gcs) 72)))
    clear hz4
    generalize hg4 : w4.heap.size = g4 at *
    have HG4 := Lib.hid hg4
    clear hg4
    generalize w4.alloc (.cells (bkOf gcs) 72) = w5 at *
    have t0 : w5.cell? ⟨w.heap.size + 1, 0, none⟩ = some (.int .i64 i) := HT.out.cell 0
    have t1 : w5.cell? ⟨w.heap.size + 1, 1, none⟩ = some (.int .i64 k) := HT.out.cell 1
    have t2 : w5.cell? ⟨w.heap.size + 1, 2, none⟩ = some (.int .i64 q) := HT.out.cell 2
    go_upto_region 6 with (first
      | (refine wpList_load_blk 72 (.tmp 9) rfl g4 rfl (by kernel_rfl) HBK.out Try.underlying72 (by rw [HBS.out.size]; exact books_size) ?_)
      | (go_at_call 27; refine (KP.out _ _ _ (H.out.step hb) HC.out).mono ?_; rintro e w6 ⟨x, rfl, hI, hOw, hb9⟩; have hb6 := bel hb hb9; have HB6 := Lib.hid (HB.out.step hb9); have HT6 := Lib.hid (HT.out.step hb9); have HBK6 := Lib.hid (HBK.out.step hb9); have HC6 := Lib.hid (HC.out.step hb9); have HD6 := Lib.hid (HD.out.step hb9); have HI := Lib.hid hI; have HX := Lib.hid hOw; clear hb9 hI hOw t0 t1 t2; obtain ⟨xk, xe, xo, xr, ⟨xl, xA, xc⟩⟩ := x; simp only [PostR.arr, Sl.val]))
    have HNX := Lib.hid (Blk.new w6 55 #[.int .i64 xk, .int .i64 xe, .int .i64 xo, .int .i64 xr, .slice xA xl.length xc])
    have hst := (Below.refl w6.heap.size w6).alloc (Nat.le_refl _) (.cells #[.int .i64 xk, .int .i64 xe, .int .i64 xo, .int .i64 xr, .slice xA xl.length xc] 55)
    replace hb6 := bel hb6 hst
    replace HB6 := Lib.hid (HB6.out.step hst)
    replace HT6 := Lib.hid (HT6.out.step hst)
    replace HBK6 := Lib.hid (HBK6.out.step hst)
    replace HC6 := Lib.hid (HC6.out.step hst)
    replace HD6 := Lib.hid (HD6.out.step hst)
    have HXR := Lib.hid (Rd.now (own_rd HX.out) hst)
    clear hst HX
    generalize hg6 : w6.heap.size = g6 at *
    have HG6 := Lib.hid hg6
    clear hg6
    generalize w6.alloc (.cells #[.int .i64 xk, .int .i64 xe, .int .i64 xo, .int .i64 xr, .slice xA xl.length xc] 55) = w7 at *
    have t0 : w7.cell? ⟨w.heap.size + 1, 0, none⟩ = some (.int .i64 i) := HT6.out.cell 0
    have t1 : w7.cell? ⟨w.heap.size + 1, 1, none⟩ = some (.int .i64 k) := HT6.out.cell 1
    have t2 : w7.cell? ⟨w.heap.size + 1, 2, none⟩ = some (.int .i64 q) := HT6.out.cell 2
    go_upto_region 7 with (first
      | (refine wpList_load_blk 72 (.tmp 9) rfl g4 rfl (by kernel_rfl) HBK6.out Try.underlying72 (by rw [HBS.out.size]; exact books_size) ?_)
      | (go_at_call 28; refine (KQ.out _ _ _ (H.out.step hb6) HD6.out).mono ?_; rintro e w8 ⟨z, rfl, hI, hOw, hb9⟩; have hb8 := bel hb6 hb9; have HB8 := Lib.hid (HB6.out.step hb9); have HT8 := Lib.hid (HT6.out.step hb9); have HC8 := Lib.hid (HC6.out.step hb9); have HD8 := Lib.hid (HD6.out.step hb9); have HJ := Lib.hid hI; have HZ := Lib.hid hOw; have HXR8 := Lib.hid (Rd.now HXR.out hb9); have HNX8 := Lib.hid (HNX.out.step hb9); clear hb9 hI hOw t0 t1 t2; obtain ⟨zk, ze, zo, zr, ⟨zl, zA, zc⟩⟩ := z; simp only [PostR.arr, Sl.val]))
    have HNZ := Lib.hid (Blk.new w8 55 #[.int .i64 zk, .int .i64 ze, .int .i64 zo, .int .i64 zr, .slice zA zl.length zc])
    have hst := (Below.refl w8.heap.size w8).alloc (Nat.le_refl _) (.cells #[.int .i64 zk, .int .i64 ze, .int .i64 zo, .int .i64 zr, .slice zA zl.length zc] 55)
    replace hb8 := bel hb8 hst
    replace HB8 := Lib.hid (HB8.out.step hst)
    replace HT8 := Lib.hid (HT8.out.step hst)
    replace HC8 := Lib.hid (HC8.out.step hst)
    replace HD8 := Lib.hid (HD8.out.step hst)
    have HZR := Lib.hid (Rd.now (own_rd HZ.out) hst)
    replace HXR8 := Lib.hid (Rd.now HXR8.out hst)
    replace HNX8 := Lib.hid (HNX8.out.step hst)
    clear hst HZ
    generalize hg8 : w8.heap.size = g8 at *
    have HG8 := Lib.hid hg8
    clear hg8
    generalize w8.alloc (.cells #[.int .i64 zk, .int .i64 ze, .int .i64 zo, .int .i64 zr, .slice zA zl.length zc] 55) = w9 at *
    have HSP := Lib.hid (isP_same HI.out HJ.out)
    have hxl : xl.length ≤ 2 := by rw [show xl = L from HI.out.1]; exact HLN.out
    have hzl : zl.length ≤ 2 := by rw [show zl = L from HJ.out.1]; exact HLN.out
    have a0 : ∀ d : Later w9, d.now.cell? ⟨g6, 0, none⟩ = some (.int .i64 xk) := fun d => d.cell HNX8.out.lt (HNX8.out.cell 0)
    have a1 : ∀ d : Later w9, d.now.cell? ⟨g6, 1, none⟩ = some (.int .i64 xe) := fun d => d.cell HNX8.out.lt (HNX8.out.cell 1)
    have a2 : ∀ d : Later w9, d.now.cell? ⟨g6, 2, none⟩ = some (.int .i64 xo) := fun d => d.cell HNX8.out.lt (HNX8.out.cell 2)
    have a3 : ∀ d : Later w9, d.now.cell? ⟨g6, 3, none⟩ = some (.int .i64 xr) := fun d => d.cell HNX8.out.lt (HNX8.out.cell 3)
    have a4 : ∀ d : Later w9, d.now.cell? ⟨g6, 4, none⟩ = some (.slice xA xl.length xc) := fun d => d.cell HNX8.out.lt (HNX8.out.cell 4)
    have b0 : ∀ d : Later w9, d.now.cell? ⟨g8, 0, none⟩ = some (.int .i64 zk) := fun d => d.cell HNZ.out.lt (HNZ.out.cell 0)
    have b1 : ∀ d : Later w9, d.now.cell? ⟨g8, 1, none⟩ = some (.int .i64 ze) := fun d => d.cell HNZ.out.lt (HNZ.out.cell 1)
    have b2 : ∀ d : Later w9, d.now.cell? ⟨g8, 2, none⟩ = some (.int .i64 zo) := fun d => d.cell HNZ.out.lt (HNZ.out.cell 2)
    have b3 : ∀ d : Later w9, d.now.cell? ⟨g8, 3, none⟩ = some (.int .i64 zr) := fun d => d.cell HNZ.out.lt (HNZ.out.cell 3)
    have b4 : ∀ d : Later w9, d.now.cell? ⟨g8, 4, none⟩ = some (.slice zA zl.length zc) := fun d => d.cell HNZ.out.lt (HNZ.out.cell 4)
    have p0 : ∀ d : Later w9, d.now.cell? ⟨w.heap.size + 1, 0, none⟩ = some (.int .i64 i) := fun d => d.cell HT8.out.lt (HT8.out.cell 0)
    have p1 : ∀ d : Later w9, d.now.cell? ⟨w.heap.size + 1, 1, none⟩ = some (.int .i64 k) := fun d => d.cell HT8.out.lt (HT8.out.cell 1)
    go_wp2_with fail
    refine rel_begin (n := 28) (w9) (by kernel_rfl) rfl ?_; have hC := Near.drew (w9)
    (first | (refine rel_want (i := 0) rfl rfl (by kernel_rfl) (by kernel_rfl) (by kernel_rfl) rfl (fun _ _ _ _ h => h) hC ?_; intro K hK; go_big_quiet_op; go_big_quiet_on) | (refine rel_skip (i := 0) rfl (by kernel_rfl) (by kernel_rfl) (by kernel_rfl) rfl (fun _ _ _ _ h => h) hC ?_; simp only [Act.put, List.setIfInBounds_toArray, List.set_cons_zero, List.set_cons_succ])); (first | (refine rel_want (i := 1) rfl rfl (by kernel_rfl) (by kernel_rfl) (by kernel_rfl) rfl (fun _ _ _ _ h => h) hC ?_; intro K hK; go_big_quiet_op; go_big_quiet_on) | (refine rel_skip (i := 1) rfl (by kernel_rfl) (by kernel_rfl) (by kernel_rfl) rfl (fun _ _ _ _ h => h) hC ?_; simp only [Act.put, List.setIfInBounds_toArray, List.set_cons_zero, List.set_cons_succ])); (first | (refine rel_want (i := 2) rfl rfl (by kernel_rfl) (by kernel_rfl) (by kernel_rfl) rfl (fun _ _ _ _ h => h) hC ?_; intro K hK; go_big_quiet_op; go_big_quiet_on) | (refine rel_skip (i := 2) rfl (by kernel_rfl) (by kernel_rfl) (by kernel_rfl) rfl (fun _ _ _ _ h => h) hC ?_; simp only [Act.put, List.setIfInBounds_toArray, List.set_cons_zero, List.set_cons_succ])); (first | (refine rel_want (i := 3) rfl rfl (by kernel_rfl) (by kernel_rfl) (by kernel_rfl) rfl (fun _ _ _ _ h => h) hC ?_; intro K hK; go_big_quiet_op; go_big_quiet_on) | (refine rel_skip (i := 3) rfl (by kernel_rfl) (by kernel_rfl) (by kernel_rfl) rfl (fun _ _ _ _ h => h) hC ?_; simp only [Act.put, List.setIfInBounds_toArray, List.set_cons_zero, List.set_cons_succ])); (first | (refine rel_want (i := 4) rfl rfl (by kernel_rfl) (by kernel_rfl) (by kernel_rfl) rfl (fun _ _ _ _ h => h) hC ?_; intro K hK; go_big_quiet_op; go_big_quiet_on) | (refine rel_skip (i := 4) rfl (by kernel_rfl) (by kernel_rfl) (by kernel_rfl) rfl (fun _ _ _ _ h => h) hC ?_; simp only [Act.put, List.setIfInBounds_toArray, List.set_cons_zero, List.set_cons_succ])); (first | (refine rel_want (i := 6) rfl rfl (by kernel_rfl) (by kernel_rfl) (by kernel_rfl) rfl (fun _ _ _ _ h => h) hC ?_; intro K hK; go_big_quiet_op; go_big_quiet_on) | (refine rel_skip (i := 6) rfl (by kernel_rfl) (by kernel_rfl) (by kernel_rfl) rfl (fun _ _ _ _ h => h) hC ?_; simp only [Act.put, List.setIfInBounds_toArray, List.set_cons_zero, List.set_cons_succ]))
    refine rel_calls (is := [5, 7]) (by kernel_rfl) (by simp) ?_
    intro j hj
    simp only [List.mem_cons, List.not_mem_nil, or_false] at hj
    rcases hj with rfl | rfl
    · refine ⟨_, rfl, rfl, ?_⟩
      intro K hK
      go_simp
      have hC4 : Below w9.heap.size w9 (w9.alloc (.cells #[.int .i64 xk, .int .i64 xe, .int .i64 xo, .int .i64 xr, .slice xA xl.length xc] 55)).drew := ((Below.refl _ _).alloc (Nat.le_refl _) _).drew
      have hX0 : Blk (w9.alloc (.cells #[.int .i64 xk, .int .i64 xe, .int .i64 xo, .int .i64 xr, .slice xA xl.length xc] 55)).drew w9.heap.size 55 #[.int .i64 xk, .int .i64 xe, .int .i64 xo, .int .i64 xr, .slice xA xl.length xc] := (Blk.new w9 _ _).drew
      refine hK _ _ (Near.of hC4) ?_
      clear hK K hC
      generalize (w9.alloc (.cells #[.int .i64 xk, .int .i64 xe, .int .i64 xo, .int .i64 xr, .slice xA xl.length xc] 55)).drew = wa at *
      intro hC
      (try simp only [Act.put, List.setIfInBounds_toArray, List.set_cons_zero, List.set_cons_succ])
      refine rel_call (i := 7) (by kernel_rfl) rfl rfl ?_
      intro K hK
      go_simp
      have hC5 : Below w9.heap.size w9 (wa.alloc (.cells #[.int .i64 zk, .int .i64 ze, .int .i64 zo, .int .i64 zr, .slice zA zl.length zc] 55)) := hC4.alloc hC4.size _
      have hX1 : Blk (wa.alloc (.cells #[.int .i64 zk, .int .i64 ze, .int .i64 zo, .int .i64 zr, .slice zA zl.length zc] 55)) w9.heap.size 55 #[.int .i64 xk, .int .i64 xe, .int .i64 xo, .int .i64 xr, .slice xA xl.length xc] := hX0.alloc _
      have hX2 : Blk (wa.alloc (.cells #[.int .i64 zk, .int .i64 ze, .int .i64 zo, .int .i64 zr, .slice zA zl.length zc] 55)) wa.heap.size 55 #[.int .i64 zk, .int .i64 ze, .int .i64 zo, .int .i64 zr, .slice zA zl.length zc] := Blk.new wa _ _
      refine hK _ _ (Near.of hC5) ?_
      clear hK K hC
      generalize wa.alloc (.cells #[.int .i64 zk, .int .i64 ze, .int .i64 zo, .int .i64 zr, .slice zA zl.length zc] 55) = wb at *
      intro hC
      (try simp only [Act.put, List.setIfInBounds_toArray, List.set_cons_zero, List.set_cons_succ])
      have HPX := Lib.hid (pin_one (x := ⟨xk, xe, xo, xr, ⟨xl, xA, xc⟩⟩) hX1 (Rd.now HXR8.out hC5) hxl)
      have HPZ := Lib.hid (pin_one (x := ⟨zk, ze, zo, zr, ⟨zl, zA, zc⟩⟩) hX2 (Rd.now HZR.out hC5) hzl)
      clear hX0 hX1 hX2 hC4 hC5
      refine rel_call (i := 8) (by kernel_rfl) rfl rfl ?_; intro K hK; go_simp; go_at_call 29; refine (samep_yes [⟨xk, xe, xo, xr, ⟨xl, xA, xc⟩⟩] [⟨zk, ze, zo, zr, ⟨zl, zA, zc⟩⟩] (some ⟨w9.heap.size, 0, none⟩) (some ⟨wa.heap.size, 0, none⟩) 1 1 wb HPX.out HPZ.out rfl (one_same HSP.out)).mono ?_; rintro e w2 ⟨rfl, hb2⟩; (try go_wp2_with fail); replace hC := hC.on hb2; refine hK _ _ hC (fun _ => ?_); clear hK K; (try simp only [Act.put, List.setIfInBounds_toArray, List.set_cons_zero, List.set_cons_succ])
      (first | (refine rel_want (i := 9) rfl rfl (by kernel_rfl) (by kernel_rfl) (by kernel_rfl) rfl (fun _ _ _ _ h => h) hC ?_; intro K hK; go_big_quiet_op; go_big_quiet_on) | (refine rel_skip (i := 9) rfl (by kernel_rfl) (by kernel_rfl) (by kernel_rfl) rfl (fun _ _ _ _ h => h) hC ?_; simp only [Act.put, List.setIfInBounds_toArray, List.set_cons_zero, List.set_cons_succ])); (first | (refine rel_want (i := 10) rfl rfl (by kernel_rfl) (by kernel_rfl) (by kernel_rfl) rfl (fun _ _ _ _ h => h) hC ?_; intro K hK; go_big_quiet_op; go_big_quiet_on) | (refine rel_skip (i := 10) rfl (by kernel_rfl) (by kernel_rfl) (by kernel_rfl) rfl (fun _ _ _ _ h => h) hC ?_; simp only [Act.put, List.setIfInBounds_toArray, List.set_cons_zero, List.set_cons_succ]))
      refine rel_load_blk (i := 11) rfl 29 (.tmp 3) rfl (w.heap.size) rfl (by kernel_rfl) (by kernel_rfl) (by kernel_rfl) rfl (fun _ _ _ _ h => h) hC (HB8).out Try.underlying29 hgi ?_; (try simp only [Act.put, List.setIfInBounds_toArray, List.set_cons_zero, List.set_cons_succ])
      (first | (refine rel_want (i := 12) rfl rfl (by kernel_rfl) (by kernel_rfl) (by kernel_rfl) rfl (fun _ _ _ _ h => h) hC ?_; intro K hK; go_big_quiet_op; go_big_quiet_on) | (refine rel_skip (i := 12) rfl (by kernel_rfl) (by kernel_rfl) (by kernel_rfl) rfl (fun _ _ _ _ h => h) hC ?_; simp only [Act.put, List.setIfInBounds_toArray, List.set_cons_zero, List.set_cons_succ])); (first | (refine rel_want (i := 13) rfl rfl (by kernel_rfl) (by kernel_rfl) (by kernel_rfl) rfl (fun _ _ _ _ h => h) hC ?_; intro K hK; go_big_quiet_op; go_big_quiet_on) | (refine rel_skip (i := 13) rfl (by kernel_rfl) (by kernel_rfl) (by kernel_rfl) rfl (fun _ _ _ _ h => h) hC ?_; simp only [Act.put, List.setIfInBounds_toArray, List.set_cons_zero, List.set_cons_succ])); (first | (refine rel_want (i := 14) rfl rfl (by kernel_rfl) (by kernel_rfl) (by kernel_rfl) rfl (fun _ _ _ _ h => h) hC ?_; intro K hK; go_big_quiet_op; go_big_quiet_on) | (refine rel_skip (i := 14) rfl (by kernel_rfl) (by kernel_rfl) (by kernel_rfl) rfl (fun _ _ _ _ h => h) hC ?_; simp only [Act.put, List.setIfInBounds_toArray, List.set_cons_zero, List.set_cons_succ])); (first | (refine rel_want (i := 15) rfl rfl (by kernel_rfl) (by kernel_rfl) (by kernel_rfl) rfl (fun _ _ _ _ h => h) hC ?_; intro K hK; go_big_quiet_op; go_big_quiet_on) | (refine rel_skip (i := 15) rfl (by kernel_rfl) (by kernel_rfl) (by kernel_rfl) rfl (fun _ _ _ _ h => h) hC ?_; simp only [Act.put, List.setIfInBounds_toArray, List.set_cons_zero, List.set_cons_succ])); (first | (refine rel_want (i := 16) rfl rfl (by kernel_rfl) (by kernel_rfl) (by kernel_rfl) rfl (fun _ _ _ _ h => h) hC ?_; intro K hK; go_big_quiet_op; go_big_quiet_on) | (refine rel_skip (i := 16) rfl (by kernel_rfl) (by kernel_rfl) (by kernel_rfl) rfl (fun _ _ _ _ h => h) hC ?_; simp only [Act.put, List.setIfInBounds_toArray, List.set_cons_zero, List.set_cons_succ]))
      refine rel_load_blk (i := 18) rfl 29 (.tmp 3) rfl (w.heap.size) rfl (by kernel_rfl) (by kernel_rfl) (by kernel_rfl) rfl (fun _ _ _ _ h => h) hC (HB8).out Try.underlying29 hgi ?_; (try simp only [Act.put, List.setIfInBounds_toArray, List.set_cons_zero, List.set_cons_succ])
      (first | (refine rel_want (i := 19) rfl rfl (by kernel_rfl) (by kernel_rfl) (by kernel_rfl) rfl (fun _ _ _ _ h => h) hC ?_; intro K hK; go_big_quiet_op; go_big_quiet_on) | (refine rel_skip (i := 19) rfl (by kernel_rfl) (by kernel_rfl) (by kernel_rfl) rfl (fun _ _ _ _ h => h) hC ?_; simp only [Act.put, List.setIfInBounds_toArray, List.set_cons_zero, List.set_cons_succ])); (first | (refine rel_want (i := 20) rfl rfl (by kernel_rfl) (by kernel_rfl) (by kernel_rfl) rfl (fun _ _ _ _ h => h) hC ?_; intro K hK; go_big_quiet_op; go_big_quiet_on) | (refine rel_skip (i := 20) rfl (by kernel_rfl) (by kernel_rfl) (by kernel_rfl) rfl (fun _ _ _ _ h => h) hC ?_; simp only [Act.put, List.setIfInBounds_toArray, List.set_cons_zero, List.set_cons_succ])); (first | (refine rel_want (i := 21) rfl rfl (by kernel_rfl) (by kernel_rfl) (by kernel_rfl) rfl (fun _ _ _ _ h => h) hC ?_; intro K hK; go_big_quiet_op; go_big_quiet_on) | (refine rel_skip (i := 21) rfl (by kernel_rfl) (by kernel_rfl) (by kernel_rfl) rfl (fun _ _ _ _ h => h) hC ?_; simp only [Act.put, List.setIfInBounds_toArray, List.set_cons_zero, List.set_cons_succ])); (first | (refine rel_want (i := 22) rfl rfl (by kernel_rfl) (by kernel_rfl) (by kernel_rfl) rfl (fun _ _ _ _ h => h) hC ?_; intro K hK; go_big_quiet_op; go_big_quiet_on) | (refine rel_skip (i := 22) rfl (by kernel_rfl) (by kernel_rfl) (by kernel_rfl) rfl (fun _ _ _ _ h => h) hC ?_; simp only [Act.put, List.setIfInBounds_toArray, List.set_cons_zero, List.set_cons_succ])); (first | (refine rel_want (i := 23) rfl rfl (by kernel_rfl) (by kernel_rfl) (by kernel_rfl) rfl (fun _ _ _ _ h => h) hC ?_; intro K hK; go_big_quiet_op; go_big_quiet_on) | (refine rel_skip (i := 23) rfl (by kernel_rfl) (by kernel_rfl) (by kernel_rfl) rfl (fun _ _ _ _ h => h) hC ?_; simp only [Act.put, List.setIfInBounds_toArray, List.set_cons_zero, List.set_cons_succ]))
      refine rel_call (i := 17) (by kernel_rfl) rfl rfl ?_; intro K hK; go_simp; go_at_call 30; refine (KR.out _ _ _ (HC8.out.step hC.below)).mono ?_; rintro e w2 ⟨rfl, hb2⟩; (try go_wp2_with fail); replace hC := hC.on hb2; refine hK _ _ hC (fun _ => ?_); clear hK K; (try simp only [Act.put, List.setIfInBounds_toArray, List.set_cons_zero, List.set_cons_succ])
      refine rel_call (i := 24) (by kernel_rfl) rfl rfl ?_; intro K hK; go_simp; go_at_call 31; refine (KS.out _ _ _ (HD8.out.step hC.below)).mono ?_; rintro e w2 ⟨rfl, hb2⟩; (try go_wp2_with fail); replace hC := hC.on hb2; refine hK _ _ hC (fun _ => ?_); clear hK K; (try simp only [Act.put, List.setIfInBounds_toArray, List.set_cons_zero, List.set_cons_succ])
      (first | (refine rel_want (i := 25) rfl rfl (by kernel_rfl) (by kernel_rfl) (by kernel_rfl) rfl (fun _ _ _ _ h => h) hC ?_; intro K hK; go_big_quiet_op; go_big_quiet_on) | (refine rel_skip (i := 25) rfl (by kernel_rfl) (by kernel_rfl) (by kernel_rfl) rfl (fun _ _ _ _ h => h) hC ?_; simp only [Act.put, List.setIfInBounds_toArray, List.set_cons_zero, List.set_cons_succ])); (first | (refine rel_want (i := 26) rfl rfl (by kernel_rfl) (by kernel_rfl) (by kernel_rfl) rfl (fun _ _ _ _ h => h) hC ?_; intro K hK; go_big_quiet_op; go_big_quiet_on) | (refine rel_skip (i := 26) rfl (by kernel_rfl) (by kernel_rfl) (by kernel_rfl) rfl (fun _ _ _ _ h => h) hC ?_; simp only [Act.put, List.setIfInBounds_toArray, List.set_cons_zero, List.set_cons_succ])); (first | (refine rel_want (i := 27) rfl rfl (by kernel_rfl) (by kernel_rfl) (by kernel_rfl) rfl (fun _ _ _ _ h => h) hC ?_; intro K hK; go_big_quiet_op; go_big_quiet_on) | (refine rel_skip (i := 27) rfl (by kernel_rfl) (by kernel_rfl) (by kernel_rfl) rfl (fun _ _ _ _ h => h) hC ?_; simp only [Act.put, List.setIfInBounds_toArray, List.set_cons_zero, List.set_cons_succ]))
      have hCb := hC.below
      refine wpAnyH_done (by kernel_rfl) ?_ _
      go_wp2_with fail
      go_ret
      exact ⟨rfl, bel hb8 hCb⟩
    · refine ⟨_, rfl, rfl, ?_⟩
      intro K hK
      go_simp
      have hC4 : Below w9.heap.size w9 (w9.alloc (.cells #[.int .i64 zk, .int .i64 ze, .int .i64 zo, .int .i64 zr, .slice zA zl.length zc] 55)).drew := ((Below.refl _ _).alloc (Nat.le_refl _) _).drew
      have hX0 : Blk (w9.alloc (.cells #[.int .i64 zk, .int .i64 ze, .int .i64 zo, .int .i64 zr, .slice zA zl.length zc] 55)).drew w9.heap.size 55 #[.int .i64 zk, .int .i64 ze, .int .i64 zo, .int .i64 zr, .slice zA zl.length zc] := (Blk.new w9 _ _).drew
      refine hK _ _ (Near.of hC4) ?_
      clear hK K hC
      generalize (w9.alloc (.cells #[.int .i64 zk, .int .i64 ze, .int .i64 zo, .int .i64 zr, .slice zA zl.length zc] 55)).drew = wa at *
      intro hC
      (try simp only [Act.put, List.setIfInBounds_toArray, List.set_cons_zero, List.set_cons_succ])
      refine rel_call (i := 5) (by kernel_rfl) rfl rfl ?_
      intro K hK
      go_simp
      have hC5 : Below w9.heap.size w9 (wa.alloc (.cells #[.int .i64 xk, .int .i64 xe, .int .i64 xo, .int .i64 xr, .slice xA xl.length xc] 55)) := hC4.alloc hC4.size _
      have hX1 : Blk (wa.alloc (.cells #[.int .i64 xk, .int .i64 xe, .int .i64 xo, .int .i64 xr, .slice xA xl.length xc] 55)) w9.heap.size 55 #[.int .i64 zk, .int .i64 ze, .int .i64 zo, .int .i64 zr, .slice zA zl.length zc] := hX0.alloc _
      have hX2 : Blk (wa.alloc (.cells #[.int .i64 xk, .int .i64 xe, .int .i64 xo, .int .i64 xr, .slice xA xl.length xc] 55)) wa.heap.size 55 #[.int .i64 xk, .int .i64 xe, .int .i64 xo, .int .i64 xr, .slice xA xl.length xc] := Blk.new wa _ _
      refine hK _ _ (Near.of hC5) ?_
      clear hK K hC
      generalize wa.alloc (.cells #[.int .i64 xk, .int .i64 xe, .int .i64 xo, .int .i64 xr, .slice xA xl.length xc] 55) = wb at *
      intro hC
      (try simp only [Act.put, List.setIfInBounds_toArray, List.set_cons_zero, List.set_cons_succ])
      have HPX := Lib.hid (pin_one (x := ⟨xk, xe, xo, xr, ⟨xl, xA, xc⟩⟩) hX2 (Rd.now HXR8.out hC5) hxl)
      have HPZ := Lib.hid (pin_one (x := ⟨zk, ze, zo, zr, ⟨zl, zA, zc⟩⟩) hX1 (Rd.now HZR.out hC5) hzl)
      clear hX0 hX1 hX2 hC4 hC5
      refine rel_call (i := 8) (by kernel_rfl) rfl rfl ?_; intro K hK; go_simp; go_at_call 29; refine (samep_yes [⟨xk, xe, xo, xr, ⟨xl, xA, xc⟩⟩] [⟨zk, ze, zo, zr, ⟨zl, zA, zc⟩⟩] (some ⟨wa.heap.size, 0, none⟩) (some ⟨w9.heap.size, 0, none⟩) 1 1 wb HPX.out HPZ.out rfl (one_same HSP.out)).mono ?_; rintro e w2 ⟨rfl, hb2⟩; (try go_wp2_with fail); replace hC := hC.on hb2; refine hK _ _ hC (fun _ => ?_); clear hK K; (try simp only [Act.put, List.setIfInBounds_toArray, List.set_cons_zero, List.set_cons_succ])
      (first | (refine rel_want (i := 9) rfl rfl (by kernel_rfl) (by kernel_rfl) (by kernel_rfl) rfl (fun _ _ _ _ h => h) hC ?_; intro K hK; go_big_quiet_op; go_big_quiet_on) | (refine rel_skip (i := 9) rfl (by kernel_rfl) (by kernel_rfl) (by kernel_rfl) rfl (fun _ _ _ _ h => h) hC ?_; simp only [Act.put, List.setIfInBounds_toArray, List.set_cons_zero, List.set_cons_succ])); (first | (refine rel_want (i := 10) rfl rfl (by kernel_rfl) (by kernel_rfl) (by kernel_rfl) rfl (fun _ _ _ _ h => h) hC ?_; intro K hK; go_big_quiet_op; go_big_quiet_on) | (refine rel_skip (i := 10) rfl (by kernel_rfl) (by kernel_rfl) (by kernel_rfl) rfl (fun _ _ _ _ h => h) hC ?_; simp only [Act.put, List.setIfInBounds_toArray, List.set_cons_zero, List.set_cons_succ]))
      refine rel_load_blk (i := 11) rfl 29 (.tmp 3) rfl (w.heap.size) rfl (by kernel_rfl) (by kernel_rfl) (by kernel_rfl) rfl (fun _ _ _ _ h => h) hC (HB8).out Try.underlying29 hgi ?_; (try simp only [Act.put, List.setIfInBounds_toArray, List.set_cons_zero, List.set_cons_succ])
      (first | (refine rel_want (i := 12) rfl rfl (by kernel_rfl) (by kernel_rfl) (by kernel_rfl) rfl (fun _ _ _ _ h => h) hC ?_; intro K hK; go_big_quiet_op; go_big_quiet_on) | (refine rel_skip (i := 12) rfl (by kernel_rfl) (by kernel_rfl) (by kernel_rfl) rfl (fun _ _ _ _ h => h) hC ?_; simp only [Act.put, List.setIfInBounds_toArray, List.set_cons_zero, List.set_cons_succ])); (first | (refine rel_want (i := 13) rfl rfl (by kernel_rfl) (by kernel_rfl) (by kernel_rfl) rfl (fun _ _ _ _ h => h) hC ?_; intro K hK; go_big_quiet_op; go_big_quiet_on) | (refine rel_skip (i := 13) rfl (by kernel_rfl) (by kernel_rfl) (by kernel_rfl) rfl (fun _ _ _ _ h => h) hC ?_; simp only [Act.put, List.setIfInBounds_toArray, List.set_cons_zero, List.set_cons_succ])); (first | (refine rel_want (i := 14) rfl rfl (by kernel_rfl) (by kernel_rfl) (by kernel_rfl) rfl (fun _ _ _ _ h => h) hC ?_; intro K hK; go_big_quiet_op; go_big_quiet_on) | (refine rel_skip (i := 14) rfl (by kernel_rfl) (by kernel_rfl) (by kernel_rfl) rfl (fun _ _ _ _ h => h) hC ?_; simp only [Act.put, List.setIfInBounds_toArray, List.set_cons_zero, List.set_cons_succ])); (first | (refine rel_want (i := 15) rfl rfl (by kernel_rfl) (by kernel_rfl) (by kernel_rfl) rfl (fun _ _ _ _ h => h) hC ?_; intro K hK; go_big_quiet_op; go_big_quiet_on) | (refine rel_skip (i := 15) rfl (by kernel_rfl) (by kernel_rfl) (by kernel_rfl) rfl (fun _ _ _ _ h => h) hC ?_; simp only [Act.put, List.setIfInBounds_toArray, List.set_cons_zero, List.set_cons_succ])); (first | (refine rel_want (i := 16) rfl rfl (by kernel_rfl) (by kernel_rfl) (by kernel_rfl) rfl (fun _ _ _ _ h => h) hC ?_; intro K hK; go_big_quiet_op; go_big_quiet_on) | (refine rel_skip (i := 16) rfl (by kernel_rfl) (by kernel_rfl) (by kernel_rfl) rfl (fun _ _ _ _ h => h) hC ?_; simp only [Act.put, List.setIfInBounds_toArray, List.set_cons_zero, List.set_cons_succ]))
      refine rel_load_blk (i := 18) rfl 29 (.tmp 3) rfl (w.heap.size) rfl (by kernel_rfl) (by kernel_rfl) (by kernel_rfl) rfl (fun _ _ _ _ h => h) hC (HB8).out Try.underlying29 hgi ?_; (try simp only [Act.put, List.setIfInBounds_toArray, List.set_cons_zero, List.set_cons_succ])
      (first | (refine rel_want (i := 19) rfl rfl (by kernel_rfl) (by kernel_rfl) (by kernel_rfl) rfl (fun _ _ _ _ h => h) hC ?_; intro K hK; go_big_quiet_op; go_big_quiet_on) | (refine rel_skip (i := 19) rfl (by kernel_rfl) (by kernel_rfl) (by kernel_rfl) rfl (fun _ _ _ _ h => h) hC ?_; simp only [Act.put, List.setIfInBounds_toArray, List.set_cons_zero, List.set_cons_succ])); (first | (refine rel_want (i := 20) rfl rfl (by kernel_rfl) (by kernel_rfl) (by kernel_rfl) rfl (fun _ _ _ _ h => h) hC ?_; intro K hK; go_big_quiet_op; go_big_quiet_on) | (refine rel_skip (i := 20) rfl (by kernel_rfl) (by kernel_rfl) (by kernel_rfl) rfl (fun _ _ _ _ h => h) hC ?_; simp only [Act.put, List.setIfInBounds_toArray, List.set_cons_zero, List.set_cons_succ])); (first | (refine rel_want (i := 21) rfl rfl (by kernel_rfl) (by kernel_rfl) (by kernel_rfl) rfl (fun _ _ _ _ h => h) hC ?_; intro K hK; go_big_quiet_op; go_big_quiet_on) | (refine rel_skip (i := 21) rfl (by kernel_rfl) (by kernel_rfl) (by kernel_rfl) rfl (fun _ _ _ _ h => h) hC ?_; simp only [Act.put, List.setIfInBounds_toArray, List.set_cons_zero, List.set_cons_succ])); (first | (refine rel_want (i := 22) rfl rfl (by kernel_rfl) (by kernel_rfl) (by kernel_rfl) rfl (fun _ _ _ _ h => h) hC ?_; intro K hK; go_big_quiet_op; go_big_quiet_on) | (refine rel_skip (i := 22) rfl (by kernel_rfl) (by kernel_rfl) (by kernel_rfl) rfl (fun _ _ _ _ h => h) hC ?_; simp only [Act.put, List.setIfInBounds_toArray, List.set_cons_zero, List.set_cons_succ])); (first | (refine rel_want (i := 23) rfl rfl (by kernel_rfl) (by kernel_rfl) (by kernel_rfl) rfl (fun _ _ _ _ h => h) hC ?_; intro K hK; go_big_quiet_op; go_big_quiet_on) | (refine rel_skip (i := 23) rfl (by kernel_rfl) (by kernel_rfl) (by kernel_rfl) rfl (fun _ _ _ _ h => h) hC ?_; simp only [Act.put, List.setIfInBounds_toArray, List.set_cons_zero, List.set_cons_succ]))
      refine rel_call (i := 17) (by kernel_rfl) rfl rfl ?_; intro K hK; go_simp; go_at_call 30; refine (KR.out _ _ _ (HC8.out.step hC.below)).mono ?_; rintro e w2 ⟨rfl, hb2⟩; (try go_wp2_with fail); replace hC := hC.on hb2; refine hK _ _ hC (fun _ => ?_); clear hK K; (try simp only [Act.put, List.setIfInBounds_toArray, List.set_cons_zero, List.set_cons_succ])
      refine rel_call (i := 24) (by kernel_rfl) rfl rfl ?_; intro K hK; go_simp; go_at_call 31; refine (KS.out _ _ _ (HD8.out.step hC.below)).mono ?_; rintro e w2 ⟨rfl, hb2⟩; (try go_wp2_with fail); replace hC := hC.on hb2; refine hK _ _ hC (fun _ => ?_); clear hK K; (try simp only [Act.put, List.setIfInBounds_toArray, List.set_cons_zero, List.set_cons_succ])
      (first | (refine rel_want (i := 25) rfl rfl (by kernel_rfl) (by kernel_rfl) (by kernel_rfl) rfl (fun _ _ _ _ h => h) hC ?_; intro K hK; go_big_quiet_op; go_big_quiet_on) | (refine rel_skip (i := 25) rfl (by kernel_rfl) (by kernel_rfl) (by kernel_rfl) rfl (fun _ _ _ _ h => h) hC ?_; simp only [Act.put, List.setIfInBounds_toArray, List.set_cons_zero, List.set_cons_succ])); (first | (refine rel_want (i := 26) rfl rfl (by kernel_rfl) (by kernel_rfl) (by kernel_rfl) rfl (fun _ _ _ _ h => h) hC ?_; intro K hK; go_big_quiet_op; go_big_quiet_on) | (refine rel_skip (i := 26) rfl (by kernel_rfl) (by kernel_rfl) (by kernel_rfl) rfl (fun _ _ _ _ h => h) hC ?_; simp only [Act.put, List.setIfInBounds_toArray, List.set_cons_zero, List.set_cons_succ])); (first | (refine rel_want (i := 27) rfl rfl (by kernel_rfl) (by kernel_rfl) (by kernel_rfl) rfl (fun _ _ _ _ h => h) hC ?_; intro K hK; go_big_quiet_op; go_big_quiet_on) | (refine rel_skip (i := 27) rfl (by kernel_rfl) (by kernel_rfl) (by kernel_rfl) rfl (fun _ _ _ _ h => h) hC ?_; simp only [Act.put, List.setIfInBounds_toArray, List.set_cons_zero, List.set_cons_succ]))
      have hCb := hC.below
      refine wpAnyH_done (by kernel_rfl) ?_ _
      go_wp2_with fail
      go_ret
      exact ⟨rfl, bel hb8 hCb⟩
end
end Go.Proofs.Ytnkmjdaeafeaaaa
/- How the law's argument is opened: contributions. -/
namespace Go.Proofs.Ytnkmjdaeafeaaaa
set_option linter.unusedVariables false
set_option linter.unusedSimpArgs false
open Go.RowKit Go.WideShapes Go.ChangeShapes

variable {H : Type} {enc : TypeId × Value → H} {w : World} {base : Nat} {spare : Nat → Bool} {held : Bool}
theorem opens_Own : Opens enc Try.prog w base spare held 83 ConR.own (ConR.Ok w) :=
  (opens_struct Try.underlying83 (by kernel_rfl) (opensF_cons (k := 1) (opens_int Try.underlying3) rfl (by kernel_rfl) (opensF_cons (k := 1) (opens_int Try.underlying3) rfl (by kernel_rfl) (opensF_cons (k := 1) (opens_slice Try.underlying81 (by kernel_rfl) (by decide) ItemR.len opens_ItemR) rfl (by kernel_rfl) (opensF_nil _))))).map (fun p => (⟨p.1, p.2.1, p.2.2.1⟩ : ConR)) (fun _ => rfl) (fun _ h => ⟨h.1, h.2.1, h.2.2.1⟩)
theorem oin_of {s : Sl ConR} (h : s.Lies w ConR.own 3 ∧ ∀ x ∈ s.l, x.Ok w) : OIn w s.l s.A :=
  ⟨h.1.1, fun x hx => ⟨(h.2 x hx).2.2.1.1, Nat.le_trans (h.2 x hx).2.2.1.2.1 (h.2 x hx).2.2.1.2.2⟩, Nat.le_trans h.1.2.1 h.1.2.2⟩
end Go.Proofs.Ytnkmjdaeafeaaaa
