/- Texts of this claim, put together. -/
import Derived.Test.YthfbpbbepogllaaGreatSamPostZ
import Derived.Test.YthfbpbbepogllaaGreatJAJ
import Derived.Test.YthfbpbbepogllaaGreatJAI
import Derived.Test.YthfbpbbepogllaaGreatJBA
/- The walks of the law's own 'small', 'few' and 'both'. -/
namespace Go.Proofs.YthfbpbbepogllaaGreat
set_option linter.unusedVariables false
set_option linter.unusedSimpArgs false
open Go.RowKit

def itSmall (x : ItemR) : Bool := decide (x.amount ≤ 1125899906842624) && decide (-1125899906842624 ≤ x.amount)
/-- what the law's argument is -/
structure OIn (w : World) (l : List ConR) (A : Option Addr) : Prop where
  rd : Rd w w.heap.size 3 A l.length (cellsOf ConR.own l)
  it : ∀ x ∈ l, Rd w w.heap.size 7 x.items.A x.items.l.length (cellsOf ItemR.cells x.items.l) ∧ x.items.l.length ≤ maxLen
  len : l.length ≤ maxLen
theorem OIn.step {w w2 : World} {l : List ConR} {A : Option Addr} (h : OIn w l A) (hb : Below w.heap.size w w2) : OIn w2 l A :=
  ⟨Rd.now h.rd hb, fun x hx => ⟨Rd.now (h.it x hx).1 hb, (h.it x hx).2⟩, h.len⟩
def conOk (x : ConR) : Bool := decide (x.items.l.length ≤ 40) && x.items.l.all itSmall
structure DFew (cur : ByteArray) (cl : List Acc) (el : List EntR) (l : List ConR) : Prop where
  grp : FewOk cur cl el
  len : l.length ≤ 14
  it : ∀ x ∈ l, conOk x = true
section
variable (cur : ByteArray) (y m p : Int) (cl : List Acc) (cA : Option Addr) (cc : Nat) (ro : RolesR) (el : List EntR) (eA : Option Addr) (ec : Nat) (w : World)
end
end Go.Proofs.YthfbpbbepogllaaGreat
/- The walk of the law's own 'both'. -/
namespace Go.Proofs.YthfbpbbepogllaaGreat
set_option linter.unusedVariables false
set_option linter.unusedSimpArgs false
open Go.RowKit

theorem con_info : (Tryz.prog.info? 93).map (fun i => (i.zero, i.size, i.bytes)) = some (some (.agg zeroCon), 13, 200) := by kernel_rfl
theorem rcon_info : (Tryz.prog.info? 99).map (fun i => (i.zero, i.size, i.bytes)) = some (some (.agg zeroCon), 13, 200) := by kernel_rfl
def BothPost (l : List ConR) (w : World) (e : Ending) (w' : World) : Prop :=
  ∃ v u : Value, e = .returned (.tuple #[v, u]) ∧ w'.ownsRow w.heap.size 93 13 v l.length (cellsOf ConR.cells l) ∧ w'.ownsRow w.heap.size 99 13 u l.length (cellsOf ConR.cells l) ∧ Below w.heap.size w w'
end Go.Proofs.YthfbpbbepogllaaGreat
/- The law's own 'awake' for dividends. -/
namespace Go.Proofs.YthfbpbbepogllaaGreat
set_option linter.unusedVariables false
set_option linter.unusedSimpArgs false
open Go.RowKit

/-- books that hold a group alone -/
def bkOf (gcs : Array Value) : Array Value := (gcs.toList ++ ([.slice none 0 0, .slice none 0 0, .slice none 0 0, .slice none 0 0, .slice none 0 0, .string ⟨#[]⟩] : List Value)).toArray
theorem bkOf_is {gcs : Array Value} (h : gcs.size = 21) : BkIs (bkOf gcs) gcs := by
  refine ⟨?_, h, fun j hj => ?_⟩
  · simp [bkOf, h]
  · have : j < gcs.toList.length := by rw [Array.length_toList, h]; exact hj
    unfold bkOf
    rw [List.getElem?_toArray, List.getElem?_append_left this, Array.getElem?_toList]
theorem bkOf_built {gcs : Array Value} {cur : ByteArray} {y m p : Int} {cl : List Acc} {cA : Option Addr} {cc : Nat} {ro : RolesR} {el : List EntR} {eA : Option Addr} {ec : Nat} (HG : gcs = #[.string cur, .int .i64 y, .int .i64 m, .int .i64 p, .slice cA cl.length cc, .int .i64 ro.investment, .int .i64 ro.goodwill, .int .i64 ro.associates, .int .i64 ro.inventory, .int .i64 ro.reserve, .int .i64 ro.minority, .int .i64 ro.retained, .int .i64 ro.acquired, .int .i64 ro.owners, .int .i64 ro.disposal, .int .i64 ro.associateProfit, .int .i64 ro.dividends, .int .i64 ro.minorityProfit, .int .i64 ro.difference, .int .i64 ro.margin, .slice eA el.length ec]) :
    (Tryz.prog).built 36 [(0, .agg gcs)] = some (bkOf gcs) := by
  rw [HG]
  kernel_rfl
theorem gsize21 {gcs : Array Value} {cur : ByteArray} {y m p : Int} {cl : List Acc} {cA : Option Addr} {cc : Nat} {ro : RolesR} {el : List EntR} {eA : Option Addr} {ec : Nat} (HG : gcs = #[.string cur, .int .i64 y, .int .i64 m, .int .i64 p, .slice cA cl.length cc, .int .i64 ro.investment, .int .i64 ro.goodwill, .int .i64 ro.associates, .int .i64 ro.inventory, .int .i64 ro.reserve, .int .i64 ro.minority, .int .i64 ro.retained, .int .i64 ro.acquired, .int .i64 ro.owners, .int .i64 ro.disposal, .int .i64 ro.associateProfit, .int .i64 ro.dividends, .int .i64 ro.minorityProfit, .int .i64 ro.difference, .int .i64 ro.margin, .slice eA el.length ec]) : gcs.size = 21 := by rw [HG]; rfl
def awkI : List ItemR := [⟨⟨0, 0⟩, 0, 4700, 1, 0, -30⟩]
def awk (g : Nat) : List ConR := [⟨0, 3, ⟨awkI, some ⟨g, 0, none⟩, 1⟩⟩, ⟨1, 3, ⟨[], none, 0⟩⟩]
def awkP : List Bal := [⟨4700, 30⟩, ⟨3300, -30⟩]
def awkL : List Bal := [⟨3300, -30⟩, ⟨4700, 30⟩]
theorem awk_of (c : Int) : ofW awkP c = if c = 4700 then 30 else if c = 3300 then -30 else 0 := by
  rw [ofW_eq' (M := 30) awkP c (by unfold within awkP; decide) (by decide) (by decide)]
  unfold ofV awkP
  by_cases h1 : c = 4700
  · subst h1; decide
  by_cases h2 : c = 3300
  · subst h2; decide
  rw [if_neg h1, if_neg h2]
  simp only [sm_cons, sm_nil]
  rw [if_neg (fun e => h1 e.symm), if_neg (fun e => h2 e.symm)]
  rfl
theorem awk_is : IsC (ofW awkP) awkL := by
  refine ⟨by decide, fun x => ?_⟩
  rw [awk_of]
  obtain ⟨a, n⟩ := x
  simp only [awkL, List.mem_cons, List.not_mem_nil, or_false, Bal.mk.injEq]
  by_cases h1 : a = 4700
  · subst h1; simp; omega
  by_cases h2 : a = 3300
  · subst h2; simp; omega
  simp [h1, h2]
  omega
theorem awk_am (c : Int) : amV (ofW awkP c) = true := by
  rw [awk_of]
  by_cases h1 : c = 4700
  · rw [if_pos h1]; decide
  by_cases h2 : c = 3300
  · rw [if_neg h1, if_pos h2]; decide
  · rw [if_neg h1, if_neg h2]; decide
theorem awk_cln : clnL awkP = awkL ∧ clnE awkP = 0 := by
  obtain ⟨h1, h2⟩ := cln_is (m := awkP) (L := awkL) (E := 0) (.inl ⟨rfl, awk_is, awk_am⟩)
  exact ⟨h1.symm, h2.symm⟩
theorem awk_parts (g : Nat) : Dv.parts 4700 3300 (Dv.rec 4700 (awk g) 1 0) = awkP := by kernel_rfl
theorem awk_e (g : Nat) : Dv.pE true 0 36 4 4700 3300 (awk g) 1 0 = 0 := by
  unfold Dv.pE
  rw [if_pos (by decide), if_pos (by decide), if_pos (by kernel_rfl), awk_parts, awk_cln.2]
theorem awk_l (g : Nat) : Dv.pL true 0 36 4 4700 3300 (awk g) 1 0 = awkL := by
  unfold Dv.pL
  rw [if_pos ⟨by decide, by decide, by kernel_rfl⟩, awk_parts, awk_cln.1]
theorem own_cin {w : World} {base : Nat} {T : TypeId} {A : Option Addr} {n c : Nat} {l : List ConR} (h : w.ownsRow base T 13 (.slice A n c) l.length (cellsOf ConR.cells l)) (hi : ∀ x ∈ l, Rd w w.heap.size 7 x.items.A x.items.l.length (cellsOf ItemR.cells x.items.l)) (hf : ∀ x ∈ l, x.items.l.length ≤ 1000) (hl : l.length ≤ 1000) : n = l.length ∧ CIn w l A := by
  obtain ⟨A', c', e, hr⟩ := Rd.of_own h
  injection e with e1 e2 e3
  subst e1 e2 e3
  exact ⟨rfl, hr, hi, hf, hl⟩
theorem wf_sam : Wf Sam.ro.dividends ∧ Wf Sam.ro.retained := ⟨by decide, by decide⟩
theorem ent_len (s1 s2 s3 s4 : Sl Acc) (r1 r2 r3 r4 : Sl LinkR) : (Sam.ents s1 s2 s3 s4 r1 r2 r3 r4).length ≤ 1000 := by show 4 ≤ 1000; omega
theorem awk_pins (w : World) (xA : Option Addr) (xc : Nat) (h : Rd w w.heap.size 2 xA awkL.length (cellsOf Bal.cells awkL)) :
    PIn ((((w.alloc (.cells #[.int .i64 9, .int .i64 1, .int .i64 0, .int .i64 0, .slice xA awkL.length xc] 48)).alloc (.cells #[.int .i64 9, .int .i64 1, .int .i64 0, .int .i64 0, .slice xA awkL.length xc] 48)).alloc (.cells #[.int .i64 3300, .int .i64 (-30), .int .i64 4700, .int .i64 30] 68)).alloc (.cells #[.int .i64 9, .int .i64 1, .int .i64 0, .int .i64 0, .slice (some ⟨w.heap.size + 1 + 1, 0, none⟩) 2 2] 48)) [⟨9, 1, 0, 0, ⟨awkL, xA, xc⟩⟩] (some ⟨w.heap.size + 1, 0, none⟩) ∧ PIn ((((w.alloc (.cells #[.int .i64 9, .int .i64 1, .int .i64 0, .int .i64 0, .slice xA awkL.length xc] 48)).alloc (.cells #[.int .i64 9, .int .i64 1, .int .i64 0, .int .i64 0, .slice xA awkL.length xc] 48)).alloc (.cells #[.int .i64 3300, .int .i64 (-30), .int .i64 4700, .int .i64 30] 68)).alloc (.cells #[.int .i64 9, .int .i64 1, .int .i64 0, .int .i64 0, .slice (some ⟨w.heap.size + 1 + 1, 0, none⟩) 2 2] 48)) [⟨9, 1, 0, 0, ⟨awkL, some ⟨w.heap.size + 1 + 1, 0, none⟩, 2⟩⟩] (some ⟨w.heap.size + 1 + 1 + 1, 0, none⟩) := by
  refine ⟨⟨Rd.of_blk (((Blk.newAt (by simp)).alloc _).alloc _) rfl rfl, fun x hx => ?_, fun x hx => ?_, by show 1 ≤ 1000000; omega⟩, ⟨Rd.of_blk (Blk.newAt (by simp)) rfl rfl, fun x hx => ?_, fun x hx => ?_, by show 1 ≤ 1000000; omega⟩⟩
  · simp only [List.mem_cons, List.not_mem_nil, or_false] at hx
    subst hx
    exact Rd.now h (((((Below.refl _ _).alloc (Nat.le_refl _) _).alloc (by simp) _).alloc (by simp; omega) _).alloc (by simp; omega) _)
  · simp only [List.mem_cons, List.not_mem_nil, or_false] at hx
    subst hx
    show 2 ≤ 1000000; omega
  · simp only [List.mem_cons, List.not_mem_nil, or_false] at hx
    subst hx
    exact Rd.of_blk ((Blk.newAt (by simp)).alloc _) rfl rfl
  · simp only [List.mem_cons, List.not_mem_nil, or_false] at hx
    subst hx
    show 2 ≤ 1000000; omega
end Go.Proofs.YthfbpbbepogllaaGreat
/- The walk of DividendPosting. -/
namespace Go.Proofs.YthfbpbbepogllaaGreat
set_option linter.unusedVariables false
set_option linter.unusedSimpArgs false
open Go.RowKit

theorem isP_same {kd i k : Int} {L : List Bal} {x z : PostR} (h1 : Dv.IsP kd i k L x) (h2 : Dv.IsP kd i k L z) : SameP x z := by
  obtain ⟨a1, a2, a3⟩ := h1
  obtain ⟨b1, b2, b3⟩ := h2
  rcases a3 with ⟨e, c1, c2, c3⟩ | ⟨e, c1, c2, c3⟩
  · rcases b3 with ⟨_, d1, d2, d3⟩ | ⟨e2, _⟩
    · exact ⟨c1.trans d1.symm, c2.trans d2.symm, c3.trans d3.symm, a2.trans b2.symm, a1.trans b1.symm⟩
    · exact absurd e e2
  · rcases b3 with ⟨e2, _⟩ | ⟨_, d1, d2, d3⟩
    · exact absurd e2 e
    · exact ⟨c1.trans d1.symm, c2.trans d2.symm, c3.trans d3.symm, a2.trans b2.symm, a1.trans b1.symm⟩
theorem clnL_len (m : List Bal) : (clnL m).length ≤ m.length := by
  rcases cln_alt m with ⟨_, h, _⟩ | ⟨_, h, _⟩
  · exact clean_len h
  · rw [h]; exact Nat.zero_le _
theorem pL_len {V : Bool} {p P : Int} {n : Nat} {d r : Int} {l : List ConR} {i k : Int} : (Dv.pL V p P n d r l i k).length ≤ 2 := by
  unfold Dv.pL
  split
  · exact clnL_len _
  · exact Nat.zero_le _
theorem bkOf_one {gcs : Array Value} (h : gcs.all (·.oneCell') = true) : (bkOf gcs).all (·.oneCell') = true := by
  rw [← Array.all_toList, List.all_eq_true] at h ⊢
  intro u hu
  unfold bkOf at hu
  simp only [List.mem_append] at hu
  rcases hu with hu | hu
  · exact h u hu
  · simp only [List.mem_cons, List.not_mem_nil, or_false] at hu
    rcases hu with rfl | rfl | rfl | rfl | rfl | rfl
    all_goals rfl
theorem pin_one {w : World} {g : Nat} {x : PostR} {T : TypeId} (h : Blk w g T x.arr) (hr : Rd w w.heap.size 2 x.parts.A x.parts.l.length (cellsOf Bal.cells x.parts.l)) (hl : x.parts.l.length ≤ 2) : PIn w [x] (some ⟨g, 0, none⟩) := by
  refine ⟨Rd.of_blk h (by simp [cellsOf, PostR.arr, PostR.cells]) rfl, fun y hy => ?_, fun y hy => ?_, by show 1 ≤ 1000000; omega⟩
  · rw [List.mem_singleton] at hy
    subst hy
    exact hr
  · rw [List.mem_singleton] at hy
    subst hy
    omega
theorem one_same {x z : PostR} (h : SameP x z) : ∀ k (h1 : k < [x].length) (h2 : k < [z].length), SameP [x][k] [z][k] := by
  intro k h1 h2
  have : k = 0 := by simp at h1; omega
  subst this
  exact h
theorem books_size : (Tryz.prog.info? 36).map (·.size) = some 27 := by kernel_rfl
theorem both_in {w w2 w3 : World} {base : Nat} {T : TypeId} {v : Value} {l : List ConR} {A : Option Addr} (hO : OIn w l A) (hb : Below w.heap.size w w2) (hv : w2.ownsRow base T 13 v l.length (cellsOf ConR.cells l)) (hl : l.length ≤ 1000) (hf : ∀ x ∈ l, x.items.l.length ≤ 1000) :
    ∃ A2 c2, v = .slice A2 l.length c2 ∧ CIn w2 l A2 := by
  obtain ⟨A2, c2, rfl, hr⟩ := Rd.of_own hv
  exact ⟨A2, c2, rfl, hr, fun x hx => Rd.now (hO.it x hx).1 hb, hf, hl⟩
theorem DFew.its {cur : ByteArray} {cl : List Acc} {el : List EntR} {l : List ConR} (h : DFew cur cl el l) : ∀ x ∈ l, x.items.l.length ≤ 1000 := fun x hx => by
  have := h.it x hx
  unfold conOk at this
  simp only [Bool.and_eq_true, decide_eq_true_eq] at this
  omega
section
variable (cur : ByteArray) (y m p : Int) (cl : List Acc) (cA : Option Addr) (cc : Nat) (ro : RolesR) (el : List EntR) (eA : Option Addr) (ec : Nat) (w : World)
end
end Go.Proofs.YthfbpbbepogllaaGreat
/- The walk of InventoryPosting. -/
namespace Go.Proofs.YthfbpbbepogllaaGreat
set_option linter.unusedVariables false
set_option linter.unusedSimpArgs false
open Go.RowKit

theorem ipL_len {V : Bool} {q p : Int} {n : Nat} {ro : RolesR} {l : List StkR} {c : List ConR} {a b : Int} : (Iv.pL V q p n ro l c a b).length ≤ 3 := by
  unfold Iv.pL
  split
  · exact clnL_len _
  · exact Nat.zero_le _
theorem pin_one3 {w : World} {g : Nat} {x : PostR} {T : TypeId} (h : Blk w g T x.arr) (hr : Rd w w.heap.size 2 x.parts.A x.parts.l.length (cellsOf Bal.cells x.parts.l)) (hl : x.parts.l.length ≤ 3) : PIn w [x] (some ⟨g, 0, none⟩) := by
  refine ⟨Rd.of_blk h (by simp [cellsOf, PostR.arr, PostR.cells]) rfl, fun y hy => ?_, fun y hy => ?_, by show 1 ≤ 1000000; omega⟩
  · rw [List.mem_singleton] at hy
    subst hy
    exact hr
  · rw [List.mem_singleton] at hy
    subst hy
    omega
section
variable (cur : ByteArray) (y m p : Int) (cl : List Acc) (cA : Option Addr) (cc : Nat) (ro : RolesR) (el : List EntR) (eA : Option Addr) (ec : Nat) (w : World)
set_option maxRecDepth 100000 in
set_option maxHeartbeats 16000000 in
theorem law_InventoryPosting (bcs gcs : Array Value) (l : List StkR) (sA : Option Addr) (sc : Nat) (ms : List Int) (mA : Option Addr) (mc : Nat) (i k q : Int) (HG0 : gcs = #[.string cur, .int .i64 y, .int .i64 m, .int .i64 p, .slice cA cl.length cc, .int .i64 ro.investment, .int .i64 ro.goodwill, .int .i64 ro.associates, .int .i64 ro.inventory, .int .i64 ro.reserve, .int .i64 ro.minority, .int .i64 ro.retained, .int .i64 ro.acquired, .int .i64 ro.owners, .int .i64 ro.disposal, .int .i64 ro.associateProfit, .int .i64 ro.dividends, .int .i64 ro.minorityProfit, .int .i64 ro.difference, .int .i64 ro.margin, .slice eA el.length ec]) (hBK : BkSt bcs gcs (.slice sA l.length sc)) (h : GIn w cl cA el eA) (hc : cur.size ≤ maxLen) (hcl : cl.length ≤ maxLen) (hel : el.length ≤ maxLen)
    (hr : Rd w w.heap.size 5 sA l.length (cellsOf StkR.cells l)) (hl : l.length ≤ maxLen) (hm : Rd w w.heap.size 1 mA ms.length (cellsOf icellM ms)) (hml : ms.length ≤ maxLen) (hw1 : Wf ro.inventory) (hw2 : Wf ro.retained) (hw3 : Wf ro.margin) :
    Calls Tryz.prog 3 #[.agg bcs, .slice mA ms.length mc, .agg #[.int .i64 i, .int .i64 k, .int .i64 q]] w fun e w' => e = .returned (.bool true) ∧ Below w.heap.size w w' := by
  have H := Lib.hid h
  have HR := Lib.hid hr
  have HM := Lib.hid hm
  have HG := Lib.hid HG0
  have HBK := Lib.hid hBK
  have hbz : (Tryz.prog.info? 36).map (·.size) = some bcs.size := by rw [hBK.size]; exact bk_size
  have K0 := Lib.hid (fun W h => ifew_any gcs bcs cur y m p cl cA cc ro el eA ec W sA mA l.length sc ms.length mc HG HBK.out h hc hcl hel hl hml)
  clear h hr hm HG0 hBK hcl hel hc
  have hb : Below w.heap.size w ((w.alloc (.cells bcs 36)).alloc (.cells #[.int .i64 i, .int .i64 k, .int .i64 q] 39)) := ((Below.refl _ _).alloc (Nat.le_refl _) _).alloc (by simp) _
  have HB := Lib.hid ((Blk.new w 36 bcs).alloc (.cells #[.int .i64 i, .int .i64 k, .int .i64 q] 39))
  have HT := Lib.hid (blk_new2 w (.cells bcs 36) 39 #[.int .i64 i, .int .i64 k, .int .i64 q])
  go_enter Tryz.func3, Tryz.ntmps3
  go_wp2_with fail
  generalize (w.alloc (.cells bcs 36)).alloc (.cells #[.int .i64 i, .int .i64 k, .int .i64 q] 39) = W at *
  refine (inv_awake _).mono ?_
  rintro e w2 ⟨rfl, hb9⟩
  replace hb := bel hb hb9
  replace HB := Lib.hid (HB.out.step hb9)
  replace HT := Lib.hid (HT.out.step hb9)
  clear hb9
  go_wp2_with (refine wpList_load_blk 36 (.tmp 3) rfl w.heap.size rfl (by kernel_rfl) HB.out Tryz.underlying36 hbz ?_)
  refine (K0.out _ (H.out.step hb)).mono ?_
  rintro e w3 ⟨b, rfl, hb9, hok⟩
  replace hb := bel hb hb9
  replace HB := Lib.hid (HB.out.step hb9)
  replace HT := Lib.hid (HT.out.step hb9)
  clear hb9 K0
  cases b
  · clear hok
    go_wp2_with (go_at_call 10; refine (inv_awake _).mono ?_; rintro e w4 ⟨rfl, hb9⟩; replace hb := bel hb hb9; clear hb9)
    go_ret
    exact ⟨rfl, hb⟩
  · have OK := Lib.hid (hok rfl)
    clear hok
    have hln := OK.out.2.1
    have hmn := OK.out.2.2
    have HS : Hid (∀ W, Below w.heap.size w W → SIn W l sA) := Lib.hid (fun W hW => ⟨Rd.now HR.out hW, by omega⟩)
    have KB := Lib.hid (iboth_any ms mA mc w3 (Rd.now HM.out hb) (by omega))
    have KP := Lib.hid (fun W A c h hS hC => iposting_any gcs cur y m p cl cA cc ro el eA ec W bcs l sA sc (conM ms) i k q A c HG HBK.out h OK.out.1 hS hC hw1 hw2 hw3)
    have KQ := Lib.hid (fun W A c h hS hC => riposting_any gcs cur y m p cl cA cc ro el eA ec W bcs l sA sc (conM ms) i k q A c HG HBK.out h OK.out.1 hS hC)
    have HLN := Lib.hid (ipL_len (V := Gr.gv cur cl ro el (Cal.ok y m p)) (q := q) (p := p) (n := el.length) (ro := ro) (l := l) (c := conM ms) (a := i) (b := k))
    have hcl := conM_len ms
    have HICN := Lib.hid (fun W B T v h => icon_in (w := W) (base := B) (T := T) (v := v) (ms := ms) h (by omega))
    unfold IBoth at KB
    generalize conM ms = cs at *
    generalize Iv.pL (Gr.gv cur cl ro el (Cal.ok y m p)) q p el.length ro l cs i k = L at *
    generalize Iv.pE (Gr.gv cur cl ro el (Cal.ok y m p)) q p el.length ro l cs i k = E at *
    clear hln hmn hl hml hcl
    have hE : (E == E) = true := by simp
    go_upto_region 4 with (go_at_call 12; refine KB.out.mono ?_; rintro e w4 ⟨v, u, rfl, hv, hu, hb9⟩; obtain ⟨A2, c2, rfl, hC⟩ := HICN.out _ _ _ _ hv; obtain ⟨A3, c3, rfl, hD⟩ := HICN.out _ _ _ _ hu; have HC := Lib.hid hC; have HD := Lib.hid hD; replace hb := bel hb hb9; replace HB := Lib.hid (HB.out.step hb9); replace HT := Lib.hid (HT.out.step hb9); clear hb9 hv hu hC hD)
    have t0 : w4.cell? ⟨w.heap.size + 1, 0, none⟩ = some (.int .i64 i) := HT.out.cell 0
    have t1 : w4.cell? ⟨w.heap.size + 1, 1, none⟩ = some (.int .i64 k) := HT.out.cell 1
    have t2 : w4.cell? ⟨w.heap.size + 1, 2, none⟩ = some (.int .i64 q) := HT.out.cell 2
    go_upto_region 5 with (first
      | (refine wpList_load_blk 36 (.tmp 3) rfl w.heap.size rfl (by kernel_rfl) HB.out Tryz.underlying36 hbz ?_)
      | (go_at_call 13; refine (KP.out _ _ _ (H.out.step hb) (HS.out _ hb) HC.out).mono ?_; rintro e w6 ⟨x, rfl, hI, hOw, hb9⟩; have hb6 := bel hb hb9; have HB6 := Lib.hid (HB.out.step hb9); have HT6 := Lib.hid (HT.out.step hb9); have HD6 := Lib.hid (HD.out.step hb9); have HI := Lib.hid hI; have HX := Lib.hid hOw; clear hb9 hI hOw t0 t1 t2; obtain ⟨xk, xe, xo, xr, ⟨xl, xA, xc⟩⟩ := x; simp only [PostR.arr, Sl.val]))
    have HNX := Lib.hid (Blk.new w6 48 #[.int .i64 xk, .int .i64 xe, .int .i64 xo, .int .i64 xr, .slice xA xl.length xc])
    have hst := (Below.refl w6.heap.size w6).alloc (Nat.le_refl _) (.cells #[.int .i64 xk, .int .i64 xe, .int .i64 xo, .int .i64 xr, .slice xA xl.length xc] 48)
    replace hb6 := bel hb6 hst
    replace HB6 := Lib.hid (HB6.out.step hst)
    replace HT6 := Lib.hid (HT6.out.step hst)
    replace HD6 := Lib.hid (HD6.out.step hst)
    have HXR := Lib.hid (Rd.now (own_rd HX.out) hst)
    clear hst HX HC HB HT HD hb
    generalize hg6 : w6.heap.size = g6 at *
    have HG6 := Lib.hid hg6
    clear hg6
    generalize w6.alloc (.cells #[.int .i64 xk, .int .i64 xe, .int .i64 xo, .int .i64 xr, .slice xA xl.length xc] 48) = w7 at *
    have t0 : w7.cell? ⟨w.heap.size + 1, 0, none⟩ = some (.int .i64 i) := HT6.out.cell 0
    have t1 : w7.cell? ⟨w.heap.size + 1, 1, none⟩ = some (.int .i64 k) := HT6.out.cell 1
    have t2 : w7.cell? ⟨w.heap.size + 1, 2, none⟩ = some (.int .i64 q) := HT6.out.cell 2
    go_upto_region 6 with (first
      | (refine wpList_load_blk 36 (.tmp 3) rfl w.heap.size rfl (by kernel_rfl) HB6.out Tryz.underlying36 hbz ?_)
      | (go_at_call 14; refine (KQ.out _ _ _ (H.out.step hb6) (HS.out _ hb6) HD6.out).mono ?_; rintro e w8 ⟨z, rfl, hI, hOw, hb9⟩; have hb8 := bel hb6 hb9; have HJ := Lib.hid hI; have HZ := Lib.hid hOw; have HXR8 := Lib.hid (Rd.now HXR.out hb9); have HNX8 := Lib.hid (HNX.out.step hb9); clear hb9 hI hOw t0 t1 t2; obtain ⟨zk, ze, zo, zr, ⟨zl, zA, zc⟩⟩ := z; simp only [PostR.arr, Sl.val]))
    have HNZ := Lib.hid (Blk.new w8 48 #[.int .i64 zk, .int .i64 ze, .int .i64 zo, .int .i64 zr, .slice zA zl.length zc])
    have hst := (Below.refl w8.heap.size w8).alloc (Nat.le_refl _) (.cells #[.int .i64 zk, .int .i64 ze, .int .i64 zo, .int .i64 zr, .slice zA zl.length zc] 48)
    replace hb8 := bel hb8 hst
    have HZR := Lib.hid (Rd.now (own_rd HZ.out) hst)
    replace HXR8 := Lib.hid (Rd.now HXR8.out hst)
    replace HNX8 := Lib.hid (HNX8.out.step hst)
    clear hst HZ HXR HNX
    generalize hg8 : w8.heap.size = g8 at *
    have HG8 := Lib.hid hg8
    clear hg8
    generalize w8.alloc (.cells #[.int .i64 zk, .int .i64 ze, .int .i64 zo, .int .i64 zr, .slice zA zl.length zc] 48) = w9 at *
    have HSP := Lib.hid (isP_same HI.out HJ.out)
    have hxl : xl.length ≤ 3 := by rw [show xl = L from HI.out.1]; exact HLN.out
    have hzl : zl.length ≤ 3 := by rw [show zl = L from HJ.out.1]; exact HLN.out
    have hC5 : Below w9.heap.size w9 ((w9.alloc (.cells #[.int .i64 xk, .int .i64 xe, .int .i64 xo, .int .i64 xr, .slice xA xl.length xc] 48)).alloc (.cells #[.int .i64 zk, .int .i64 ze, .int .i64 zo, .int .i64 zr, .slice zA zl.length zc] 48)) := ((Below.refl _ _).alloc (Nat.le_refl _) _).alloc (by simp) _
    have HPX := Lib.hid (pin_one3 (x := ⟨xk, xe, xo, xr, ⟨xl, xA, xc⟩⟩) ((Blk.new w9 48 #[.int .i64 xk, .int .i64 xe, .int .i64 xo, .int .i64 xr, .slice xA xl.length xc]).alloc (.cells #[.int .i64 zk, .int .i64 ze, .int .i64 zo, .int .i64 zr, .slice zA zl.length zc] 48)) (Rd.now HXR8.out hC5) hxl)
    have HPZ := Lib.hid (pin_one3 (x := ⟨zk, ze, zo, zr, ⟨zl, zA, zc⟩⟩) (blk_new2 w9 (.cells #[.int .i64 xk, .int .i64 xe, .int .i64 xo, .int .i64 xr, .slice xA xl.length xc] 48) 48 #[.int .i64 zk, .int .i64 ze, .int .i64 zo, .int .i64 zr, .slice zA zl.length zc]) (Rd.now HZR.out hC5) hzl)
    have hbf := bel hb8 hC5
    have HSY := Lib.hid (samep_yes [⟨xk, xe, xo, xr, ⟨xl, xA, xc⟩⟩] [⟨zk, ze, zo, zr, ⟨zl, zA, zc⟩⟩] (some ⟨w9.heap.size, 0, none⟩) (some ⟨w9.heap.size + 1, 0, none⟩) 1 1 _ HPX.out HPZ.out rfl (one_same HSP.out))
    unfold BoolPost at HSY
    clear hC5 HPX HPZ hxl hzl HXR8 HZR
    go_wp2_with (first
      | (refine wpList_load_blk 48 (.tmp 9) rfl g6 rfl (by kernel_rfl) HNX8.out Tryz.underlying48 post_size ?_)
      | (refine wpList_load_blk 48 (.tmp 11) rfl g8 rfl (by kernel_rfl) (HNZ.out.alloc _) Tryz.underlying48 post_size ?_)
      | (go_at_call 15; refine HSY.out.mono ?_; rintro en w10 ⟨rfl, hb9⟩; replace hbf := bel hbf hb9; clear hb9))
    go_ret
    exact ⟨rfl, hbf⟩
end
end Go.Proofs.YthfbpbbepogllaaGreat
