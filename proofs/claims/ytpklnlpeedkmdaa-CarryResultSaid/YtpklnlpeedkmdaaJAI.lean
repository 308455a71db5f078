/- Texts of this claim, put together. -/
import Derived.Test.YtpklnlpeedkmdaaGrpWalksDZ
import Derived.Test.YtpklnlpeedkmdaaJAG
import Derived.BigFrame
import Derived.Laws.Rows
import Derived.Laws.Tables
/- The walks of the law's own 'awake', of Few. -/
namespace Go.Proofs.Ytpklnlpeedkmdaa
set_option linter.unusedVariables false
set_option linter.unusedSimpArgs false
open Go.RowKit

def sCHF : ByteArray := ⟨#[67, 72, 70]⟩
def sEUR : ByteArray := ⟨#[69, 85, 82]⟩
def sUSD : ByteArray := ⟨#[85, 83, 68]⟩
def sEnt (s : ByteArray) : EntR := ⟨⟨#[]⟩, s, ⟨[], none, 0⟩, ⟨[], none, 0⟩, false⟩
def ro0 : RolesR := ⟨0, 0, 0, 0, 0, 0, 0, 0, 0, 0, 0, 0, 0, 0, 0⟩
theorem sEnt_ok (s : ByteArray) (h : s.size ≤ maxLen) (w : World) : (sEnt s).Ok w :=
  ⟨(by decide : (⟨#[]⟩ : ByteArray).size ≤ maxLen), h, ⟨⟨Rd.none_, by simp [sEnt], by simp [sEnt, maxLen]⟩, fun y hy => by simp [sEnt] at hy⟩, ⟨⟨Rd.none_, by simp [sEnt], by simp [sEnt, maxLen]⟩, fun y hy => by simp [sEnt] at hy⟩, trivial⟩
theorem sCur : curL sEUR.data.toList (curs [sEnt sUSD, sEnt sEUR, sEnt sCHF]) = [[67, 72, 70], [69, 85, 82], [85, 83, 68]] := by decide +kernel
set_option maxRecDepth 100000 in
set_option maxHeartbeats 2000000 in
theorem grp_awake (w : World) : Calls Try.prog 12 #[] w (BoolPost true w) := by
  have hb := Below.refl w.heap.size w
  go_enter Try.func12, Try.ntmps12
  go_wp2_with fail
  have hb1 : Below w.heap.size w (w.alloc (.cells #[.string ⟨#[]⟩, .string sUSD, .slice none 0 0, .slice none 0 0, .bool false, .string ⟨#[]⟩, .string sEUR, .slice none 0 0, .slice none 0 0, .bool false, .string ⟨#[]⟩, .string sCHF, .slice none 0 0, .slice none 0 0, .bool false] 51)) := hb.alloc (Nat.le_refl _) _
  have hB := Blk.new w 51 #[.string ⟨#[]⟩, .string sUSD, .slice none 0 0, .slice none 0 0, .bool false, .string ⟨#[]⟩, .string sEUR, .slice none 0 0, .slice none 0 0, .bool false, .string ⟨#[]⟩, .string sCHF, .slice none 0 0, .slice none 0 0, .bool false]
  have hG : GIn (w.alloc (.cells #[.string ⟨#[]⟩, .string sUSD, .slice none 0 0, .slice none 0 0, .bool false, .string ⟨#[]⟩, .string sEUR, .slice none 0 0, .slice none 0 0, .bool false, .string ⟨#[]⟩, .string sCHF, .slice none 0 0, .slice none 0 0, .bool false] 51)) [] none [sEnt sUSD, sEnt sEUR, sEnt sCHF] (some ⟨w.heap.size, 0, none⟩) := by
    refine ⟨Rd.none_, Rd.of_blk hB rfl rfl, fun x hx => ?_, fun a ha => by simp at ha⟩
    simp only [List.mem_cons, List.not_mem_nil, or_false] at hx
    rcases hx with rfl | rfl | rfl
    all_goals exact sEnt_ok _ (by decide) _
  refine (currencies_any sEUR 0 0 0 [] none 0 ro0 [sEnt sUSD, sEnt sEUR, sEnt sCHF] _ 3 _ hG (by decide) (by decide)).mono ?_
  rintro e w2 ⟨v2, rfl, ho2, hb2⟩
  rw [sCur] at ho2
  have hb3 := bel hb1 hb2
  clear hG hB hb1 hb2
  obtain ⟨A2, c2, rfl, hr2⟩ := Rd.of_own ho2
  have HR2 := Lib.hid hr2
  clear hr2 ho2
  go_wp2_with (go_at_call 16; refine (same_any [[67, 72, 70], [69, 85, 82], [85, 83, 68]] [[67, 72, 70], [69, 85, 82], [85, 83, 68]] A2 _ c2 3 _ ((HR2.out.alloc (Nat.le_refl _) _).more (by simp)) (Rd.of_blk (Blk.new w2 9 #[.string sCHF, .string sEUR, .string sUSD]) rfl rfl) (by decide) (by decide)).mono ?_; rintro e w4 ⟨rfl, hb4⟩)
  go_ret
  exact ⟨ret_bool (by simp), bel hb3 (bel' (w := w2) hb4 ((Below.refl _ _).alloc (Nat.le_refl _) _))⟩
/-- what Few asks for -/
structure FewOk (cur : ByteArray) (cl : List Acc) (el : List EntR) : Prop where
  ch : cl.length ≤ 60
  en : el.length ≤ 14
  cur : cur.size ≤ 20
  ents : ∀ j (h : j < el.length), el[j].chart.l.length ≤ 40 ∧ el[j].links.l.length ≤ 60
section
variable (cur : ByteArray) (y m p : Int) (cl : List Acc) (cA : Option Addr) (cc : Nat) (ro : RolesR) (el : List EntR) (eA : Option Addr) (ec : Nat) (w : World)
def MayPost' (p : Prop) (w : World) (e : Ending) (w' : World) : Prop := ∃ b : Bool, e = .returned (.bool b) ∧ Below w.heap.size w w' ∧ (b = true → p)
set_option maxRecDepth 100000 in
set_option maxHeartbeats 4000000 in
theorem few_any (h : GIn w cl cA el eA) (hc : cur.size ≤ maxLen) (hcl : cl.length ≤ maxLen) (hel : el.length ≤ maxLen) :
    Calls Try.prog 13 #[.agg #[.string cur, .int .i64 y, .int .i64 m, .int .i64 p, .slice cA cl.length cc, .int .i64 ro.investment, .int .i64 ro.goodwill, .int .i64 ro.associates, .int .i64 ro.inventory, .int .i64 ro.reserve, .int .i64 ro.minority, .int .i64 ro.retained, .int .i64 ro.acquired, .int .i64 ro.owners, .int .i64 ro.disposal, .int .i64 ro.associateProfit, .int .i64 ro.dividends, .int .i64 ro.minorityProfit, .int .i64 ro.difference, .int .i64 ro.margin, .slice eA el.length ec]] w (MayPost' (FewOk cur cl el) w) := by
  have H := Lib.hid h
  clear h
  have hb : Below w.heap.size w (w.alloc (.cells #[.string cur, .int .i64 y, .int .i64 m, .int .i64 p, .slice cA cl.length cc, .int .i64 ro.investment, .int .i64 ro.goodwill, .int .i64 ro.associates, .int .i64 ro.inventory, .int .i64 ro.reserve, .int .i64 ro.minority, .int .i64 ro.retained, .int .i64 ro.acquired, .int .i64 ro.owners, .int .i64 ro.disposal, .int .i64 ro.associateProfit, .int .i64 ro.dividends, .int .i64 ro.minorityProfit, .int .i64 ro.difference, .int .i64 ro.margin, .slice eA el.length ec] 29)) := (Below.refl _ _).alloc (Nat.le_refl _) _
  have HB := Lib.hid (Blk.new w 29 #[.string cur, .int .i64 y, .int .i64 m, .int .i64 p, .slice cA cl.length cc, .int .i64 ro.investment, .int .i64 ro.goodwill, .int .i64 ro.associates, .int .i64 ro.inventory, .int .i64 ro.reserve, .int .i64 ro.minority, .int .i64 ro.retained, .int .i64 ro.acquired, .int .i64 ro.owners, .int .i64 ro.disposal, .int .i64 ro.associateProfit, .int .i64 ro.dividends, .int .i64 ro.minorityProfit, .int .i64 ro.difference, .int .i64 ro.margin, .slice eA el.length ec])
  unfold maxLen at hc hcl hel
  go_enter Try.func13, Try.ntmps13
  go_wp2_with fail
  generalize hgen : w.alloc (.cells #[.string cur, .int .i64 y, .int .i64 m, .int .i64 p, .slice cA cl.length cc, .int .i64 ro.investment, .int .i64 ro.goodwill, .int .i64 ro.associates, .int .i64 ro.inventory, .int .i64 ro.reserve, .int .i64 ro.minority, .int .i64 ro.retained, .int .i64 ro.acquired, .int .i64 ro.owners, .int .i64 ro.disposal, .int .i64 ro.associateProfit, .int .i64 ro.dividends, .int .i64 ro.minorityProfit, .int .i64 ro.difference, .int .i64 ro.margin, .slice eA el.length ec] 29) = W at *
  clear hgen
  go_loopw [3] (fun t wr => ∃ k : Nat, k ≤ el.length ∧ t = .int .i64 k ∧ (∀ j (h : j < k) (h1 : j < el.length), (el[j]'h1).chart.l.length ≤ 40 ∧ (el[j]'h1).links.l.length ≤ 60) ∧ Blk wr w.heap.size 29 #[.string cur, .int .i64 y, .int .i64 m, .int .i64 p, .slice cA cl.length cc, .int .i64 ro.investment, .int .i64 ro.goodwill, .int .i64 ro.associates, .int .i64 ro.inventory, .int .i64 ro.reserve, .int .i64 ro.minority, .int .i64 ro.retained, .int .i64 ro.acquired, .int .i64 ro.owners, .int .i64 ro.disposal, .int .i64 ro.associateProfit, .int .i64 ro.dividends, .int .i64 ro.minorityProfit, .int .i64 ro.difference, .int .i64 ro.margin, .slice eA el.length ec] ∧ Below w.heap.size w wr) (fun t _ => el.length - (intOf t).toNat)
  case atStart => exact ⟨0, by omega, rfl, fun j h => by omega, HB.out, hb⟩
  case round =>
    clear hb HB
    obtain ⟨k, hk, rfl, hno, hB, hb⟩ := hrel
    have HB := Lib.hid hB
    have HN := Lib.hid hno
    have hz := hb.size
    have e0 : wr.cell? ⟨w.heap.size, 0, none⟩ = some (.string cur) := hB.cell 0
    have e2 : wr.cell? ⟨w.heap.size, 4, none⟩ = some (.slice cA cl.length cc) := hB.cell 4
    have e4 : wr.cell? ⟨w.heap.size, 20, none⟩ = some (.slice eA el.length ec) := hB.cell 20
    clear hB hno
    by_cases hlt : k < el.length
    · obtain ⟨b, o, hA, hbo, f0, f1, f2, f3, f4⟩ := EntR.at_ (Rd.now H.out.en hb) hlt
      subst hA
      have HST : Hid (el[k].chart.l.length ≤ 40 → el[k].links.l.length ≤ 60 → ∀ j (h : j < k + 1) (h1 : j < el.length), (el[j]'h1).chart.l.length ≤ 40 ∧ (el[j]'h1).links.l.length ≤ 60) := Lib.hid fun h1 h2 j hj hjl => by
        by_cases e : j = k
        · subst e; exact ⟨h1, h2⟩
        · exact HN.out j (by omega) hjl
      have HKO := Lib.hid (H.out.ok _ (List.getElem_mem hlt))
      generalize el[k] = x at *
      obtain ⟨xn, xc, ⟨l1, A1, c1⟩, ⟨l2, A2, c2⟩, xj⟩ := x
      dsimp only [Sl.val] at *
      have hk1 := HKO.out.2.2.1.1
      have hk2 := HKO.out.2.2.2.1.1
      have hn1 := Nat.le_trans hk1.2.1 hk1.2.2
      have hn2 := Nat.le_trans hk2.2.1 hk2.2.2
      dsimp only at hn1 hn2
      unfold maxLen at hn1 hn2
      clear hk1 hk2
      have hb1 : Below w.heap.size w (wr.alloc (.cells #[.string xn, .string xc, .slice A1 l1.length c1, .slice A2 l2.length c2, .bool xj] 51)) := hb.alloc hz _
      by_cases h1 : l1.length ≤ 40
      · by_cases h2 : l2.length ≤ 60
        · by_cases h3 : wrap64 ((xn.size : Int) + (xc.size : Int)) ≤ 60
          · have HR := Lib.hid (HST.out h1 h2)
            go_wp2_with fail
            go_roundw
            case rel => exact ⟨k + 1, by omega, by go_num, HR.out, HB.out.step ((Below.refl _ _).alloc (Nat.le_refl _) _), hb1⟩
            case measure => simp [intOf]; omega
          · go_wp2_with fail
            go_ret
            exact ⟨_, rfl, (by first | exact hb1 | exact hb), fun h => by first | (cases h; done) | (exfalso; simp at h; omega)⟩
        · go_wp2_with fail
          go_ret
          exact ⟨_, rfl, (by first | exact hb1 | exact hb), fun h => by first | (cases h; done) | (exfalso; simp at h; omega)⟩
      · go_wp2_with fail
        go_ret
        exact ⟨_, rfl, (by first | exact hb1 | exact hb), fun h => by first | (cases h; done) | (exfalso; simp at h; omega)⟩
    · have HE : Hid (∀ j (h : j < el.length), el[j].chart.l.length ≤ 40 ∧ el[j].links.l.length ≤ 60) := Lib.hid fun j h => HN.out j (by omega) h
      by_cases h1 : cl.length ≤ 60
      · by_cases h2 : el.length ≤ 14
        · by_cases h3 : cur.size ≤ 20
          · go_wp2_with fail
            go_ret
            exact ⟨_, rfl, hb, fun _ => ⟨h1, h2, h3, HE.out⟩⟩
          · go_wp2_with fail
            go_ret
            exact ⟨_, rfl, (by first | exact hb1 | exact hb), fun h => by first | (cases h; done) | (exfalso; simp at h; omega)⟩
        · go_wp2_with fail
          go_ret
          exact ⟨_, rfl, (by first | exact hb1 | exact hb), fun h => by first | (cases h; done) | (exfalso; simp at h; omega)⟩
      · go_wp2_with fail
        go_ret
        exact ⟨_, rfl, (by first | exact hb1 | exact hb), fun h => by first | (cases h; done) | (exfalso; simp at h; omega)⟩
end
end Go.Proofs.Ytpklnlpeedkmdaa
/- Great structs: a block is loaded whole, its cells unseen. Over any program. -/
namespace Go.Proofs.Ytpklnlpeedkmdaa
set_option linter.unusedVariables false
set_option linter.unusedSimpArgs false
open Go.RowKit

section
variable {P : Program} {ops : Array Oper} {w W : World} {o : Oper} {rest : List Oper} {a : Act} {g : Nat} {t T : TypeId} {cs : Array Value} {fs : Array Field}
theorem run_load_blk (x : Operand) (ho : o.op = .load T x) (hx : a.eval x = .pointer (some ⟨g, 0, none⟩)) (h : Blk w g t cs) (hu : P.underlying T = some (.struct fs))
    (hi : (P.info? T).map (·.size) = some cs.size) : (execOp a.eval o).run P w = .ok (.value (.agg cs)) w := by
  unfold execOp
  simp only [ho, hx, Instr.loadAt, Instr.sureAddr, Sem.run_bind, Sem.run_pure, Result.andThen_ok, run_loadVar_row w g t T cs (0, 0) _ h hu rfl hi]
theorem wpList_load_blk {Q : Exit → Act → World → Prop} (T : TypeId) (x : Operand) (ho : o.op = .load T x) (g : Nat) (hx : a.eval x = .pointer (some ⟨g, 0, none⟩)) (hw : Region.wanted o (yielded ops a.tmps) = true)
    (h : Blk w g t cs) (hu : P.underlying T = some (.struct fs)) (hi : (P.info? T).map (·.size) = some cs.size)
    (hK : wpList P ops Q rest (a.put o.dst (.agg cs)) w) : wpList P ops Q (o :: rest) a w :=
  BigFrame.wpList_want hw fun _ hh => wp_load_row T x ho g hx t cs (0, 0) _ h hu rfl hi (hh _ _ hK)
theorem quiet_load_blk {Q : Act → Prop} (T : TypeId) (x : Operand) (ho : o.op = .load T x) (g : Nat) (hx : a.eval x = .pointer (some ⟨g, 0, none⟩)) (hw : Region.wanted o (yielded ops a.tmps) = true)
    (h : Blk W g t cs) (hu : P.underlying T = some (.struct fs)) (hi : (P.info? T).map (·.size) = some cs.size)
    (hK : wpQuiet P ops (fun w' => ∃ d : Later W, w' = d.now) Q rest (a.put o.dst (.agg cs))) : wpQuiet P ops (fun w' => ∃ d : Later W, w' = d.now) Q (o :: rest) a := by
  refine BigFrame.wpQuiet_want hw fun K hh => ⟨.agg cs, fun w' hw' => ?_, hh _ hK⟩
  obtain ⟨dd, rfl⟩ := hw'
  unfold Oper.quietAt
  rw [run_load_blk x ho hx (h.step dd.below) hu hi]
  exact ⟨rfl, rfl⟩
theorem rel_load_blk {Q : Exit → Act → World → Prop} {i fuel : Nat} {listed : Array Bool} (hl : ops.toList.drop i = o :: rest) (T : TypeId) (x : Operand) (ho : o.op = .load T x) (g : Nat) (hx : a.eval x = .pointer (some ⟨g, 0, none⟩))
    (hs : Region.noSelect ops = true) (hf : Region.free .any ops listed i = true) (hr : (Region.ready .any ops listed).contains i = true)
    (hw : Region.wanted o (yielded ops a.tmps) = true) (hQ : ∀ c a v w, Q (.panic c) (Act.put a o.dst v) w → Q (.panic c) a w) (hS : Near W w)
    (h : Blk W g t cs) (hu : P.underlying T = some (.struct fs)) (hi : (P.info? T).map (·.size) = some cs.size)
    (hK : wpAnyH P .any ops Q (fun w' => ∃ d : Later W, w' = d.now) fuel (listed.setIfInBounds i true) (a.put o.dst (.agg cs)) w) :
    wpAnyH P .any ops Q (fun w' => ∃ d : Later W, w' = d.now) (fuel + 1) listed a w := by
  refine wpAnyH_take (v := .agg cs) (drop_at hl) hs hf hr (fun c a w h => hQ c a _ w h) (.inl ⟨hw, fun w' hw' => ?_⟩) hS hK
  obtain ⟨dd, rfl⟩ := hw'
  exact run_load_blk x ho hx (h.step dd.below) hu hi
theorem wpList_isSlice {Q : Exit → Act → World → Prop} (t : TypeId) (len : Nat) (parts : Array (Nat × Operand)) (ho : o.op = .buildSlice t len parts) (h : wpList P ops Q (o :: rest) a w) : wpList P ops Q (o :: rest) a w := h
theorem wpList_built {Q : Exit → Act → World → Prop} (hg : o.guard = none) (dst : Tmp) (hdst : o.dst = some dst) (T : TypeId) (parts : Array (Nat × Operand)) (ho : o.op = .build T parts) (cs : Array Value)
    (h : P.built T (parts.map fun (i, x) => (i, a.eval x)).toList = some cs) (hK : wpList P ops Q rest (a.put (some dst) (.agg cs)) w) : wpList P ops Q (o :: rest) a w := by
  refine wpList_plain hg fun K' hK' => ?_
  have h1 : (execOp a.eval o).run P w = .ok (.value (.agg cs)) w := by
    unfold execOp
    simp only [ho, Sem.run_bind, Sem.run_pure, Result.andThen_ok, run_build w T _ cs h]
  unfold Oper.wp
  rw [h1, Oper.upon_value, hdst]
  exact hK' _ _ hK
end
end Go.Proofs.Ytpklnlpeedkmdaa
