/- Texts of this claim, put together. -/
import Derived.Test.YtpklnlpeedkmdaaJAG
import Derived.Test.YtpklnlpeedkmdaaJAH
/- The walks of Currencies, of its reference, of 'same', of the law's own 'awake'. -/
namespace Go.Proofs.Ytpklnlpeedkmdaa
set_option linter.unusedVariables false
set_option linter.unusedSimpArgs false
open Go.RowKit
open Go.Maps (Keyed)

theorem str_info : (Try.prog.info? 9).map (fun i => (i.zero, i.size, i.bytes)) = some (some (.string ⟨#[]⟩), 1, 16) := by kernel_rfl
def OwnStrs (base : Nat) (L : List Txt) (w : World) (e : Ending) (w' : World) : Prop :=
  ∃ v, e = .returned v ∧ w'.ownsRow base 9 1 v L.length (L.map encStr) ∧ Below w.heap.size w w'
def curs (el : List EntR) : List Txt := el.map fun x => x.currency.data.toList
theorem curs_take (el : List EntR) (k : Nat) (h : k < el.length) : curs (el.take (k + 1)) = curs (el.take k) ++ [el[k].currency.data.toList] := by
  unfold curs
  rw [List.take_succ_eq_append_getElem h, List.map_append]; rfl
theorem curs_len (el : List EntR) : (curs el).length = el.length := by unfold curs; rw [List.length_map]
section
variable (cur : ByteArray) (y m p : Int) (cl : List Acc) (cA : Option Addr) (cc : Nat) (ro : RolesR) (el : List EntR) (eA : Option Addr) (ec : Nat) (w : World)
set_option maxRecDepth 100000 in
set_option maxHeartbeats 2000000 in
theorem currencies_any (h : GIn w cl cA el eA) (hc : cur.size ≤ maxLen) (hn : el.length ≤ 1000) :
    Calls Try.prog 17 #[.agg #[.string cur, .int .i64 y, .int .i64 m, .int .i64 p, .slice cA cl.length cc, .int .i64 ro.investment, .int .i64 ro.goodwill, .int .i64 ro.associates, .int .i64 ro.inventory, .int .i64 ro.reserve, .int .i64 ro.minority, .int .i64 ro.retained, .int .i64 ro.acquired, .int .i64 ro.owners, .int .i64 ro.disposal, .int .i64 ro.associateProfit, .int .i64 ro.dividends, .int .i64 ro.minorityProfit, .int .i64 ro.difference, .int .i64 ro.margin, .slice eA el.length ec]] w (OwnStrs w.heap.size (curL cur.data.toList (curs el)) w) := by
  have H := Lib.hid h
  clear h
  have hb : Below w.heap.size w ((w.alloc (.cells #[.string cur, .int .i64 y, .int .i64 m, .int .i64 p, .slice cA cl.length cc, .int .i64 ro.investment, .int .i64 ro.goodwill, .int .i64 ro.associates, .int .i64 ro.inventory, .int .i64 ro.reserve, .int .i64 ro.minority, .int .i64 ro.retained, .int .i64 ro.acquired, .int .i64 ro.owners, .int .i64 ro.disposal, .int .i64 ro.associateProfit, .int .i64 ro.dividends, .int .i64 ro.minorityProfit, .int .i64 ro.difference, .int .i64 ro.margin, .slice eA el.length ec] 29)).alloc (.map #[] 0)) := by
    have hb := Below.refl w.heap.size w
    exact (by repeat (first | exact hb | refine Below.alloc ?_ (by have hbs := hb.size; first | omega | (simp; done) | (simp; omega)) _ | refine Below.drew ?_ | refine below_drewN_ ?_ _ | refine Below.setCell ?_ (by simp) _))
  have hS0 : StrSet Try.prog 9 4 ((w.alloc (.cells #[.string cur, .int .i64 y, .int .i64 m, .int .i64 p, .slice cA cl.length cc, .int .i64 ro.investment, .int .i64 ro.goodwill, .int .i64 ro.associates, .int .i64 ro.inventory, .int .i64 ro.reserve, .int .i64 ro.minority, .int .i64 ro.retained, .int .i64 ro.acquired, .int .i64 ro.owners, .int .i64 ro.disposal, .int .i64 ro.associateProfit, .int .i64 ro.dividends, .int .i64 ro.minorityProfit, .int .i64 ro.difference, .int .i64 ro.margin, .slice eA el.length ec] 29)).alloc (.map #[] 0)) (w.heap.size + 1) 0 [] := by
    have := StrSet.made (P := Try.prog) (k := 9) (e := 4) (w.alloc (.cells #[.string cur, .int .i64 y, .int .i64 m, .int .i64 p, .slice cA cl.length cc, .int .i64 ro.investment, .int .i64 ro.goodwill, .int .i64 ro.associates, .int .i64 ro.inventory, .int .i64 ro.reserve, .int .i64 ro.minority, .int .i64 ro.retained, .int .i64 ro.acquired, .int .i64 ro.owners, .int .i64 ro.disposal, .int .i64 ro.associateProfit, .int .i64 ro.dividends, .int .i64 ro.minorityProfit, .int .i64 ro.difference, .int .i64 ro.margin, .slice eA el.length ec] 29))
    simpa using this
  have hA0 := (Blk.new w 29 #[.string cur, .int .i64 y, .int .i64 m, .int .i64 p, .slice cA cl.length cc, .int .i64 ro.investment, .int .i64 ro.goodwill, .int .i64 ro.associates, .int .i64 ro.inventory, .int .i64 ro.reserve, .int .i64 ro.minority, .int .i64 ro.retained, .int .i64 ro.acquired, .int .i64 ro.owners, .int .i64 ro.disposal, .int .i64 ro.associateProfit, .int .i64 ro.dividends, .int .i64 ro.minorityProfit, .int .i64 ro.difference, .int .i64 ro.margin, .slice eA el.length ec]).alloc (.map #[] 0)
  have hmm := @run_makeMap Try.prog
  go_enter Try.func17, Try.ntmps17
  go_wp2_with (refine wpList_str_ins rfl _ _ _ 74 rfl Try.underlying9 Try.underlying4 Try.underlying74 hS0 (by unfold maxLen; omega) cur hc rfl rfl rfl ?_; intro w4 hS4 hg4; have hA4 := hA0.grown hg4 (by simp); have f4 : w4.cell? ⟨w.heap.size, 20, none⟩ = some (.slice eA el.length ec) := hA4.cell 20)
  have hb4 : Below w.heap.size w w4 := Below.grown hb hg4 (by simp; omega) (fun k hk => by injection hk with hk; omega)
  replace hS4 : StrSet Try.prog 9 4 w4 (w.heap.size + 1) 1 (cur.data.toList :: curs (el.take 0)) := by simpa [curs] using hS4
  clear hg4 hA0 hA4 hS0 hb
  go_loopw [13] (fun t wr => ∃ k : Nat, k ≤ el.length ∧ t = .int .i64 k ∧ StrSet Try.prog 9 4 wr (w.heap.size + 1) (k + 1) (cur.data.toList :: curs (el.take k)) ∧ Below w.heap.size w wr) (fun t _ => el.length - (intOf t).toNat)
  case atStart => exact ⟨0, by omega, rfl, hS4, hb4⟩
  case round =>
    clear hb4 hS4 f4
    obtain ⟨k, hk, rfl, hS, hb⟩ := hrel
    have hz := hb.size
    by_cases hlt : k < el.length
    · obtain ⟨b, o, hA, hbo, f0, f1, f2, f3, f4⟩ := EntR.at_ (Rd.now H.out.en hb) hlt
      subst hA
      have hcs : el[k].currency.size ≤ maxLen := (H.out.ok _ (List.getElem_mem hlt)).2.1
      have HX := Lib.hid (curs_take el k hlt)
      generalize el[k] = x at *
      obtain ⟨xn, xc, ⟨l1, A1, c1⟩, ⟨l2, A2, c2⟩, xj⟩ := x
      dsimp only [Sl.val] at *
      go_wp2_with (at_mapUpdate; refine wpList_str_put rfl _ _ _ 74 rfl Try.underlying9 Try.underlying4 Try.underlying74 (hS.alloc _) (by unfold maxLen; omega) _ hcs rfl rfl rfl ?_; intro w5 hS5 hg5)
      replace hS5 : StrSet Try.prog 9 4 w5 (w.heap.size + 1) (k + 1 + 1) (cur.data.toList :: curs (el.take (k + 1))) := by rw [HX.out]; simpa using hS5
      have hb5 : Below w.heap.size w w5 := Below.grown (hb.alloc hz _) hg5 (by simp; omega) (fun k hk => by injection hk with hk; omega)
      clear hg5 hS
      go_wp2_with fail
      go_roundw
      case rel => exact ⟨k + 1, by omega, by go_num, hS5, hb5⟩
      case measure => simp [intOf]; omega
    · have HE : Hid (el.take k = el) := Lib.hid (List.take_of_length_le (by omega))
      rw [HE.out] at hS
      go_wp2_with (first
        | (go_at_call 42; refine (skeys_any _ _).mono ?_; rintro e w' ⟨rfl, rfl⟩)
        | (go_at_call 41; refine (ssorted_any (w.heap.size + 1) (k + 1) _ _ hS (by omega)).mono ?_; rintro e w5 ⟨v5, ss, rfl, hnd, hm, ho5, hb5⟩))
      go_ret
      have hb6 : Below w.heap.size w (wr.alloc (.cells #[.map (some (w.heap.size + 1))] 74)) := hb.alloc hz _
      have e := sort_cur (c := cur.data.toList) (l := curs el) hnd (fun x => by rw [hm x]; simp)
      rw [e] at ho5
      exact ⟨v5, rfl, own_base ho5 hb6.size, bel hb6 hb5⟩
end
end Go.Proofs.Ytpklnlpeedkmdaa
