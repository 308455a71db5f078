/- Texts of this claim, put together. -/
import Derived.Test.YtpklnlpeedkmdaaGrpWalksCZ
/- The walks of the reference's Currencies, of 'same', of the law's own 'awake', of Few. -/
namespace Go.Proofs.Ytpklnlpeedkmdaa
set_option linter.unusedVariables false
set_option linter.unusedSimpArgs false
open Go.RowKit

def RdStrs (L : List Txt) (w : World) (e : Ending) (w' : World) : Prop :=
  ∃ A c, e = .returned (.slice A L.length c) ∧ Rd w' w'.heap.size 1 A L.length (L.map encStr) ∧ Below w.heap.size w w'
section
variable (cur : ByteArray) (y m p : Int) (cl : List Acc) (cA : Option Addr) (cc : Nat) (ro : RolesR) (el : List EntR) (eA : Option Addr) (ec : Nat) (w : World)
set_option maxRecDepth 100000 in
set_option maxHeartbeats 2000000 in
theorem rcurrencies_any (h : GIn w cl cA el eA) (hn : el.length ≤ 900) :
    Calls Try.prog 18 #[.agg #[.string cur, .int .i64 y, .int .i64 m, .int .i64 p, .slice cA cl.length cc, .int .i64 ro.investment, .int .i64 ro.goodwill, .int .i64 ro.associates, .int .i64 ro.inventory, .int .i64 ro.reserve, .int .i64 ro.minority, .int .i64 ro.retained, .int .i64 ro.acquired, .int .i64 ro.owners, .int .i64 ro.disposal, .int .i64 ro.associateProfit, .int .i64 ro.dividends, .int .i64 ro.minorityProfit, .int .i64 ro.difference, .int .i64 ro.margin, .slice eA el.length ec]] w (RdStrs (curL cur.data.toList (curs el)) w) := by
  have H := Lib.hid h
  clear h
  have hb : Below w.heap.size w ((w.alloc (.cells #[.string cur, .int .i64 y, .int .i64 m, .int .i64 p, .slice cA cl.length cc, .int .i64 ro.investment, .int .i64 ro.goodwill, .int .i64 ro.associates, .int .i64 ro.inventory, .int .i64 ro.reserve, .int .i64 ro.minority, .int .i64 ro.retained, .int .i64 ro.acquired, .int .i64 ro.owners, .int .i64 ro.disposal, .int .i64 ro.associateProfit, .int .i64 ro.dividends, .int .i64 ro.minorityProfit, .int .i64 ro.difference, .int .i64 ro.margin, .slice eA el.length ec] 29)).alloc (.cells #[.string cur] 9)) := by
    have hb := Below.refl w.heap.size w
    exact (by repeat (first | exact hb | refine Below.alloc ?_ (by have hbs := hb.size; first | omega | (simp; done) | (simp; omega)) _ | refine Below.drew ?_ | refine below_drewN_ ?_ _ | refine Below.setCell ?_ (by simp) _))
  have HB := Lib.hid ((Blk.new w 29 #[.string cur, .int .i64 y, .int .i64 m, .int .i64 p, .slice cA cl.length cc, .int .i64 ro.investment, .int .i64 ro.goodwill, .int .i64 ro.associates, .int .i64 ro.inventory, .int .i64 ro.reserve, .int .i64 ro.minority, .int .i64 ro.retained, .int .i64 ro.acquired, .int .i64 ro.owners, .int .i64 ro.disposal, .int .i64 ro.associateProfit, .int .i64 ro.dividends, .int .i64 ro.minorityProfit, .int .i64 ro.difference, .int .i64 ro.margin, .slice eA el.length ec]).alloc (.cells #[.string cur] 9))
  have hA0 := Blk.new (w.alloc (.cells #[.string cur, .int .i64 y, .int .i64 m, .int .i64 p, .slice cA cl.length cc, .int .i64 ro.investment, .int .i64 ro.goodwill, .int .i64 ro.associates, .int .i64 ro.inventory, .int .i64 ro.reserve, .int .i64 ro.minority, .int .i64 ro.retained, .int .i64 ro.acquired, .int .i64 ro.owners, .int .i64 ro.disposal, .int .i64 ro.associateProfit, .int .i64 ro.dividends, .int .i64 ro.minorityProfit, .int .i64 ro.difference, .int .i64 ro.margin, .slice eA el.length ec] 29)) 9 #[.string cur]
  have hR0 : Hid (Rd ((w.alloc (.cells #[.string cur, .int .i64 y, .int .i64 m, .int .i64 p, .slice cA cl.length cc, .int .i64 ro.investment, .int .i64 ro.goodwill, .int .i64 ro.associates, .int .i64 ro.inventory, .int .i64 ro.reserve, .int .i64 ro.minority, .int .i64 ro.retained, .int .i64 ro.acquired, .int .i64 ro.owners, .int .i64 ro.disposal, .int .i64 ro.associateProfit, .int .i64 ro.dividends, .int .i64 ro.minorityProfit, .int .i64 ro.difference, .int .i64 ro.margin, .slice eA el.length ec] 29)).alloc (.cells #[.string cur] 9)) ((w.alloc (.cells #[.string cur, .int .i64 y, .int .i64 m, .int .i64 p, .slice cA cl.length cc, .int .i64 ro.investment, .int .i64 ro.goodwill, .int .i64 ro.associates, .int .i64 ro.inventory, .int .i64 ro.reserve, .int .i64 ro.minority, .int .i64 ro.retained, .int .i64 ro.acquired, .int .i64 ro.owners, .int .i64 ro.disposal, .int .i64 ro.associateProfit, .int .i64 ro.dividends, .int .i64 ro.minorityProfit, .int .i64 ro.difference, .int .i64 ro.margin, .slice eA el.length ec] 29)).alloc (.cells #[.string cur] 9)).heap.size 1 (some ⟨w.heap.size + 1, 0, none⟩) 1 ((curL cur.data.toList (curs (el.take 0))).map encStr)) := Lib.hid (by
    have h1 := Rd.of_blk (sz := 1) (n := 1) hA0 (xs := (curL cur.data.toList (curs (el.take 0))).map encStr) (by simp [curL, curs, bytes_enc]) (by simp [curL, curs])
    simpa using h1)
  go_enter Try.func18, Try.ntmps18
  go_wp2_with fail
  clear hA0
  generalize hgen : (w.alloc (.cells #[.string cur, .int .i64 y, .int .i64 m, .int .i64 p, .slice cA cl.length cc, .int .i64 ro.investment, .int .i64 ro.goodwill, .int .i64 ro.associates, .int .i64 ro.inventory, .int .i64 ro.reserve, .int .i64 ro.minority, .int .i64 ro.retained, .int .i64 ro.acquired, .int .i64 ro.owners, .int .i64 ro.disposal, .int .i64 ro.associateProfit, .int .i64 ro.dividends, .int .i64 ro.minorityProfit, .int .i64 ro.difference, .int .i64 ro.margin, .slice eA el.length ec] 29)).alloc (.cells #[.string cur] 9) = W at *
  clear hgen
  go_loopw [3, 4] (fun v t wr => ∃ (k : Nat) (A : Option Addr) (c : Nat), k ≤ el.length ∧ t = .int .i64 k ∧ v = .slice A (curL cur.data.toList (curs (el.take k))).length c ∧ Rd wr wr.heap.size 1 A (curL cur.data.toList (curs (el.take k))).length ((curL cur.data.toList (curs (el.take k))).map encStr) ∧ Blk wr w.heap.size 29 #[.string cur, .int .i64 y, .int .i64 m, .int .i64 p, .slice cA cl.length cc, .int .i64 ro.investment, .int .i64 ro.goodwill, .int .i64 ro.associates, .int .i64 ro.inventory, .int .i64 ro.reserve, .int .i64 ro.minority, .int .i64 ro.retained, .int .i64 ro.acquired, .int .i64 ro.owners, .int .i64 ro.disposal, .int .i64 ro.associateProfit, .int .i64 ro.dividends, .int .i64 ro.minorityProfit, .int .i64 ro.difference, .int .i64 ro.margin, .slice eA el.length ec] ∧ Below w.heap.size w wr) (fun _ t _ => el.length - (intOf t).toNat)
  case atStart => exact ⟨0, _, 1, by omega, rfl, rfl, hR0.out, HB.out, hb⟩
  case round =>
    clear hb HB hR0
    obtain ⟨k, A, c, hk, rfl, rfl, hr, hB, hb⟩ := hrel
    have HB := Lib.hid hB
    have HR := Lib.hid hr
    have e4 : wr.cell? ⟨w.heap.size, 20, none⟩ = some (.slice eA el.length ec) := hB.cell 20
    clear hB hr
    by_cases hlt : k < el.length
    · obtain ⟨b, o, hA, hbo, f0, f1, f2, f3, f4⟩ := EntR.at_ (Rd.now H.out.en hb) hlt
      subst hA
      have HX := Lib.hid (curs_take el k hlt)
      have hcl := curL_len cur.data.toList (curs (el.take k))
      have hcl2 : (curL cur.data.toList (curs (el.take k))).length ≤ 1000 := by rw [curs_len, List.length_take] at hcl; omega
      have HC : Hid (curL cur.data.toList (curs (el.take (k + 1))) = withL (curL cur.data.toList (curs (el.take k))) el[k].currency.data.toList) := Lib.hid (by
        unfold curL
        rw [HX.out, List.foldl_append]
        rfl)
      clear f0 f2 f3 f4 hcl
      go_wp2_with (go_at_call 43; refine (with_any _ A c _ _ HR.out hcl2).mono ?_; rintro e w2 ⟨v2, rfl, ho2, hb2⟩; obtain ⟨A2, c2, rfl, hr2⟩ := Rd.of_own ho2; have HR2 := Lib.hid hr2; clear hr2 ho2)
      go_roundw
      case rel => exact ⟨k + 1, A2, c2, by omega, by go_num, by rw [HC.out], by rw [HC.out]; exact HR2.out, HB.out.step hb2, bel hb hb2⟩
      case measure => simp [intOf]; omega
    · have HE : Hid (el.take k = el) := Lib.hid (List.take_of_length_le (by omega))
      rw [HE.out] at HR ⊢
      go_wp2_with fail
      go_ret
      exact ⟨A, c, rfl, HR.out, hb⟩
end
set_option maxHeartbeats 1000000 in
theorem same_any (L M : List Txt) (A B : Option Addr) (c1 c2 : Nat) (w : World) (hr : Rd w w.heap.size 1 A L.length (L.map encStr)) (hq : Rd w w.heap.size 1 B M.length (M.map encStr)) (hn : L.length ≤ 1000000) (hn2 : M.length ≤ 1000000) :
    Calls Try.prog 16 #[.slice A L.length c1, .slice B M.length c2] w (BoolPost (decide (L = M)) w) := by
  have hb := Below.refl w.heap.size w
  have HR := Lib.hid hr
  have HQ := Lib.hid hq
  clear hr hq
  cases hl : ((L.length : Int) != (M.length : Int))
  · have HL : Hid (L.length = M.length) := Lib.hid (by simp at hl; omega)
    go_enter Try.func16, Try.ntmps16
    go_wp2_with fail
    go_loopw [5, 13] (fun _ t wr => ∃ k : Nat, k ≤ L.length ∧ (∀ j (h : j < k) (h1 : j < L.length) (h2 : j < M.length), L[j]'h1 = M[j]'h2) ∧ t = .int .i64 k ∧ Below w.heap.size w wr) (fun _ t _ => L.length - (intOf t).toNat)
    case atStart => exact ⟨0, by omega, fun j h => by omega, rfl, hb⟩
    case round =>
      clear hb
      obtain ⟨k, hk, hno, rfl, hb⟩ := hrel
      have HN := Lib.hid hno
      clear hno
      by_cases hlt : k < L.length
      · have hlt2 : k < M.length := by have := HL.out; omega
        obtain ⟨x, o, sk, hA, hbo, f0, e1, -⟩ := txt_at (Rd.now HR.out hb) hlt
        obtain ⟨y, p, tk, hB, hbp, g0, e2, -⟩ := txt_at (Rd.now HQ.out hb) hlt2
        subst hA hB
        have q0 : ∀ d : Later wr, d.now.cell? ⟨x, o + k, none⟩ = some (.string sk) := fun d => d.cell hbo f0
        have q1 : ∀ d : Later wr, d.now.cell? ⟨y, p + k, none⟩ = some (.string tk) := fun d => d.cell hbp g0
        have HE1 : Hid ((sk.toList == tk.toList) = decide (L[k] = M[k])) := Lib.hid (by rw [e1, e2, beq_is])
        clear f0 g0 e1 e2
        rcases Bool.eq_false_or_eq_true (sk.toList == tk.toList) with heq | heq
        · have HC : Hid (L[k] = M[k]) := Lib.hid (by have := HE1.out; rw [heq] at this; simpa using this.symm)
          go_wp2_with fail
          refine wp_region_later (by kernel_rfl) (by kernel_rfl) ?_; (repeat (go_big_quiet_step ((fail)))); refine wpQuiet_nil ?_; rintro _ ⟨dq, rfl⟩
          have hbe := bel hb dq.below
          go_wp2_with fail
          go_roundw
          case rel =>
            refine ⟨k + 1, by omega, fun j h h1 h2 => ?_, by go_num, hbe⟩
            by_cases hj : j = k
            · subst hj; exact HC.out
            · exact HN.out j (by omega) h1 h2
          case measure => simp [intOf]; omega
        · have HE : Hid (¬ L = M) := Lib.hid (fun e => by have := HE1.out; rw [heq] at this; subst e; simp at this)
          go_wp2_with fail
          refine wp_region_later (by kernel_rfl) (by kernel_rfl) ?_; (repeat (go_big_quiet_step ((fail)))); refine wpQuiet_nil ?_; rintro _ ⟨dq, rfl⟩
          have hbe := bel hb dq.below
          go_wp2_with fail
          go_ret
          exact ⟨ret_bool (by simp [HE.out]), hbe⟩
      · have HE : Hid (L = M) := Lib.hid (List.ext_getElem HL.out (fun j h1 h2 => HN.out j (by omega) h1 h2))
        go_wp2_with fail
        go_ret
        exact ⟨ret_bool (by simp [HE.out]), hb⟩
  · have HE : Hid (¬ L = M) := Lib.hid (fun e => by subst e; simp at hl)
    go_enter Try.func16, Try.ntmps16
    go_wp2_with fail
    go_ret
    exact ⟨ret_bool (by simp [HE.out]), hb⟩
end Go.Proofs.Ytpklnlpeedkmdaa
