/- The walk of Roll. -/
import Derived.Test.YtjcapeieahffnaaChartWalksK
namespace Go.Proofs.Ytjcapeieahffnaa
set_option linter.unusedVariables false
set_option linter.unusedSimpArgs false
open Go.RowKit

theorem bal_info : (Try.prog.info? 45).map (fun i => (i.zero, i.size, i.bytes)) = some (some (.agg #[.int .i64 0, .int .i64 0]), 2, 16) := by kernel_rfl
theorem zero_int (w : World) : (zeroValue 3).run Try.prog w = .ok (.int .i64 0) w := by kernel_rfl
def RollPost (base : Nat) (L : List Bal) (E : Int) (w : World) (e : Ending) (w' : World) : Prop :=
  ∃ v, e = .returned (.tuple #[v, .int .i64 E]) ∧ w'.ownsRow base 45 2 v L.length (cellsOf Bal.cells L) ∧ Below w.heap.size w w'
theorem roll_nil (base : Nat) (L : List Bal) (E x : Int) (w w' : World) (h : Below w.heap.size w w') (hL : x = E ∧ L = []) : RollPost base L E w (.returned (.tuple #[.slice none 0 0, .int .i64 x])) w' := by
  obtain ⟨rfl, rfl⟩ := hL
  exact ⟨_, rfl, World.ownsRow_nil _ _ _ _, h⟩
theorem SumW.blk_ne {P : Program} {k e : TypeId} {w : World} {b n : Nat} {f : Int → Int} {g : Nat} {E : TypeId} {cs : Array Value} (h : SumW P k e w b n f) (hr : Blk w g E cs) : b ≠ g := by
  obtain ⟨D, ⟨es, cl, hb, _⟩, _⟩ := h
  rintro rfl
  unfold Blk at hr
  rw [hb] at hr
  simp at hr
theorem sum_start (l : List Acc) (b : List Bal) : Ch.sumAt l (b.take 0) = fun _ => 0 := by
  funext c
  simp [Ch.sumAt]

set_option maxHeartbeats 8000000 in
theorem roll_any (l : List Acc) (b : List Bal) (A B : Option Addr) (c1 c2 : Nat) (w : World) (hr : Rd w w.heap.size 4 A l.length (Ch.cells l)) (hq : Rd w w.heap.size 2 B b.length (cellsOf Bal.cells b)) (hn : l.length ≤ 100000) (hn2 : b.length ≤ 100000)
    (hwf : ∀ a ∈ l, (Lit.int .i64 a.code).wf = true) :
    Calls Try.prog 23 #[.slice A l.length c1, .slice B b.length c2] w (RollPost w.heap.size (Ch.rollV l b) (Ch.rollE l b) w) := by
  have hb := Below.refl w.heap.size w
  have HR := Lib.hid hr
  have HQ := Lib.hid hq
  have HW := Lib.hid hwf
  clear hr hq hwf
  cases h1 : Ch.eitherV l
  · go_enter Try.func23, Try.ntmps23
    go_wp2_with (go_at_call 33; refine (either_any l A c1 _ (Rd.now HR.out hb) hn HW.out).mono ?_; rintro e w2 ⟨rfl, hb2⟩; replace hb := bel hb hb2; clear hb2)
    go_ret2
    exact roll_nil _ _ _ _ _ _ hb (by obtain ⟨e1, e2⟩ := Ch.roll_arg (b := b) (.inl h1); exact ⟨e1.symm, e2⟩)
  cases h2 : Ch.balsV l b
  · go_enter Try.func23, Try.ntmps23
    go_wp2_with (first
      | (go_at_call 33; refine (either_any l A c1 _ (Rd.now HR.out hb) hn HW.out).mono ?_; rintro e w2 ⟨rfl, hb2⟩; replace hb := bel hb hb2; clear hb2)
      | (go_at_call 37; refine (balances_any l b A B c1 c2 _ (Rd.now HR.out hb) (Rd.now HQ.out hb) hn hn2).mono ?_; rintro e w2 ⟨rfl, hb2⟩; replace hb := bel hb hb2; clear hb2))
    go_ret2
    exact roll_nil _ _ _ _ _ _ hb (by obtain ⟨e1, e2⟩ := Ch.roll_arg (l := l) (.inr h2); exact ⟨e1.symm, e2⟩)
  have HAM : Hid (∀ x ∈ b, amV x.amount = true) := Lib.hid (fun x hx => asc_amount (Ch.bals_asc h2) hx)
  have H1 := Lib.hid h1
  have H2 := Lib.hid h2
  have hmm := @run_makeMap Try.prog
  obtain ⟨i0, hi, hz0, hz1, hz2⟩ := info_parts bal_info
  go_enter Try.func23, Try.ntmps23
  go_wp2_with (first
    | (go_at_call 33; refine (either_any l A c1 _ (Rd.now HR.out hb) hn HW.out).mono ?_; rintro e w2 ⟨rfl, hb2⟩; replace hb := bel hb hb2; clear hb2)
    | (go_at_call 37; refine (balances_any l b A B c1 c2 _ (Rd.now HR.out hb) (Rd.now HQ.out hb) hn hn2).mono ?_; rintro e w2 ⟨rfl, hb2⟩; replace hb := bel hb hb2; clear hb2))
  clear h1 h2
  go_loopw [27] (fun t wr => ∃ k n : Nat, k ≤ b.length ∧ n ≤ k * l.length ∧ t = .int .i64 k ∧ SumW Try.prog 3 3 wr w2.heap.size n (Ch.sumAt l (b.take k)) ∧ Below w.heap.size w wr) (fun t _ => b.length - (intOf t).toNat)
  case atStart => exact ⟨0, 0, by omega, by omega, rfl, by rw [sum_start]; exact SumW.made w2, (by repeat (first | exact hb | refine Below.alloc ?_ (by have hbs := hb.size; first | omega | (simp; done) | (simp; omega)) _ | refine Below.drew ?_ | refine below_drewN_ ?_ _ | refine Below.setCell ?_ (by simp) _))⟩
  case round =>
    have hG := hb.size
    clear hb
    obtain ⟨wo, rfl⟩ : ∃ wo : World, wo = wr := ⟨_, rfl⟩
    obtain ⟨k, n, hk, hnk, rfl, hS, hb⟩ := hrel
    have hz := hb.size
    by_cases hlt : k < b.length
    · obtain ⟨x, o, hB, hbo, f0, f1⟩ := Bal.at_ (HQ.out.below hb (Nat.le_refl _)) hlt
      subst hB
      have HX : Hid (amV b[k].amount = true) := Lib.hid (HAM.out _ (List.getElem_mem hlt))
      have HT : Hid (∀ y ∈ b.take k, amV y.amount = true) := Lib.hid (fun y hy => HAM.out y (List.mem_of_mem_take hy))
      have hpl := Ch.pcl_len l b[k].account
      have HKL : Hid (k * l.length ≤ 100000 * 100000) := Lib.hid (Nat.mul_le_mul (by omega) hn)
      have hb1 : Below w.heap.size w (wo.alloc (.cells #[.int .i64 b[k].account, .int .i64 b[k].amount] 45)) := (by repeat (first | exact hb | refine Below.alloc ?_ (by have hbs := hb.size; first | omega | (simp; done) | (simp; omega)) _ | refine Below.drew ?_ | refine below_drewN_ ?_ _ | refine Below.setCell ?_ (by simp) _))
      go_wp2_with fail
      refine (climb_any l b[k].account A c1 _ (Rd.now HR.out hb1) hn HW.out).mono ?_
      rintro e w3 ⟨v2, rfl, ho2, hb3⟩
      have hX := (Blk.new wo 45 #[.int .i64 b[k].account, .int .i64 b[k].amount]).step hb3
      replace hS := (hS.alloc (.cells #[.int .i64 b[k].account, .int .i64 b[k].amount] 45)).step hb3
      replace hb := bel hb1 hb3
      obtain ⟨A2, cc, rfl, -⟩ := Rd.of_own ho2
      have HO2 := Lib.hid ho2
      clear hb1 hb3 ho2 f0 f1
      go_wp2_with fail
      go_loopw [36] (fun t wr => ∃ j m : Nat, j ≤ (Ch.pcl l b[k].account).length ∧ m ≤ n + j ∧ t = .int .i64 j ∧ SumW Try.prog 3 3 wr w2.heap.size m (Ch.sumPart l (b.take k) b[k] ((Ch.pcl l b[k].account).take j)) ∧
        Blk wr wo.heap.size 45 #[.int .i64 b[k].account, .int .i64 b[k].amount] ∧ wr.ownsRow w.heap.size 3 1 (.slice A2 (Ch.pcl l b[k].account).length cc) (Ch.pcl l b[k].account).length (intCells (Ch.pcl l b[k].account)) ∧ Below w.heap.size w wr) (fun t _ => (Ch.pcl l b[k].account).length - (intOf t).toNat)
      case atStart => exact ⟨0, n, by omega, by omega, rfl, by rw [List.take_zero, Ch.sumPart_nil]; exact hS, hX, own_base HO2.out (by simp; omega), hb⟩
      case round =>
        clear hb hS hX HO2
        obtain ⟨j, m, hj, hm, rfl, hS, hX, ho, hb⟩ := hrel
        have hzi := hb.size
        have hne := hS.ne ho
        by_cases hjl : j < (Ch.pcl l b[k].account).length
        · obtain ⟨A3, c3, e3, hr3⟩ := Rd.of_own ho
          injection e3 with e3 e4 e5
          subst e3 e5
          obtain ⟨bp, op, hA2, hbp, g0⟩ := int_at hr3 hjl
          subst hA2
          have hc : (Lit.int .i64 (Ch.pcl l b[k].account)[j]).wf = true := by
            obtain ⟨a, ha⟩ := Ch.pcl_codes l _ _ (List.getElem_mem hjl)
            obtain ⟨m1, m2⟩ := Ch.find_some l _ a ha
            rw [← m2]
            exact HW.out a m1
          have hbd := Ch.sumPart_at l (b.take k) b[k] (Ch.pcl l b[k].account) j hjl (Ch.pcl_nodup _ _)
          have hbd2 := Ch.sumAt_bd l (b.take k) (Ch.pcl l b[k].account)[j] HT.out
          rw [← hbd, List.length_take] at hbd2
          have hx2 := amV_is HX.out
          have hbd3 : -100000000000000000 ≤ Ch.sumPart l (b.take k) b[k] ((Ch.pcl l b[k].account).take j) (Ch.pcl l b[k].account)[j] ∧ Ch.sumPart l (b.take k) b[k] ((Ch.pcl l b[k].account).take j) (Ch.pcl l b[k].account)[j] ≤ 100000000000000000 := by omega
          obtain ⟨hlo, hhi⟩ := hbd3
          obtain ⟨hx0, hx1⟩ := hx2
          clear hbd hbd2
          have hy := wf64 (c := Ch.sumPart l (b.take k) b[k] ((Ch.pcl l b[k].account).take j) (Ch.pcl l b[k].account)[j] + b[k].amount) (by omega) (by omega)
          have hLL := hS.look (t := 48) Try.underlying3 Try.underlying3 Try.underlying48 (zero_int _) hc
          have p1 : wr.cell? ⟨wo.heap.size, 1, none⟩ = some (.int .i64 b[k].amount) := hX.cell 1
          have hmx : m < maxLen := by have := HKL.out; unfold maxLen; omega
          have HST := Lib.hid (Ch.sumPart_step l (b.take k) b[k] (Ch.pcl l b[k].account) j hjl (Ch.pcl_nodup _ _))
          clear e4 hr3
          go_wp2_with (at_mapUpdate; refine wpList_sum_put rfl _ _ _ 48 rfl Try.underlying3 Try.underlying3 Try.underlying48 hS hmx _ _ hc hy rfl rfl rfl ?_; intro w4 hS4 hg4)
          rw [HST.out] at hS4
          have hX4 := hX.grown hg4 (by have := hS.blk_ne hX; simp only [ne_eq, Option.some.injEq]; omega)
          have ho4 := ho.kept hg4 (.inr hne.symm)
          have hb4 : Below w.heap.size w w4 := Below.grown hb hg4 hzi (fun k hk => by injection hk with hk; omega)
          clear hg4 hS hX ho hLL p1
          go_wp2_with fail
          go_roundw
          case rel => exact ⟨j + 1, m + 1, by omega, by omega, by go_num, hS4, hX4, ho4, hb4⟩
          case measure => simp [intOf]; omega
        · have HE : Hid (Ch.sumPart l (b.take k) b[k] ((Ch.pcl l b[k].account).take j) = Ch.sumAt l (b.take (k + 1))) := Lib.hid (by rw [show (Ch.pcl l b[k].account).take j = Ch.pcl l b[k].account from List.take_of_length_le (by omega), Ch.sumPart_all l b k hlt])
          rw [HE.out] at hS
          go_wp2_with fail
          go_roundw
          case rel => exact ⟨k + 1, m, by omega, by rw [Nat.succ_mul]; omega, by go_num, hS, hb⟩
          case measure => simp [intOf]; omega
    · have HE : Hid (b.take k = b) := Lib.hid (List.take_of_length_le (by omega))
      rw [HE.out] at hS
      have HKL : Hid (k * l.length ≤ 100000 * 100000) := Lib.hid (Nat.mul_le_mul (by omega) hn)
      go_wp2_with fail
      go_loopw [11, 50] (fun v t wr => ∃ j : Nat, j ≤ l.length ∧ (∀ i (h : i < j) (h2 : i < l.length), amV (Ch.sumAt l b (l[i]'h2).code) = true) ∧ t = .int .i64 j ∧ wr.ownsRow w.heap.size 45 2 v (Ch.rollL l b (l.take j)).length (cellsOf Bal.cells (Ch.rollL l b (l.take j))) ∧
        SumW Try.prog 3 3 wr w2.heap.size n (Ch.sumAt l b) ∧ Below w.heap.size w wr) (fun _ t _ => l.length - (intOf t).toNat)
      case atStart => exact ⟨0, by omega, fun i h => by omega, rfl, World.ownsRow_nil _ _ _ _, hS, hb⟩
      case round =>
        clear hb hS
        obtain ⟨j, hj, hno, rfl, ho, hS, hb⟩ := hrel
        have HN := Lib.hid hno
        have hzi := hb.size
        have hul := Ch.rollL_len l b (l.take j)
        rw [List.length_take] at hul
        clear hno
        by_cases hjl : j < l.length
        · obtain ⟨ba, oa, hA, hba, g0, g1, g2, g3⟩ := Ch.at_ (HR.out.below hb (Nat.le_refl _)) hjl
          subst hA
          have hc : (Lit.int .i64 l[j].code).wf = true := HW.out _ (List.getElem_mem hjl)
          have hbd := Ch.sumAt_bd l b l[j].code HAM.out
          have hbd3 : -100000000000000000 ≤ Ch.sumAt l b l[j].code ∧ Ch.sumAt l b l[j].code ≤ 100000000000000000 := by omega
          obtain ⟨hlo, hhi⟩ := hbd3
          have hLL := (hS.alloc (.cells #[.int .i64 l[j].code, .int .i64 l[j].kind, .int .i64 l[j].basis, .int .i64 l[j].parent] 26)).look (t := 48) Try.underlying3 Try.underlying3 Try.underlying48 (zero_int _) hc
          have HK := Lib.hid (Ch.rollL_take l b l j hjl)
          clear hbd
          cases hm : amV (Ch.sumAt l b l[j].code)
          · have HE2 := Lib.hid (Ch.roll_range H1.out H2.out hjl hm)
            go_wp2_with (go_at_call 38; refine (amount_any _ _).mono ?_; rintro e w2 ⟨rfl, rfl⟩)
            go_ret2
            exact roll_nil _ _ _ _ _ _ (by repeat (first | exact hb | refine Below.alloc ?_ (by have hbs := hb.size; first | omega | (simp; done) | (simp; omega)) _ | refine Below.drew ?_ | refine below_drewN_ ?_ _ | refine Below.setCell ?_ (by simp) _)) (by obtain ⟨e1, e2⟩ := HE2.out; exact ⟨e1.symm, e2⟩)
          · have HM := Lib.hid hm
            by_cases h0 : Ch.sumAt l b l[j].code = 0
            · have hd : (Ch.sumAt l b l[j].code != 0) = false := by simp [h0]
              have HE2 : Hid (Ch.rollL l b (l.take (j + 1)) = Ch.rollL l b (l.take j)) := Lib.hid (by rw [HK.out, if_pos h0])
              clear h0 HK
              go_wp2_with (go_at_call 38; refine (amount_any _ _).mono ?_; rintro e w2 ⟨rfl, rfl⟩)
              go_roundw
              case rel =>
                refine ⟨j + 1, by omega, fun i h h2 => ?_, by go_num, by rw [HE2.out]; exact ho.alloc _, hS.alloc _, (by repeat (first | exact hb | refine Below.alloc ?_ (by have hbs := hb.size; first | omega | (simp; done) | (simp; omega)) _ | refine Below.drew ?_ | refine below_drewN_ ?_ _ | refine Below.setCell ?_ (by simp) _))⟩
                by_cases e : i = j
                · subst e; exact HM.out
                · exact HN.out i (by omega) h2
              case measure => simp [intOf]; omega
            · have hd : (Ch.sumAt l b l[j].code != 0) = true := by simp [h0]
              have HE2 : Hid (Ch.rollL l b (l.take (j + 1)) = Ch.rollL l b (l.take j) ++ [⟨l[j].code, Ch.sumAt l b l[j].code⟩]) := Lib.hid (by rw [HK.out, if_neg h0])
              have hne := hS.ne ho
              clear h0 HK
              go_wp2_with (first
                | (go_at_call 38; refine (amount_any _ _).mono ?_; rintro e w2 ⟨rfl, rfl⟩)
                | (at_builtin; refine wpList_append_rec Bal.cells 2 (fun _ => rfl) Bal.one rfl (.tmp 63) (.tmp 68) 34 rfl w.heap.size 45 i0 (.agg #[.int .i64 0, .int .i64 0]) 16 Try.underlying34 hi hz0 hz1 hz2 rfl (by decide) _ (Ch.rollL l b (l.take j)) rfl ((ho.alloc (.cells #[.int .i64 l[j].code, .int .i64 l[j].kind, .int .i64 l[j].basis, .int .i64 l[j].parent] 26)).alloc _) (wr.heap.size + 1) 1 ⟨l[j].code, Ch.sumAt l b l[j].code⟩ _ rfl ?c1 rfl ?c3 ?c4 ?c5 ?_))
              case c1 => have := Blk.new (wr.alloc (.cells #[.int .i64 l[j].code, .int .i64 l[j].kind, .int .i64 l[j].basis, .int .i64 l[j].parent] 26)) 45 #[.int .i64 l[j].code, .int .i64 (Ch.sumAt l b l[j].code)]; simpa using this
              case c3 => simp only [maxLen]; omega
              case c4 => omega
              case c5 => simp; omega
              intro v4 w4 ho4 hg4
              have hb3 : Below w.heap.size w ((wr.alloc (.cells #[.int .i64 l[j].code, .int .i64 l[j].kind, .int .i64 l[j].basis, .int .i64 l[j].parent] 26)).alloc (.cells #[.int .i64 l[j].code, .int .i64 (Ch.sumAt l b l[j].code)] 45)) := (by repeat (first | exact hb | refine Below.alloc ?_ (by have hbs := hb.size; first | omega | (simp; done) | (simp; omega)) _ | refine Below.drew ?_ | refine below_drewN_ ?_ _ | refine Below.setCell ?_ (by simp) _))
              have hb4 := bel_own hb3 (by simp; omega) ((ho.alloc _).alloc _) hg4
              have hS4 := ((hS.alloc (.cells #[.int .i64 l[j].code, .int .i64 l[j].kind, .int .i64 l[j].basis, .int .i64 l[j].parent] 26)).alloc (.cells #[.int .i64 l[j].code, .int .i64 (Ch.sumAt l b l[j].code)] 45)).kept hg4 hne
              clear hg4 hb3 hLL
              go_wp2_with fail
              go_roundw
              case rel =>
                refine ⟨j + 1, by omega, fun i h h2 => ?_, by go_num, by rw [HE2.out, List.length_append]; exact ho4, hS4, hb4⟩
                by_cases e : i = j
                · subst e; exact HM.out
                · exact HN.out i (by omega) h2
              case measure => simp [intOf]; omega
        · have HE2 : Hid (l.take j = l) := Lib.hid (List.take_of_length_le (by omega))
          have HE3 := Lib.hid (Ch.roll_fine H1.out H2.out (fun i h => HN.out i (by omega) h))
          rw [HE2.out] at ho
          go_wp2_with fail
          go_ret2
          exact ⟨_, by rw [HE3.out.1]; rfl, by rw [HE3.out.2]; exact ho, hb⟩
end Go.Proofs.Ytjcapeieahffnaa
