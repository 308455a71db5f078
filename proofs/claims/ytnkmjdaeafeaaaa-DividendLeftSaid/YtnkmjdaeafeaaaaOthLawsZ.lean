/- Texts of this claim, put together. -/
import Derived.Test.YtnkmjdaeafeaaaaJAX
/- The walk of DividendOthers. -/
namespace Go.Proofs.Ytnkmjdaeafeaaaa
set_option linter.unusedVariables false
set_option linter.unusedSimpArgs false
open Go.RowKit

/-- contributions of a call's own, with items of its own -/
structure OwnLs (T TI : TypeId) (base : Nat) (w : World) (v : Value) (L : List ConR) : Prop where
  own : w.ownsRow base T 3 v L.length (cellsOf ConR.own L)
  its : ∀ x ∈ L, OwnSl ItemR.cells base TI 7 w x.items
theorem ownLs_nil (T TI : TypeId) (base : Nat) (w : World) : OwnLs T TI base w (.slice none 0 0) [] := ⟨World.ownsRow_nil _ _ _ _, fun x hx => by cases hx⟩
theorem OwnLs.step {T TI : TypeId} {base : Nat} {w w' : World} {v : Value} {L : List ConR} (h : OwnLs T TI base w v L) (hb : Below w.heap.size w w') : OwnLs T TI base w' v L :=
  ⟨own_step h.own hb, fun x hx => own_step (h.its x hx) hb⟩
theorem OwnLs.snoc {T TI : TypeId} {base : Nat} {w w' : World} {v v' : Value} {L : List ConR} {x : ConR} (h : OwnLs T TI base w v L) (hx : OwnSl ItemR.cells base TI 7 w x.items) (hne : TI ≠ T) (ho : w'.ownsRow base T 3 v' (L.length + 1) (cellsOf ConR.own (L ++ [x]))) (hg : w.grownBy w' v.ownBlock) : OwnLs T TI base w' v' (L ++ [x]) := by
  refine ⟨by rw [List.length_append]; exact ho, fun y hy => ?_⟩
  rcases List.mem_append.1 hy with hy | hy
  · exact own_apart (h.its y hy) h.own hne hg
  · rw [List.mem_singleton] at hy
    subst hy
    exact own_apart hx h.own hne hg
theorem OwnLs.oin {T TI : TypeId} {base : Nat} {w : World} {A : Option Addr} {n c : Nat} {L : List ConR} (h : OwnLs T TI base w (.slice A n c) L) (hl : L.length ≤ 14) (hf : ∀ x ∈ L, x.items.l.length ≤ 40) : n = L.length ∧ OIn w L A := by
  obtain ⟨A', c', e, hr⟩ := Rd.of_own h.own
  injection e with e1 e2 e3
  subst e1 e2 e3
  refine ⟨rfl, hr, fun x hx => ⟨own_rd (h.its x hx), ?_⟩, ?_⟩
  · have := hf x hx; unfold maxLen; omega
  · unfold maxLen; omega
theorem ConR.own_one (x : ConR) : ∀ u ∈ x.own, u.oneCell' = true := by
  intro u hu
  simp only [ConR.own, List.mem_cons, List.not_mem_nil, or_false] at hu
  rcases hu with rfl | rfl | rfl
  all_goals rfl
theorem own_info : (Try.prog.info? 83).map (fun i => (i.zero, i.size, i.bytes)) = some (some (.agg #[.int .i64 0, .int .i64 0, .slice none 0 0]), 3, 40) := by kernel_rfl
theorem conOk_len {x : ConR} (h : conOk x = true) : x.items.l.length ≤ 40 := by
  unfold conOk at h
  simp only [Bool.and_eq_true, decide_eq_true_eq] at h
  exact h.1
theorem Ot.less_at {d : Int} {l M : List ConR} {i : Nat} (h : Ot.Less d l M) (hM : M.length = i) (hi : i < l.length) (x : ConR) (h1 : x.entity = l[i].entity) (h2 : x.method = l[i].method) (h3 : x.items.l = Ot.items d l i l[i]) : Ot.Less d l (M ++ [x]) := by
  subst hM
  exact Ot.less_snoc h hi h1 h2 h3
theorem known_take (l : List ConR) (j : Nat) (e : Int) (h : j < l.length) : Ot.known l (j + 1) e = (Ot.known l j e || l[j].entity == e) := by
  unfold Ot.known
  rw [List.take_succ_eq_append_getElem h, List.any_append]
  simp
theorem keep_take (d : Int) (I : List ItemR) (j : Nat) (h : j < I.length) : (I.take (j + 1)).filter (Ot.keep d) = if Ot.keep d I[j] = true then (I.take j).filter (Ot.keep d) ++ [I[j]] else (I.take j).filter (Ot.keep d) := by
  rw [List.take_succ_eq_append_getElem h, List.filter_append, List.filter_cons, List.filter_nil]
  split <;> simp
section
variable (cur : ByteArray) (y m p : Int) (cl : List Acc) (cA : Option Addr) (cc : Nat) (ro : RolesR) (el : List EntR) (eA : Option Addr) (ec : Nat) (w : World)
set_option maxRecDepth 100000 in
set_option maxHeartbeats 16000000 in
theorem law_DividendOthers (l : List ConR) (A : Option Addr) (c : Nat) (q : Int) (h : GIn w cl cA el eA) (hc : cur.size ≤ maxLen) (hcl : cl.length ≤ maxLen) (hel : el.length ≤ maxLen) (hO : OIn w l A) (hcap : l.length ≤ c) (hcm : c ≤ maxLen) (hw1 : Wf ro.dividends) (hw2 : Wf ro.retained) :
    Calls Try.prog 7 #[.agg #[.string cur, .int .i64 y, .int .i64 m, .int .i64 p, .slice cA cl.length cc, .int .i64 ro.investment, .int .i64 ro.goodwill, .int .i64 ro.associates, .int .i64 ro.inventory, .int .i64 ro.reserve, .int .i64 ro.minority, .int .i64 ro.retained, .int .i64 ro.acquired, .int .i64 ro.owners, .int .i64 ro.disposal, .int .i64 ro.associateProfit, .int .i64 ro.dividends, .int .i64 ro.minorityProfit, .int .i64 ro.difference, .int .i64 ro.margin, .slice eA el.length ec], .slice A l.length c, .int .i64 q] w fun e w' => e = .returned (.bool true) ∧ Below w.heap.size w w' := by
  have H := Lib.hid h
  have HO := Lib.hid hO
  clear h hO
  obtain ⟨gcs, hgc⟩ : ∃ x : Array Value, x = #[.string cur, .int .i64 y, .int .i64 m, .int .i64 p, .slice cA cl.length cc, .int .i64 ro.investment, .int .i64 ro.goodwill, .int .i64 ro.associates, .int .i64 ro.inventory, .int .i64 ro.reserve, .int .i64 ro.minority, .int .i64 ro.retained, .int .i64 ro.acquired, .int .i64 ro.owners, .int .i64 ro.disposal, .int .i64 ro.associateProfit, .int .i64 ro.dividends, .int .i64 ro.minorityProfit, .int .i64 ro.difference, .int .i64 ro.margin, .slice eA el.length ec] := ⟨_, rfl⟩
  have hgi : (Try.prog.info? 29).map (·.size) = some gcs.size := by rw [hgc]; exact grp_size
  have HG := Lib.hid hgc
  rw [← hgc]
  clear hgc
  have HBT := Lib.hid (bkOf_built HG.out)
  have HBS := Lib.hid (bkOf_is (gsize21 HG.out))
  have K0 := Lib.hid (fun W h hO => dfew_any cur y m p cl cA cc ro el eA ec W gcs l A c HG h hO hc hcl hel)
  clear hcl hel
  have hb : Below w.heap.size w (w.alloc (.cells gcs 29)) := (Below.refl _ _).alloc (Nat.le_refl _) _
  have HB := Lib.hid (Blk.new w 29 gcs)
  go_enter Try.func7, Try.ntmps7
  go_wp2_with fail
  generalize w.alloc (.cells gcs 29) = W at *
  refine (div_awake _).mono ?_
  rintro e w2 ⟨rfl, hb9⟩
  replace hb := bel hb hb9
  replace HB := Lib.hid (HB.out.step hb9)
  clear hb9
  go_wp2_with ((refine wpList_load_blk 29 (.tmp 3) rfl (w.heap.size) rfl (by kernel_rfl) (HB).out Try.underlying29 hgi ?_))
  refine (K0.out _ (H.out.step hb) (HO.out.step hb)).mono ?_
  rintro e w3 ⟨b, rfl, hb9, hok⟩
  replace hb := bel hb hb9
  replace HB := Lib.hid (HB.out.step hb9)
  clear hb9 K0
  cases b
  · clear hok
    go_wp2_with (go_at_call 24; refine (div_awake _).mono ?_; rintro e w4 ⟨rfl, hb9⟩; replace hb := bel hb hb9; clear hb9)
    go_ret
    exact ⟨rfl, hb⟩
  · have OK := Lib.hid (hok rfl)
    clear hok
    have hl14 := OK.out.len
    have hen := OK.out.grp.en
    obtain ⟨i0, hi0, hz0, hz1, hz2⟩ := info_parts own_info
    obtain ⟨j0, hj0, hy0, hy1, hy2⟩ := info_parts ItemR.info
    unfold maxLen at hcm
    go_wp2_with fail
    go_loopw [7, 35] (fun v t wr => ∃ (i : Nat) (M : List ConR), i ≤ l.length ∧ M.length = i ∧ t = .int .i64 i ∧ OwnLs 83 87 w.heap.size wr v M ∧ Ot.Less ro.dividends l M ∧ (∀ x ∈ M, x.items.l.length ≤ 40) ∧ Blk wr w.heap.size 29 gcs ∧ Below w.heap.size w wr) (fun _ t _ => l.length - (intOf t).toNat)
    case atStart => exact ⟨0, [], by omega, rfl, rfl, ownLs_nil _ _ _ _, Ot.less_nil _ _, (fun x hx => by cases hx), HB.out, hb⟩
    case round =>
      clear hb HB
      obtain ⟨i, M, hi, hMi, rfl, hOL, hLS, hF4, hB, hb⟩ := hrel
      have HOL := Lib.hid hOL
      have HLS := Lib.hid hLS
      have HF4 := Lib.hid hF4
      have HB := Lib.hid hB
      have HMI := Lib.hid hMi
      have hml : M.length ≤ 14 := by omega
      have hz := hb.size
      clear hOL hLS hF4 hB hMi
      by_cases hil : i < l.length
      · obtain ⟨b, o, hA, hbo, f0, f1, f2⟩ := ConR.own_at (Rd.now HO.out.rd hb) hil
        subst hA
        have HXI := Lib.hid (HO.out.it _ (List.getElem_mem hil)).1
        have hx40 := conOk_len (OK.out.it _ (List.getElem_mem hil))
        have HSN := Lib.hid (fun x => Ot.less_at HLS.out HMI.out hil x)
        have HIT : Hid (Ot.items ro.dividends l i l[i] = if l[i].method ≠ 3 ∧ Ot.known l i l[i].entity = false then [] else l[i].items.l.filter (Ot.keep ro.dividends)) := Lib.hid rfl
        have HXX := Lib.hid (show l[i] = l[i] from rfl)
        generalize hxx : l[i] = x at *
        have HXE := Lib.hid hxx
        clear hxx HXX
        obtain ⟨xe, xm, ⟨il, iA, ic⟩⟩ := x
        dsimp only [Sl.val] at *
        have hst : Below wr.heap.size wr (wr.alloc (.cells #[.int .i64 xe, .int .i64 xm, .slice iA il.length ic] 83)) := (Below.refl _ _).alloc (Nat.le_refl _) _
        have HX1 := Lib.hid (Blk.new wr 83 #[.int .i64 xe, .int .i64 xm, .slice iA il.length ic])
        have hic : (i : Int) ≤ (c : Int) := by omega
        obtain ⟨wo, rfl⟩ : ∃ wo : World, wo = wr := ⟨_, rfl⟩
        go_wp2_with fail
        clear f0 f1 f2
        generalize wo.alloc (.cells #[.int .i64 xe, .int .i64 xm, .slice iA il.length ic] 83) = W1 at *
        go_loopw [10, 44] (fun s t wr => ∃ j : Nat, j ≤ i ∧ s = .bool (Ot.known l j xe) ∧ t = .int .i64 j ∧ Below W1.heap.size W1 wr) (fun _ t _ => i - (intOf t).toNat)
        case atStart => exact ⟨0, by omega, rfl, rfl, Below.refl _ _⟩
        case round =>
          obtain ⟨j, hj, rfl, rfl, hbr⟩ := hrel
          have hbo2 := bel hst hbr
          have hbw := bel hb hbo2
          by_cases hji : j < i
          · have hjl : j < l.length := by omega
            obtain ⟨b2, o2, hA2, hbo3, f0, f1, f2⟩ := ConR.own_at (Rd.now HO.out.rd hbw) hjl
            injection hA2 with hA2
            injection hA2 with hA3 hA4
            subst hA3 hA4
            have HKT := Lib.hid (known_take l j xe hjl)
            generalize l[j] = z at *
            obtain ⟨ze, zm, ⟨zl, zA, zc⟩⟩ := z
            dsimp only [Sl.val] at *
            have hs2 := hbr.alloc hbr.size (.cells #[.int .i64 ze, .int .i64 zm, .slice zA zl.length zc] 83)
            have HX2 := Lib.hid ((HX1.out.step hbr).alloc (.cells #[.int .i64 ze, .int .i64 zm, .slice zA zl.length zc] 83))
            have k0 : (wr.alloc (.cells #[.int .i64 ze, .int .i64 zm, .slice zA zl.length zc] 83)).cell? ⟨wo.heap.size, 0, none⟩ = some (.int .i64 xe) := HX2.out.cell 0
            generalize hkk : Ot.known l j xe = kb at *
            clear hkk
            cases kb
            · cases hze : (ze == xe)
              · have HE1 : Hid (Ot.known l (j + 1) xe = false) := Lib.hid (by rw [HKT.out, hze]; rfl)
                go_wp2_with fail
                clear k0
                go_roundw
                case rel => exact ⟨j + 1, by omega, by rw [HE1.out], by go_num, hs2⟩
                case measure => simp [intOf]; omega
              · have HE1 : Hid (Ot.known l (j + 1) xe = true) := Lib.hid (by rw [HKT.out, hze]; rfl)
                go_wp2_with fail
                clear k0
                go_roundw
                case rel => exact ⟨j + 1, by omega, by rw [HE1.out], by go_num, hs2⟩
                case measure => simp [intOf]; omega
            · have HE1 : Hid (Ot.known l (j + 1) xe = true) := Lib.hid (by rw [HKT.out]; rfl)
              go_wp2_with fail
              clear k0
              go_roundw
              case rel => exact ⟨j + 1, by omega, by rw [HE1.out], by go_num, hs2⟩
              case measure => simp [intOf]; omega
          · have hje : j = i := by omega
            have HIT2 : Hid (Ot.items ro.dividends l i ⟨xe, xm, ⟨il, iA, ic⟩⟩ = if xm ≠ 3 ∧ Ot.known l j xe = false then [] else il.filter (Ot.keep ro.dividends)) := Lib.hid (by rw [hje]; exact HIT.out)
            clear HIT
            have HIT := HIT2
            clear HIT2
            generalize hkn : Ot.known l j xe = kn at *
            clear hkn hje
            have k1 : wr.cell? ⟨wo.heap.size, 1, none⟩ = some (.int .i64 xm) := (HX1.out.step hbr).cell 1
            cases hm : (xm != 3)
            · have HII : Hid (il.filter (Ot.keep ro.dividends) = Ot.items ro.dividends l i ⟨xe, xm, ⟨il, iA, ic⟩⟩) := Lib.hid (by rw [HIT.out, if_neg (fun h => h.1 (by simpa using hm))])
              have HIF : Hid (il.filter (Ot.keep ro.dividends) = Ot.items ro.dividends l i ⟨xe, xm, ⟨il, iA, ic⟩⟩) := HII
              have HXJ := Lib.hid (HX1.out.step hbr)
              have k2 : wr.cell? ⟨wo.heap.size, 2, none⟩ = some (.slice iA il.length ic) := HXJ.out.cell 2
              have HXR := Lib.hid (Rd.now HXI.out hbw)
              have HLT : Hid (wo.heap.size < wr.heap.size) := Lib.hid HXJ.out.lt
              have HBASE : Hid (w.heap.size ≤ wr.heap.size) := Lib.hid hbw.size
              have HBJ := Lib.hid (HB.out.step hbo2)
              obtain ⟨wj, rfl⟩ : ∃ wj : World, wj = wr := ⟨_, rfl⟩
              go_wp2_with fail
              clear k1 k2
              go_loopw [13, 68] (fun u t wr => ∃ j : Nat, j ≤ il.length ∧ wr.ownsRow wj.heap.size 87 7 u ((il.take j).filter (Ot.keep ro.dividends)).length (cellsOf ItemR.cells ((il.take j).filter (Ot.keep ro.dividends))) ∧ t = .int .i64 j ∧ Below wj.heap.size wj wr) (fun _ t _ => il.length - (intOf t).toNat)
              case atStart => exact ⟨0, by omega, World.ownsRow_nil _ _ _ _, rfl, Below.refl _ _⟩
              case round =>
                obtain ⟨j, hj, hOWN, rfl, hbj⟩ := hrel
                have HOWN := Lib.hid hOWN
                have hlf : ((il.take j).filter (Ot.keep ro.dividends)).length ≤ 40 := Nat.le_trans (List.length_filter_le _ _) (by rw [List.length_take]; omega)
                have hzj := hbj.size
                clear hOWN
                by_cases hjl : j < il.length
                · obtain ⟨b2, o2, hA2, hbo3, f0, f1, f2, f3, f4, f5, f6⟩ := ItemR.at_ (Rd.now HXR.out hbj) hjl
                  subst hA2
                  have HKT := Lib.hid (keep_take ro.dividends il j hjl)
                  generalize il[j] = it at *
                  obtain ⟨⟨r1, r2⟩, ie, ia, ip, id, im⟩ := it
                  dsimp only at *
                  have HKK : Hid (Ot.keep ro.dividends ⟨⟨r1, r2⟩, ie, ia, ip, id, im⟩ = (ia == ro.dividends && decide (0 ≤ ip))) := Lib.hid rfl
                  have hs2 := hbj.alloc hzj (.cells #[.int .i64 r1, .int .i64 r2, .int .i64 ie, .int .i64 ia, .int .i64 ip, .int .i64 id, .int .i64 im] 87)
                  have k16 : (wr.alloc (.cells #[.int .i64 r1, .int .i64 r2, .int .i64 ie, .int .i64 ia, .int .i64 ip, .int .i64 id, .int .i64 im] 87)).cell? ⟨w.heap.size, 16, none⟩ = some (.int .i64 ro.dividends) := ((HBJ.out.step hs2).cell 16).trans (by rw [HG.out]; rfl)
                  generalize Ot.keep ro.dividends ⟨⟨r1, r2⟩, ie, ia, ip, id, im⟩ = kp at *
                  cases hia : (ia == ro.dividends)
                  · have HE1 : Hid ((il.take (j + 1)).filter (Ot.keep ro.dividends) = (il.take j).filter (Ot.keep ro.dividends)) := Lib.hid (by rw [HKT.out, if_neg (by rw [HKK.out, hia]; simp)])
                    go_wp2_with fail
                    clear k16
                    go_roundw
                    case rel => exact ⟨j + 1, by omega, by rw [HE1.out]; exact HOWN.out.alloc _, by go_num, hs2⟩
                    case measure => simp [intOf]; omega
                  · by_cases hip : 0 ≤ ip
                    · have HE1 : Hid ((il.take (j + 1)).filter (Ot.keep ro.dividends) = (il.take j).filter (Ot.keep ro.dividends) ++ [⟨⟨r1, r2⟩, ie, ia, ip, id, im⟩]) := Lib.hid (by rw [HKT.out, if_pos (by rw [HKK.out, hia]; simp [hip])])
                      have HEL : Hid (((il.take (j + 1)).filter (Ot.keep ro.dividends)).length = ((il.take j).filter (Ot.keep ro.dividends)).length + 1) := Lib.hid (by rw [HE1.out, List.length_append]; rfl)
                      generalize hfj : (il.take j).filter (Ot.keep ro.dividends) = FJ at *
                      clear hfj
                      go_wp2_with (at_builtin; refine wpList_append_rec ItemR.cells 7 ItemR.len ItemR.one rfl (.tmp 83) (.tmp 85) 81 rfl wj.heap.size 87 j0 (.agg #[.int .i64 0, .int .i64 0, .int .i64 0, .int .i64 0, .int .i64 0, .int .i64 0, .int .i64 0]) 56 Try.underlying81 hj0 hy0 hy1 hy2 rfl (by decide) _ FJ rfl ((HOWN.out.alloc (.cells #[.int .i64 r1, .int .i64 r2, .int .i64 ie, .int .i64 ia, .int .i64 ip, .int .i64 id, .int .i64 im] 87)).alloc _) (wr.heap.size + 1) 1 ⟨⟨r1, r2⟩, ie, ia, ip, id, im⟩ #[.int .i64 r1, .int .i64 r2, .int .i64 ie, .int .i64 ia, .int .i64 ip, .int .i64 id, .int .i64 im] rfl (blk_new2 _ _ _ _) rfl (by simp only [maxLen]; omega) (by omega) (by simp; omega) ?_)
                      intro v4 w4 ho4 hg4
                      have hb3 := hs2.alloc hs2.size (.cells #[.int .i64 r1, .int .i64 r2, .int .i64 ie, .int .i64 ia, .int .i64 ip, .int .i64 id, .int .i64 im] 87)
                      have hb4 := bel_own hb3 (by have := hb3.size; omega) ((HOWN.out.alloc _).alloc _) hg4
                      have HO4 := Lib.hid ho4
                      clear ho4 hg4 hb3 k16
                      go_wp2_with fail
                      go_roundw
                      case rel => exact ⟨j + 1, by omega, by rw [HEL.out, HE1.out]; exact HO4.out, by go_num, hb4⟩
                      case measure => simp [intOf]; omega
                    · have HE1 : Hid ((il.take (j + 1)).filter (Ot.keep ro.dividends) = (il.take j).filter (Ot.keep ro.dividends)) := Lib.hid (by rw [HKT.out, if_neg (by rw [HKK.out]; simp [hip])])
                      go_wp2_with fail
                      clear k16
                      go_roundw
                      case rel => exact ⟨j + 1, by omega, by rw [HE1.out]; exact HOWN.out.alloc _, by go_num, hs2⟩
                      case measure => simp [intOf]; omega
                · have HTA : Hid (il.take j = il) := Lib.hid (List.take_of_length_le (by omega))
                  rw [HTA.out] at HOWN hlf
                  have HUL := HIF
                  generalize hul0 : il.filter (Ot.keep ro.dividends) = ul at *
                  have hul : ul.length ≤ 40 := hlf
                  clear hul0
                  obtain ⟨uA, un, uc, huv⟩ := own_shape HOWN.out
                  subst huv
                  obtain ⟨hun, -⟩ := own_lies HOWN.out
                  subst hun
                  have HOW := HOWN
                  have HXK := Lib.hid (HXJ.out.step hbj)
                  have hbt := hbo2.trans (hbj.mono hbo2.size)
                  have k2 : wr.cell? ⟨wo.heap.size, 2, none⟩ = some (.slice iA il.length ic) := HXK.out.cell 2
                  have z2 : wr.frozen? ⟨wo.heap.size, 2, none⟩ = false := HXK.out.frozen 2
                  have hset : Below wo.heap.size wo (wr.setCell ⟨wo.heap.size, 2, none⟩ (.slice uA ul.length uc)) := hbt.setCell (by simp) _
                  have hX6 : Blk (wr.setCell ⟨wo.heap.size, 2, none⟩ (.slice uA ul.length uc)) wo.heap.size 83 #[.int .i64 xe, .int .i64 xm, .slice uA ul.length uc] := HXK.out.set_ 2 _
                  have HX6 := Lib.hid hX6
                  have HOW6 := Lib.hid (own_away (i := 2) HOW.out HLT.out (.slice uA ul.length uc))
                  go_upto_region 23 with fail
                  clear k2 z2 hX6
                  generalize wr.setCell ⟨wo.heap.size, 2, none⟩ (.slice uA ul.length uc) = w6 at *
                  have m0 : w6.cell? ⟨wo.heap.size, 0, none⟩ = some (.int .i64 xe) := HX6.out.cell 0
                  have m1 : w6.cell? ⟨wo.heap.size, 1, none⟩ = some (.int .i64 xm) := HX6.out.cell 1
                  have m2 : w6.cell? ⟨wo.heap.size, 2, none⟩ = some (.slice uA ul.length uc) := HX6.out.cell 2
                  have HOL6 := Lib.hid (HOL.out.step hset)
                  have hb6 := bel hb hset
                  have hz6 := hb6.size
                  go_wp2_with (at_builtin; refine wpList_append_rec ConR.own 3 ConR.own_len ConR.own_one rfl (.tmp 90) (.tmp 92) 58 rfl w.heap.size 83 i0 (.agg #[.int .i64 0, .int .i64 0, .slice none 0 0]) 40 Try.underlying58 hi0 hz0 hz1 hz2 rfl (by decide) _ M rfl (HOL6.out.own.alloc _) w6.heap.size 1 ⟨xe, xm, ⟨ul, uA, uc⟩⟩ #[.int .i64 xe, .int .i64 xm, .slice uA ul.length uc] rfl (Blk.new w6 _ _) rfl (by simp only [maxLen]; omega) (by omega) (by simp; omega) ?_)
                  intro v7 w7 ho7 hg7
                  have hs7 := (Below.refl w6.heap.size w6).alloc (Nat.le_refl _) (.cells #[.int .i64 xe, .int .i64 xm, .slice uA ul.length uc] 83)
                  have HOL7 := Lib.hid ((HOL6.out.step hs7).snoc (own_step (own_base HOW6.out HBASE.out) hs7) (by decide) ho7 hg7)
                  have HB7 := Lib.hid (((HB.out.step hset).step hs7).grown hg7 (own_ne_blk (HOL6.out.step hs7).own ((HB.out.step hset).step hs7) (by decide)))
                  have hb7 := bel_own (bel hb6 hs7) (by have := hs7.size; omega) (HOL6.out.step hs7).own hg7
                  have HLS7 := Lib.hid (HSN.out ⟨xe, xm, ⟨ul, uA, uc⟩⟩ rfl rfl HUL.out)
                  have HF7 : Hid (∀ x ∈ M ++ [(⟨xe, xm, ⟨ul, uA, uc⟩⟩ : ConR)], x.items.l.length ≤ 40) := Lib.hid (fun x hx => by
                    rcases List.mem_append.1 hx with hx | hx
                    · exact HF4.out x hx
                    · rw [List.mem_singleton] at hx
                      subst hx
                      exact hul)
                  have HM7 : Hid ((M ++ [(⟨xe, xm, ⟨ul, uA, uc⟩⟩ : ConR)]).length = i + 1) := Lib.hid (by rw [List.length_append, List.length_singleton, HMI.out])
                  generalize M ++ [(⟨xe, xm, ⟨ul, uA, uc⟩⟩ : ConR)] = M2 at *
                  clear ho7 hg7 m0 m1 m2 hset hs7
                  go_wp2_with fail
                  go_roundw
                  case rel => exact ⟨i + 1, M2, by omega, HM7.out, by go_num, HOL7.out, HLS7.out, HF7.out, HB7.out, hb7⟩
                  case measure => simp [intOf]; omega
            · cases kn
              · have HUL : Hid (([] : List ItemR) = Ot.items ro.dividends l i ⟨xe, xm, ⟨il, iA, ic⟩⟩) := Lib.hid (by rw [HIT.out, if_pos ⟨by simpa using hm, rfl⟩])
                have HXJ := Lib.hid (HX1.out.step hbr)
                have k2 : wr.cell? ⟨wo.heap.size, 2, none⟩ = some (.slice iA il.length ic) := HXJ.out.cell 2
                have z2 : wr.frozen? ⟨wo.heap.size, 2, none⟩ = false := HXJ.out.frozen 2
                have hset : Below wo.heap.size wo (wr.setCell ⟨wo.heap.size, 2, none⟩ (.slice none 0 0)) := hbo2.setCell (by simp) _
                have hX6 : Blk (wr.setCell ⟨wo.heap.size, 2, none⟩ (.slice none 0 0)) wo.heap.size 83 #[.int .i64 xe, .int .i64 xm, .slice none 0 0] := HXJ.out.set_ 2 _
                have HXS := Lib.hid hX6
                go_upto_region 15 with fail
                clear k1 k2 z2 hX6 HXJ
                generalize wr.setCell ⟨wo.heap.size, 2, none⟩ (.slice none 0 0) = wj at *
                have k3 : wj.cell? ⟨wo.heap.size, 2, none⟩ = some (.slice none 0 0) := HXS.out.cell 2
                have HLT : Hid (wo.heap.size < wj.heap.size) := Lib.hid HXS.out.lt
                have HBASE : Hid (w.heap.size ≤ wj.heap.size) := Lib.hid (bel hb hset).size
                go_wp2_with fail
                clear k3
                go_loopw [13, 68] (fun u t wr => u = .slice none 0 0 ∧ t = .int .i64 0 ∧ Below wj.heap.size wj wr) (fun _ _ _ => 0)
                case atStart => exact ⟨rfl, rfl, Below.refl _ _⟩
                case round =>
                  clear hbr hbw hbo2
                  obtain ⟨rfl, rfl, hbj⟩ := hrel
                  have hul : ([] : List ItemR).length ≤ 40 := Nat.zero_le _
                  have HOW : Hid (wr.ownsRow wj.heap.size 87 7 (.slice none 0 0) ([] : List ItemR).length (cellsOf ItemR.cells ([] : List ItemR))) := Lib.hid (World.ownsRow_nil _ _ _ _)
                  have HXK := Lib.hid (HXS.out.step hbj)
                  have hbt := hset.trans (hbj.mono hset.size)
                  clear hset
                  have k2 : wr.cell? ⟨wo.heap.size, 2, none⟩ = some (.slice none 0 0) := HXK.out.cell 2
                  have z2 : wr.frozen? ⟨wo.heap.size, 2, none⟩ = false := HXK.out.frozen 2
                  have hset : Below wo.heap.size wo (wr.setCell ⟨wo.heap.size, 2, none⟩ (.slice none 0 0)) := hbt.setCell (by simp) _
                  have hX6 : Blk (wr.setCell ⟨wo.heap.size, 2, none⟩ (.slice none 0 0)) wo.heap.size 83 #[.int .i64 xe, .int .i64 xm, .slice none 0 0] := HXK.out.set_ 2 _
                  have HX6 := Lib.hid hX6
                  have HOW6 := Lib.hid (own_away (i := 2) HOW.out HLT.out (.slice none 0 0))
                  go_upto_region 23 with fail
                  clear k2 z2 hX6
                  generalize wr.setCell ⟨wo.heap.size, 2, none⟩ (.slice none 0 0) = w6 at *
                  have m0 : w6.cell? ⟨wo.heap.size, 0, none⟩ = some (.int .i64 xe) := HX6.out.cell 0
                  have m1 : w6.cell? ⟨wo.heap.size, 1, none⟩ = some (.int .i64 xm) := HX6.out.cell 1
                  have m2 : w6.cell? ⟨wo.heap.size, 2, none⟩ = some (.slice none 0 0) := HX6.out.cell 2
                  have HOL6 := Lib.hid (HOL.out.step hset)
                  have hb6 := bel hb hset
                  have hz6 := hb6.size
                  go_wp2_with (at_builtin; refine wpList_append_rec ConR.own 3 ConR.own_len ConR.own_one rfl (.tmp 90) (.tmp 92) 58 rfl w.heap.size 83 i0 (.agg #[.int .i64 0, .int .i64 0, .slice none 0 0]) 40 Try.underlying58 hi0 hz0 hz1 hz2 rfl (by decide) _ M rfl (HOL6.out.own.alloc _) w6.heap.size 1 ⟨xe, xm, ⟨([] : List ItemR), none, 0⟩⟩ #[.int .i64 xe, .int .i64 xm, .slice none 0 0] rfl (Blk.new w6 _ _) rfl (by simp only [maxLen]; omega) (by omega) (by simp; omega) ?_)
                  intro v7 w7 ho7 hg7
                  have hs7 := (Below.refl w6.heap.size w6).alloc (Nat.le_refl _) (.cells #[.int .i64 xe, .int .i64 xm, .slice none 0 0] 83)
                  have HOL7 := Lib.hid ((HOL6.out.step hs7).snoc (own_step (own_base HOW6.out HBASE.out) hs7) (by decide) ho7 hg7)
                  have HB7 := Lib.hid (((HB.out.step hset).step hs7).grown hg7 (own_ne_blk (HOL6.out.step hs7).own ((HB.out.step hset).step hs7) (by decide)))
                  have hb7 := bel_own (bel hb6 hs7) (by have := hs7.size; omega) (HOL6.out.step hs7).own hg7
                  have HLS7 := Lib.hid (HSN.out ⟨xe, xm, ⟨([] : List ItemR), none, 0⟩⟩ rfl rfl HUL.out)
                  have HF7 : Hid (∀ x ∈ M ++ [(⟨xe, xm, ⟨([] : List ItemR), none, 0⟩⟩ : ConR)], x.items.l.length ≤ 40) := Lib.hid (fun x hx => by
                    rcases List.mem_append.1 hx with hx | hx
                    · exact HF4.out x hx
                    · rw [List.mem_singleton] at hx
                      subst hx
                      exact hul)
                  have HM7 : Hid ((M ++ [(⟨xe, xm, ⟨([] : List ItemR), none, 0⟩⟩ : ConR)]).length = i + 1) := Lib.hid (by rw [List.length_append, List.length_singleton, HMI.out])
                  generalize M ++ [(⟨xe, xm, ⟨([] : List ItemR), none, 0⟩⟩ : ConR)] = M2 at *
                  clear ho7 hg7 m0 m1 m2 hset hs7
                  go_wp2_with fail
                  go_roundw
                  case rel => exact ⟨i + 1, M2, by omega, HM7.out, by go_num, HOL7.out, HLS7.out, HF7.out, HB7.out, hb7⟩
                  case measure => simp [intOf]; omega
              · have HII : Hid (il.filter (Ot.keep ro.dividends) = Ot.items ro.dividends l i ⟨xe, xm, ⟨il, iA, ic⟩⟩) := Lib.hid (by rw [HIT.out, if_neg (fun h => by cases h.2)])
                have HIF : Hid (il.filter (Ot.keep ro.dividends) = Ot.items ro.dividends l i ⟨xe, xm, ⟨il, iA, ic⟩⟩) := HII
                have HXJ := Lib.hid (HX1.out.step hbr)
                have k2 : wr.cell? ⟨wo.heap.size, 2, none⟩ = some (.slice iA il.length ic) := HXJ.out.cell 2
                have HXR := Lib.hid (Rd.now HXI.out hbw)
                have HLT : Hid (wo.heap.size < wr.heap.size) := Lib.hid HXJ.out.lt
                have HBASE : Hid (w.heap.size ≤ wr.heap.size) := Lib.hid hbw.size
                have HBJ := Lib.hid (HB.out.step hbo2)
                obtain ⟨wj, rfl⟩ : ∃ wj : World, wj = wr := ⟨_, rfl⟩
                go_wp2_with fail
                clear k1 k2
                go_loopw [13, 68] (fun u t wr => ∃ j : Nat, j ≤ il.length ∧ wr.ownsRow wj.heap.size 87 7 u ((il.take j).filter (Ot.keep ro.dividends)).length (cellsOf ItemR.cells ((il.take j).filter (Ot.keep ro.dividends))) ∧ t = .int .i64 j ∧ Below wj.heap.size wj wr) (fun _ t _ => il.length - (intOf t).toNat)
                case atStart => exact ⟨0, by omega, World.ownsRow_nil _ _ _ _, rfl, Below.refl _ _⟩
                case round =>
                  obtain ⟨j, hj, hOWN, rfl, hbj⟩ := hrel
                  have HOWN := Lib.hid hOWN
                  have hlf : ((il.take j).filter (Ot.keep ro.dividends)).length ≤ 40 := Nat.le_trans (List.length_filter_le _ _) (by rw [List.length_take]; omega)
                  have hzj := hbj.size
                  clear hOWN
                  by_cases hjl : j < il.length
                  · obtain ⟨b2, o2, hA2, hbo3, f0, f1, f2, f3, f4, f5, f6⟩ := ItemR.at_ (Rd.now HXR.out hbj) hjl
                    subst hA2
                    have HKT := Lib.hid (keep_take ro.dividends il j hjl)
                    generalize il[j] = it at *
                    obtain ⟨⟨r1, r2⟩, ie, ia, ip, id, im⟩ := it
                    dsimp only at *
                    have HKK : Hid (Ot.keep ro.dividends ⟨⟨r1, r2⟩, ie, ia, ip, id, im⟩ = (ia == ro.dividends && decide (0 ≤ ip))) := Lib.hid rfl
                    have hs2 := hbj.alloc hzj (.cells #[.int .i64 r1, .int .i64 r2, .int .i64 ie, .int .i64 ia, .int .i64 ip, .int .i64 id, .int .i64 im] 87)
                    have k16 : (wr.alloc (.cells #[.int .i64 r1, .int .i64 r2, .int .i64 ie, .int .i64 ia, .int .i64 ip, .int .i64 id, .int .i64 im] 87)).cell? ⟨w.heap.size, 16, none⟩ = some (.int .i64 ro.dividends) := ((HBJ.out.step hs2).cell 16).trans (by rw [HG.out]; rfl)
                    generalize Ot.keep ro.dividends ⟨⟨r1, r2⟩, ie, ia, ip, id, im⟩ = kp at *
                    cases hia : (ia == ro.dividends)
                    · have HE1 : Hid ((il.take (j + 1)).filter (Ot.keep ro.dividends) = (il.take j).filter (Ot.keep ro.dividends)) := Lib.hid (by rw [HKT.out, if_neg (by rw [HKK.out, hia]; simp)])
                      go_wp2_with fail
                      clear k16
                      go_roundw
                      case rel => exact ⟨j + 1, by omega, by rw [HE1.out]; exact HOWN.out.alloc _, by go_num, hs2⟩
                      case measure => simp [intOf]; omega
                    · by_cases hip : 0 ≤ ip
                      · have HE1 : Hid ((il.take (j + 1)).filter (Ot.keep ro.dividends) = (il.take j).filter (Ot.keep ro.dividends) ++ [⟨⟨r1, r2⟩, ie, ia, ip, id, im⟩]) := Lib.hid (by rw [HKT.out, if_pos (by rw [HKK.out, hia]; simp [hip])])
                        have HEL : Hid (((il.take (j + 1)).filter (Ot.keep ro.dividends)).length = ((il.take j).filter (Ot.keep ro.dividends)).length + 1) := Lib.hid (by rw [HE1.out, List.length_append]; rfl)
                        generalize hfj : (il.take j).filter (Ot.keep ro.dividends) = FJ at *
                        clear hfj
                        go_wp2_with (at_builtin; refine wpList_append_rec ItemR.cells 7 ItemR.len ItemR.one rfl (.tmp 83) (.tmp 85) 81 rfl wj.heap.size 87 j0 (.agg #[.int .i64 0, .int .i64 0, .int .i64 0, .int .i64 0, .int .i64 0, .int .i64 0, .int .i64 0]) 56 Try.underlying81 hj0 hy0 hy1 hy2 rfl (by decide) _ FJ rfl ((HOWN.out.alloc (.cells #[.int .i64 r1, .int .i64 r2, .int .i64 ie, .int .i64 ia, .int .i64 ip, .int .i64 id, .int .i64 im] 87)).alloc _) (wr.heap.size + 1) 1 ⟨⟨r1, r2⟩, ie, ia, ip, id, im⟩ #[.int .i64 r1, .int .i64 r2, .int .i64 ie, .int .i64 ia, .int .i64 ip, .int .i64 id, .int .i64 im] rfl (blk_new2 _ _ _ _) rfl (by simp only [maxLen]; omega) (by omega) (by simp; omega) ?_)
                        intro v4 w4 ho4 hg4
                        have hb3 := hs2.alloc hs2.size (.cells #[.int .i64 r1, .int .i64 r2, .int .i64 ie, .int .i64 ia, .int .i64 ip, .int .i64 id, .int .i64 im] 87)
                        have hb4 := bel_own hb3 (by have := hb3.size; omega) ((HOWN.out.alloc _).alloc _) hg4
                        have HO4 := Lib.hid ho4
                        clear ho4 hg4 hb3 k16
                        go_wp2_with fail
                        go_roundw
                        case rel => exact ⟨j + 1, by omega, by rw [HEL.out, HE1.out]; exact HO4.out, by go_num, hb4⟩
                        case measure => simp [intOf]; omega
                      · have HE1 : Hid ((il.take (j + 1)).filter (Ot.keep ro.dividends) = (il.take j).filter (Ot.keep ro.dividends)) := Lib.hid (by rw [HKT.out, if_neg (by rw [HKK.out]; simp [hip])])
                        go_wp2_with fail
                        clear k16
                        go_roundw
                        case rel => exact ⟨j + 1, by omega, by rw [HE1.out]; exact HOWN.out.alloc _, by go_num, hs2⟩
                        case measure => simp [intOf]; omega
                  · have HTA : Hid (il.take j = il) := Lib.hid (List.take_of_length_le (by omega))
                    rw [HTA.out] at HOWN hlf
                    have HUL := HIF
                    generalize hul0 : il.filter (Ot.keep ro.dividends) = ul at *
                    have hul : ul.length ≤ 40 := hlf
                    clear hul0
                    obtain ⟨uA, un, uc, huv⟩ := own_shape HOWN.out
                    subst huv
                    obtain ⟨hun, -⟩ := own_lies HOWN.out
                    subst hun
                    have HOW := HOWN
                    have HXK := Lib.hid (HXJ.out.step hbj)
                    have hbt := hbo2.trans (hbj.mono hbo2.size)
                    have k2 : wr.cell? ⟨wo.heap.size, 2, none⟩ = some (.slice iA il.length ic) := HXK.out.cell 2
                    have z2 : wr.frozen? ⟨wo.heap.size, 2, none⟩ = false := HXK.out.frozen 2
                    have hset : Below wo.heap.size wo (wr.setCell ⟨wo.heap.size, 2, none⟩ (.slice uA ul.length uc)) := hbt.setCell (by simp) _
                    have hX6 : Blk (wr.setCell ⟨wo.heap.size, 2, none⟩ (.slice uA ul.length uc)) wo.heap.size 83 #[.int .i64 xe, .int .i64 xm, .slice uA ul.length uc] := HXK.out.set_ 2 _
                    have HX6 := Lib.hid hX6
                    have HOW6 := Lib.hid (own_away (i := 2) HOW.out HLT.out (.slice uA ul.length uc))
                    go_upto_region 23 with fail
                    clear k2 z2 hX6
                    generalize wr.setCell ⟨wo.heap.size, 2, none⟩ (.slice uA ul.length uc) = w6 at *
                    have m0 : w6.cell? ⟨wo.heap.size, 0, none⟩ = some (.int .i64 xe) := HX6.out.cell 0
                    have m1 : w6.cell? ⟨wo.heap.size, 1, none⟩ = some (.int .i64 xm) := HX6.out.cell 1
                    have m2 : w6.cell? ⟨wo.heap.size, 2, none⟩ = some (.slice uA ul.length uc) := HX6.out.cell 2
                    have HOL6 := Lib.hid (HOL.out.step hset)
                    have hb6 := bel hb hset
                    have hz6 := hb6.size
                    go_wp2_with (at_builtin; refine wpList_append_rec ConR.own 3 ConR.own_len ConR.own_one rfl (.tmp 90) (.tmp 92) 58 rfl w.heap.size 83 i0 (.agg #[.int .i64 0, .int .i64 0, .slice none 0 0]) 40 Try.underlying58 hi0 hz0 hz1 hz2 rfl (by decide) _ M rfl (HOL6.out.own.alloc _) w6.heap.size 1 ⟨xe, xm, ⟨ul, uA, uc⟩⟩ #[.int .i64 xe, .int .i64 xm, .slice uA ul.length uc] rfl (Blk.new w6 _ _) rfl (by simp only [maxLen]; omega) (by omega) (by simp; omega) ?_)
                    intro v7 w7 ho7 hg7
                    have hs7 := (Below.refl w6.heap.size w6).alloc (Nat.le_refl _) (.cells #[.int .i64 xe, .int .i64 xm, .slice uA ul.length uc] 83)
                    have HOL7 := Lib.hid ((HOL6.out.step hs7).snoc (own_step (own_base HOW6.out HBASE.out) hs7) (by decide) ho7 hg7)
                    have HB7 := Lib.hid (((HB.out.step hset).step hs7).grown hg7 (own_ne_blk (HOL6.out.step hs7).own ((HB.out.step hset).step hs7) (by decide)))
                    have hb7 := bel_own (bel hb6 hs7) (by have := hs7.size; omega) (HOL6.out.step hs7).own hg7
                    have HLS7 := Lib.hid (HSN.out ⟨xe, xm, ⟨ul, uA, uc⟩⟩ rfl rfl HUL.out)
                    have HF7 : Hid (∀ x ∈ M ++ [(⟨xe, xm, ⟨ul, uA, uc⟩⟩ : ConR)], x.items.l.length ≤ 40) := Lib.hid (fun x hx => by
                      rcases List.mem_append.1 hx with hx | hx
                      · exact HF4.out x hx
                      · rw [List.mem_singleton] at hx
                        subst hx
                        exact hul)
                    have HM7 : Hid ((M ++ [(⟨xe, xm, ⟨ul, uA, uc⟩⟩ : ConR)]).length = i + 1) := Lib.hid (by rw [List.length_append, List.length_singleton, HMI.out])
                    generalize M ++ [(⟨xe, xm, ⟨ul, uA, uc⟩⟩ : ConR)] = M2 at *
                    clear ho7 hg7 m0 m1 m2 hset hs7
                    go_wp2_with fail
                    go_roundw
                    case rel => exact ⟨i + 1, M2, by omega, HM7.out, by go_num, HOL7.out, HLS7.out, HF7.out, HB7.out, hb7⟩
                    case measure => simp [intOf]; omega
      · have hie : i = l.length := by omega
        have HML : Hid (M.length = l.length) := Lib.hid (HMI.out.trans hie)
        clear hie
        obtain ⟨MA, mn, mc, hv⟩ := own_shape HOL.out.own
        subst hv
        obtain ⟨hmn, hOM⟩ := HOL.out.oin hml HF4.out
        subst hmn
        have HOM := Lib.hid hOM
        clear hOM
        have KB := Lib.hid (both_any l A c wr (HO.out.step hb) (by omega))
        have KM := Lib.hid (fun W h => both_any M MA mc W h (by omega))
        have KP := Lib.hid (fun W A c h hC => dpostings_any gcs cur y m p cl cA cc ro el eA ec W (bkOf gcs) l q A c HG HBS.out h OK.out.grp (by omega) hC hw1 hw2)
        have KQ := Lib.hid (fun W A c h hC => dpostings_any gcs cur y m p cl cA cc ro el eA ec W (bkOf gcs) M q A c HG HBS.out h OK.out.grp (by omega) hC hw1 hw2)
        rw [(Ot.same_p HLS.out HML.out _ _ _ _ _).2, (Ot.same_ps HLS.out HML.out _ _ _ _ _).1, (Ot.same_ps HLS.out HML.out _ _ _ _ _).2] at KQ
        have HPD := Lib.hid (psD_some (V := Gr.gv cur cl ro el (Cal.ok y m p)) (p := q) (P := p) (n := el.length) (d := ro.dividends) (r := ro.retained) (l := l))
        have HPP := Lib.hid (fun D L => ps_parts (kd := 9) (V := Gr.gv cur cl ro el (Cal.ok y m p)) (p := q) (P := p) (n := el.length) (d := ro.dividends) (r := ro.retained) (l := l) (D := D) (L := L))
        generalize Dv.psD (Gr.gv cur cl ro el (Cal.ok y m p)) q p el.length ro.dividends ro.retained l = D at *
        generalize Dv.psE (Gr.gv cur cl ro el (Cal.ok y m p)) q p el.length ro.dividends ro.retained l = E at *
        generalize Dv.pL (Gr.gv cur cl ro el (Cal.ok y m p)) q p el.length ro.dividends ro.retained l = g at *
        have hE : (E == E) = true := by simp
        go_upto_region 26 with (go_at_call 26; refine KB.out.mono ?_; rintro e w4 ⟨v, u, rfl, hv, -, hb9⟩; obtain ⟨A2, c2, rfl, hC⟩ := both_in (w3 := w3) (HO.out.step hb) hb9 hv (by omega) OK.out.its; have HC := Lib.hid hC; have hb4 := bel hb hb9; have HB4 := Lib.hid (HB.out.step hb9); have HOM4 := Lib.hid (HOM.out.step hb9); clear hb9 hv hC)
        go_upto_region 27 with (go_at_call 26; refine (KM.out _ HOM4.out).mono ?_; rintro e w5 ⟨v, u, rfl, hv, -, hb9⟩; obtain ⟨A3, c3, rfl, hD⟩ := both_in (w3 := w3) HOM4.out hb9 hv (by omega) (fun x hx => by have := HF4.out x hx; omega); have HD := Lib.hid hD; have hb5 := bel hb4 hb9; have HB5 := Lib.hid (HB4.out.step hb9); have HC5 := Lib.hid (HC.out.step hb9); clear hb9 hv hD)
        go_upto_region 28 with (first
          | (refine wpList_load_blk 29 (.tmp 3) rfl (w.heap.size) rfl (by kernel_rfl) (HB5).out Try.underlying29 hgi ?_)
          | (refine wpList_builtV rfl 107 rfl 72 _ rfl (bkOf gcs) [(0, .agg gcs)] (by kernel_rfl) HBT.out ?_)
          | (go_at_call 32; refine (KP.out _ _ _ (H.out.step hb5) HC5.out).mono ?_; rintro e w6 ⟨v, L1, rfl, hOP, hIS, hb9⟩; have hb6 := bel hb5 hb9; have HB6 := Lib.hid (HB5.out.step hb9); have HD6 := Lib.hid (HD.out.step hb9); obtain ⟨A6, n6, c6, hv⟩ := own_shape hOP.own; subst hv; have hLL := Ps.is_len hIS HPD.out.2 hen; obtain ⟨hn6, hPI⟩ := ps_pin hOP hLL (HPP.out _ _ hIS); subst hn6; have HPI := Lib.hid hPI; have HIS := Lib.hid hIS; clear hb9 hOP hPI hIS))
        go_upto_region 29 with (first
          | (refine wpList_load_blk 29 (.tmp 3) rfl (w.heap.size) rfl (by kernel_rfl) (HB6).out Try.underlying29 hgi ?_)
          | (refine wpList_builtV rfl 115 rfl 72 _ rfl (bkOf gcs) [(0, .agg gcs)] (by kernel_rfl) HBT.out ?_)
          | (go_at_call 32; refine (KQ.out _ _ _ (H.out.step hb6) HD6.out).mono ?_; rintro e w7 ⟨v, L2, rfl, hOP, hIS, hb9⟩; have hb7 := bel hb6 hb9; replace HPI := Lib.hid (HPI.out.step hb9); obtain ⟨A7, n7, c7, hv⟩ := own_shape hOP.own; subst hv; have hMM := Ps.is_len hIS HPD.out.2 hen; obtain ⟨hn7, hPI⟩ := ps_pin hOP hMM (HPP.out _ _ hIS); subst hn7; have HPJ := Lib.hid hPI; have HIT := Lib.hid hIS; clear hb9 hOP hPI hIS))
        have HSA := Lib.hid (Ps.same HIS.out HIT.out (fun a b => isP_same a b))
        go_wp2_with (go_at_call 29; refine (samep_yes L1 L2 A6 A7 c6 c7 _ HPI.out HPJ.out HSA.out.1 (fun j a b => HSA.out.2 j a b)).mono ?_; rintro en w9 ⟨rfl, hb9⟩; have hb9' := bel hb7 hb9; clear hb9)
        go_ret
        exact ⟨rfl, hb9'⟩
end
end Go.Proofs.Ytnkmjdaeafeaaaa
