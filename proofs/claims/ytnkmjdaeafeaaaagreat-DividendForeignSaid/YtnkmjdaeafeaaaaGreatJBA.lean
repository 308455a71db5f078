/- Texts of this claim, put together. -/
import Derived.Test.YtnkmjdaeafeaaaaGreatPsWalksZ
import Derived.Test.YtnkmjdaeafeaaaaGreatJAZ
/- What is left as income from others. No walk. -/
namespace Go.Proofs.YtnkmjdaeafeaaaaGreat
set_option linter.unusedVariables false
set_option linter.unusedSimpArgs false
open Go.RowKit

theorem wrap_wrap (a b : Int) : wrap64 (wrap64 a + b) = wrap64 (a + b) := by unfold wrap64; omega
theorem wrap_wrap2 (a b : Int) : wrap64 (a + wrap64 b) = wrap64 (a + b) := by unfold wrap64; omega
theorem wrap_idem (a : Int) : wrap64 (wrap64 a) = wrap64 a := by unfold wrap64; omega
namespace Dv
theorem full_is (l : List ConR) (e : Int) : full l e = ((conF l e).method == 3) := by
  unfold full
  cases h : conB l e
  · have : conF l e = default := by
      unfold conF
      have hn : l.find? (conIs e) = none := by
        rw [List.find?_eq_none]
        intro x hx
        unfold conB at h
        rw [List.any_eq_false] at h
        exact h x hx
      rw [hn]; rfl
    rw [this]; rfl
  · rfl
/-- the items of the full entities before number i -/
def foT (d : Int) (l : List ConR) : Nat → Int
  | 0 => 0
  | i + 1 => if full l i = true then wrap64 (foT d l i + sum d (fun _ => true) l i) else foT d l i
theorem foT_wrap (d : Int) (l : List ConR) (i : Nat) : wrap64 (foT d l i) = foT d l i := by
  induction i with
  | zero => show wrap64 0 = 0; unfold wrap64; omega
  | succ i ih =>
    unfold foT
    split
    · exact wrap_idem _
    · exact ih
/-- a running sum over the first k items of entity i -/
def foI (d : Int) (l : List ConR) (i : Nat) (k : Nat) : Int := if full l i = true then wrap64 (foT d l i + itSum (is d fun _ => true) ((conF l i).items.l.take k)) else foT d l i
theorem foI_zero (d : Int) (l : List ConR) (i : Nat) : foI d l i 0 = foT d l i := by
  unfold foI
  split
  · show wrap64 (foT d l i + 0) = _
    rw [Int.add_zero, foT_wrap]
  · rfl
theorem foI_step (d : Int) (l : List ConR) (i k : Nat) (hk : k < (conF l i).items.l.length) :
    foI d l i (k + 1) = if full l i = true ∧ (conF l i).items.l[k].account = d then wrap64 (foI d l i k + (conF l i).items.l[k].amount) else foI d l i k := by
  unfold foI
  rw [itSum_take _ _ k hk]
  by_cases hf : full l i = true
  · rw [if_pos hf, if_pos hf]
    by_cases ha : (conF l i).items.l[k].account = d
    · have hi : is d (fun _ => true) (conF l i).items.l[k] = true := by unfold is; simp [ha]
      rw [if_pos hi, if_pos ⟨hf, ha⟩, wrap_wrap, wrap_wrap2]
      congr 1
      omega
    · have hi : ¬ is d (fun _ => true) (conF l i).items.l[k] = true := by unfold is; simp [ha]
      rw [if_neg hi, if_neg (fun h => ha h.2)]
  · rw [if_neg hf, if_neg hf, if_neg (fun h => hf h.1)]
theorem foI_end (d : Int) (l : List ConR) (i k : Nat) (hk : (conF l i).items.l.length ≤ k) : foI d l i k = foT d l (i + 1) := by
  unfold foI
  rw [List.take_of_length_le hk]
  rfl
/-- a running sum over parts on an account -/
def ptSum (d : Int) (m : List Bal) (s : Int) : Int := m.foldl (fun n x => if x.account = d then wrap64 (n + x.amount) else n) s
theorem ptSum_take (d : Int) (m : List Bal) (s : Int) (k : Nat) (h : k < m.length) : ptSum d (m.take (k + 1)) s = if m[k].account = d then wrap64 (ptSum d (m.take k) s + m[k].amount) else ptSum d (m.take k) s := by
  unfold ptSum
  rw [List.take_succ_eq_append_getElem h, List.foldl_append]
  rfl
def foG (d : Int) (G : List (List Bal)) (s : Int) : Int := G.foldl (fun n m => ptSum d m n) s
theorem foG_take (d : Int) (G : List (List Bal)) (s : Int) (k : Nat) (h : k < G.length) : foG d (G.take (k + 1)) s = ptSum d G[k] (foG d (G.take k) s) := by
  unfold foG
  rw [List.take_succ_eq_append_getElem h, List.foldl_append]
  rfl
noncomputable def tot (V : Bool) (p P : Int) (n : Nat) (d r : Int) (l : List ConR) : Int := foG d ((psD V p P n d r l).map fun x => pL V p P n d r l x.1 x.2) (foT d l n)
noncomputable def foE (V : Bool) (p P : Int) (n : Nat) (d r : Int) (l : List ConR) : Int := if psE V p P n d r l = 0 then (if amV (tot V p P n d r l) = true then 0 else 2) else psE V p P n d r l
noncomputable def foV (V : Bool) (p P : Int) (n : Nat) (d r : Int) (l : List ConR) : Int := if foE V p P n d r l = 0 then tot V p P n d r l else 0
end Dv
theorem Ps.map_parts {kd : Int} {g : Int → Int → List Bal} {D : List (Int × Int)} {L : List PostR} (h : Ps.Is kd g D L) : (L.map fun x => x.parts.l) = D.map fun x => g x.1 x.2 := by
  apply List.ext_getElem
  · rw [List.length_map, List.length_map, h.1]
  · intro j h1 h2
    rw [List.getElem_map, List.getElem_map]
    rw [List.length_map] at h1 h2
    exact (h.2 j h1 h2).1
end Go.Proofs.YtnkmjdaeafeaaaaGreat
/- The walks of Foreign and of its reference. -/
namespace Go.Proofs.YtnkmjdaeafeaaaaGreat
set_option linter.unusedVariables false
set_option linter.unusedSimpArgs false
open Go.RowKit

def TwoI (v e : Int) (w : World) (en : Ending) (w' : World) : Prop := en = .returned (.tuple #[.int .i64 v, .int .i64 e]) ∧ Below w.heap.size w w'
section
variable (gcs : Array Value) (cur : ByteArray) (y m p : Int) (cl : List Acc) (cA : Option Addr) (cc : Nat) (ro : RolesR) (el : List EntR) (eA : Option Addr) (ec : Nat) (w : World)
set_option maxRecDepth 100000 in
set_option maxHeartbeats 16000000 in
theorem dforeign_any (bcs : Array Value) (l : List ConR) (q : Int) (A : Option Addr) (c : Nat) (HG : Hid (gcs = #[.string cur, .int .i64 y, .int .i64 m, .int .i64 p, .slice cA cl.length cc, .int .i64 ro.investment, .int .i64 ro.goodwill, .int .i64 ro.associates, .int .i64 ro.inventory, .int .i64 ro.reserve, .int .i64 ro.minority, .int .i64 ro.retained, .int .i64 ro.acquired, .int .i64 ro.owners, .int .i64 ro.disposal, .int .i64 ro.associateProfit, .int .i64 ro.dividends, .int .i64 ro.minorityProfit, .int .i64 ro.difference, .int .i64 ro.margin, .slice eA el.length ec])) (hBK : BkIs bcs gcs) (h : GIn w cl cA el eA) (hF : FewOk cur cl el) (hel : el.length ≤ 1000) (hC : CIn w l A) (hw1 : Wf ro.dividends) (hw2 : Wf ro.retained) :
    Calls Tryz.prog 14 #[.agg bcs, .slice A l.length c, .int .i64 q] w
      (TwoI (Dv.foV (Gr.gv cur cl ro el (Cal.ok y m p)) q p el.length ro.dividends ro.retained l) (Dv.foE (Gr.gv cur cl ro el (Cal.ok y m p)) q p el.length ro.dividends ro.retained l) w) := by
  have hb : Below w.heap.size w (w.alloc (.cells bcs 47)) := (Below.refl _ _).alloc (Nat.le_refl _) _
  have HB := Lib.hid (Blk.new w 47 bcs)
  have HBK := Lib.hid hBK
  have H := Lib.hid h
  have HC := Lib.hid hC
  have hen := hF.en
  have hg21 : (Tryz.prog.info? 29).map (·.size) = some 21 := grp_size
  have hgi : (Tryz.prog.info? 29).map (·.size) = some gcs.size := by rw [HG.out]; exact grp_size
  have hbz : (Tryz.prog.info? 47).map (·.size) = some bcs.size := by rw [hBK.size]; kernel_rfl
  have KP := Lib.hid (fun W h hC => dpostings_any gcs cur y m p cl cA cc ro el eA ec W bcs l q A c HG hBK h hF hel hC hw1 hw2)
  have HPD := Lib.hid (psD_some (V := Gr.gv cur cl ro el (Cal.ok y m p)) (p := q) (P := p) (n := el.length) (d := ro.dividends) (r := ro.retained) (l := l))
  have HPP := Lib.hid (fun D L => ps_parts (kd := 9) (V := Gr.gv cur cl ro el (Cal.ok y m p)) (p := q) (P := p) (n := el.length) (d := ro.dividends) (r := ro.retained) (l := l) (D := D) (L := L))
  clear h hC hBK hF
  have HE : Hid (Dv.foE (Gr.gv cur cl ro el (Cal.ok y m p)) q p el.length ro.dividends ro.retained l = if Dv.psE (Gr.gv cur cl ro el (Cal.ok y m p)) q p el.length ro.dividends ro.retained l = 0 then (if amV (Dv.tot (Gr.gv cur cl ro el (Cal.ok y m p)) q p el.length ro.dividends ro.retained l) = true then 0 else 2) else Dv.psE (Gr.gv cur cl ro el (Cal.ok y m p)) q p el.length ro.dividends ro.retained l) := Lib.hid rfl
  have HV : Hid (Dv.foV (Gr.gv cur cl ro el (Cal.ok y m p)) q p el.length ro.dividends ro.retained l = if Dv.foE (Gr.gv cur cl ro el (Cal.ok y m p)) q p el.length ro.dividends ro.retained l = 0 then Dv.tot (Gr.gv cur cl ro el (Cal.ok y m p)) q p el.length ro.dividends ro.retained l else 0) := Lib.hid rfl
  have HT : Hid (Dv.tot (Gr.gv cur cl ro el (Cal.ok y m p)) q p el.length ro.dividends ro.retained l = Dv.foG ro.dividends ((Dv.psD (Gr.gv cur cl ro el (Cal.ok y m p)) q p el.length ro.dividends ro.retained l).map fun x => Dv.pL (Gr.gv cur cl ro el (Cal.ok y m p)) q p el.length ro.dividends ro.retained l x.1 x.2) (Dv.foT ro.dividends l el.length)) := Lib.hid rfl
  generalize Dv.foE (Gr.gv cur cl ro el (Cal.ok y m p)) q p el.length ro.dividends ro.retained l = E at *
  generalize Dv.foV (Gr.gv cur cl ro el (Cal.ok y m p)) q p el.length ro.dividends ro.retained l = V at *
  generalize Dv.tot (Gr.gv cur cl ro el (Cal.ok y m p)) q p el.length ro.dividends ro.retained l = T at *
  generalize Dv.psD (Gr.gv cur cl ro el (Cal.ok y m p)) q p el.length ro.dividends ro.retained l = D at *
  generalize Dv.psE (Gr.gv cur cl ro el (Cal.ok y m p)) q p el.length ro.dividends ro.retained l = E0 at *
  generalize Dv.pL (Gr.gv cur cl ro el (Cal.ok y m p)) q p el.length ro.dividends ro.retained l = g at *
  go_enter Tryz.func14, Tryz.ntmps14
  go_upto_region 1 with fail
  generalize w.alloc (.cells bcs 47) = W at *
  go_upto_region 2 with (first
    | (refine wpList_load_blk 47 (.tmp 3) rfl w.heap.size rfl (by kernel_rfl) HB.out Tryz.underlying47 hbz ?_)
    | (go_at_call 11; refine (KP.out _ (H.out.step hb) (HC.out.step hb)).mono ?_; rintro en w5 ⟨v, L, rfl, hOP, hIS, hb9⟩; replace hb := bel hb hb9; replace HB := Lib.hid (HB.out.step hb9); obtain ⟨A5, n5, c5, hv⟩ := own_shape hOP.own; subst hv; have hLL := Ps.is_len hIS HPD.out.2 hen; obtain ⟨hn5, hPI⟩ := ps_pin hOP hLL (HPP.out _ _ hIS); subst hn5; have HPI := Lib.hid hPI; have HGG := Lib.hid (Ps.map_parts hIS); clear hb9 hOP hPI hIS))
  cases hx : (E0 != 0)
  · have hc0 : E0 = 0 := by simpa using hx
    clear hx
    subst hc0
    rw [if_pos rfl] at HE
    have hk20 : w5.cell? ⟨w.heap.size, 20, none⟩ = some (.slice eA el.length ec) := (bk_cell HB.out HBK.out 20 (by omega)).trans (by rw [HG.out]; rfl)
    go_wp2_with fail
    clear hk20
    go_loopw [10, 30] (fun s t wr => ∃ i : Nat, i ≤ el.length ∧ s = .int .i64 (Dv.foT ro.dividends l i) ∧ t = .int .i64 i ∧ Below w5.heap.size w5 wr) (fun _ t _ => el.length - (intOf t).toNat)
    case atStart => exact ⟨0, by omega, rfl, rfl, Below.refl _ _⟩
    case round =>
      obtain ⟨i, hi, rfl, rfl, hbr⟩ := hrel
      have hbw := bel hb hbr
      by_cases hil : i < el.length
      · have KF := Lib.hid (dfull_any l i A c wr (HC.out.step hbw))
        have HST : Hid (Dv.foT ro.dividends l (i + 1) = if Dv.full l i = true then wrap64 (Dv.foT ro.dividends l i + Dv.sum ro.dividends (fun _ => true) l i) else Dv.foT ro.dividends l i) := Lib.hid rfl
        cases hfu : Dv.full l i
        · have HE1 : Hid (Dv.foT ro.dividends l (i + 1) = Dv.foT ro.dividends l i) := Lib.hid (by rw [HST.out, hfu]; rfl)
          rw [hfu] at KF
          clear hfu HST
          generalize Dv.foT ro.dividends l i = s at *
          go_wp2_with (go_at_call 34; refine KF.out.mono ?_; rintro en w6 ⟨rfl, hb9⟩; have hb6 := bel hbr hb9; clear hb9)
          go_roundw
          case rel => exact ⟨i + 1, by omega, by rw [HE1.out], by go_num, hb6⟩
          case measure => simp [intOf]; omega
        · have HE1 : Hid (Dv.foT ro.dividends l (i + 1) = wrap64 (Dv.foT ro.dividends l i + Dv.sum ro.dividends (fun _ => true) l i)) := Lib.hid (by rw [HST.out, hfu]; rfl)
          rw [hfu] at KF
          clear hfu HST
          have KS := Lib.hid (fun W h => sumFor_any gcs cur y m p cl cA cc ro el eA ec W (fun _ => true) l i A c HG h (fun x W2 _ => for1_any x W2))
          unfold IntPost at KS
          generalize Dv.foT ro.dividends l i = s at *
          generalize Dv.sum ro.dividends (fun _ => true) l i = s2 at *
          go_wp2_with (first
            | (go_at_call 34; refine KF.out.mono ?_; rintro en w6 ⟨rfl, hb9⟩; have hb6 := bel hbr hb9; have HB6 := Lib.hid (HB.out.step hb6); clear hb9)
            | (refine wpList_load_arr rfl 29 (.tmp 37) rfl w.heap.size 0 rfl gcs (bk_range HB6.out HBK.out) Tryz.underlying29 21 hg21 HBK.out.gsz ?_)
            | (go_at_call 35; refine (KS.out _ (HC.out.step (bel hb hb6))).mono ?_; rintro en w7 ⟨rfl, hb9⟩; have hb7 := bel hb6 hb9; clear hb9))
          go_roundw
          case rel => exact ⟨i + 1, by omega, by rw [HE1.out], by go_num, hb7⟩
          case measure => simp [intOf]; omega
      · have hie : i = el.length := by omega
        have HTT : Hid (T = Dv.foG ro.dividends (L.map fun x => x.parts.l) (Dv.foT ro.dividends l i)) := Lib.hid (by rw [HT.out, HGG.out, hie])
        clear hie HT HGG
        obtain ⟨wo, rfl⟩ : ∃ wo : World, wo = wr := ⟨_, rfl⟩
        generalize Dv.foT ro.dividends l i = T0 at *
        go_wp2_with fail
        go_loopw [10, 46] (fun s t wr => ∃ k : Nat, k ≤ L.length ∧ s = .int .i64 (Dv.foG ro.dividends ((L.map fun x => x.parts.l).take k) T0) ∧ t = .int .i64 k ∧ Below w5.heap.size w5 wr) (fun _ t _ => L.length - (intOf t).toNat)
        case atStart => exact ⟨0, by omega, rfl, rfl, hbr⟩
        case round =>
          clear hbr hbw
          obtain ⟨k, hk, rfl, rfl, hbr⟩ := hrel
          have hbw := bel hb hbr
          by_cases hkl : k < L.length
          · obtain ⟨b, o, hA, hbo, hx⟩ := rd_at (f := PostR.cells) (sz := 5) (fun _ => rfl) (Rd.now HPI.out.rd hbr) hkl
            subst hA
            have HX := Lib.hid hx
            have HR := Lib.hid (HPI.out.pt _ (List.getElem_mem hkl))
            have hfew := HPI.out.few _ (List.getElem_mem hkl)
            have HGT := Lib.hid (Dv.foG_take ro.dividends (L.map fun x => x.parts.l) T0 k (by rw [List.length_map]; exact hkl))
            rw [List.getElem_map] at HGT
            clear hx
            generalize L[k] = x at *
            obtain ⟨xk, xe, xo, xr, ⟨xl, xA, xc⟩⟩ := x
            dsimp only at *
            have f0 : wr.cell? ⟨b, o + k * 5, none⟩ = some (.int .i64 xk) := HX.out 0 _ rfl
            have f1 : wr.cell? ⟨b, o + k * 5 + 1, none⟩ = some (.int .i64 xe) := HX.out 1 _ rfl
            have f2 : wr.cell? ⟨b, o + k * 5 + 2, none⟩ = some (.int .i64 xo) := HX.out 2 _ rfl
            have f3 : wr.cell? ⟨b, o + k * 5 + 3, none⟩ = some (.int .i64 xr) := HX.out 3 _ rfl
            have f4 : wr.cell? ⟨b, o + k * 5 + 4, none⟩ = some (.slice xA xl.length xc) := HX.out 4 _ rfl
            generalize Dv.foG ro.dividends ((L.map fun x => x.parts.l).take k) T0 = sk at *
            have hst := hbr.alloc hbr.size (.cells #[.int .i64 xk, .int .i64 xe, .int .i64 xo, .int .i64 xr, .slice xA xl.length xc] 51)
            obtain ⟨wp, rfl⟩ : ∃ wp : World, wp = wr := ⟨_, rfl⟩
            go_wp2_with fail
            clear f0 f1 f2 f3 f4
            generalize wp.alloc (.cells #[.int .i64 xk, .int .i64 xe, .int .i64 xo, .int .i64 xr, .slice xA xl.length xc] 51) = wq at *
            go_loopw [10, 53] (fun s t wr => ∃ j : Nat, j ≤ xl.length ∧ s = .int .i64 (Dv.ptSum ro.dividends (xl.take j) sk) ∧ t = .int .i64 j ∧ Below w5.heap.size w5 wr) (fun _ t _ => xl.length - (intOf t).toNat)
            case atStart => exact ⟨0, by omega, rfl, rfl, hst⟩
            case round =>
              clear hbr hbw hst
              obtain ⟨j, hj, rfl, rfl, hbr⟩ := hrel
              have HPT := Lib.hid (Dv.ptSum_take ro.dividends xl sk j)
              by_cases hjl : j < xl.length
              · obtain ⟨b2, o2, hA2, hbo2, g0, g1⟩ := Bal.at_ (Rd.now HR.out hbr) hjl
                subst hA2
                have HPJ := Lib.hid (HPT.out hjl)
                generalize xl[j] = pt at *
                obtain ⟨pc, pa⟩ := pt
                dsimp only at *
                have hs2 := hbr.alloc hbr.size (.cells #[.int .i64 pc, .int .i64 pa] 53)
                have hk16 : (wr.alloc (.cells #[.int .i64 pc, .int .i64 pa] 53)).cell? ⟨w.heap.size, 16, none⟩ = some (.int .i64 ro.dividends) := (bk_cell (HB.out.step hs2) HBK.out 16 (by omega)).trans (by rw [HG.out]; rfl)
                generalize Dv.ptSum ro.dividends (xl.take j) sk = sj at *
                by_cases hac : pc = ro.dividends
                · have HE1 : Hid (Dv.ptSum ro.dividends (xl.take (j + 1)) sk = wrap64 (sj + pa)) := Lib.hid (by rw [HPJ.out, if_pos hac])
                  have hacb : (pc == ro.dividends) = true := by simpa using hac
                  clear hac
                  go_wp2_with fail
                  clear hk16
                  go_roundw
                  case rel => exact ⟨j + 1, by omega, by rw [HE1.out], by go_num, hs2⟩
                  case measure => simp [intOf]; omega
                · have HE1 : Hid (Dv.ptSum ro.dividends (xl.take (j + 1)) sk = sj) := Lib.hid (by rw [HPJ.out, if_neg hac])
                  have hacb : (pc == ro.dividends) = false := by simpa using hac
                  clear hac
                  go_wp2_with fail
                  clear hk16
                  go_roundw
                  case rel => exact ⟨j + 1, by omega, by rw [HE1.out], by go_num, hs2⟩
                  case measure => simp [intOf]; omega
              · have HE1 : Hid (Dv.foG ro.dividends ((L.map fun x => x.parts.l).take (k + 1)) T0 = Dv.ptSum ro.dividends (xl.take j) sk) := Lib.hid (by rw [HGT.out, List.take_of_length_le (by omega)])
                generalize Dv.ptSum ro.dividends (xl.take j) sk = sj at *
                go_wp2_with fail
                go_roundw
                case rel => exact ⟨k + 1, by omega, by rw [HE1.out], by go_num, hbr⟩
                case measure => simp [intOf]; omega
          · have HE1 : Hid (Dv.foG ro.dividends ((L.map fun x => x.parts.l).take k) T0 = T) := Lib.hid (by rw [HTT.out, List.take_of_length_le (by rw [List.length_map]; omega)])
            rw [HE1.out]
            cases ha : amV T
            · have HE2 : Hid (E = 2) := Lib.hid (by rw [HE.out, ha]; rfl)
              have HV2 : Hid (V = 0) := Lib.hid (by rw [HV.out, HE2.out]; rfl)
              have HA := Lib.hid ha
              clear ha
              go_wp2_with (go_at_call 37; refine (money_any _ _).mono ?_; rintro e w2 ⟨rfl, rfl⟩; rw [HA.out])
              go_ret2
              exact ⟨by rw [HE2.out, HV2.out]; rfl, hbw⟩
            · have HE2 : Hid (E = 0) := Lib.hid (by rw [HE.out, ha]; rfl)
              have HV2 : Hid (V = T) := Lib.hid (by rw [HV.out, HE2.out]; rfl)
              have HA := Lib.hid ha
              clear ha
              go_wp2_with (go_at_call 37; refine (money_any _ _).mono ?_; rintro e w2 ⟨rfl, rfl⟩; rw [HA.out])
              go_ret2
              exact ⟨by rw [HE2.out, HV2.out]; rfl, hbw⟩
  · have hc0 : E0 ≠ 0 := by simpa using hx
    have HE1 : Hid (E = E0) := Lib.hid (by rw [HE.out, if_neg hc0])
    have HV1 : Hid (V = 0) := Lib.hid (by rw [HV.out, HE1.out, if_neg hc0])
    clear hc0
    go_wp2_with fail
    go_ret2
    exact ⟨by rw [HE1.out, HV1.out]; rfl, hb⟩
set_option maxRecDepth 100000 in
set_option maxHeartbeats 16000000 in
theorem rdforeign_any (bcs : Array Value) (l : List ConR) (q : Int) (A : Option Addr) (c : Nat) (HG : Hid (gcs = #[.string cur, .int .i64 y, .int .i64 m, .int .i64 p, .slice cA cl.length cc, .int .i64 ro.investment, .int .i64 ro.goodwill, .int .i64 ro.associates, .int .i64 ro.inventory, .int .i64 ro.reserve, .int .i64 ro.minority, .int .i64 ro.retained, .int .i64 ro.acquired, .int .i64 ro.owners, .int .i64 ro.disposal, .int .i64 ro.associateProfit, .int .i64 ro.dividends, .int .i64 ro.minorityProfit, .int .i64 ro.difference, .int .i64 ro.margin, .slice eA el.length ec])) (hBK : BkIs bcs gcs) (h : GIn w cl cA el eA) (hF : FewOk cur cl el) (hel : el.length ≤ 1000) (hC : CIn w l A) :
    Calls Tryz.prog 15 #[.agg bcs, .slice A l.length c, .int .i64 q] w
      (TwoI (Dv.foV (Gr.gv cur cl ro el (Cal.ok y m p)) q p el.length ro.dividends ro.retained l) (Dv.foE (Gr.gv cur cl ro el (Cal.ok y m p)) q p el.length ro.dividends ro.retained l) w) := by
  have hb : Below w.heap.size w (w.alloc (.cells bcs 47)) := (Below.refl _ _).alloc (Nat.le_refl _) _
  have HB := Lib.hid (Blk.new w 47 bcs)
  have HBK := Lib.hid hBK
  have H := Lib.hid h
  have HC := Lib.hid hC
  have hen := hF.en
  have hg21 : (Tryz.prog.info? 29).map (·.size) = some 21 := grp_size
  have hgi : (Tryz.prog.info? 29).map (·.size) = some gcs.size := by rw [HG.out]; exact grp_size
  have hbz : (Tryz.prog.info? 47).map (·.size) = some bcs.size := by rw [hBK.size]; kernel_rfl
  have KP := Lib.hid (fun W h hC => rdpostings_any gcs cur y m p cl cA cc ro el eA ec W bcs l q A c HG hBK h hF hel hC)
  have HPD := Lib.hid (psD_some (V := Gr.gv cur cl ro el (Cal.ok y m p)) (p := q) (P := p) (n := el.length) (d := ro.dividends) (r := ro.retained) (l := l))
  have HPP := Lib.hid (fun D L => ps_parts (kd := 9) (V := Gr.gv cur cl ro el (Cal.ok y m p)) (p := q) (P := p) (n := el.length) (d := ro.dividends) (r := ro.retained) (l := l) (D := D) (L := L))
  clear h hC hBK hF
  have HE : Hid (Dv.foE (Gr.gv cur cl ro el (Cal.ok y m p)) q p el.length ro.dividends ro.retained l = if Dv.psE (Gr.gv cur cl ro el (Cal.ok y m p)) q p el.length ro.dividends ro.retained l = 0 then (if amV (Dv.tot (Gr.gv cur cl ro el (Cal.ok y m p)) q p el.length ro.dividends ro.retained l) = true then 0 else 2) else Dv.psE (Gr.gv cur cl ro el (Cal.ok y m p)) q p el.length ro.dividends ro.retained l) := Lib.hid rfl
  have HV : Hid (Dv.foV (Gr.gv cur cl ro el (Cal.ok y m p)) q p el.length ro.dividends ro.retained l = if Dv.foE (Gr.gv cur cl ro el (Cal.ok y m p)) q p el.length ro.dividends ro.retained l = 0 then Dv.tot (Gr.gv cur cl ro el (Cal.ok y m p)) q p el.length ro.dividends ro.retained l else 0) := Lib.hid rfl
  have HT : Hid (Dv.tot (Gr.gv cur cl ro el (Cal.ok y m p)) q p el.length ro.dividends ro.retained l = Dv.foG ro.dividends ((Dv.psD (Gr.gv cur cl ro el (Cal.ok y m p)) q p el.length ro.dividends ro.retained l).map fun x => Dv.pL (Gr.gv cur cl ro el (Cal.ok y m p)) q p el.length ro.dividends ro.retained l x.1 x.2) (Dv.foT ro.dividends l el.length)) := Lib.hid rfl
  generalize Dv.foE (Gr.gv cur cl ro el (Cal.ok y m p)) q p el.length ro.dividends ro.retained l = E at *
  generalize Dv.foV (Gr.gv cur cl ro el (Cal.ok y m p)) q p el.length ro.dividends ro.retained l = V at *
  generalize Dv.tot (Gr.gv cur cl ro el (Cal.ok y m p)) q p el.length ro.dividends ro.retained l = T at *
  generalize Dv.psD (Gr.gv cur cl ro el (Cal.ok y m p)) q p el.length ro.dividends ro.retained l = D at *
  generalize Dv.psE (Gr.gv cur cl ro el (Cal.ok y m p)) q p el.length ro.dividends ro.retained l = E0 at *
  generalize Dv.pL (Gr.gv cur cl ro el (Cal.ok y m p)) q p el.length ro.dividends ro.retained l = g at *
  go_enter Tryz.func15, Tryz.ntmps15
  go_upto_region 1 with fail
  generalize w.alloc (.cells bcs 47) = W at *
  go_upto_region 2 with (first
    | (refine wpList_load_blk 47 (.tmp 3) rfl w.heap.size rfl (by kernel_rfl) HB.out Tryz.underlying47 hbz ?_)
    | (go_at_call 12; refine (KP.out _ (H.out.step hb) (HC.out.step hb)).mono ?_; rintro en w5 ⟨v, L, rfl, hOP, hIS, hb9⟩; replace hb := bel hb hb9; replace HB := Lib.hid (HB.out.step hb9); obtain ⟨A5, n5, c5, hv⟩ := own_shape hOP.own; subst hv; have hLL := Ps.is_len hIS HPD.out.2 hen; obtain ⟨hn5, hPI⟩ := ps_pin hOP hLL (HPP.out _ _ hIS); subst hn5; have HPI := Lib.hid hPI; have HGG := Lib.hid (Ps.map_parts hIS); clear hb9 hOP hPI hIS))
  cases hx : (E0 != 0)
  · have hc0 : E0 = 0 := by simpa using hx
    clear hx
    subst hc0
    rw [if_pos rfl] at HE
    have hk16 : w5.cell? ⟨w.heap.size, 16, none⟩ = some (.int .i64 ro.dividends) := (bk_cell HB.out HBK.out 16 (by omega)).trans (by rw [HG.out]; rfl)
    go_wp2_with fail
    clear hk16
    go_loopw [11, 12] (fun s t wr => ∃ i : Nat, i ≤ el.length ∧ s = .int .i64 (Dv.foT ro.dividends l i) ∧ t = .int .i64 i ∧ Below w5.heap.size w5 wr) (fun _ t _ => el.length - (intOf t).toNat)
    case atStart => exact ⟨0, by omega, rfl, rfl, Below.refl _ _⟩
    case round =>
      obtain ⟨i, hi, rfl, rfl, hbr⟩ := hrel
      have hbw := bel hb hbr
      have hk20 : wr.cell? ⟨w.heap.size, 20, none⟩ = some (.slice eA el.length ec) := (bk_cell (HB.out.step hbr) HBK.out 20 (by omega)).trans (by rw [HG.out]; rfl)
      by_cases hil : i < el.length
      · obtain ⟨hit, hln⟩ := (HC.out.step hbw).at_ i
        have HIT := Lib.hid hit
        have KF := Lib.hid (rcfind_any l i A c wr (HC.out.step hbw).rd (by have := HC.out.len; omega))
        have HST := Lib.hid (Dv.foI_step ro.dividends l i)
        have HEN := Lib.hid (Dv.foI_end ro.dividends l i)
        have HZR := Lib.hid (Dv.foI_zero ro.dividends l i)
        have HFU := Lib.hid (Dv.full_is l i)
        clear hit
        unfold ConPost at KF
        generalize conF l i = x at *
        generalize conB l i = xb at *
        obtain ⟨xe, xm, ⟨il, iA, ic⟩⟩ := x
        dsimp only at *
        generalize Dv.full l i = fu at *
        have HFX : Hid (fu = (xm == 3)) := Lib.hid HFU.out
        clear HFU
        generalize hff : (fun k => Dv.foI ro.dividends l i k) = ff at *
        have HFF : Hid (∀ k, Dv.foI ro.dividends l i k = ff k) := Lib.hid (fun k => by rw [← hff])
        clear hff
        obtain ⟨wo, rfl⟩ : ∃ wo : World, wo = wr := ⟨_, rfl⟩
        go_wp2_with (first
          | (go_at_call 38; refine KF.out.mono ?_; rintro en w6 ⟨rfl, hb9⟩; have hb6 := bel hbr hb9; have hit6 := Rd.now HIT.out hb9; clear hb9)
          | (refine wpList_alloc_put rfl 94 (.tmp 13) (.tmp 44) rfl rfl (ConR.arr ⟨xe, xm, ⟨il, iA, ic⟩⟩) _ rfl rfl 13 rcfind_any_size rfl rfl (ConR.arr_one _) ?_; have HX7 := Lib.hid (Blk.new w6 94 (ConR.arr ⟨xe, xm, ⟨il, iA, ic⟩⟩)); have hb7 := hb6.alloc hb6.size (.cells (ConR.arr ⟨xe, xm, ⟨il, iA, ic⟩⟩) 94); have HIT7 := Lib.hid (Rd.now hit6 ((Below.refl _ _).alloc (Nat.le_refl _) (.cells (ConR.arr ⟨xe, xm, ⟨il, iA, ic⟩⟩) 94))); clear hit6; generalize w6.alloc (.cells (ConR.arr ⟨xe, xm, ⟨il, iA, ic⟩⟩) 94) = w7 at *))
        clear hk20
        go_loopw [11, 15] (fun s t wr => ∃ k : Nat, k ≤ il.length ∧ s = .int .i64 (ff k) ∧ t = .int .i64 k ∧ Below w7.heap.size w7 wr) (fun _ t _ => il.length - (intOf t).toNat)
        case atStart => exact ⟨0, by omega, by rw [← HFF.out, HZR.out], rfl, Below.refl _ _⟩
        case round =>
          clear hbr hbw hb6
          obtain ⟨k, hk, rfl, rfl, hbk⟩ := hrel
          have hk1 : wr.cell? ⟨w6.heap.size, 1, none⟩ = some (.int .i64 xm) := (HX7.out.step hbk).cell 1
          have hk11 : wr.cell? ⟨w6.heap.size, 11, none⟩ = some (.slice iA il.length ic) := (HX7.out.step hbk).cell 11
          have hbr : Below w5.heap.size w5 wr := hb7.trans (hbk.mono hb7.size)
          by_cases hkl : k < il.length
          · obtain ⟨b, o, hA, hbo, f0, f1, f2, f3, f4, f5, f6⟩ := ItemR.at_ (Rd.now HIT7.out hbk) hkl
            subst hA
            have HSK := Lib.hid (HST.out k hkl)
            rw [HFF.out, HFF.out] at HSK
            generalize il[k] = it at *
            obtain ⟨⟨r1, r2⟩, ie, ia, ip, id, im⟩ := it
            dsimp only at *
            have HS1 : Hid (∀ v, ff k = v → ff (k + 1) = if fu = true ∧ ia = ro.dividends then wrap64 (v + im) else v) := Lib.hid (fun v hv => by rw [← hv]; exact HSK.out)
            clear HSK f0 f1 f2 f4 f5
            generalize hs : ff k = s at *
            have HS2 := Lib.hid (HS1.out s rfl)
            clear HS1 hs
            cases hm : (xm == 3)
            · have HE1 : Hid (ff (k + 1) = s) := Lib.hid (by rw [HS2.out, if_neg (fun h => by rw [HFX.out, hm] at h; cases h.1)])
              go_wp2_with fail
              clear hk1 hk11
              go_roundw
              case rel => exact ⟨k + 1, by omega, by rw [HE1.out], by go_num, hbk⟩
              case measure => simp [intOf]; omega
            · by_cases hac : ia = ro.dividends
              · have HE1 : Hid (ff (k + 1) = wrap64 (s + im)) := Lib.hid (by rw [HS2.out, if_pos ⟨by rw [HFX.out, hm], hac⟩])
                have hacb : (ia == ro.dividends) = true := by simpa using hac
                clear hac
                go_wp2_with fail
                clear hk1 hk11
                go_roundw
                case rel => exact ⟨k + 1, by omega, by rw [HE1.out], by go_num, hbk⟩
                case measure => simp [intOf]; omega
              · have HE1 : Hid (ff (k + 1) = s) := Lib.hid (by rw [HS2.out, if_neg (fun h => hac h.2)])
                have hacb : (ia == ro.dividends) = false := by simpa using hac
                clear hac
                go_wp2_with fail
                clear hk1 hk11
                go_roundw
                case rel => exact ⟨k + 1, by omega, by rw [HE1.out], by go_num, hbk⟩
                case measure => simp [intOf]; omega
          · have HE1 : Hid (Dv.foT ro.dividends l (i + 1) = ff k) := Lib.hid (by rw [← HFF.out, HEN.out k (by omega)])
            generalize ff k = s at *
            go_wp2_with fail
            clear hk1 hk11
            go_roundw
            case rel => exact ⟨i + 1, by omega, by rw [HE1.out], by go_num, hbr⟩
            case measure => simp [intOf]; omega
      · have hie : i = el.length := by omega
        have HTT : Hid (T = Dv.foG ro.dividends (L.map fun x => x.parts.l) (Dv.foT ro.dividends l i)) := Lib.hid (by rw [HT.out, HGG.out, hie])
        clear hie HT HGG
        obtain ⟨wo, rfl⟩ : ∃ wo : World, wo = wr := ⟨_, rfl⟩
        generalize Dv.foT ro.dividends l i = T0 at *
        go_wp2_with fail
        clear hk20
        go_loopw [11, 16] (fun s t wr => ∃ k : Nat, k ≤ L.length ∧ s = .int .i64 (Dv.foG ro.dividends ((L.map fun x => x.parts.l).take k) T0) ∧ t = .int .i64 k ∧ Below w5.heap.size w5 wr) (fun _ t _ => L.length - (intOf t).toNat)
        case atStart => exact ⟨0, by omega, rfl, rfl, hbr⟩
        case round =>
          clear hbr hbw
          obtain ⟨k, hk, rfl, rfl, hbr⟩ := hrel
          have hbw := bel hb hbr
          by_cases hkl : k < L.length
          · obtain ⟨b, o, hA, hbo, hx⟩ := rd_at (f := PostR.cells) (sz := 5) (fun _ => rfl) HPI.out.rd hkl
            subst hA
            have HX := Lib.hid hx
            have HR := Lib.hid (HPI.out.pt _ (List.getElem_mem hkl))
            have hfew := HPI.out.few _ (List.getElem_mem hkl)
            have HGT := Lib.hid (Dv.foG_take ro.dividends (L.map fun x => x.parts.l) T0 k (by rw [List.length_map]; exact hkl))
            rw [List.getElem_map] at HGT
            clear hx
            generalize L[k] = x at *
            obtain ⟨xk, xe, xo, xr, ⟨xl, xA, xc⟩⟩ := x
            dsimp only at *
            generalize Dv.foG ro.dividends ((L.map fun x => x.parts.l).take k) T0 = sk at *
            obtain ⟨wp, rfl⟩ : ∃ wp : World, wp = wr := ⟨_, rfl⟩
            go_wp2_with fail
            go_loopw [11, 17] (fun s t wr => ∃ j : Nat, j ≤ xl.length ∧ s = .int .i64 (Dv.ptSum ro.dividends (xl.take j) sk) ∧ t = .int .i64 j ∧ Below w5.heap.size w5 wr) (fun _ t _ => xl.length - (intOf t).toNat)
            case atStart => exact ⟨0, by omega, rfl, rfl, hbr⟩
            case round =>
              clear hbr hbw
              obtain ⟨j, hj, rfl, rfl, hbr⟩ := hrel
              have HPT := Lib.hid (Dv.ptSum_take ro.dividends xl sk j)
              have f4 : wr.cell? ⟨b, o + k * 5 + 4, none⟩ = some (.slice xA xl.length xc) := (hbr.cell (p := ⟨b, o + k * 5 + 4, none⟩) hbo).trans (HX.out 4 _ rfl)
              by_cases hjl : j < xl.length
              · obtain ⟨b2, o2, hA2, hbo2, g0, g1⟩ := Bal.at_ (Rd.now HR.out hbr) hjl
                subst hA2
                have HPJ := Lib.hid (HPT.out hjl)
                generalize xl[j] = pt at *
                obtain ⟨pc, pa⟩ := pt
                dsimp only at *
                generalize Dv.ptSum ro.dividends (xl.take j) sk = sj at *
                by_cases hac : pc = ro.dividends
                · have HE1 : Hid (Dv.ptSum ro.dividends (xl.take (j + 1)) sk = wrap64 (sj + pa)) := Lib.hid (by rw [HPJ.out, if_pos hac])
                  have hacb : (pc == ro.dividends) = true := by simpa using hac
                  clear hac
                  go_wp2_with fail
                  clear f4
                  go_roundw
                  case rel => exact ⟨j + 1, by omega, by rw [HE1.out], by go_num, hbr⟩
                  case measure => simp [intOf]; omega
                · have HE1 : Hid (Dv.ptSum ro.dividends (xl.take (j + 1)) sk = sj) := Lib.hid (by rw [HPJ.out, if_neg hac])
                  have hacb : (pc == ro.dividends) = false := by simpa using hac
                  clear hac
                  go_wp2_with fail
                  clear f4
                  go_roundw
                  case rel => exact ⟨j + 1, by omega, by rw [HE1.out], by go_num, hbr⟩
                  case measure => simp [intOf]; omega
              · have HE1 : Hid (Dv.foG ro.dividends ((L.map fun x => x.parts.l).take (k + 1)) T0 = Dv.ptSum ro.dividends (xl.take j) sk) := Lib.hid (by rw [HGT.out, List.take_of_length_le (by omega)])
                generalize Dv.ptSum ro.dividends (xl.take j) sk = sj at *
                go_wp2_with fail
                clear f4
                go_roundw
                case rel => exact ⟨k + 1, by omega, by rw [HE1.out], by go_num, hbr⟩
                case measure => simp [intOf]; omega
          · have HE1 : Hid (Dv.foG ro.dividends ((L.map fun x => x.parts.l).take k) T0 = T) := Lib.hid (by rw [HTT.out, List.take_of_length_le (by rw [List.length_map]; omega)])
            rw [HE1.out]
            cases ha : amV T
            · have HE2 : Hid (E = 2) := Lib.hid (by rw [HE.out, ha]; rfl)
              have HV2 : Hid (V = 0) := Lib.hid (by rw [HV.out, HE2.out]; rfl)
              have HA := Lib.hid ha
              clear ha
              go_wp2_with (go_at_call 39; refine (rmoney_any _ _).mono ?_; rintro e w2 ⟨rfl, rfl⟩; rw [HA.out])
              go_ret2
              exact ⟨by rw [HE2.out, HV2.out]; rfl, hbw⟩
            · have HE2 : Hid (E = 0) := Lib.hid (by rw [HE.out, ha]; rfl)
              have HV2 : Hid (V = T) := Lib.hid (by rw [HV.out, HE2.out]; rfl)
              have HA := Lib.hid ha
              clear ha
              go_wp2_with (go_at_call 39; refine (rmoney_any _ _).mono ?_; rintro e w2 ⟨rfl, rfl⟩; rw [HA.out])
              go_ret2
              exact ⟨by rw [HE2.out, HV2.out]; rfl, hbw⟩
  · have hc0 : E0 ≠ 0 := by simpa using hx
    have HE1 : Hid (E = E0) := Lib.hid (by rw [HE.out, if_neg hc0])
    have HV1 : Hid (V = 0) := Lib.hid (by rw [HV.out, HE1.out, if_neg hc0])
    clear hc0
    go_wp2_with fail
    go_ret2
    exact ⟨by rw [HE1.out, HV1.out]; rfl, hb⟩
end
end Go.Proofs.YtnkmjdaeafeaaaaGreat
/- The walk of DividendForeign. -/
namespace Go.Proofs.YtnkmjdaeafeaaaaGreat
set_option linter.unusedVariables false
set_option linter.unusedSimpArgs false
open Go.RowKit

section
variable (cur : ByteArray) (y m p : Int) (cl : List Acc) (cA : Option Addr) (cc : Nat) (ro : RolesR) (el : List EntR) (eA : Option Addr) (ec : Nat) (w : World)
set_option maxRecDepth 100000 in
set_option maxHeartbeats 16000000 in
theorem law_DividendForeign (l : List ConR) (A : Option Addr) (c : Nat) (q : Int) (h : GIn w cl cA el eA) (hc : cur.size ≤ maxLen) (hcl : cl.length ≤ maxLen) (hel : el.length ≤ maxLen) (hO : OIn w l A) (hw1 : Wf ro.dividends) (hw2 : Wf ro.retained) :
    Calls Tryz.prog 4 #[.agg #[.string cur, .int .i64 y, .int .i64 m, .int .i64 p, .slice cA cl.length cc, .int .i64 ro.investment, .int .i64 ro.goodwill, .int .i64 ro.associates, .int .i64 ro.inventory, .int .i64 ro.reserve, .int .i64 ro.minority, .int .i64 ro.retained, .int .i64 ro.acquired, .int .i64 ro.owners, .int .i64 ro.disposal, .int .i64 ro.associateProfit, .int .i64 ro.dividends, .int .i64 ro.minorityProfit, .int .i64 ro.difference, .int .i64 ro.margin, .slice eA el.length ec], .slice A l.length c, .int .i64 q] w fun e w' => e = .returned (.bool true) ∧ Below w.heap.size w w' := by
  have H := Lib.hid h
  have HO := Lib.hid hO
  clear h hO
  obtain ⟨gcs, hgc⟩ : ∃ x : Array Value, x = #[.string cur, .int .i64 y, .int .i64 m, .int .i64 p, .slice cA cl.length cc, .int .i64 ro.investment, .int .i64 ro.goodwill, .int .i64 ro.associates, .int .i64 ro.inventory, .int .i64 ro.reserve, .int .i64 ro.minority, .int .i64 ro.retained, .int .i64 ro.acquired, .int .i64 ro.owners, .int .i64 ro.disposal, .int .i64 ro.associateProfit, .int .i64 ro.dividends, .int .i64 ro.minorityProfit, .int .i64 ro.difference, .int .i64 ro.margin, .slice eA el.length ec] := ⟨_, rfl⟩
  have hgi : (Tryz.prog.info? 29).map (·.size) = some gcs.size := by rw [hgc]; exact grp_size
  have HG := Lib.hid hgc
  rw [← hgc]
  clear hgc
  have HBT := Lib.hid (bkOf_built HG.out)
  have HBS := Lib.hid (bkOf_is (gsize21 HG.out))
  have K0 := Lib.hid (fun W h hO => dfew_any cur y m p cl cA cc ro el eA ec W gcs l A c HG h hO hc hcl hel)
  clear hcl hel
  have hb : Below w.heap.size w (w.alloc (.cells gcs 29)) := (Below.refl _ _).alloc (Nat.le_refl _) _
  have HB := Lib.hid (Blk.new w 29 gcs)
  go_enter Tryz.func4, Tryz.ntmps4
  go_wp2_with fail
  generalize w.alloc (.cells gcs 29) = W at *
  refine (div_awake _).mono ?_
  rintro e w2 ⟨rfl, hb9⟩
  replace hb := bel hb hb9
  replace HB := Lib.hid (HB.out.step hb9)
  clear hb9
  go_wp2_with ((refine wpList_load_blk 29 (.tmp 3) rfl (w.heap.size) rfl (by kernel_rfl) (HB).out Tryz.underlying29 hgi ?_))
  refine (K0.out _ (H.out.step hb) (HO.out.step hb)).mono ?_
  rintro e w3 ⟨b, rfl, hb9, hok⟩
  replace hb := bel hb hb9
  replace HB := Lib.hid (HB.out.step hb9)
  clear hb9 K0
  cases b
  · clear hok
    go_wp2_with (go_at_call 8; refine (div_awake _).mono ?_; rintro e w4 ⟨rfl, hb9⟩; replace hb := bel hb hb9; clear hb9)
    go_ret
    exact ⟨rfl, hb⟩
  · have OK := Lib.hid (hok rfl)
    clear hok
    have hl14 := OK.out.len
    have hen := OK.out.grp.en
    have KP := Lib.hid (fun W A c h hC => dforeign_any gcs cur y m p cl cA cc ro el eA ec W (bkOf gcs) l q A c HG HBS.out h OK.out.grp (by omega) hC hw1 hw2)
    have KQ := Lib.hid (fun W A c h hC => rdforeign_any gcs cur y m p cl cA cc ro el eA ec W (bkOf gcs) l q A c HG HBS.out h OK.out.grp (by omega) hC)
    unfold TwoI at KP KQ
    generalize Dv.foV (Gr.gv cur cl ro el (Cal.ok y m p)) q p el.length ro.dividends ro.retained l = V at *
    generalize Dv.foE (Gr.gv cur cl ro el (Cal.ok y m p)) q p el.length ro.dividends ro.retained l = E at *
    have hE : (E == E) = true := by simp
    have hV : (V == V) = true := by simp
    have KB := Lib.hid (both_any l A c w3 (HO.out.step hb) (by omega))
    go_upto_region 4 with (go_at_call 10; refine KB.out.mono ?_; rintro e w4 ⟨v, u, rfl, hv, hu, hb9⟩; obtain ⟨A2, c2, rfl, hC⟩ := both_in (w3 := w3) (HO.out.step hb) hb9 hv (by omega) OK.out.its; obtain ⟨A3, c3, rfl, hD⟩ := both_in (w3 := w3) (HO.out.step hb) hb9 hu (by omega) OK.out.its; have HC := Lib.hid hC; have HD := Lib.hid hD; replace hb := bel hb hb9; replace HB := Lib.hid (HB.out.step hb9); clear hb9 hv hu hC hD)
    go_wp2_with (first
      | (refine wpList_load_blk 29 (.tmp 3) rfl (w.heap.size) rfl (by kernel_rfl) (HB).out Tryz.underlying29 hgi ?_)
      | (refine wpList_builtV rfl 29 rfl 47 _ rfl (bkOf gcs) [(0, .agg gcs)] (by kernel_rfl) HBT.out ?_)
      | (go_at_call 14; refine (KP.out _ _ _ (H.out.step hb) HC.out).mono ?_; rintro e w5 ⟨rfl, hb9⟩; have hb5 := bel hb hb9; have HB5 := Lib.hid (HB.out.step hb9); have HD5 := Lib.hid (HD.out.step hb9); clear hb9)
      | (refine wpList_load_blk 29 (.tmp 3) rfl (w.heap.size) rfl (by kernel_rfl) (HB5).out Tryz.underlying29 hgi ?_)
      | (refine wpList_builtV rfl 37 rfl 47 _ rfl (bkOf gcs) [(0, .agg gcs)] (by kernel_rfl) HBT.out ?_)
      | (go_at_call 15; refine (KQ.out _ _ _ (H.out.step hb5) HD5.out).mono ?_; rintro e w6 ⟨rfl, hb9⟩; have hb6 := bel hb5 hb9; clear hb9))
    go_ret
    exact ⟨rfl, hb6⟩
end
end Go.Proofs.YtnkmjdaeafeaaaaGreat
