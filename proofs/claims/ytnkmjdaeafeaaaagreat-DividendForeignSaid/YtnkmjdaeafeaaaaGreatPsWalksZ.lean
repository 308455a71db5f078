/- Texts of this claim, put together. -/
import Derived.Test.YtnkmjdaeafeaaaaGreatJAY
/- The walks of Postings of dividends and of its reference. -/
namespace Go.Proofs.YtnkmjdaeafeaaaaGreat
set_option linter.unusedVariables false
set_option linter.unusedSimpArgs false
open Go.RowKit

/-- postings of a call's own, with parts of its own -/
structure OwnPs (T TP : TypeId) (base : Nat) (w : World) (v : Value) (L : List PostR) : Prop where
  own : w.ownsRow base T 5 v L.length (cellsOf PostR.cells L)
  pts : ∀ x ∈ L, OwnSl Bal.cells base TP 2 w x.parts
def PsPost (T TP : TypeId) (kd : Int) (g : Int → Int → List Bal) (E : Int) (D : List (Int × Int)) (w : World) (en : Ending) (w' : World) : Prop :=
  ∃ (v : Value) (L : List PostR), en = .returned (.tuple #[v, .int .i64 E]) ∧ OwnPs T TP w.heap.size w' v L ∧ Ps.Is kd g D L ∧ Below w.heap.size w w'
theorem ownPs_nil (T TP : TypeId) (base : Nat) (w : World) : OwnPs T TP base w (.slice none 0 0) [] := ⟨World.ownsRow_nil _ _ _ _, fun x hx => by cases hx⟩
theorem OwnPs.step {T TP : TypeId} {base : Nat} {w w' : World} {v : Value} {L : List PostR} (h : OwnPs T TP base w v L) (hb : Below w.heap.size w w') : OwnPs T TP base w' v L :=
  ⟨own_step h.own hb, fun x hx => own_step (h.pts x hx) hb⟩
theorem OwnPs.snoc {T TP : TypeId} {base : Nat} {w w' : World} {v v' : Value} {L : List PostR} {x : PostR} (h : OwnPs T TP base w v L) (hx : OwnSl Bal.cells base TP 2 w x.parts) (hne : TP ≠ T) (ho : w'.ownsRow base T 5 v' (L.length + 1) (cellsOf PostR.cells (L ++ [x]))) (hg : w.grownBy w' v.ownBlock) : OwnPs T TP base w' v' (L ++ [x]) := by
  refine ⟨by rw [List.length_append]; exact ho, fun y hy => ?_⟩
  rcases List.mem_append.1 hy with hy | hy
  · exact own_apart (h.pts y hy) h.own hne hg
  · rw [List.mem_singleton] at hy
    subst hy
    exact own_apart hx h.own hne hg
theorem pin_own {T TP : TypeId} {base : Nat} {w : World} {A : Option Addr} {n c : Nat} {L : List PostR} (h : OwnPs T TP base w (.slice A n c) L) (hl : L.length ≤ 1000000) (hf : ∀ x ∈ L, x.parts.l.length ≤ 1000000) : n = L.length ∧ Rd w w.heap.size 5 A L.length (cellsOf PostR.cells L) ∧ ∀ x ∈ L, Rd w w.heap.size 2 x.parts.A x.parts.l.length (cellsOf Bal.cells x.parts.l) := by
  obtain ⟨A', c', e, hr⟩ := Rd.of_own h.own
  injection e with e1 e2 e3
  subst e1 e2 e3
  exact ⟨rfl, hr, fun x hx => own_rd (h.pts x hx)⟩
namespace Dv
noncomputable def psF (n : Nat) (d r : Int) (l : List ConR) (i k : Int) : Int := pE true 0 1 n d r l i k
noncomputable def psE (V : Bool) (p P : Int) (n : Nat) (d r : Int) (l : List ConR) : Int := if ck V p P = 0 then Ps.E n (pE V p P n d r l) else ck V p P
noncomputable def psD (V : Bool) (p P : Int) (n : Nat) (d r : Int) (l : List ConR) : List (Int × Int) := if psE V p P n d r l = 0 then (Ps.pairs n).filter (Ps.some_ (pL V p P n d r l)) else []
end Dv
theorem bk_cell {w : World} {b : Nat} {t : TypeId} {bcs gcs : Array Value} (hB : Blk w b t bcs) (h : BkIs bcs gcs) (j : Nat) (hj : j < 21) : w.cell? ⟨b, j, none⟩ = gcs[j]? := (hB.cell j).trans (h.grp j hj)
section
variable (gcs : Array Value) (cur : ByteArray) (y m p : Int) (cl : List Acc) (cA : Option Addr) (cc : Nat) (ro : RolesR) (el : List EntR) (eA : Option Addr) (ec : Nat) (w : World)
theorem post_info : (Tryz.prog.info? 51).map (fun i => (i.zero, i.size, i.bytes)) = some (some (.agg zeroPost), 5, 56) := by kernel_rfl
set_option maxRecDepth 100000 in
set_option maxHeartbeats 16000000 in
theorem dpostings_any (bcs : Array Value) (l : List ConR) (q : Int) (A : Option Addr) (c : Nat) (HG : Hid (gcs = #[.string cur, .int .i64 y, .int .i64 m, .int .i64 p, .slice cA cl.length cc, .int .i64 ro.investment, .int .i64 ro.goodwill, .int .i64 ro.associates, .int .i64 ro.inventory, .int .i64 ro.reserve, .int .i64 ro.minority, .int .i64 ro.retained, .int .i64 ro.acquired, .int .i64 ro.owners, .int .i64 ro.disposal, .int .i64 ro.associateProfit, .int .i64 ro.dividends, .int .i64 ro.minorityProfit, .int .i64 ro.difference, .int .i64 ro.margin, .slice eA el.length ec])) (hBK : BkIs bcs gcs) (h : GIn w cl cA el eA) (hF : FewOk cur cl el) (hel : el.length ≤ 1000) (hC : CIn w l A) (hw1 : Wf ro.dividends) (hw2 : Wf ro.retained) :
    Calls Tryz.prog 11 #[.agg bcs, .slice A l.length c, .int .i64 q] w
      (PsPost 51 53 9 (Dv.pL (Gr.gv cur cl ro el (Cal.ok y m p)) q p el.length ro.dividends ro.retained l) (Dv.psE (Gr.gv cur cl ro el (Cal.ok y m p)) q p el.length ro.dividends ro.retained l) (Dv.psD (Gr.gv cur cl ro el (Cal.ok y m p)) q p el.length ro.dividends ro.retained l) w) := by
  have hb : Below w.heap.size w (w.alloc (.cells bcs 47)) := (Below.refl _ _).alloc (Nat.le_refl _) _
  have HB := Lib.hid (Blk.new w 47 bcs)
  have HBK := Lib.hid hBK
  have H := Lib.hid h
  have HC := Lib.hid hC
  have hg21 : (Tryz.prog.info? 29).map (·.size) = some 21 := grp_size
  have hbz : (Tryz.prog.info? 47).map (·.size) = some bcs.size := by rw [hBK.size]; kernel_rfl
  obtain ⟨i0, hi0, hz0, hz1, hz2⟩ := info_parts post_info
  have KC := Lib.hid (fun W h => dcheck_any gcs cur y m p cl cA cc ro el eA ec W q HG h hF)
  have KP := Lib.hid (fun W i k h hC => dposting_any gcs cur y m p cl cA cc ro el eA ec W bcs l i k q A c HG hBK h hF hel hC hw1 hw2)
  clear h hC hBK hF
  have HE : Hid (Dv.psE (Gr.gv cur cl ro el (Cal.ok y m p)) q p el.length ro.dividends ro.retained l = if Dv.ck (Gr.gv cur cl ro el (Cal.ok y m p)) q p = 0 then Ps.E el.length (Dv.pE (Gr.gv cur cl ro el (Cal.ok y m p)) q p el.length ro.dividends ro.retained l) else Dv.ck (Gr.gv cur cl ro el (Cal.ok y m p)) q p) := Lib.hid rfl
  have HD : Hid (Dv.psD (Gr.gv cur cl ro el (Cal.ok y m p)) q p el.length ro.dividends ro.retained l = if Dv.psE (Gr.gv cur cl ro el (Cal.ok y m p)) q p el.length ro.dividends ro.retained l = 0 then (Ps.pairs el.length).filter (Ps.some_ (Dv.pL (Gr.gv cur cl ro el (Cal.ok y m p)) q p el.length ro.dividends ro.retained l)) else []) := Lib.hid rfl
  generalize Dv.psE (Gr.gv cur cl ro el (Cal.ok y m p)) q p el.length ro.dividends ro.retained l = E at *
  generalize Dv.psD (Gr.gv cur cl ro el (Cal.ok y m p)) q p el.length ro.dividends ro.retained l = D at *
  generalize Dv.ck (Gr.gv cur cl ro el (Cal.ok y m p)) q p = ck at *
  generalize Dv.pE (Gr.gv cur cl ro el (Cal.ok y m p)) q p el.length ro.dividends ro.retained l = f at *
  generalize Dv.pL (Gr.gv cur cl ro el (Cal.ok y m p)) q p el.length ro.dividends ro.retained l = g at *
  unfold IntPost at KC
  go_enter Tryz.func11, Tryz.ntmps11
  go_upto_region 1 with fail
  generalize w.alloc (.cells bcs 47) = W at *
  go_upto_region 2 with (first
    | (refine wpList_load_arr rfl 29 (.tmp 14) rfl w.heap.size 0 rfl gcs (bk_range HB.out HBK.out) Tryz.underlying29 21 hg21 HBK.out.gsz ?_)
    | (go_at_call 31; refine (KC.out _ (H.out.step hb)).mono ?_; rintro en w4 ⟨rfl, hb9⟩; replace hb := bel hb hb9; replace HB := Lib.hid (HB.out.step hb9); clear hb9))
  have hk20 : w4.cell? ⟨w.heap.size, 20, none⟩ = some (.slice eA el.length ec) := (bk_cell HB.out HBK.out 20 (by omega)).trans (by rw [HG.out]; rfl)
  cases hx : (ck != 0)
  · have hc0 : ck = 0 := by simpa using hx
    clear hx
    subst hc0
    rw [if_pos rfl] at HE
    go_wp2_with fail
    clear hk20
    go_loopw [9, 25] (fun v t wr => ∃ (i : Nat) (L : List PostR), i ≤ el.length ∧ t = .int .i64 i ∧ OwnPs 51 53 w.heap.size wr v L ∧ Ps.Is 9 g ((Ps.pre el.length i 0).filter (Ps.some_ g)) L ∧ (∀ x ∈ Ps.pre el.length i 0, f x.1 x.2 = 0) ∧ L.length ≤ 1000 * i ∧ Blk wr w.heap.size 47 bcs ∧ Below w.heap.size w wr) (fun _ t _ => el.length - (intOf t).toNat)
    case atStart => exact ⟨0, [], by omega, rfl, ownPs_nil _ _ _ _, Ps.is_nil _ _, (fun x hx => by cases hx), Nat.zero_le _, HB.out, hb⟩
    case round =>
      clear hb HB
      obtain ⟨i, L, hi, rfl, hOP, hIS, hno, hLL, hB, hb⟩ := hrel
      have HOP := Lib.hid hOP
      have HIS := Lib.hid hIS
      have HNO := Lib.hid hno
      have HB := Lib.hid hB
      clear hOP hIS hno hB
      have hk20 : wr.cell? ⟨w.heap.size, 20, none⟩ = some (.slice eA el.length ec) := (bk_cell HB.out HBK.out 20 (by omega)).trans (by rw [HG.out]; rfl)
      by_cases hil : i < el.length
      · obtain ⟨wo, rfl⟩ : ∃ wo : World, wo = wr := ⟨_, rfl⟩
        go_wp2_with fail
        clear hk20
        go_loopw [9, 32] (fun v t wr => ∃ (k : Nat) (L : List PostR), k ≤ el.length ∧ t = .int .i64 k ∧ OwnPs 51 53 w.heap.size wr v L ∧ Ps.Is 9 g ((Ps.pre el.length i k).filter (Ps.some_ g)) L ∧ (∀ x ∈ Ps.pre el.length i k, f x.1 x.2 = 0) ∧ L.length ≤ 1000 * i + k ∧ Blk wr w.heap.size 47 bcs ∧ Below w.heap.size w wr) (fun _ t _ => el.length - (intOf t).toNat)
        case atStart => exact ⟨0, L, by omega, rfl, HOP.out, HIS.out, HNO.out, by omega, HB.out, hb⟩
        case round =>
          clear hb HB HOP HIS HNO hLL
          obtain ⟨k, M, hk, rfl, hOP, hIS, hno, hLL, hB, hb⟩ := hrel
          have HOP := Lib.hid hOP
          have HIS := Lib.hid hIS
          have HNO := Lib.hid hno
          have HB := Lib.hid hB
          have hz := hb.size
          clear hOP hIS hno hB
          have hk20 : wr.cell? ⟨w.heap.size, 20, none⟩ = some (.slice eA el.length ec) := (bk_cell HB.out HBK.out 20 (by omega)).trans (by rw [HG.out]; rfl)
          by_cases hkl : k < el.length
          · have K := Lib.hid (KP.out wr i k (H.out.step hb) (HC.out.step hb))
            have HHIT := Lib.hid (Ps.E_hit (f := f) hil hkl HNO.out)
            have HSTEP := Lib.hid (Ps.pre_step el.length i k)
            unfold PPost at K
            have HFE : Hid (f i k = f i k) := Lib.hid rfl
            generalize hfe : f (i : Int) (k : Int) = e at *
            have HFE := Lib.hid hfe
            clear hfe
            generalize hgl : g (i : Int) (k : Int) = gl at *
            have HGL := Lib.hid hgl
            clear hgl
            cases hee : (e != 0)
            · have he0 : e = 0 := by simpa using hee
              subst he0
              clear hee HHIT
              have HNO2 : Hid (∀ x ∈ Ps.pre el.length i (k + 1), f x.1 x.2 = 0) := Lib.hid (fun x hx => by
                rw [HSTEP.out] at hx
                rcases List.mem_append.1 hx with hx | hx
                · exact HNO.out x hx
                · rw [List.mem_singleton] at hx
                  subst hx
                  exact HFE.out)
              by_cases hgn : gl = []
              · have HIS2 : Hid (Ps.Is 9 g ((Ps.pre el.length i (k + 1)).filter (Ps.some_ g)) M) := Lib.hid (by rw [HSTEP.out, Ps.filter_no (by rw [HGL.out, hgn])]; exact HIS.out)
                go_wp2_with (first
                  | (refine wpList_load_blk 47 (.tmp 3) rfl w.heap.size rfl (by kernel_rfl) HB.out Tryz.underlying47 hbz ?_)
                  | (go_at_call 27; refine K.out.mono ?_; rintro en w6 ⟨x, rfl, hI, hOw, hb9⟩; have hb6 := bel hb hb9; have HB6 := Lib.hid (HB.out.step hb9); have HOP6 := Lib.hid (HOP.out.step hb9); clear hb9 hOw; obtain ⟨xk, xe, xo, xr, ⟨xl, xA, xc⟩⟩ := x; have hxl : xl = [] := hI.1.trans hgn; subst hxl; clear hI; simp only [PostR.arr, Sl.val, List.length_nil]))
                clear hk20 hgn
                have hst := (Below.refl w6.heap.size w6).alloc (Nat.le_refl _) (.cells #[.int .i64 xk, .int .i64 xe, .int .i64 xo, .int .i64 xr, .slice xA 0 xc] 51)
                go_roundw
                case rel => exact ⟨k + 1, M, by omega, by go_num, HOP6.out.step hst, HIS2.out, HNO2.out, by omega, HB6.out.step hst, bel hb6 hst⟩
                case measure => simp [intOf]; omega
              · have HGN := Lib.hid hgn
                have hgp : 0 < gl.length := List.length_pos_iff.2 hgn
                clear hgn
                go_wp2_with (first
                  | (refine wpList_load_blk 47 (.tmp 3) rfl w.heap.size rfl (by kernel_rfl) HB.out Tryz.underlying47 hbz ?_)
                  | (go_at_call 27; refine K.out.mono ?_; rintro en w6 ⟨x, rfl, hI, hOw, hb9⟩; have hb6 := bel hb hb9; have HB6 := Lib.hid (HB.out.step hb9); have HOP6 := Lib.hid (HOP.out.step hb9); have HOW := Lib.hid (own_base hOw hz); have hlw := hb9.size; clear hb9 hOw; obtain ⟨xk, xe, xo, xr, ⟨xl, xA, xc⟩⟩ := x; have hxl : xl = gl := hI.1; subst hxl; have HI := Lib.hid hI; clear hI; simp only [PostR.arr, Sl.val])
                  | (at_builtin; refine wpList_append_rec PostR.cells 5 PostR.len PostR.one rfl (.tmp 51) (.tmp 53) 37 rfl w.heap.size 51 i0 (.agg zeroPost) 56 Tryz.underlying37 hi0 hz0 hz1 hz2 rfl (by decide) _ M rfl ((HOP6.out.own.alloc (.cells #[.int .i64 xk, .int .i64 xe, .int .i64 xo, .int .i64 xr, .slice xA xl.length xc] 51)).alloc _) (w6.heap.size + 1) 1 ⟨xk, xe, xo, xr, ⟨xl, xA, xc⟩⟩ #[.int .i64 xk, .int .i64 xe, .int .i64 xo, .int .i64 xr, .slice xA xl.length xc] rfl (blk_new2 _ _ _ _) rfl (by simp only [maxLen]; omega) (by omega) (by simp; omega) ?_))
                intro v7 w7 ho7 hg7
                have hst := (Below.refl w6.heap.size w6).alloc (Nat.le_refl _) (.cells #[.int .i64 xk, .int .i64 xe, .int .i64 xo, .int .i64 xr, .slice xA xl.length xc] 51)
                have hst2 := hst.alloc hst.size (.cells #[.int .i64 xk, .int .i64 xe, .int .i64 xo, .int .i64 xr, .slice xA xl.length xc] 51)
                have HOP7 := Lib.hid ((HOP6.out.step hst2).snoc (own_step HOW.out hst2) (by decide) ho7 hg7)
                have HB7 := Lib.hid ((HB6.out.step hst2).grown hg7 (own_ne_blk (HOP6.out.step hst2).own (HB6.out.step hst2) (by decide)))
                have hb7 := bel_own (bel hb6 hst2) (by have := hst2.size; omega) (HOP6.out.step hst2).own hg7
                have HIS7 : Hid (Ps.Is 9 g ((Ps.pre el.length i (k + 1)).filter (Ps.some_ g)) (M ++ [⟨xk, xe, xo, xr, ⟨xl, xA, xc⟩⟩])) := Lib.hid (by rw [HSTEP.out, Ps.filter_yes (by rw [HGL.out]; exact HGN.out)]; exact Ps.is_snoc HIS.out (by rw [HGL.out]; exact HI.out))
                have hLM : (M ++ [(⟨xk, xe, xo, xr, ⟨xl, xA, xc⟩⟩ : PostR)]).length ≤ 1000 * i + (k + 1) := by rw [List.length_append, List.length_singleton]; omega
                generalize M ++ [(⟨xk, xe, xo, xr, ⟨xl, xA, xc⟩⟩ : PostR)] = M2 at *
                clear hg7 ho7 hst hst2 hk20
                go_wp2_with fail
                go_roundw
                case rel => exact ⟨k + 1, M2, by omega, by go_num, HOP7.out, HIS7.out, HNO2.out, hLM, HB7.out, hb7⟩
                case measure => simp [intOf]; omega
            · have hene : e ≠ 0 := by simpa using hee
              have HE1 : Hid (E = e) := Lib.hid (by rw [HE.out]; first | exact HHIT.out hene | (rw [HHIT.out (by rw [HFE.out]; exact hene)]; exact HFE.out))
              have HD1 : Hid (D = []) := Lib.hid (by rw [HD.out, if_neg (by rw [HE1.out]; exact hene)])
              clear hene
              go_wp2_with (first
                | (refine wpList_load_blk 47 (.tmp 3) rfl w.heap.size rfl (by kernel_rfl) HB.out Tryz.underlying47 hbz ?_)
                | (go_at_call 27; refine K.out.mono ?_; rintro en w6 ⟨x, rfl, hI, hOw, hb9⟩; have hb6 := bel hb hb9; clear hb9 hOw hI; obtain ⟨xk, xe, xo, xr, ⟨xl, xA, xc⟩⟩ := x; simp only [PostR.arr, Sl.val]))
              go_ret2
              exact ⟨_, [], by rw [HE1.out]; rfl, ownPs_nil _ _ _ _, by rw [HD1.out]; exact Ps.is_nil _ _, hb6.alloc hb6.size _⟩
          · have hke : k = el.length := by omega
            have HROW := Lib.hid (Ps.pre_row el.length i)
            have HIS2 : Hid (Ps.Is 9 g ((Ps.pre el.length (i + 1) 0).filter (Ps.some_ g)) M) := Lib.hid (by have h := HIS.out; rw [hke, HROW.out] at h; exact h)
            have HNO2 : Hid (∀ x ∈ Ps.pre el.length (i + 1) 0, f x.1 x.2 = 0) := Lib.hid (by have h := HNO.out; rw [hke, HROW.out] at h; exact h)
            clear hke
            go_wp2_with fail
            clear hk20
            go_roundw
            case rel => exact ⟨i + 1, M, by omega, by go_num, HOP.out, HIS2.out, HNO2.out, by omega, HB.out, hb⟩
            case measure => simp [intOf]; omega
      · have hie : i = el.length := by omega
        have HE1 : Hid (E = 0) := Lib.hid (by rw [HE.out]; exact Ps.E_none (by have h := HNO.out; rw [hie] at h; exact h))
        have HD1 : Hid (Ps.Is 9 g D L) := Lib.hid (by rw [HD.out, if_pos HE1.out]; have h := HIS.out; rw [hie] at h; exact h)
        clear hie
        go_wp2_with fail
        go_ret2
        exact ⟨_, L, by rw [HE1.out]; rfl, HOP.out, HD1.out, hb⟩
  · have hc0 : ck ≠ 0 := by simpa using hx
    have HE1 : Hid (E = ck) := Lib.hid (by rw [HE.out, if_neg hc0])
    have HD1 : Hid (D = []) := Lib.hid (by rw [HD.out, if_neg (by rw [HE1.out]; exact hc0)])
    clear hc0 hk20
    go_wp2_with fail
    go_ret2
    exact ⟨_, [], by rw [HE1.out]; rfl, ownPs_nil _ _ _ _, by rw [HD1.out]; exact Ps.is_nil _ _, hb⟩
set_option maxRecDepth 100000 in
set_option maxHeartbeats 16000000 in
theorem rdpostings_any (bcs : Array Value) (l : List ConR) (q : Int) (A : Option Addr) (c : Nat) (HG : Hid (gcs = #[.string cur, .int .i64 y, .int .i64 m, .int .i64 p, .slice cA cl.length cc, .int .i64 ro.investment, .int .i64 ro.goodwill, .int .i64 ro.associates, .int .i64 ro.inventory, .int .i64 ro.reserve, .int .i64 ro.minority, .int .i64 ro.retained, .int .i64 ro.acquired, .int .i64 ro.owners, .int .i64 ro.disposal, .int .i64 ro.associateProfit, .int .i64 ro.dividends, .int .i64 ro.minorityProfit, .int .i64 ro.difference, .int .i64 ro.margin, .slice eA el.length ec])) (hBK : BkIs bcs gcs) (h : GIn w cl cA el eA) (hF : FewOk cur cl el) (hel : el.length ≤ 1000) (hC : CIn w l A) :
    Calls Tryz.prog 12 #[.agg bcs, .slice A l.length c, .int .i64 q] w
      (PsPost 51 53 9 (Dv.pL (Gr.gv cur cl ro el (Cal.ok y m p)) q p el.length ro.dividends ro.retained l) (Dv.psE (Gr.gv cur cl ro el (Cal.ok y m p)) q p el.length ro.dividends ro.retained l) (Dv.psD (Gr.gv cur cl ro el (Cal.ok y m p)) q p el.length ro.dividends ro.retained l) w) := by
  have hb : Below w.heap.size w (w.alloc (.cells bcs 47)) := (Below.refl _ _).alloc (Nat.le_refl _) _
  have HB := Lib.hid (Blk.new w 47 bcs)
  have HBK := Lib.hid hBK
  have H := Lib.hid h
  have HC := Lib.hid hC
  have hg21 : (Tryz.prog.info? 29).map (·.size) = some 21 := grp_size
  have hbz : (Tryz.prog.info? 47).map (·.size) = some bcs.size := by rw [hBK.size]; kernel_rfl
  obtain ⟨i0, hi0, hz0, hz1, hz2⟩ := info_parts post_info
  have KC := Lib.hid (fun W h => rdcheck_any gcs cur y m p cl cA cc ro el eA ec W q HG h hF)
  have KP := Lib.hid (fun W i k h hC => rdposting_any gcs cur y m p cl cA cc ro el eA ec W bcs l i k q A c HG hBK h hF hel hC)
  clear h hC hBK hF
  have HE : Hid (Dv.psE (Gr.gv cur cl ro el (Cal.ok y m p)) q p el.length ro.dividends ro.retained l = if Dv.ck (Gr.gv cur cl ro el (Cal.ok y m p)) q p = 0 then Ps.E el.length (Dv.pE (Gr.gv cur cl ro el (Cal.ok y m p)) q p el.length ro.dividends ro.retained l) else Dv.ck (Gr.gv cur cl ro el (Cal.ok y m p)) q p) := Lib.hid rfl
  have HD : Hid (Dv.psD (Gr.gv cur cl ro el (Cal.ok y m p)) q p el.length ro.dividends ro.retained l = if Dv.psE (Gr.gv cur cl ro el (Cal.ok y m p)) q p el.length ro.dividends ro.retained l = 0 then (Ps.pairs el.length).filter (Ps.some_ (Dv.pL (Gr.gv cur cl ro el (Cal.ok y m p)) q p el.length ro.dividends ro.retained l)) else []) := Lib.hid rfl
  generalize Dv.psE (Gr.gv cur cl ro el (Cal.ok y m p)) q p el.length ro.dividends ro.retained l = E at *
  generalize Dv.psD (Gr.gv cur cl ro el (Cal.ok y m p)) q p el.length ro.dividends ro.retained l = D at *
  generalize Dv.ck (Gr.gv cur cl ro el (Cal.ok y m p)) q p = ck at *
  generalize Dv.pE (Gr.gv cur cl ro el (Cal.ok y m p)) q p el.length ro.dividends ro.retained l = f at *
  generalize Dv.pL (Gr.gv cur cl ro el (Cal.ok y m p)) q p el.length ro.dividends ro.retained l = g at *
  unfold IntPost at KC
  go_enter Tryz.func12, Tryz.ntmps12
  go_upto_region 1 with fail
  generalize w.alloc (.cells bcs 47) = W at *
  go_upto_region 2 with (first
    | (refine wpList_load_arr rfl 29 (.tmp 14) rfl w.heap.size 0 rfl gcs (bk_range HB.out HBK.out) Tryz.underlying29 21 hg21 HBK.out.gsz ?_)
    | (go_at_call 32; refine (KC.out _ (H.out.step hb)).mono ?_; rintro en w4 ⟨rfl, hb9⟩; replace hb := bel hb hb9; replace HB := Lib.hid (HB.out.step hb9); clear hb9))
  have hk20 : w4.cell? ⟨w.heap.size, 20, none⟩ = some (.slice eA el.length ec) := (bk_cell HB.out HBK.out 20 (by omega)).trans (by rw [HG.out]; rfl)
  cases hx : (ck != 0)
  · have hc0 : ck = 0 := by simpa using hx
    clear hx
    subst hc0
    rw [if_pos rfl] at HE
    go_wp2_with fail
    clear hk20
    go_loopw [9, 10] (fun v t wr => ∃ (i : Nat) (L : List PostR), i ≤ el.length ∧ t = .int .i64 i ∧ OwnPs 51 53 w.heap.size wr v L ∧ Ps.Is 9 g ((Ps.pre el.length i 0).filter (Ps.some_ g)) L ∧ (∀ x ∈ Ps.pre el.length i 0, f x.1 x.2 = 0) ∧ L.length ≤ 1000 * i ∧ Blk wr w.heap.size 47 bcs ∧ Below w.heap.size w wr) (fun _ t _ => el.length - (intOf t).toNat)
    case atStart => exact ⟨0, [], by omega, rfl, ownPs_nil _ _ _ _, Ps.is_nil _ _, (fun x hx => by cases hx), Nat.zero_le _, HB.out, hb⟩
    case round =>
      clear hb HB
      obtain ⟨i, L, hi, rfl, hOP, hIS, hno, hLL, hB, hb⟩ := hrel
      have HOP := Lib.hid hOP
      have HIS := Lib.hid hIS
      have HNO := Lib.hid hno
      have HB := Lib.hid hB
      clear hOP hIS hno hB
      have hk20 : wr.cell? ⟨w.heap.size, 20, none⟩ = some (.slice eA el.length ec) := (bk_cell HB.out HBK.out 20 (by omega)).trans (by rw [HG.out]; rfl)
      by_cases hil : i < el.length
      · obtain ⟨wo, rfl⟩ : ∃ wo : World, wo = wr := ⟨_, rfl⟩
        go_wp2_with fail
        clear hk20
        go_loopw [9, 11] (fun v t wr => ∃ (k : Nat) (L : List PostR), k ≤ el.length ∧ t = .int .i64 k ∧ OwnPs 51 53 w.heap.size wr v L ∧ Ps.Is 9 g ((Ps.pre el.length i k).filter (Ps.some_ g)) L ∧ (∀ x ∈ Ps.pre el.length i k, f x.1 x.2 = 0) ∧ L.length ≤ 1000 * i + k ∧ Blk wr w.heap.size 47 bcs ∧ Below w.heap.size w wr) (fun _ t _ => el.length - (intOf t).toNat)
        case atStart => exact ⟨0, L, by omega, rfl, HOP.out, HIS.out, HNO.out, by omega, HB.out, hb⟩
        case round =>
          clear hb HB HOP HIS HNO hLL
          obtain ⟨k, M, hk, rfl, hOP, hIS, hno, hLL, hB, hb⟩ := hrel
          have HOP := Lib.hid hOP
          have HIS := Lib.hid hIS
          have HNO := Lib.hid hno
          have HB := Lib.hid hB
          have hz := hb.size
          clear hOP hIS hno hB
          have hk20 : wr.cell? ⟨w.heap.size, 20, none⟩ = some (.slice eA el.length ec) := (bk_cell HB.out HBK.out 20 (by omega)).trans (by rw [HG.out]; rfl)
          by_cases hkl : k < el.length
          · have K := Lib.hid (KP.out wr i k (H.out.step hb) (HC.out.step hb))
            have HHIT := Lib.hid (Ps.E_hit (f := f) hil hkl HNO.out)
            have HSTEP := Lib.hid (Ps.pre_step el.length i k)
            unfold PPost at K
            have HFE : Hid (f i k = f i k) := Lib.hid rfl
            generalize hfe : f (i : Int) (k : Int) = e at *
            have HFE := Lib.hid hfe
            clear hfe
            generalize hgl : g (i : Int) (k : Int) = gl at *
            have HGL := Lib.hid hgl
            clear hgl
            cases hee : (e != 0)
            · have he0 : e = 0 := by simpa using hee
              subst he0
              clear hee HHIT
              have HNO2 : Hid (∀ x ∈ Ps.pre el.length i (k + 1), f x.1 x.2 = 0) := Lib.hid (fun x hx => by
                rw [HSTEP.out] at hx
                rcases List.mem_append.1 hx with hx | hx
                · exact HNO.out x hx
                · rw [List.mem_singleton] at hx
                  subst hx
                  exact HFE.out)
              by_cases hgn : gl = []
              · have HIS2 : Hid (Ps.Is 9 g ((Ps.pre el.length i (k + 1)).filter (Ps.some_ g)) M) := Lib.hid (by rw [HSTEP.out, Ps.filter_no (by rw [HGL.out, hgn])]; exact HIS.out)
                go_wp2_with (first
                  | (refine wpList_load_blk 47 (.tmp 3) rfl w.heap.size rfl (by kernel_rfl) HB.out Tryz.underlying47 hbz ?_)
                  | (go_at_call 33; refine K.out.mono ?_; rintro en w6 ⟨x, rfl, hI, hOw, hb9⟩; have hb6 := bel hb hb9; have HB6 := Lib.hid (HB.out.step hb9); have HOP6 := Lib.hid (HOP.out.step hb9); clear hb9 hOw; obtain ⟨xk, xe, xo, xr, ⟨xl, xA, xc⟩⟩ := x; have hxl : xl = [] := hI.1.trans hgn; subst hxl; clear hI; simp only [PostR.arr, Sl.val, List.length_nil]))
                clear hk20 hgn
                have hst := (Below.refl w6.heap.size w6).alloc (Nat.le_refl _) (.cells #[.int .i64 xk, .int .i64 xe, .int .i64 xo, .int .i64 xr, .slice xA 0 xc] 51)
                go_roundw
                case rel => exact ⟨k + 1, M, by omega, by go_num, HOP6.out.step hst, HIS2.out, HNO2.out, by omega, HB6.out.step hst, bel hb6 hst⟩
                case measure => simp [intOf]; omega
              · have HGN := Lib.hid hgn
                have hgp : 0 < gl.length := List.length_pos_iff.2 hgn
                clear hgn
                go_wp2_with (first
                  | (refine wpList_load_blk 47 (.tmp 3) rfl w.heap.size rfl (by kernel_rfl) HB.out Tryz.underlying47 hbz ?_)
                  | (go_at_call 33; refine K.out.mono ?_; rintro en w6 ⟨x, rfl, hI, hOw, hb9⟩; have hb6 := bel hb hb9; have HB6 := Lib.hid (HB.out.step hb9); have HOP6 := Lib.hid (HOP.out.step hb9); have HOW := Lib.hid (own_base hOw hz); have hlw := hb9.size; clear hb9 hOw; obtain ⟨xk, xe, xo, xr, ⟨xl, xA, xc⟩⟩ := x; have hxl : xl = gl := hI.1; subst hxl; have HI := Lib.hid hI; clear hI; simp only [PostR.arr, Sl.val])
                  | (at_builtin; refine wpList_append_rec PostR.cells 5 PostR.len PostR.one rfl (.tmp 53) (.tmp 55) 37 rfl w.heap.size 51 i0 (.agg zeroPost) 56 Tryz.underlying37 hi0 hz0 hz1 hz2 rfl (by decide) _ M rfl ((HOP6.out.own.alloc (.cells #[.int .i64 xk, .int .i64 xe, .int .i64 xo, .int .i64 xr, .slice xA xl.length xc] 51)).alloc _) (w6.heap.size + 1) 1 ⟨xk, xe, xo, xr, ⟨xl, xA, xc⟩⟩ #[.int .i64 xk, .int .i64 xe, .int .i64 xo, .int .i64 xr, .slice xA xl.length xc] rfl (blk_new2 _ _ _ _) rfl (by simp only [maxLen]; omega) (by omega) (by simp; omega) ?_))
                intro v7 w7 ho7 hg7
                have hst := (Below.refl w6.heap.size w6).alloc (Nat.le_refl _) (.cells #[.int .i64 xk, .int .i64 xe, .int .i64 xo, .int .i64 xr, .slice xA xl.length xc] 51)
                have hst2 := hst.alloc hst.size (.cells #[.int .i64 xk, .int .i64 xe, .int .i64 xo, .int .i64 xr, .slice xA xl.length xc] 51)
                have HOP7 := Lib.hid ((HOP6.out.step hst2).snoc (own_step HOW.out hst2) (by decide) ho7 hg7)
                have HB7 := Lib.hid ((HB6.out.step hst2).grown hg7 (own_ne_blk (HOP6.out.step hst2).own (HB6.out.step hst2) (by decide)))
                have hb7 := bel_own (bel hb6 hst2) (by have := hst2.size; omega) (HOP6.out.step hst2).own hg7
                have HIS7 : Hid (Ps.Is 9 g ((Ps.pre el.length i (k + 1)).filter (Ps.some_ g)) (M ++ [⟨xk, xe, xo, xr, ⟨xl, xA, xc⟩⟩])) := Lib.hid (by rw [HSTEP.out, Ps.filter_yes (by rw [HGL.out]; exact HGN.out)]; exact Ps.is_snoc HIS.out (by rw [HGL.out]; exact HI.out))
                have hLM : (M ++ [(⟨xk, xe, xo, xr, ⟨xl, xA, xc⟩⟩ : PostR)]).length ≤ 1000 * i + (k + 1) := by rw [List.length_append, List.length_singleton]; omega
                generalize M ++ [(⟨xk, xe, xo, xr, ⟨xl, xA, xc⟩⟩ : PostR)] = M2 at *
                clear hg7 ho7 hst hst2 hk20
                go_wp2_with fail
                go_roundw
                case rel => exact ⟨k + 1, M2, by omega, by go_num, HOP7.out, HIS7.out, HNO2.out, hLM, HB7.out, hb7⟩
                case measure => simp [intOf]; omega
            · have hene : e ≠ 0 := by simpa using hee
              have HE1 : Hid (E = e) := Lib.hid (by rw [HE.out]; first | exact HHIT.out hene | (rw [HHIT.out (by rw [HFE.out]; exact hene)]; exact HFE.out))
              have HD1 : Hid (D = []) := Lib.hid (by rw [HD.out, if_neg (by rw [HE1.out]; exact hene)])
              clear hene
              go_wp2_with (first
                | (refine wpList_load_blk 47 (.tmp 3) rfl w.heap.size rfl (by kernel_rfl) HB.out Tryz.underlying47 hbz ?_)
                | (go_at_call 33; refine K.out.mono ?_; rintro en w6 ⟨x, rfl, hI, hOw, hb9⟩; have hb6 := bel hb hb9; clear hb9 hOw hI; obtain ⟨xk, xe, xo, xr, ⟨xl, xA, xc⟩⟩ := x; simp only [PostR.arr, Sl.val]))
              go_ret2
              exact ⟨_, [], by rw [HE1.out]; rfl, ownPs_nil _ _ _ _, by rw [HD1.out]; exact Ps.is_nil _ _, hb6.alloc hb6.size _⟩
          · have hke : k = el.length := by omega
            have HROW := Lib.hid (Ps.pre_row el.length i)
            have HIS2 : Hid (Ps.Is 9 g ((Ps.pre el.length (i + 1) 0).filter (Ps.some_ g)) M) := Lib.hid (by have h := HIS.out; rw [hke, HROW.out] at h; exact h)
            have HNO2 : Hid (∀ x ∈ Ps.pre el.length (i + 1) 0, f x.1 x.2 = 0) := Lib.hid (by have h := HNO.out; rw [hke, HROW.out] at h; exact h)
            clear hke
            go_wp2_with fail
            clear hk20
            go_roundw
            case rel => exact ⟨i + 1, M, by omega, by go_num, HOP.out, HIS2.out, HNO2.out, by omega, HB.out, hb⟩
            case measure => simp [intOf]; omega
      · have hie : i = el.length := by omega
        have HE1 : Hid (E = 0) := Lib.hid (by rw [HE.out]; exact Ps.E_none (by have h := HNO.out; rw [hie] at h; exact h))
        have HD1 : Hid (Ps.Is 9 g D L) := Lib.hid (by rw [HD.out, if_pos HE1.out]; have h := HIS.out; rw [hie] at h; exact h)
        clear hie
        go_wp2_with fail
        go_ret2
        exact ⟨_, L, by rw [HE1.out]; rfl, HOP.out, HD1.out, hb⟩
  · have hc0 : ck ≠ 0 := by simpa using hx
    have HE1 : Hid (E = ck) := Lib.hid (by rw [HE.out, if_neg hc0])
    have HD1 : Hid (D = []) := Lib.hid (by rw [HD.out, if_neg (by rw [HE1.out]; exact hc0)])
    clear hc0 hk20
    go_wp2_with fail
    go_ret2
    exact ⟨_, [], by rw [HE1.out]; rfl, ownPs_nil _ _ _ _, by rw [HD1.out]; exact Ps.is_nil _ _, hb⟩
end
end Go.Proofs.YtnkmjdaeafeaaaaGreat
