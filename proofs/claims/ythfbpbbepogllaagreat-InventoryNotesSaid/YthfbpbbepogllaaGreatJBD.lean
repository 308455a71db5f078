/- Texts of this claim, put together. -/
import Derived.Test.YthfbpbbepogllaaGreatJAZ
import Derived.Test.YthfbpbbepogllaaGreatInvPostWZ
import Derived.Test.YthfbpbbepogllaaGreatJBC
/- The postings of all pairs: which, in which order, and the first error. No walk. -/
namespace Go.Proofs.YthfbpbbepogllaaGreat
set_option linter.unusedVariables false
set_option linter.unusedSimpArgs false
open Go.RowKit

namespace Ps
def row (n : Nat) (i : Nat) : List (Int × Int) := (List.range n).map fun k => ((i : Int), ((k : Nat) : Int))
/-- the pairs before (i, k) -/
def pre (n i k : Nat) : List (Int × Int) := (List.range i).flatMap (row n) ++ (List.range k).map fun j => ((i : Int), ((j : Nat) : Int))
def pairs (n : Nat) : List (Int × Int) := pre n n 0
theorem pre_zero (n : Nat) : pre n 0 0 = [] := rfl
theorem pre_step (n i k : Nat) : pre n i (k + 1) = pre n i k ++ [((i : Int), (k : Int))] := by
  unfold pre
  rw [List.range_succ, List.map_append, List.append_assoc]
  rfl
theorem pre_row (n i : Nat) : pre n i n = pre n (i + 1) 0 := by
  unfold pre
  rw [List.range_succ, List.flatMap_append]
  simp [row]
theorem range_pre {a b : Nat} (h : a ≤ b) : List.range a <+: List.range b := by
  have : (List.range b).take a = List.range a := by rw [List.take_range]; congr 1; omega
  rw [← this]
  exact List.take_prefix _ _
theorem pre_pre {n i k : Nat} (hi : i < n) (hk : k < n) : ∃ r, pairs n = pre n i k ++ ((i : Int), (k : Int)) :: r := by
  have h1 : pre n i (k + 1) <+: pre n (i + 1) 0 := by
    rw [← pre_row]
    unfold pre
    obtain ⟨t, ht⟩ := range_pre (show k + 1 ≤ n by omega)
    exact ⟨t.map fun j => ((i : Int), ((j : Nat) : Int)), by rw [List.append_assoc, ← List.map_append, ht]⟩
  have h2 : pre n (i + 1) 0 <+: pairs n := by
    unfold pairs pre
    obtain ⟨t, ht⟩ := range_pre (show i + 1 ≤ n by omega)
    exact ⟨t.flatMap (row n), by simp [← List.flatMap_append, ht]⟩
  obtain ⟨r, hr⟩ := h1.trans h2
  exact ⟨r, by rw [← hr, pre_step, List.append_assoc]; rfl⟩
noncomputable def E (n : Nat) (f : Int → Int → Int) : Int := match (pairs n).find? (fun x => f x.1 x.2 != 0) with | some x => f x.1 x.2 | none => 0
theorem E_hit {n i k : Nat} {f : Int → Int → Int} (hi : i < n) (hk : k < n) (hno : ∀ x ∈ pre n i k, f x.1 x.2 = 0) (h : f i k ≠ 0) : E n f = f i k := by
  obtain ⟨r, hr⟩ := pre_pre hi hk
  unfold E
  have h0 : (pre n i k).find? (fun x => f x.1 x.2 != 0) = none := by
    rw [List.find?_eq_none]
    intro x hx
    rw [hno x hx]; decide
  rw [hr, List.find?_append, h0, List.find?_cons_of_pos (by simpa using h)]
  rfl
theorem E_none {n : Nat} {f : Int → Int → Int} (hno : ∀ x ∈ pairs n, f x.1 x.2 = 0) : E n f = 0 := by
  unfold E
  have h0 : (pairs n).find? (fun x => f x.1 x.2 != 0) = none := by
    rw [List.find?_eq_none]
    intro x hx
    rw [hno x hx]; decide
  rw [h0]
def some_ (g : Int → Int → List Bal) (x : Int × Int) : Bool := !(g x.1 x.2).isEmpty
/-- postings for pairs -/
def Is (kd : Int) (g : Int → Int → List Bal) (D : List (Int × Int)) (L : List PostR) : Prop :=
  L.length = D.length ∧ ∀ j (h1 : j < L.length) (h2 : j < D.length), Dv.IsP kd D[j].1 D[j].2 (g D[j].1 D[j].2) L[j]
theorem is_nil (kd : Int) (g : Int → Int → List Bal) : Is kd g [] [] := ⟨rfl, fun j h => by simp at h⟩
theorem is_snoc {kd : Int} {g : Int → Int → List Bal} {D : List (Int × Int)} {L : List PostR} {i k : Int} {x : PostR} (h : Is kd g D L) (hx : Dv.IsP kd i k (g i k) x) : Is kd g (D ++ [(i, k)]) (L ++ [x]) := by
  refine ⟨by rw [List.length_append, List.length_append, h.1]; rfl, fun j h1 h2 => ?_⟩
  by_cases e : j < L.length
  · have e2 : j < D.length := by rw [← h.1]; exact e
    rw [List.getElem_append_left e]
    have := h.2 j e e2
    simp only [List.getElem_append_left e2]
    exact this
  · rw [List.length_append, List.length_singleton] at h1
    have ej : j = L.length := by omega
    subst ej
    have e3 : L.length = D.length := h.1
    simp [e3, hx]
theorem filter_yes {g : Int → Int → List Bal} {D : List (Int × Int)} {i k : Int} (h : g i k ≠ []) : (D ++ [(i, k)]).filter (some_ g) = D.filter (some_ g) ++ [(i, k)] := by
  rw [List.filter_append]
  simp [some_, h]
theorem filter_no {g : Int → Int → List Bal} {D : List (Int × Int)} {i k : Int} (h : g i k = []) : (D ++ [(i, k)]).filter (some_ g) = D.filter (some_ g) := by
  rw [List.filter_append]
  simp [some_, h]
end Ps
theorem Ps.same {kd : Int} {g : Int → Int → List Bal} {D : List (Int × Int)} {L M : List PostR} (h1 : Ps.Is kd g D L) (h2 : Ps.Is kd g D M) (same : ∀ {kd i k : Int} {L : List Bal} {x z : PostR}, Dv.IsP kd i k L x → Dv.IsP kd i k L z → x.kind = z.kind ∧ x.entity = z.entity ∧ x.other = z.other ∧ x.rule = z.rule ∧ x.parts.l = z.parts.l) :
    L.length = M.length ∧ ∀ j (a : j < L.length) (b : j < M.length), L[j].kind = M[j].kind ∧ L[j].entity = M[j].entity ∧ L[j].other = M[j].other ∧ L[j].rule = M[j].rule ∧ L[j].parts.l = M[j].parts.l :=
  ⟨h1.1.trans h2.1.symm, fun j a b => same (h1.2 j a (by rw [← h1.1]; exact a)) (h2.2 j b (by rw [← h2.1]; exact b))⟩
end Go.Proofs.YthfbpbbepogllaaGreat
/- The walks of Postings of dividends and of its reference. -/
namespace Go.Proofs.YthfbpbbepogllaaGreat
set_option linter.unusedVariables false
set_option linter.unusedSimpArgs false
open Go.RowKit

/-- postings of a call's own, with parts of its own -/
structure OwnPs (T TP : TypeId) (base : Nat) (w : World) (v : Value) (L : List PostR) : Prop where
  own : w.ownsRow base T 5 v L.length (cellsOf PostR.cells L)
  pts : ∀ x ∈ L, OwnSl Bal.cells base TP 2 w x.parts
def PsPost (T TP : TypeId) (kd : Int) (g : Int → Int → List Bal) (E : Int) (D : List (Int × Int)) (w : World) (en : Ending) (w' : World) : Prop :=
  ∃ (v : Value) (L : List PostR), en = .returned (.tuple #[v, .int .i64 E]) ∧ OwnPs T TP w.heap.size w' v L ∧ Ps.Is kd g D L ∧ Below w.heap.size w w'
theorem ownPs_nil (T TP : TypeId) (base : Nat) (w : World) : OwnPs T TP base w (.slice none 0 0) [] := ⟨World.ownsRow_nil _ _ _ _, fun x hx => by cases hx⟩
theorem OwnPs.step {T TP : TypeId} {base : Nat} {w w' : World} {v : Value} {L : List PostR} (h : OwnPs T TP base w v L) (hb : Below w.heap.size w w') : OwnPs T TP base w' v L :=
  ⟨own_step h.own hb, fun x hx => own_step (h.pts x hx) hb⟩
theorem OwnPs.snoc {T TP : TypeId} {base : Nat} {w w' : World} {v v' : Value} {L : List PostR} {x : PostR} (h : OwnPs T TP base w v L) (hx : OwnSl Bal.cells base TP 2 w x.parts) (hne : TP ≠ T) (ho : w'.ownsRow base T 5 v' (L.length + 1) (cellsOf PostR.cells (L ++ [x]))) (hg : w.grownBy w' v.ownBlock) : OwnPs T TP base w' v' (L ++ [x]) := by
  refine ⟨by rw [List.length_append]; exact ho, fun y hy => ?_⟩
  rcases List.mem_append.1 hy with hy | hy
  · exact own_apart (h.pts y hy) h.own hne hg
  · rw [List.mem_singleton] at hy
    subst hy
    exact own_apart hx h.own hne hg
theorem pin_own {T TP : TypeId} {base : Nat} {w : World} {A : Option Addr} {n c : Nat} {L : List PostR} (h : OwnPs T TP base w (.slice A n c) L) (hl : L.length ≤ 1000000) (hf : ∀ x ∈ L, x.parts.l.length ≤ 1000000) : n = L.length ∧ Rd w w.heap.size 5 A L.length (cellsOf PostR.cells L) ∧ ∀ x ∈ L, Rd w w.heap.size 2 x.parts.A x.parts.l.length (cellsOf Bal.cells x.parts.l) := by
  obtain ⟨A', c', e, hr⟩ := Rd.of_own h.own
  injection e with e1 e2 e3
  subst e1 e2 e3
  exact ⟨rfl, hr, fun x hx => own_rd (h.pts x hx)⟩
namespace Dv
noncomputable def psF (n : Nat) (d r : Int) (l : List ConR) (i k : Int) : Int := pE true 0 1 n d r l i k
noncomputable def psE (V : Bool) (p P : Int) (n : Nat) (d r : Int) (l : List ConR) : Int := if ck V p P = 0 then Ps.E n (pE V p P n d r l) else ck V p P
noncomputable def psD (V : Bool) (p P : Int) (n : Nat) (d r : Int) (l : List ConR) : List (Int × Int) := if psE V p P n d r l = 0 then (Ps.pairs n).filter (Ps.some_ (pL V p P n d r l)) else []
end Dv
theorem bk_cell {w : World} {b : Nat} {t : TypeId} {bcs gcs : Array Value} (hB : Blk w b t bcs) (h : BkIs bcs gcs) (j : Nat) (hj : j < 21) : w.cell? ⟨b, j, none⟩ = gcs[j]? := (hB.cell j).trans (h.grp j hj)
section
variable (gcs : Array Value) (cur : ByteArray) (y m p : Int) (cl : List Acc) (cA : Option Addr) (cc : Nat) (ro : RolesR) (el : List EntR) (eA : Option Addr) (ec : Nat) (w : World)
theorem post_info : (Tryz.prog.info? 48).map (fun i => (i.zero, i.size, i.bytes)) = some (some (.agg zeroPost), 5, 56) := by kernel_rfl
end
end Go.Proofs.YthfbpbbepogllaaGreat
/- The walks of Postings of inventory and of its reference. -/
namespace Go.Proofs.YthfbpbbepogllaaGreat
set_option linter.unusedVariables false
set_option linter.unusedSimpArgs false
open Go.RowKit

namespace Iv
noncomputable def psE (V : Bool) (q p : Int) (n : Nat) (ro : RolesR) (l : List StkR) (c : List ConR) : Int := if Dv.ck (val V p n l) q p = 0 then Ps.E n (pE V q p n ro l c) else Dv.ck (val V p n l) q p
noncomputable def psD (V : Bool) (q p : Int) (n : Nat) (ro : RolesR) (l : List StkR) (c : List ConR) : List (Int × Int) := if psE V q p n ro l c = 0 then (Ps.pairs n).filter (Ps.some_ (pL V q p n ro l c)) else []
end Iv
/-- contributions and notes as they lie in a world -/
structure CSIn (w : World) (cs : List ConR) (A : Option Addr) (l : List StkR) (sA : Option Addr) : Prop where
  c : CIn w cs A
  s : SIn w l sA
theorem CSIn.step {w w2 : World} {cs : List ConR} {A : Option Addr} {l : List StkR} {sA : Option Addr} (h : CSIn w cs A l sA) (hb : Below w.heap.size w w2) : CSIn w2 cs A l sA := ⟨h.c.step hb, h.s.step hb⟩
section
variable (gcs : Array Value) (cur : ByteArray) (y m p : Int) (cl : List Acc) (cA : Option Addr) (cc : Nat) (ro : RolesR) (el : List EntR) (eA : Option Addr) (ec : Nat) (w : World)
set_option maxRecDepth 100000 in
set_option maxHeartbeats 16000000 in
theorem ipostings_any (bcs : Array Value) (l : List StkR) (sA : Option Addr) (sc : Nat) (cs : List ConR) (q : Int) (A : Option Addr) (c : Nat) (HG : Hid (gcs = #[.string cur, .int .i64 y, .int .i64 m, .int .i64 p, .slice cA cl.length cc, .int .i64 ro.investment, .int .i64 ro.goodwill, .int .i64 ro.associates, .int .i64 ro.inventory, .int .i64 ro.reserve, .int .i64 ro.minority, .int .i64 ro.retained, .int .i64 ro.acquired, .int .i64 ro.owners, .int .i64 ro.disposal, .int .i64 ro.associateProfit, .int .i64 ro.dividends, .int .i64 ro.minorityProfit, .int .i64 ro.difference, .int .i64 ro.margin, .slice eA el.length ec])) (hBK : BkSt bcs gcs (.slice sA l.length sc)) (h : GIn w cl cA el eA) (hF : FewOk cur cl el) (hS : SIn w l sA) (hC : CIn w cs A) (hw1 : Wf ro.inventory) (hw2 : Wf ro.retained) (hw3 : Wf ro.margin) :
    Calls Tryz.prog 22 #[.agg bcs, .slice A cs.length c, .int .i64 q] w
      (PsPost 48 68 8 (Iv.pL (Gr.gv cur cl ro el (Cal.ok y m p)) q p el.length ro l cs) (Iv.psE (Gr.gv cur cl ro el (Cal.ok y m p)) q p el.length ro l cs) (Iv.psD (Gr.gv cur cl ro el (Cal.ok y m p)) q p el.length ro l cs) w) := by
  have hb : Below w.heap.size w (w.alloc (.cells bcs 36)) := (Below.refl _ _).alloc (Nat.le_refl _) _
  have HB := Lib.hid (Blk.new w 36 bcs)
  have HST := Lib.hid hBK.st
  have HBK := Lib.hid hBK.toBkIs
  have H := Lib.hid h
  have HC := Lib.hid (CSIn.mk hC hS)
  have hel := hF.en
  have hg21 : (Tryz.prog.info? 29).map (·.size) = some 21 := grp_size
  have hbz : (Tryz.prog.info? 36).map (·.size) = some bcs.size := by rw [hBK.size]; kernel_rfl
  obtain ⟨i0, hi0, hz0, hz1, hz2⟩ := info_parts post_info
  have KC := Lib.hid (fun W h hS => icheck_any gcs cur y m p cl cA cc ro el eA ec W l sA sc q HG h hF hS)
  have KP := Lib.hid (fun W i k h (hCS : CSIn W cs A l sA) => iposting_any gcs cur y m p cl cA cc ro el eA ec W bcs l sA sc cs i k q A c HG hBK h hF hCS.s hCS.c hw1 hw2 hw3)
  clear h hC hBK hF hS
  have HE : Hid (Iv.psE (Gr.gv cur cl ro el (Cal.ok y m p)) q p el.length ro l cs = if Dv.ck (Iv.val (Gr.gv cur cl ro el (Cal.ok y m p)) p el.length l) q p = 0 then Ps.E el.length (Iv.pE (Gr.gv cur cl ro el (Cal.ok y m p)) q p el.length ro l cs) else Dv.ck (Iv.val (Gr.gv cur cl ro el (Cal.ok y m p)) p el.length l) q p) := Lib.hid rfl
  have HD : Hid (Iv.psD (Gr.gv cur cl ro el (Cal.ok y m p)) q p el.length ro l cs = if Iv.psE (Gr.gv cur cl ro el (Cal.ok y m p)) q p el.length ro l cs = 0 then (Ps.pairs el.length).filter (Ps.some_ (Iv.pL (Gr.gv cur cl ro el (Cal.ok y m p)) q p el.length ro l cs)) else []) := Lib.hid rfl
  generalize Iv.psE (Gr.gv cur cl ro el (Cal.ok y m p)) q p el.length ro l cs = E at *
  generalize Iv.psD (Gr.gv cur cl ro el (Cal.ok y m p)) q p el.length ro l cs = D at *
  generalize Dv.ck (Iv.val (Gr.gv cur cl ro el (Cal.ok y m p)) p el.length l) q p = ck at *
  generalize Iv.pE (Gr.gv cur cl ro el (Cal.ok y m p)) q p el.length ro l cs = f at *
  generalize Iv.pL (Gr.gv cur cl ro el (Cal.ok y m p)) q p el.length ro l cs = g at *
  unfold IntPost at KC
  go_enter Tryz.func22, Tryz.ntmps22
  go_upto_region 1 with fail
  generalize w.alloc (.cells bcs 36) = W at *
  have k25 : W.cell? ⟨w.heap.size, 25, none⟩ = some (.slice sA l.length sc) := (HB.out.cell 25).trans HST.out
  go_upto_region 2 with (first
    | (refine wpList_load_arr rfl 29 (.tmp 14) rfl w.heap.size 0 rfl gcs (bk_range HB.out HBK.out) Tryz.underlying29 21 hg21 HBK.out.gsz ?_)
    | (go_at_call 35; refine (KC.out _ (H.out.step hb) (HC.out.s.step hb)).mono ?_; rintro en w4 ⟨rfl, hb9⟩; replace hb := bel hb hb9; replace HB := Lib.hid (HB.out.step hb9); clear hb9 k25))
  have hk20 : w4.cell? ⟨w.heap.size, 20, none⟩ = some (.slice eA el.length ec) := (bk_cell HB.out HBK.out 20 (by omega)).trans (by rw [HG.out]; rfl)
  cases hx : (ck != 0)
  · have hc0 : ck = 0 := by simpa using hx
    clear hx
    subst hc0
    rw [if_pos rfl] at HE
    go_wp2_with fail
    clear hk20
    go_loopw [9, 27] (fun v t wr => ∃ (i : Nat) (L : List PostR), i ≤ el.length ∧ t = .int .i64 i ∧ OwnPs 48 68 w.heap.size wr v L ∧ Ps.Is 8 g ((Ps.pre el.length i 0).filter (Ps.some_ g)) L ∧ (∀ x ∈ Ps.pre el.length i 0, f x.1 x.2 = 0) ∧ L.length ≤ 1000 * i ∧ Blk wr w.heap.size 36 bcs ∧ Below w.heap.size w wr) (fun _ t _ => el.length - (intOf t).toNat)
    case atStart => exact ⟨0, [], by omega, rfl, ownPs_nil _ _ _ _, Ps.is_nil _ _, (fun x hx => by cases hx), Nat.zero_le _, HB.out, hb⟩
    case round =>
      clear hb HB
      obtain ⟨i, L, hi, rfl, hOP, hIS, hno, hLL, hB, hb⟩ := hrel
      have HOP := Lib.hid hOP
      have HIS := Lib.hid hIS
      have HNO := Lib.hid hno
      have HB := Lib.hid hB
      clear hOP hIS hno hB
      have hk20 : wr.cell? ⟨w.heap.size, 20, none⟩ = some (.slice eA el.length ec) := (bk_cell HB.out HBK.out 20 (by omega)).trans (by rw [HG.out]; rfl)
      by_cases hil : i < el.length
      · obtain ⟨wo, rfl⟩ : ∃ wo : World, wo = wr := ⟨_, rfl⟩
        go_wp2_with fail
        clear hk20
        go_loopw [9, 34] (fun v t wr => ∃ (k : Nat) (L : List PostR), k ≤ el.length ∧ t = .int .i64 k ∧ OwnPs 48 68 w.heap.size wr v L ∧ Ps.Is 8 g ((Ps.pre el.length i k).filter (Ps.some_ g)) L ∧ (∀ x ∈ Ps.pre el.length i k, f x.1 x.2 = 0) ∧ L.length ≤ 1000 * i + k ∧ Blk wr w.heap.size 36 bcs ∧ Below w.heap.size w wr) (fun _ t _ => el.length - (intOf t).toNat)
        case atStart => exact ⟨0, L, by omega, rfl, HOP.out, HIS.out, HNO.out, by omega, HB.out, hb⟩
        case round =>
          clear hb HB HOP HIS HNO hLL
          obtain ⟨k, M, hk, rfl, hOP, hIS, hno, hLL, hB, hb⟩ := hrel
          have HOP := Lib.hid hOP
          have HIS := Lib.hid hIS
          have HNO := Lib.hid hno
          have HB := Lib.hid hB
          have hz := hb.size
          clear hOP hIS hno hB
          have hk20 : wr.cell? ⟨w.heap.size, 20, none⟩ = some (.slice eA el.length ec) := (bk_cell HB.out HBK.out 20 (by omega)).trans (by rw [HG.out]; rfl)
          by_cases hkl : k < el.length
          · have K := Lib.hid (KP.out wr i k (H.out.step hb) (HC.out.step hb))
            have HHIT := Lib.hid (Ps.E_hit (f := f) hil hkl HNO.out)
            have HSTEP := Lib.hid (Ps.pre_step el.length i k)
            unfold PPost at K
            have HFE : Hid (f i k = f i k) := Lib.hid rfl
            generalize hfe : f (i : Int) (k : Int) = e at *
            have HFE := Lib.hid hfe
            clear hfe
            generalize hgl : g (i : Int) (k : Int) = gl at *
            have HGL := Lib.hid hgl
            clear hgl
            cases hee : (e != 0)
            · have he0 : e = 0 := by simpa using hee
              subst he0
              clear hee HHIT
              have HNO2 : Hid (∀ x ∈ Ps.pre el.length i (k + 1), f x.1 x.2 = 0) := Lib.hid (fun x hx => by
                rw [HSTEP.out] at hx
                rcases List.mem_append.1 hx with hx | hx
                · exact HNO.out x hx
                · rw [List.mem_singleton] at hx
                  subst hx
                  exact HFE.out)
              by_cases hgn : gl = []
              · have HIS2 : Hid (Ps.Is 8 g ((Ps.pre el.length i (k + 1)).filter (Ps.some_ g)) M) := Lib.hid (by rw [HSTEP.out, Ps.filter_no (by rw [HGL.out, hgn])]; exact HIS.out)
                go_wp2_with (first
                  | (refine wpList_load_blk 36 (.tmp 3) rfl w.heap.size rfl (by kernel_rfl) HB.out Tryz.underlying36 hbz ?_)
                  | (go_at_call 13; refine K.out.mono ?_; rintro en w6 ⟨x, rfl, hI, hOw, hb9⟩; have hb6 := bel hb hb9; have HB6 := Lib.hid (HB.out.step hb9); have HOP6 := Lib.hid (HOP.out.step hb9); clear hb9 hOw; obtain ⟨xk, xe, xo, xr, ⟨xl, xA, xc⟩⟩ := x; have hxl : xl = [] := hI.1.trans hgn; subst hxl; clear hI; simp only [PostR.arr, Sl.val, List.length_nil]))
                clear hk20 hgn
                have hst := (Below.refl w6.heap.size w6).alloc (Nat.le_refl _) (.cells #[.int .i64 xk, .int .i64 xe, .int .i64 xo, .int .i64 xr, .slice xA 0 xc] 48)
                go_roundw
                case rel => exact ⟨k + 1, M, by omega, by go_num, HOP6.out.step hst, HIS2.out, HNO2.out, by omega, HB6.out.step hst, bel hb6 hst⟩
                case measure => simp [intOf]; omega
              · have HGN := Lib.hid hgn
                have hgp : 0 < gl.length := List.length_pos_iff.2 hgn
                clear hgn
                go_wp2_with (first
                  | (refine wpList_load_blk 36 (.tmp 3) rfl w.heap.size rfl (by kernel_rfl) HB.out Tryz.underlying36 hbz ?_)
                  | (go_at_call 13; refine K.out.mono ?_; rintro en w6 ⟨x, rfl, hI, hOw, hb9⟩; have hb6 := bel hb hb9; have HB6 := Lib.hid (HB.out.step hb9); have HOP6 := Lib.hid (HOP.out.step hb9); have HOW := Lib.hid (own_base hOw hz); have hlw := hb9.size; clear hb9 hOw; obtain ⟨xk, xe, xo, xr, ⟨xl, xA, xc⟩⟩ := x; have hxl : xl = gl := hI.1; subst hxl; have HI := Lib.hid hI; clear hI; simp only [PostR.arr, Sl.val])
                  | (at_builtin; refine wpList_append_rec PostR.cells 5 PostR.len PostR.one rfl (.tmp 53) (.tmp 55) 54 rfl w.heap.size 48 i0 (.agg zeroPost) 56 Tryz.underlying54 hi0 hz0 hz1 hz2 rfl (by decide) _ M rfl ((HOP6.out.own.alloc (.cells #[.int .i64 xk, .int .i64 xe, .int .i64 xo, .int .i64 xr, .slice xA xl.length xc] 48)).alloc _) (w6.heap.size + 1) 1 ⟨xk, xe, xo, xr, ⟨xl, xA, xc⟩⟩ #[.int .i64 xk, .int .i64 xe, .int .i64 xo, .int .i64 xr, .slice xA xl.length xc] rfl (blk_new2 _ _ _ _) rfl (by simp only [maxLen]; omega) (by omega) (by simp; omega) ?_))
                intro v7 w7 ho7 hg7
                have hst := (Below.refl w6.heap.size w6).alloc (Nat.le_refl _) (.cells #[.int .i64 xk, .int .i64 xe, .int .i64 xo, .int .i64 xr, .slice xA xl.length xc] 48)
                have hst2 := hst.alloc hst.size (.cells #[.int .i64 xk, .int .i64 xe, .int .i64 xo, .int .i64 xr, .slice xA xl.length xc] 48)
                have HOP7 := Lib.hid ((HOP6.out.step hst2).snoc (own_step HOW.out hst2) (by decide) ho7 hg7)
                have HB7 := Lib.hid ((HB6.out.step hst2).grown hg7 (own_ne_blk (HOP6.out.step hst2).own (HB6.out.step hst2) (by decide)))
                have hb7 := bel_own (bel hb6 hst2) (by have := hst2.size; omega) (HOP6.out.step hst2).own hg7
                have HIS7 : Hid (Ps.Is 8 g ((Ps.pre el.length i (k + 1)).filter (Ps.some_ g)) (M ++ [⟨xk, xe, xo, xr, ⟨xl, xA, xc⟩⟩])) := Lib.hid (by rw [HSTEP.out, Ps.filter_yes (by rw [HGL.out]; exact HGN.out)]; exact Ps.is_snoc HIS.out (by rw [HGL.out]; exact HI.out))
                have hLM : (M ++ [(⟨xk, xe, xo, xr, ⟨xl, xA, xc⟩⟩ : PostR)]).length ≤ 1000 * i + (k + 1) := by rw [List.length_append, List.length_singleton]; omega
                generalize M ++ [(⟨xk, xe, xo, xr, ⟨xl, xA, xc⟩⟩ : PostR)] = M2 at *
                clear hg7 ho7 hst hst2 hk20
                go_wp2_with fail
                go_roundw
                case rel => exact ⟨k + 1, M2, by omega, by go_num, HOP7.out, HIS7.out, HNO2.out, hLM, HB7.out, hb7⟩
                case measure => simp [intOf]; omega
            · have hene : e ≠ 0 := by simpa using hee
              have HE1 : Hid (E = e) := Lib.hid (by rw [HE.out]; first | exact HHIT.out hene | (rw [HHIT.out (by rw [HFE.out]; exact hene)]; exact HFE.out))
              have HD1 : Hid (D = []) := Lib.hid (by rw [HD.out, if_neg (by rw [HE1.out]; exact hene)])
              clear hene
              go_wp2_with (first
                | (refine wpList_load_blk 36 (.tmp 3) rfl w.heap.size rfl (by kernel_rfl) HB.out Tryz.underlying36 hbz ?_)
                | (go_at_call 13; refine K.out.mono ?_; rintro en w6 ⟨x, rfl, hI, hOw, hb9⟩; have hb6 := bel hb hb9; clear hb9 hOw hI; obtain ⟨xk, xe, xo, xr, ⟨xl, xA, xc⟩⟩ := x; simp only [PostR.arr, Sl.val]))
              go_ret2
              exact ⟨_, [], by rw [HE1.out]; rfl, ownPs_nil _ _ _ _, by rw [HD1.out]; exact Ps.is_nil _ _, hb6.alloc hb6.size _⟩
          · have hke : k = el.length := by omega
            have HROW := Lib.hid (Ps.pre_row el.length i)
            have HIS2 : Hid (Ps.Is 8 g ((Ps.pre el.length (i + 1) 0).filter (Ps.some_ g)) M) := Lib.hid (by have h := HIS.out; rw [hke, HROW.out] at h; exact h)
            have HNO2 : Hid (∀ x ∈ Ps.pre el.length (i + 1) 0, f x.1 x.2 = 0) := Lib.hid (by have h := HNO.out; rw [hke, HROW.out] at h; exact h)
            clear hke
            go_wp2_with fail
            clear hk20
            go_roundw
            case rel => exact ⟨i + 1, M, by omega, by go_num, HOP.out, HIS2.out, HNO2.out, by omega, HB.out, hb⟩
            case measure => simp [intOf]; omega
      · have hie : i = el.length := by omega
        have HE1 : Hid (E = 0) := Lib.hid (by rw [HE.out]; exact Ps.E_none (by have h := HNO.out; rw [hie] at h; exact h))
        have HD1 : Hid (Ps.Is 8 g D L) := Lib.hid (by rw [HD.out, if_pos HE1.out]; have h := HIS.out; rw [hie] at h; exact h)
        clear hie
        go_wp2_with fail
        go_ret2
        exact ⟨_, L, by rw [HE1.out]; rfl, HOP.out, HD1.out, hb⟩
  · have hc0 : ck ≠ 0 := by simpa using hx
    have HE1 : Hid (E = ck) := Lib.hid (by rw [HE.out, if_neg hc0])
    have HD1 : Hid (D = []) := Lib.hid (by rw [HD.out, if_neg (by rw [HE1.out]; exact hc0)])
    clear hc0 hk20
    go_wp2_with fail
    go_ret2
    exact ⟨_, [], by rw [HE1.out]; rfl, ownPs_nil _ _ _ _, by rw [HD1.out]; exact Ps.is_nil _ _, hb⟩
set_option maxRecDepth 100000 in
set_option maxHeartbeats 16000000 in
theorem ripostings_any (bcs : Array Value) (l : List StkR) (sA : Option Addr) (sc : Nat) (cs : List ConR) (q : Int) (A : Option Addr) (c : Nat) (HG : Hid (gcs = #[.string cur, .int .i64 y, .int .i64 m, .int .i64 p, .slice cA cl.length cc, .int .i64 ro.investment, .int .i64 ro.goodwill, .int .i64 ro.associates, .int .i64 ro.inventory, .int .i64 ro.reserve, .int .i64 ro.minority, .int .i64 ro.retained, .int .i64 ro.acquired, .int .i64 ro.owners, .int .i64 ro.disposal, .int .i64 ro.associateProfit, .int .i64 ro.dividends, .int .i64 ro.minorityProfit, .int .i64 ro.difference, .int .i64 ro.margin, .slice eA el.length ec])) (hBK : BkSt bcs gcs (.slice sA l.length sc)) (h : GIn w cl cA el eA) (hF : FewOk cur cl el) (hS : SIn w l sA) (hC : CIn w cs A) :
    Calls Tryz.prog 23 #[.agg bcs, .slice A cs.length c, .int .i64 q] w
      (PsPost 48 68 8 (Iv.pL (Gr.gv cur cl ro el (Cal.ok y m p)) q p el.length ro l cs) (Iv.psE (Gr.gv cur cl ro el (Cal.ok y m p)) q p el.length ro l cs) (Iv.psD (Gr.gv cur cl ro el (Cal.ok y m p)) q p el.length ro l cs) w) := by
  have hb : Below w.heap.size w (w.alloc (.cells bcs 36)) := (Below.refl _ _).alloc (Nat.le_refl _) _
  have HB := Lib.hid (Blk.new w 36 bcs)
  have HST := Lib.hid hBK.st
  have HBK := Lib.hid hBK.toBkIs
  have H := Lib.hid h
  have HC := Lib.hid (CSIn.mk hC hS)
  have hel := hF.en
  have hg21 : (Tryz.prog.info? 29).map (·.size) = some 21 := grp_size
  have hbz : (Tryz.prog.info? 36).map (·.size) = some bcs.size := by rw [hBK.size]; kernel_rfl
  obtain ⟨i0, hi0, hz0, hz1, hz2⟩ := info_parts post_info
  have KC := Lib.hid (fun W h hS => richeck_any gcs cur y m p cl cA cc ro el eA ec W l sA sc q HG h hF hS)
  have KP := Lib.hid (fun W i k h (hCS : CSIn W cs A l sA) => riposting_any gcs cur y m p cl cA cc ro el eA ec W bcs l sA sc cs i k q A c HG hBK h hF hCS.s hCS.c)
  clear h hC hBK hF hS
  have HE : Hid (Iv.psE (Gr.gv cur cl ro el (Cal.ok y m p)) q p el.length ro l cs = if Dv.ck (Iv.val (Gr.gv cur cl ro el (Cal.ok y m p)) p el.length l) q p = 0 then Ps.E el.length (Iv.pE (Gr.gv cur cl ro el (Cal.ok y m p)) q p el.length ro l cs) else Dv.ck (Iv.val (Gr.gv cur cl ro el (Cal.ok y m p)) p el.length l) q p) := Lib.hid rfl
  have HD : Hid (Iv.psD (Gr.gv cur cl ro el (Cal.ok y m p)) q p el.length ro l cs = if Iv.psE (Gr.gv cur cl ro el (Cal.ok y m p)) q p el.length ro l cs = 0 then (Ps.pairs el.length).filter (Ps.some_ (Iv.pL (Gr.gv cur cl ro el (Cal.ok y m p)) q p el.length ro l cs)) else []) := Lib.hid rfl
  generalize Iv.psE (Gr.gv cur cl ro el (Cal.ok y m p)) q p el.length ro l cs = E at *
  generalize Iv.psD (Gr.gv cur cl ro el (Cal.ok y m p)) q p el.length ro l cs = D at *
  generalize Dv.ck (Iv.val (Gr.gv cur cl ro el (Cal.ok y m p)) p el.length l) q p = ck at *
  generalize Iv.pE (Gr.gv cur cl ro el (Cal.ok y m p)) q p el.length ro l cs = f at *
  generalize Iv.pL (Gr.gv cur cl ro el (Cal.ok y m p)) q p el.length ro l cs = g at *
  unfold IntPost at KC
  go_enter Tryz.func23, Tryz.ntmps23
  go_upto_region 1 with fail
  generalize w.alloc (.cells bcs 36) = W at *
  have k25 : W.cell? ⟨w.heap.size, 25, none⟩ = some (.slice sA l.length sc) := (HB.out.cell 25).trans HST.out
  go_upto_region 2 with (first
    | (refine wpList_load_arr rfl 29 (.tmp 14) rfl w.heap.size 0 rfl gcs (bk_range HB.out HBK.out) Tryz.underlying29 21 hg21 HBK.out.gsz ?_)
    | (go_at_call 41; refine (KC.out _ (H.out.step hb) (HC.out.s.step hb)).mono ?_; rintro en w4 ⟨rfl, hb9⟩; replace hb := bel hb hb9; replace HB := Lib.hid (HB.out.step hb9); clear hb9 k25))
  have hk20 : w4.cell? ⟨w.heap.size, 20, none⟩ = some (.slice eA el.length ec) := (bk_cell HB.out HBK.out 20 (by omega)).trans (by rw [HG.out]; rfl)
  cases hx : (ck != 0)
  · have hc0 : ck = 0 := by simpa using hx
    clear hx
    subst hc0
    rw [if_pos rfl] at HE
    go_wp2_with fail
    clear hk20
    go_loopw [9, 10] (fun v t wr => ∃ (i : Nat) (L : List PostR), i ≤ el.length ∧ t = .int .i64 i ∧ OwnPs 48 68 w.heap.size wr v L ∧ Ps.Is 8 g ((Ps.pre el.length i 0).filter (Ps.some_ g)) L ∧ (∀ x ∈ Ps.pre el.length i 0, f x.1 x.2 = 0) ∧ L.length ≤ 1000 * i ∧ Blk wr w.heap.size 36 bcs ∧ Below w.heap.size w wr) (fun _ t _ => el.length - (intOf t).toNat)
    case atStart => exact ⟨0, [], by omega, rfl, ownPs_nil _ _ _ _, Ps.is_nil _ _, (fun x hx => by cases hx), Nat.zero_le _, HB.out, hb⟩
    case round =>
      clear hb HB
      obtain ⟨i, L, hi, rfl, hOP, hIS, hno, hLL, hB, hb⟩ := hrel
      have HOP := Lib.hid hOP
      have HIS := Lib.hid hIS
      have HNO := Lib.hid hno
      have HB := Lib.hid hB
      clear hOP hIS hno hB
      have hk20 : wr.cell? ⟨w.heap.size, 20, none⟩ = some (.slice eA el.length ec) := (bk_cell HB.out HBK.out 20 (by omega)).trans (by rw [HG.out]; rfl)
      by_cases hil : i < el.length
      · obtain ⟨wo, rfl⟩ : ∃ wo : World, wo = wr := ⟨_, rfl⟩
        go_wp2_with fail
        clear hk20
        go_loopw [9, 11] (fun v t wr => ∃ (k : Nat) (L : List PostR), k ≤ el.length ∧ t = .int .i64 k ∧ OwnPs 48 68 w.heap.size wr v L ∧ Ps.Is 8 g ((Ps.pre el.length i k).filter (Ps.some_ g)) L ∧ (∀ x ∈ Ps.pre el.length i k, f x.1 x.2 = 0) ∧ L.length ≤ 1000 * i + k ∧ Blk wr w.heap.size 36 bcs ∧ Below w.heap.size w wr) (fun _ t _ => el.length - (intOf t).toNat)
        case atStart => exact ⟨0, L, by omega, rfl, HOP.out, HIS.out, HNO.out, by omega, HB.out, hb⟩
        case round =>
          clear hb HB HOP HIS HNO hLL
          obtain ⟨k, M, hk, rfl, hOP, hIS, hno, hLL, hB, hb⟩ := hrel
          have HOP := Lib.hid hOP
          have HIS := Lib.hid hIS
          have HNO := Lib.hid hno
          have HB := Lib.hid hB
          have hz := hb.size
          clear hOP hIS hno hB
          have hk20 : wr.cell? ⟨w.heap.size, 20, none⟩ = some (.slice eA el.length ec) := (bk_cell HB.out HBK.out 20 (by omega)).trans (by rw [HG.out]; rfl)
          by_cases hkl : k < el.length
          · have K := Lib.hid (KP.out wr i k (H.out.step hb) (HC.out.step hb))
            have HHIT := Lib.hid (Ps.E_hit (f := f) hil hkl HNO.out)
            have HSTEP := Lib.hid (Ps.pre_step el.length i k)
            unfold PPost at K
            have HFE : Hid (f i k = f i k) := Lib.hid rfl
            generalize hfe : f (i : Int) (k : Int) = e at *
            have HFE := Lib.hid hfe
            clear hfe
            generalize hgl : g (i : Int) (k : Int) = gl at *
            have HGL := Lib.hid hgl
            clear hgl
            cases hee : (e != 0)
            · have he0 : e = 0 := by simpa using hee
              subst he0
              clear hee HHIT
              have HNO2 : Hid (∀ x ∈ Ps.pre el.length i (k + 1), f x.1 x.2 = 0) := Lib.hid (fun x hx => by
                rw [HSTEP.out] at hx
                rcases List.mem_append.1 hx with hx | hx
                · exact HNO.out x hx
                · rw [List.mem_singleton] at hx
                  subst hx
                  exact HFE.out)
              by_cases hgn : gl = []
              · have HIS2 : Hid (Ps.Is 8 g ((Ps.pre el.length i (k + 1)).filter (Ps.some_ g)) M) := Lib.hid (by rw [HSTEP.out, Ps.filter_no (by rw [HGL.out, hgn])]; exact HIS.out)
                go_wp2_with (first
                  | (refine wpList_load_blk 36 (.tmp 3) rfl w.heap.size rfl (by kernel_rfl) HB.out Tryz.underlying36 hbz ?_)
                  | (go_at_call 14; refine K.out.mono ?_; rintro en w6 ⟨x, rfl, hI, hOw, hb9⟩; have hb6 := bel hb hb9; have HB6 := Lib.hid (HB.out.step hb9); have HOP6 := Lib.hid (HOP.out.step hb9); clear hb9 hOw; obtain ⟨xk, xe, xo, xr, ⟨xl, xA, xc⟩⟩ := x; have hxl : xl = [] := hI.1.trans hgn; subst hxl; clear hI; simp only [PostR.arr, Sl.val, List.length_nil]))
                clear hk20 hgn
                have hst := (Below.refl w6.heap.size w6).alloc (Nat.le_refl _) (.cells #[.int .i64 xk, .int .i64 xe, .int .i64 xo, .int .i64 xr, .slice xA 0 xc] 48)
                go_roundw
                case rel => exact ⟨k + 1, M, by omega, by go_num, HOP6.out.step hst, HIS2.out, HNO2.out, by omega, HB6.out.step hst, bel hb6 hst⟩
                case measure => simp [intOf]; omega
              · have HGN := Lib.hid hgn
                have hgp : 0 < gl.length := List.length_pos_iff.2 hgn
                clear hgn
                go_wp2_with (first
                  | (refine wpList_load_blk 36 (.tmp 3) rfl w.heap.size rfl (by kernel_rfl) HB.out Tryz.underlying36 hbz ?_)
                  | (go_at_call 14; refine K.out.mono ?_; rintro en w6 ⟨x, rfl, hI, hOw, hb9⟩; have hb6 := bel hb hb9; have HB6 := Lib.hid (HB.out.step hb9); have HOP6 := Lib.hid (HOP.out.step hb9); have HOW := Lib.hid (own_base hOw hz); have hlw := hb9.size; clear hb9 hOw; obtain ⟨xk, xe, xo, xr, ⟨xl, xA, xc⟩⟩ := x; have hxl : xl = gl := hI.1; subst hxl; have HI := Lib.hid hI; clear hI; simp only [PostR.arr, Sl.val])
                  | (at_builtin; refine wpList_append_rec PostR.cells 5 PostR.len PostR.one rfl (.tmp 55) (.tmp 57) 54 rfl w.heap.size 48 i0 (.agg zeroPost) 56 Tryz.underlying54 hi0 hz0 hz1 hz2 rfl (by decide) _ M rfl ((HOP6.out.own.alloc (.cells #[.int .i64 xk, .int .i64 xe, .int .i64 xo, .int .i64 xr, .slice xA xl.length xc] 48)).alloc _) (w6.heap.size + 1) 1 ⟨xk, xe, xo, xr, ⟨xl, xA, xc⟩⟩ #[.int .i64 xk, .int .i64 xe, .int .i64 xo, .int .i64 xr, .slice xA xl.length xc] rfl (blk_new2 _ _ _ _) rfl (by simp only [maxLen]; omega) (by omega) (by simp; omega) ?_))
                intro v7 w7 ho7 hg7
                have hst := (Below.refl w6.heap.size w6).alloc (Nat.le_refl _) (.cells #[.int .i64 xk, .int .i64 xe, .int .i64 xo, .int .i64 xr, .slice xA xl.length xc] 48)
                have hst2 := hst.alloc hst.size (.cells #[.int .i64 xk, .int .i64 xe, .int .i64 xo, .int .i64 xr, .slice xA xl.length xc] 48)
                have HOP7 := Lib.hid ((HOP6.out.step hst2).snoc (own_step HOW.out hst2) (by decide) ho7 hg7)
                have HB7 := Lib.hid ((HB6.out.step hst2).grown hg7 (own_ne_blk (HOP6.out.step hst2).own (HB6.out.step hst2) (by decide)))
                have hb7 := bel_own (bel hb6 hst2) (by have := hst2.size; omega) (HOP6.out.step hst2).own hg7
                have HIS7 : Hid (Ps.Is 8 g ((Ps.pre el.length i (k + 1)).filter (Ps.some_ g)) (M ++ [⟨xk, xe, xo, xr, ⟨xl, xA, xc⟩⟩])) := Lib.hid (by rw [HSTEP.out, Ps.filter_yes (by rw [HGL.out]; exact HGN.out)]; exact Ps.is_snoc HIS.out (by rw [HGL.out]; exact HI.out))
                have hLM : (M ++ [(⟨xk, xe, xo, xr, ⟨xl, xA, xc⟩⟩ : PostR)]).length ≤ 1000 * i + (k + 1) := by rw [List.length_append, List.length_singleton]; omega
                generalize M ++ [(⟨xk, xe, xo, xr, ⟨xl, xA, xc⟩⟩ : PostR)] = M2 at *
                clear hg7 ho7 hst hst2 hk20
                go_wp2_with fail
                go_roundw
                case rel => exact ⟨k + 1, M2, by omega, by go_num, HOP7.out, HIS7.out, HNO2.out, hLM, HB7.out, hb7⟩
                case measure => simp [intOf]; omega
            · have hene : e ≠ 0 := by simpa using hee
              have HE1 : Hid (E = e) := Lib.hid (by rw [HE.out]; first | exact HHIT.out hene | (rw [HHIT.out (by rw [HFE.out]; exact hene)]; exact HFE.out))
              have HD1 : Hid (D = []) := Lib.hid (by rw [HD.out, if_neg (by rw [HE1.out]; exact hene)])
              clear hene
              go_wp2_with (first
                | (refine wpList_load_blk 36 (.tmp 3) rfl w.heap.size rfl (by kernel_rfl) HB.out Tryz.underlying36 hbz ?_)
                | (go_at_call 14; refine K.out.mono ?_; rintro en w6 ⟨x, rfl, hI, hOw, hb9⟩; have hb6 := bel hb hb9; clear hb9 hOw hI; obtain ⟨xk, xe, xo, xr, ⟨xl, xA, xc⟩⟩ := x; simp only [PostR.arr, Sl.val]))
              go_ret2
              exact ⟨_, [], by rw [HE1.out]; rfl, ownPs_nil _ _ _ _, by rw [HD1.out]; exact Ps.is_nil _ _, hb6.alloc hb6.size _⟩
          · have hke : k = el.length := by omega
            have HROW := Lib.hid (Ps.pre_row el.length i)
            have HIS2 : Hid (Ps.Is 8 g ((Ps.pre el.length (i + 1) 0).filter (Ps.some_ g)) M) := Lib.hid (by have h := HIS.out; rw [hke, HROW.out] at h; exact h)
            have HNO2 : Hid (∀ x ∈ Ps.pre el.length (i + 1) 0, f x.1 x.2 = 0) := Lib.hid (by have h := HNO.out; rw [hke, HROW.out] at h; exact h)
            clear hke
            go_wp2_with fail
            clear hk20
            go_roundw
            case rel => exact ⟨i + 1, M, by omega, by go_num, HOP.out, HIS2.out, HNO2.out, by omega, HB.out, hb⟩
            case measure => simp [intOf]; omega
      · have hie : i = el.length := by omega
        have HE1 : Hid (E = 0) := Lib.hid (by rw [HE.out]; exact Ps.E_none (by have h := HNO.out; rw [hie] at h; exact h))
        have HD1 : Hid (Ps.Is 8 g D L) := Lib.hid (by rw [HD.out, if_pos HE1.out]; have h := HIS.out; rw [hie] at h; exact h)
        clear hie
        go_wp2_with fail
        go_ret2
        exact ⟨_, L, by rw [HE1.out]; rfl, HOP.out, HD1.out, hb⟩
  · have hc0 : ck ≠ 0 := by simpa using hx
    have HE1 : Hid (E = ck) := Lib.hid (by rw [HE.out, if_neg hc0])
    have HD1 : Hid (D = []) := Lib.hid (by rw [HD.out, if_neg (by rw [HE1.out]; exact hc0)])
    clear hc0 hk20
    go_wp2_with fail
    go_ret2
    exact ⟨_, [], by rw [HE1.out]; rfl, ownPs_nil _ _ _ _, by rw [HD1.out]; exact Ps.is_nil _ _, hb⟩
end
end Go.Proofs.YthfbpbbepogllaaGreat
/- The parts of a dividend's posting; the number of pairs. No walk. -/
namespace Go.Proofs.YthfbpbbepogllaaGreat
set_option linter.unusedVariables false
set_option linter.unusedSimpArgs false
open Go.RowKit

theorem of_two (d r a b c : Int) : ofW [⟨d, a⟩, ⟨r, b⟩] c = (if r = c then wrap64 ((if d = c then wrap64 (0 + a) else 0) + b) else (if d = c then wrap64 (0 + a) else 0)) := rfl
theorem am_bd {n : Int} (h : amV n = true) : -1000000000000 ≤ n ∧ n ≤ 1000000000000 := by
  unfold amV at h
  simp at h
  omega
/-- the parts: none, or two that add up to 0 -/
def Two0 (L : List Bal) : Prop := L = [] ∨ ∃ c1 a1 c2 a2 : Int, L = [⟨c1, a1⟩, ⟨c2, a2⟩] ∧ a1 + a2 = 0 ∧ -1000000000000 ≤ a1 ∧ a1 ≤ 1000000000000 ∧ -1000000000000 ≤ a2 ∧ a2 ≤ 1000000000000
theorem isC_none {f : Int → Int} {L : List Bal} (h : IsC f L) (h0 : ∀ c, f c = 0) : L = [] := by
  cases L with
  | nil => rfl
  | cons x L =>
    have := (h.2 x).1 (by simp)
    rw [h0] at this
    exact absurd this.1.symm this.2
theorem isC_two {f : Int → Int} {L : List Bal} {c1 c2 : Int} (h : IsC f L) (hlt : c1 < c2) (h0 : ∀ c, c ≠ c1 → c ≠ c2 → f c = 0) (h1 : f c1 ≠ 0) (h2 : f c2 ≠ 0) : L = [⟨c1, f c1⟩, ⟨c2, f c2⟩] := by
  have hM : IsC f [⟨c1, f c1⟩, ⟨c2, f c2⟩] := by
    refine ⟨by simp [hlt], fun x => ?_⟩
    obtain ⟨a, n⟩ := x
    simp only [List.mem_cons, List.not_mem_nil, or_false, Bal.mk.injEq]
    constructor
    · rintro (⟨rfl, rfl⟩ | ⟨rfl, rfl⟩)
      · exact ⟨rfl, h1⟩
      · exact ⟨rfl, h2⟩
    · rintro ⟨e, hn⟩
      by_cases e1 : a = c1
      · subst e1; exact .inl ⟨rfl, e.symm⟩
      by_cases e2 : a = c2
      · subst e2; exact .inr ⟨rfl, e.symm⟩
      exact absurd (e.symm.trans (h0 a e1 e2)) hn
  exact isC_unique h hM fun _ => rfl
theorem parts_two (d r n : Int) : Two0 (clnL (Dv.parts d r n)) := by
  rcases cln_alt (Dv.parts d r n) with ⟨_, h, hv⟩ | ⟨_, h, _⟩
  · have hd := hv d
    have hr := hv r
    have h0 : ∀ c, c ≠ d → c ≠ r → ofW (Dv.parts d r n) c = 0 := fun c e1 e2 => by
      unfold Dv.parts
      rw [of_two, if_neg (fun e => e2 e.symm), if_neg (fun e => e1 e.symm)]
    by_cases e : d = r
    · subst e
      refine .inl (isC_none h fun c => ?_)
      by_cases ec : c = d
      · subst ec
        unfold Dv.parts
        rw [of_two, if_pos rfl, if_pos rfl]
        unfold wrap64
        omega
      · exact h0 c ec ec
    · have vd : ofW (Dv.parts d r n) d = wrap64 (0 + wrap64 (-n)) := by
        unfold Dv.parts
        rw [of_two, if_neg (fun h => e h.symm), if_pos rfl]
      have vr : ofW (Dv.parts d r n) r = wrap64 (0 + n) := by
        unfold Dv.parts
        rw [of_two, if_pos rfl, if_neg e]
      have bd := am_bd hd
      have br := am_bd hr
      have hs : ofW (Dv.parts d r n) d + ofW (Dv.parts d r n) r = 0 := by
        rw [vd, vr] at *
        unfold wrap64 at *
        omega
      by_cases hz : ofW (Dv.parts d r n) d = 0
      · refine .inl (isC_none h fun c => ?_)
        by_cases e1 : c = d
        · subst e1; exact hz
        by_cases e2 : c = r
        · subst e2; omega
        exact h0 c e1 e2
      · right
        rcases Int.lt_or_gt_of_ne e with hlt | hlt
        · exact ⟨_, _, _, _, isC_two h hlt h0 hz (by omega), hs, bd.1, bd.2, br.1, br.2⟩
        · exact ⟨_, _, _, _, isC_two h hlt (fun c a b => h0 c b a) (by omega) hz, by omega, br.1, br.2, bd.1, bd.2⟩
  · exact .inl h
theorem pL_two {V : Bool} {p P : Int} {n : Nat} {d r : Int} {l : List ConR} {i k : Int} : Two0 (Dv.pL V p P n d r l i k) := by
  unfold Dv.pL
  split
  · exact parts_two _ _ _
  · exact .inl rfl
theorem Two0.len {L : List Bal} (h : Two0 L) : L.length ≤ 2 := by
  rcases h with rfl | ⟨_, _, _, _, rfl, _⟩
  · exact Nat.zero_le _
  · exact Nat.le_refl _
theorem Ps.pre_len (n i : Nat) : ∀ k, (Ps.pre n i k).length = i * n + k := by
  intro k
  unfold Ps.pre
  rw [List.length_append, List.length_map, List.length_range]
  congr 1
  induction i with
  | zero => simp
  | succ i ih => rw [List.range_succ, List.flatMap_append, List.length_append, ih]; simp [Ps.row, Nat.succ_mul]
theorem Ps.is_len {kd : Int} {g : Int → Int → List Bal} {n : Nat} {L : List PostR} {D : List (Int × Int)} (h : Ps.Is kd g D L) (hD : D.length ≤ (Ps.pairs n).length) (hn : n ≤ 20) : L.length ≤ 400 := by
  have h2 := Ps.pre_len n n 0
  have h3 : n * n ≤ 20 * 20 := Nat.mul_le_mul hn hn
  have h4 := h.1
  unfold Ps.pairs at hD
  omega
end Go.Proofs.YthfbpbbepogllaaGreat
/- The walk of DividendPostings. -/
namespace Go.Proofs.YthfbpbbepogllaaGreat
set_option linter.unusedVariables false
set_option linter.unusedSimpArgs false
open Go.RowKit

theorem Ps.two {kd : Int} {g : Int → Int → List Bal} {D : List (Int × Int)} {L : List PostR} (h : Ps.Is kd g D L) (hD : ∀ x ∈ D, Ps.some_ g x = true) (h2 : ∀ i k, Two0 (g i k)) : ∀ x ∈ L, ∃ c1 a c2 : Int, x.parts.l = [⟨c1, a⟩, ⟨c2, -a⟩] ∧ -1000000000000 ≤ a ∧ a ≤ 1000000000000 := by
  intro x hx
  obtain ⟨j, hj, rfl⟩ := List.mem_iff_getElem.1 hx
  have hjD : j < D.length := by rw [← h.1]; exact hj
  have hI := h.2 j hj hjD
  have hs := hD _ (List.getElem_mem hjD)
  have ht := h2 D[j].1 D[j].2
  rw [← hI.1] at ht
  rcases ht with ht | ⟨c1, a1, c2, a2, e, h1, h2, h3, h4, h5⟩
  · unfold Ps.some_ at hs
    rw [← hI.1, ht] at hs
    cases hs
  · refine ⟨c1, a1, c2, ?_, h2, h3⟩
    rw [e]
    have : a2 = -a1 := by omega
    rw [this]
theorem psD_some {V : Bool} {p P : Int} {n : Nat} {d r : Int} {l : List ConR} : (∀ x ∈ Dv.psD V p P n d r l, Ps.some_ (Dv.pL V p P n d r l) x = true) ∧ (Dv.psD V p P n d r l).length ≤ (Ps.pairs n).length := by
  unfold Dv.psD
  split
  · exact ⟨fun x hx => (List.mem_filter.1 hx).2, List.length_filter_le _ _⟩
  · exact ⟨(fun x hx => by cases hx), Nat.zero_le _⟩
theorem ps_parts {kd : Int} {V : Bool} {p P : Int} {n : Nat} {d r : Int} {l : List ConR} {D : List (Int × Int)} {L : List PostR} (h : Ps.Is kd (Dv.pL V p P n d r l) D L) : ∀ x ∈ L, x.parts.l.length ≤ 2 := by
  intro x hx
  obtain ⟨j, hj, rfl⟩ := List.mem_iff_getElem.1 hx
  have hjD : j < D.length := by rw [← h.1]; exact hj
  rw [(h.2 j hj hjD).1]
  exact pL_len
theorem ps_pin {T TP : TypeId} {base : Nat} {w : World} {A : Option Addr} {n c : Nat} {L : List PostR} (h : OwnPs T TP base w (.slice A n c) L) (hl : L.length ≤ 400) (hf : ∀ x ∈ L, x.parts.l.length ≤ 2) : n = L.length ∧ PIn w L A := by
  obtain ⟨h1, h2, h3⟩ := pin_own h (by omega) (fun x hx => by have := hf x hx; omega)
  exact ⟨h1, h2, h3, fun x hx => by have := hf x hx; omega, by omega⟩
section
variable (cur : ByteArray) (y m p : Int) (cl : List Acc) (cA : Option Addr) (cc : Nat) (ro : RolesR) (el : List EntR) (eA : Option Addr) (ec : Nat) (w : World)
end
end Go.Proofs.YthfbpbbepogllaaGreat
/- The amounts of an inventory posting. No walk. -/
namespace Go.Proofs.YthfbpbbepogllaaGreat
set_option linter.unusedVariables false
set_option linter.unusedSimpArgs false
open Go.RowKit

theorem ro_apart {cur : ByteArray} {cl : List Acc} {ro : RolesR} {el : List EntR} {cal : Bool} (h : Gr.gv cur cl ro el cal = true) : ro.inventory ≠ ro.retained ∧ ro.inventory ≠ ro.margin ∧ ro.retained ≠ ro.margin := by
  have h0 : Gr.rolesOk cl (Gr.roles ro) = true := by
    unfold Gr.gv Gr.accsV at h
    simp only [Bool.and_eq_true] at h
    exact h.2.2.1.2.2
  have h6 := Gr.rolesOk_apart h0 6 (by rw [Gr.roles_len]; omega)
  have h14 := Gr.rolesOk_apart h0 14 (by rw [Gr.roles_len]; omega)
  unfold Gr.codeBefore at h6 h14
  rw [List.any_eq_false] at h6 h14
  refine ⟨fun e => h6 ⟨_, ro.inventory, 1, 1, true⟩ (by simp only [Gr.roles, List.take_succ_cons, List.take_zero]; simp; rfl) (by simp [Gr.roles, e]), fun e => h14 ⟨_, ro.inventory, 1, 1, true⟩ (by simp only [Gr.roles, List.take_succ_cons, List.take_zero]; simp; rfl) (by simp [Gr.roles, e]), fun e => h14 ⟨_, ro.retained, 3, 3, true⟩ (by simp only [Gr.roles, List.take_succ_cons, List.take_zero]; simp; rfl) (by simp [Gr.roles, e])⟩
namespace Iv
/-- the amount of the first part on an account -/
def amt (L : List Bal) (a : Int) : Int := ((L.find? fun x => x.account == a).map Bal.amount).getD 0
theorem amt_nil (a : Int) : amt [] a = 0 := rfl
theorem amt_is {f : Int → Int} {L : List Bal} (h : IsC f L) (a : Int) : amt L a = f a := by
  unfold amt
  cases hf : L.find? fun x => x.account == a with
  | none =>
    rw [List.find?_eq_none] at hf
    by_cases h0 : f a = 0
    · rw [h0]; rfl
    · exact absurd (beq_self_eq_true a) (hf ⟨a, f a⟩ ((h.2 ⟨a, f a⟩).2 ⟨rfl, h0⟩))
  | some x =>
    have h1 := List.mem_of_find?_eq_some hf
    have h2 : x.account = a := by simpa using List.find?_some hf
    have h3 := ((h.2 x).1 h1).1
    rw [h2] at h3
    exact h3.symm
theorem ofW_parts {i r m x y : Int} (hx0 : 0 ≤ x) (hx1 : x ≤ 200000000000000) (hy0 : 0 ≤ y) (hy1 : y ≤ 200000000000000) (c : Int) : ofW (parts i r m x y) c = (if i = c then -x else 0) + ((if r = c then y else 0) + (if m = c then x - y else 0)) := by
  rw [ofW_eq' (M := 400000000000000) (parts i r m x y) c (by
    unfold within parts
    intro z hz
    simp only [List.mem_cons, List.not_mem_nil, or_false] at hz
    rcases hz with rfl | rfl | rfl <;> dsimp only <;> omega) (by decide) (by show (400000000000000 : Int) * ((3 : Nat) : Int) ≤ 4000000000000000000; decide)]
  unfold ofV parts
  simp only [sm_cons, sm_nil]
  omega
/-- a posting is made -/
def on (n : Nat) (c : List ConR) (a b : Int) : Bool := Dv.inN n a b && Dv.pair c a b
theorem isc {V : Bool} {q p : Int} {n : Nat} {ro : RolesR} {l : List StkR} {c : List ConR} {a b : Int} (h : pE V q p n ro l c a b = 0) : (on n c a b = true ∧ IsC (ofW (pts ro q l a b)) (pL V q p n ro l c a b)) ∨ (on n c a b = false ∧ pL V q p n ro l c a b = []) := by
  unfold pE at h
  unfold pL on
  split at h
  · rename_i h0
    split at h
    · rename_i h1
      split at h
      · rename_i h2
        left
        refine ⟨by rw [h1, h2]; rfl, ?_⟩
        rw [if_pos ⟨h0, h1, h2⟩]
        rcases cln_alt (pts ro q l a b) with ⟨_, e, _⟩ | ⟨e, _⟩
        · exact e
        · rw [h] at e; cases e
      · rename_i h2
        right
        refine ⟨by rw [h1]; simpa using h2, ?_⟩
        rw [if_neg (fun x => h2 x.2.2)]
    · cases h
  · rename_i h0
    exact absurd h h0
theorem amts {V : Bool} {q p : Int} {n : Nat} {ro : RolesR} {l : List StkR} {c : List ConR} {a b : Int} (h : pE V q p n ro l c a b = 0) (hok : l.all (Iv.ok p n) = true) (hn : l.length ≤ 200) (d1 : ro.inventory ≠ ro.retained) (d2 : ro.inventory ≠ ro.margin) (d3 : ro.retained ≠ ro.margin) :
    amt (pL V q p n ro l c a b) ro.inventory = (if on n c a b = true then -(sum a b q l) else 0) ∧ amt (pL V q p n ro l c a b) ro.retained = (if on n c a b = true then bef q l a b else 0) ∧ amt (pL V q p n ro l c a b) ro.margin = (if on n c a b = true then sum a b q l - bef q l a b else 0) ∧
      (sum a b q l = 0 → bef q l a b = 0 → pL V q p n ro l c a b = []) := by
  obtain ⟨s0, s1⟩ := iv_sum_in a b q l hok
  obtain ⟨b0, b1⟩ := bef_in q l a b hok
  have hl : (l.length : Int) ≤ 200 := by omega
  rcases isc h with ⟨h1, h2⟩ | ⟨h1, h2⟩
  · have hf := fun x => ofW_parts (i := ro.inventory) (r := ro.retained) (m := ro.margin) (x := sum a b q l) (y := bef q l a b) s0 (by omega) b0 (by omega) x
    rw [h1, if_pos rfl, if_pos rfl, if_pos rfl, amt_is h2, amt_is h2, amt_is h2]
    unfold pts at h2 ⊢
    rw [hf, hf, hf, if_pos rfl, if_pos rfl, if_pos rfl, if_neg (fun e => d1 e.symm), if_neg (fun e => d2 e.symm), if_neg d1, if_neg (fun e => d3 e.symm), if_neg d2, if_neg d3]
    refine ⟨by omega, by omega, by omega, fun e1 e2 => ?_⟩
    rw [List.eq_nil_iff_forall_not_mem]
    intro x hx
    have := (h2.2 x).1 hx
    rw [hf, e1, e2] at this
    have h3 : (0 : Int) = x.amount := by
      rw [← this.1]
      split <;> split <;> split <;> rfl
    exact this.2 h3.symm
  · rw [h1, h2]
    simp [amt]
theorem bef_year (q : Int) (l : List StkR) (a b : Int) (h : 0 ≤ q) : bef (q - q % 12) l a b = bef q l a b := by
  unfold bef
  by_cases h1 : q < 12
  · rw [if_pos h1, if_pos (by omega)]
  · rw [if_neg h1, if_neg (by omega)]
    congr 1
    omega
theorem sum_none {a b q : Int} {l : List StkR} (h : ∀ j (hj : j < l.length), hit a b q l[j] = false) : sum a b q l = 0 := by
  unfold sum
  have : l.filter (hit a b q) = [] := by
    rw [List.filter_eq_nil_iff]
    intro x hx
    obtain ⟨j, hj, rfl⟩ := List.mem_iff_getElem.1 hx
    rw [h j hj]; decide
  rw [this]; rfl
end Iv
end Go.Proofs.YthfbpbbepogllaaGreat
/- The parts of the inventory postings. No walk. -/
namespace Go.Proofs.YthfbpbbepogllaaGreat
set_option linter.unusedVariables false
set_option linter.unusedSimpArgs false
open Go.RowKit

theorem ick0 {V : Bool} {q p : Int} {n : Nat} {ro : RolesR} {l : List StkR} {c : List ConR} {a b : Int} (h : Iv.pL V q p n ro l c a b ≠ []) : Dv.ck (Iv.val V p n l) q p = 0 ∧ Dv.inN n a b = true ∧ Dv.pair c a b = true ∧ Iv.pL V q p n ro l c a b = clnL (Iv.pts ro q l a b) := by
  unfold Iv.pL at h ⊢
  split at h
  · rename_i h0
    rw [if_pos h0]
    exact ⟨h0.1, h0.2.1, h0.2.2, rfl⟩
  · exact absurd rfl h
theorem ipL_sum {V : Bool} {q p : Int} {n : Nat} {ro : RolesR} {l : List StkR} {c : List ConR} {a b : Int} (h : Iv.pL V q p n ro l c a b ≠ []) : sumV (Iv.pL V q p n ro l c a b) = 0 ∧ within 1000000000000 (Iv.pL V q p n ro l c a b) ∧ a ≠ b := by
  obtain ⟨h1, h2, h3, h4⟩ := ick0 h
  obtain ⟨hok, hln, -, -, -⟩ := iv_ck0 h1
  obtain ⟨s0, s1⟩ := iv_sum_in a b q l hok
  obtain ⟨b0, b1⟩ := Iv.bef_in q l a b hok
  have hl : (l.length : Int) ≤ 200 := by omega
  have hne : a ≠ b := by
    unfold Dv.pair at h3
    simp only [Bool.and_eq_true, Bool.not_eq_true', beq_eq_false_iff_ne] at h3
    exact h3.1
  rw [h4] at h ⊢
  rcases cln_alt (Iv.pts ro q l a b) with ⟨_, e, e2⟩ | ⟨_, e, _⟩
  · have hw : within 400000000000000 (Iv.pts ro q l a b) := by
      unfold within Iv.pts Iv.parts
      intro z hz
      simp only [List.mem_cons, List.not_mem_nil, or_false] at hz
      rcases hz with rfl | rfl | rfl <;> dsimp only <;> omega
    have hof : ∀ x, ofW (Iv.pts ro q l a b) x = ofV (Iv.pts ro q l a b) x := fun x => ofW_eq' _ x hw (by decide) (by show (400000000000000 : Int) * ((3 : Nat) : Int) ≤ 4000000000000000000; decide)
    refine ⟨?_, clean_amount e e2, hne⟩
    rw [clean_sum e hof]
    simp only [sumV, Iv.pts, Iv.parts, sm_cons, sm_nil]
    omega
  · exact absurd e h
theorem ips_is {V : Bool} {q p : Int} {n : Nat} {ro : RolesR} {l : List StkR} {c : List ConR} {L : List PostR} (h : Ps.Is 8 (Iv.pL V q p n ro l c) (Iv.psD V q p n ro l c) L) :
    ∀ x ∈ L, sumV x.parts.l = 0 ∧ within 1000000000000 x.parts.l ∧ x.parts.l ≠ [] ∧ x.parts.l.length ≤ 3 ∧ x.entity ≠ x.other := by
  intro x hx
  obtain ⟨j, hj, rfl⟩ := List.mem_iff_getElem.1 hx
  have hjD : j < (Iv.psD V q p n ro l c).length := by rw [← h.1]; exact hj
  have hI := h.2 j hj hjD
  have hs : Ps.some_ (Iv.pL V q p n ro l c) (Iv.psD V q p n ro l c)[j] = true := by
    have := List.getElem_mem hjD
    generalize (Iv.psD V q p n ro l c)[j] = z at *
    unfold Iv.psD at this
    split at this
    · exact (List.mem_filter.1 this).2
    · cases this
  generalize (Iv.psD V q p n ro l c)[j] = z at *
  have hne : Iv.pL V q p n ro l c z.1 z.2 ≠ [] := by
    unfold Ps.some_ at hs
    intro e
    rw [e] at hs
    cases hs
  obtain ⟨k1, k2, k3⟩ := ipL_sum hne
  obtain ⟨e1, -, e3⟩ := hI
  rw [e1]
  refine ⟨k1, k2, hne, ipL_len, ?_⟩
  rcases e3 with ⟨e, _⟩ | ⟨_, _, e4, e5⟩
  · exact absurd e hne
  · rw [e4, e5]; exact k3
theorem ipsD_len {V : Bool} {q p : Int} {n : Nat} {ro : RolesR} {l : List StkR} {c : List ConR} : (Iv.psD V q p n ro l c).length ≤ (Ps.pairs n).length := by
  unfold Iv.psD
  split
  · exact List.length_filter_le _ _
  · exact Nat.zero_le _
theorem ips_pin {T TP : TypeId} {base : Nat} {w : World} {A : Option Addr} {n c : Nat} {L : List PostR} (h : OwnPs T TP base w (.slice A n c) L) (hl : L.length ≤ 400) (hf : ∀ x ∈ L, x.parts.l.length ≤ 3) : n = L.length ∧ PIn w L A := by
  obtain ⟨h1, h2, h3⟩ := pin_own h (by omega) (fun x hx => by have := hf x hx; omega)
  exact ⟨h1, h2, h3, fun x hx => by have := hf x hx; omega, by omega⟩
theorem sumV_take {m : List Bal} {k : Nat} (h : k < m.length) : sumV (m.take (k + 1)) = sumV (m.take k) + m[k].amount := sm_take m k h _
theorem sumV_bd {m : List Bal} (h : within 1000000000000 m) (k : Nat) : -(1000000000000 * ((m.take k).length : Int)) ≤ sumV (m.take k) ∧ sumV (m.take k) ≤ 1000000000000 * ((m.take k).length : Int) := sm_bd _ _ _ (fun a ha => h a (List.mem_of_mem_take ha))
end Go.Proofs.YthfbpbbepogllaaGreat
