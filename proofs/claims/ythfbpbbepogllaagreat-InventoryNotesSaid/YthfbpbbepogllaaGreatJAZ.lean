/- Texts of this claim, put together. -/
import Derived.Test.YthfbpbbepogllaaGreatJAY
import Derived.Test.YthfbpbbepogllaaGreatJAD
import Derived.Test.YthfbpbbepogllaaGreatJAV
import Derived.Deep.DeepCutAuto
import Derived.Test.YthfbpbbepogllaaGreatJAT
/- The walks of Unrealised and of its reference. -/
namespace Go.Proofs.YthfbpbbepogllaaGreat
set_option linter.unusedVariables false
set_option linter.unusedSimpArgs false
open Go.RowKit

namespace Iv
/-- the profit of a pair may be told -/
def fit (n : Nat) (a b x : Int) : Bool := ent n a && (ent n b && amV x)
def unE (V : Bool) (q p : Int) (n : Nat) (l : List StkR) (a b : Int) : Int := if Dv.ck (val V p n l) q p = 0 then (if fit n a b (sum a b q l) = true then 0 else 2) else Dv.ck (val V p n l) q p
def unN (V : Bool) (q p : Int) (n : Nat) (l : List StkR) (a b : Int) : Int := if unE V q p n l a b = 0 then sum a b q l else 0
end Iv
theorem iv_ck0 {V : Bool} {q p : Int} {n : Nat} {l : List StkR} (h : Dv.ck (Iv.val V p n l) q p = 0) : l.all (Iv.ok p n) = true ∧ l.length ≤ 200 ∧ V = true ∧ 0 ≤ q ∧ q < p := by
  unfold Dv.ck at h
  split at h
  · rename_i hv
    split at h
    · rename_i hq
      simp only [Iv.val, Bool.and_eq_true, decide_eq_true_eq] at hv
      exact ⟨hv.2.2, hv.2.1, hv.1, hq.1, hq.2⟩
    · omega
  · omega
section
variable (gcs : Array Value) (cur : ByteArray) (y m p : Int) (cl : List Acc) (cA : Option Addr) (cc : Nat) (ro : RolesR) (el : List EntR) (eA : Option Addr) (ec : Nat) (w : World)
def NumPost (n e : Int) (w : World) (en : Ending) (w' : World) : Prop := en = .returned (.tuple #[.int .i64 n, .int .i64 e]) ∧ Below w.heap.size w w'
set_option maxRecDepth 100000 in
set_option maxHeartbeats 8000000 in
theorem iunreal_any (l : List StkR) (A : Option Addr) (lc : Nat) (s b q : Int) (HG : Hid (gcs = #[.string cur, .int .i64 y, .int .i64 m, .int .i64 p, .slice cA cl.length cc, .int .i64 ro.investment, .int .i64 ro.goodwill, .int .i64 ro.associates, .int .i64 ro.inventory, .int .i64 ro.reserve, .int .i64 ro.minority, .int .i64 ro.retained, .int .i64 ro.acquired, .int .i64 ro.owners, .int .i64 ro.disposal, .int .i64 ro.associateProfit, .int .i64 ro.dividends, .int .i64 ro.minorityProfit, .int .i64 ro.difference, .int .i64 ro.margin, .slice eA el.length ec])) (h : GIn w cl cA el eA) (hF : FewOk cur cl el) (hS : SIn w l A) (hws : Wf s) (hwb : Wf b) :
    Calls Tryz.prog 19 #[.agg gcs, .slice A l.length lc, .int .i64 s, .int .i64 b, .int .i64 q] w (NumPost (Iv.unN (Gr.gv cur cl ro el (Cal.ok y m p)) q p el.length l s b) (Iv.unE (Gr.gv cur cl ro el (Cal.ok y m p)) q p el.length l s b) w) := by
  have hel := hF.en
  have hgi : (Tryz.prog.info? 29).map (·.size) = some gcs.size := by rw [HG.out]; exact grp_size
  have hb : Below w.heap.size w (w.alloc (.cells gcs 29)) := (Below.refl _ _).alloc (Nat.le_refl _) _
  have HB := Lib.hid (Blk.new w 29 gcs)
  have K := Lib.hid (icheck_any gcs cur y m p cl cA cc ro el eA ec (w.alloc (.cells gcs 29)) l A lc q HG (h.step hb) hF (hS.step hb))
  have HS := Lib.hid hS
  clear h hF hS
  unfold IntPost at K
  unfold NumPost
  have HE : Hid (Iv.unE (Gr.gv cur cl ro el (Cal.ok y m p)) q p el.length l s b = if Dv.ck (Iv.val (Gr.gv cur cl ro el (Cal.ok y m p)) p el.length l) q p = 0 then (if Iv.fit el.length s b (Iv.sum s b q l) = true then 0 else 2) else Dv.ck (Iv.val (Gr.gv cur cl ro el (Cal.ok y m p)) p el.length l) q p) := Lib.hid rfl
  have HN : Hid (Iv.unN (Gr.gv cur cl ro el (Cal.ok y m p)) q p el.length l s b = if Iv.unE (Gr.gv cur cl ro el (Cal.ok y m p)) q p el.length l s b = 0 then Iv.sum s b q l else 0) := Lib.hid rfl
  have HC0 := Lib.hid (iv_ck0 (V := Gr.gv cur cl ro el (Cal.ok y m p)) (q := q) (p := p) (n := el.length) (l := l))
  generalize Iv.unN (Gr.gv cur cl ro el (Cal.ok y m p)) q p el.length l s b = N at *
  generalize Iv.unE (Gr.gv cur cl ro el (Cal.ok y m p)) q p el.length l s b = E at *
  generalize Dv.ck (Iv.val (Gr.gv cur cl ro el (Cal.ok y m p)) p el.length l) q p = ck at *
  cases hx : (ck != 0)
  · have hc0 : ck = 0 := by simpa using hx
    clear hx
    obtain ⟨hok, hln, -, -, -⟩ := HC0.out hc0
    subst hc0
    rw [if_pos rfl] at HE
    clear HC0
    have KP := Lib.hid (fun W h => iprofits_any p W l A lc q el.length h hok hln (by omega))
    obtain ⟨kl, hkl⟩ := pair_key hws hwb
    have HKL := Lib.hid hkl
    have HSM := Lib.hid (iv_says q s b l)
    unfold SumPost at KP
    generalize Iv.sum s b q l = sm at *
    clear hok hln hel hkl hws hwb
    go_enter Tryz.func19, Tryz.ntmps19
    go_upto_region 5 with (first
      | (refine wpList_load_blk 29 (.tmp 5) rfl (w.heap.size) rfl (by kernel_rfl) (HB).out Tryz.underlying29 hgi ?_)
      | (go_at_call 35; refine K.out.mono ?_; rintro en w2 ⟨rfl, hb9⟩; replace hb := bel hb hb9; replace HB := Lib.hid (HB.out.step hb9); clear hb9)
      | (go_at_call 38; refine (KP.out _ (HS.out.step hb)).mono ?_; rintro en w3 ⟨g, rfl, hK, hg, hb9⟩; replace hb := bel hb hb9; replace HB := Lib.hid (HB.out.step hb9); clear hb9; have hlk := (hK.look keyed_pair Tryz.underlying3 Tryz.underlying104 (zero_int _) HKL.out).1; rw [HSM.out] at hlk; unfold pairV at hlk; clear hK hg))
    clear hlk
    cases hs : Iv.ent el.length s
    · have HE1 : Hid (E = 2) := Lib.hid (by rw [HE.out, if_neg (by unfold Iv.fit; rw [hs]; simp)])
      have HN1 : Hid (N = 0) := Lib.hid (by rw [HN.out, HE1.out]; rfl)
      go_wp2_with (first
        | (refine wpList_load_blk 29 (.tmp 5) rfl w.heap.size rfl rfl HB.out Tryz.underlying29 hgi ?_)
        | (go_at_call 36; refine (ient_any gcs cur y m p cl cA cc ro el eA ec _ _ HG).mono ?_; rintro en w5 ⟨rfl, hb9⟩; replace hb := bel hb hb9; replace HB := Lib.hid (HB.out.step hb9); clear hb9; rw [hs]))
      go_ret2
      exact ⟨by rw [HE1.out, HN1.out]; rfl, hb⟩
    · cases hs2 : Iv.ent el.length b
      · have HE1 : Hid (E = 2) := Lib.hid (by rw [HE.out, if_neg (by unfold Iv.fit; rw [hs, hs2]; simp)])
        have HN1 : Hid (N = 0) := Lib.hid (by rw [HN.out, HE1.out]; rfl)
        go_wp2_with (first
          | (refine wpList_load_blk 29 (.tmp 5) rfl w.heap.size rfl rfl HB.out Tryz.underlying29 hgi ?_)
          | (go_at_call 36; refine (ient_any gcs cur y m p cl cA cc ro el eA ec _ _ HG).mono ?_; rintro en w5 ⟨rfl, hb9⟩; replace hb := bel hb hb9; replace HB := Lib.hid (HB.out.step hb9); clear hb9; first | rw [hs] | rw [hs2]))
        go_ret2
        exact ⟨by rw [HE1.out, HN1.out]; rfl, hb⟩
      · cases hm : amV sm
        · have HE1 : Hid (E = 2) := Lib.hid (by rw [HE.out, if_neg (by unfold Iv.fit; rw [hs, hs2, hm]; simp)])
          have HN1 : Hid (N = 0) := Lib.hid (by rw [HN.out, HE1.out]; rfl)
          go_wp2_with (first
            | (refine wpList_load_blk 29 (.tmp 5) rfl w.heap.size rfl rfl HB.out Tryz.underlying29 hgi ?_)
            | (go_at_call 36; refine (ient_any gcs cur y m p cl cA cc ro el eA ec _ _ HG).mono ?_; rintro en w5 ⟨rfl, hb9⟩; replace hb := bel hb hb9; replace HB := Lib.hid (HB.out.step hb9); clear hb9; first | rw [hs] | rw [hs2])
            | (go_at_call 47; refine (money_any _ _).mono ?_; rintro e w2 ⟨rfl, rfl⟩; rw [hm]))
          go_ret2
          exact ⟨by rw [HE1.out, HN1.out]; rfl, hb⟩
        · have HE1 : Hid (E = 0) := Lib.hid (by rw [HE.out, if_pos (by unfold Iv.fit; rw [hs, hs2, hm]; rfl)])
          have HN1 : Hid (N = sm) := Lib.hid (by rw [HN.out, HE1.out]; rfl)
          go_wp2_with (first
            | (refine wpList_load_blk 29 (.tmp 5) rfl w.heap.size rfl rfl HB.out Tryz.underlying29 hgi ?_)
            | (go_at_call 36; refine (ient_any gcs cur y m p cl cA cc ro el eA ec _ _ HG).mono ?_; rintro en w5 ⟨rfl, hb9⟩; replace hb := bel hb hb9; replace HB := Lib.hid (HB.out.step hb9); clear hb9; first | rw [hs] | rw [hs2])
            | (go_at_call 47; refine (money_any _ _).mono ?_; rintro e w2 ⟨rfl, rfl⟩; rw [hm]))
          go_ret2
          exact ⟨by rw [HE1.out, HN1.out]; rfl, hb⟩
  · have hc0 : ck ≠ 0 := by simpa using hx
    have HE1 : Hid (E = ck) := Lib.hid (by rw [HE.out, if_neg hc0])
    have HN1 : Hid (N = 0) := Lib.hid (by rw [HN.out, if_neg (by rw [HE1.out]; exact hc0)])
    clear hc0
    go_enter Tryz.func19, Tryz.ntmps19
    go_wp2_with (first
      | (refine wpList_load_blk 29 (.tmp 5) rfl (w.heap.size) rfl (by kernel_rfl) (HB).out Tryz.underlying29 hgi ?_)
      | (go_at_call 35; refine K.out.mono ?_; rintro en w2 ⟨rfl, hb9⟩; replace hb := bel hb hb9; clear hb9))
    go_ret2
    exact ⟨by rw [HE1.out, HN1.out]; rfl, hb⟩
set_option maxRecDepth 100000 in
set_option maxHeartbeats 8000000 in
theorem riunreal_any (l : List StkR) (A : Option Addr) (lc : Nat) (s b q : Int) (HG : Hid (gcs = #[.string cur, .int .i64 y, .int .i64 m, .int .i64 p, .slice cA cl.length cc, .int .i64 ro.investment, .int .i64 ro.goodwill, .int .i64 ro.associates, .int .i64 ro.inventory, .int .i64 ro.reserve, .int .i64 ro.minority, .int .i64 ro.retained, .int .i64 ro.acquired, .int .i64 ro.owners, .int .i64 ro.disposal, .int .i64 ro.associateProfit, .int .i64 ro.dividends, .int .i64 ro.minorityProfit, .int .i64 ro.difference, .int .i64 ro.margin, .slice eA el.length ec])) (h : GIn w cl cA el eA) (hF : FewOk cur cl el) (hS : SIn w l A) :
    Calls Tryz.prog 20 #[.agg gcs, .slice A l.length lc, .int .i64 s, .int .i64 b, .int .i64 q] w (NumPost (Iv.unN (Gr.gv cur cl ro el (Cal.ok y m p)) q p el.length l s b) (Iv.unE (Gr.gv cur cl ro el (Cal.ok y m p)) q p el.length l s b) w) := by
  have hgi : (Tryz.prog.info? 29).map (·.size) = some gcs.size := by rw [HG.out]; exact grp_size
  have hb : Below w.heap.size w (w.alloc (.cells gcs 29)) := (Below.refl _ _).alloc (Nat.le_refl _) _
  have HB := Lib.hid (Blk.new w 29 gcs)
  have K := Lib.hid (richeck_any gcs cur y m p cl cA cc ro el eA ec (w.alloc (.cells gcs 29)) l A lc q HG (h.step hb) hF (hS.step hb))
  have HS := Lib.hid hS
  clear h hF hS
  unfold IntPost at K
  unfold NumPost
  have HE : Hid (Iv.unE (Gr.gv cur cl ro el (Cal.ok y m p)) q p el.length l s b = if Dv.ck (Iv.val (Gr.gv cur cl ro el (Cal.ok y m p)) p el.length l) q p = 0 then (if Iv.fit el.length s b (Iv.sum s b q l) = true then 0 else 2) else Dv.ck (Iv.val (Gr.gv cur cl ro el (Cal.ok y m p)) p el.length l) q p) := Lib.hid rfl
  have HN : Hid (Iv.unN (Gr.gv cur cl ro el (Cal.ok y m p)) q p el.length l s b = if Iv.unE (Gr.gv cur cl ro el (Cal.ok y m p)) q p el.length l s b = 0 then Iv.sum s b q l else 0) := Lib.hid rfl
  have HC0 := Lib.hid (iv_ck0 (V := Gr.gv cur cl ro el (Cal.ok y m p)) (q := q) (p := p) (n := el.length) (l := l))
  generalize Iv.unN (Gr.gv cur cl ro el (Cal.ok y m p)) q p el.length l s b = N at *
  generalize Iv.unE (Gr.gv cur cl ro el (Cal.ok y m p)) q p el.length l s b = E at *
  generalize Dv.ck (Iv.val (Gr.gv cur cl ro el (Cal.ok y m p)) p el.length l) q p = ck at *
  cases hx : (ck != 0)
  · have hc0 : ck = 0 := by simpa using hx
    clear hx
    obtain ⟨hok, hln, -, -, -⟩ := HC0.out hc0
    subst hc0
    rw [if_pos rfl] at HE
    clear HC0
    have KP := Lib.hid (fun W h => riprofit_any p W l A lc s b q el.length h hok hln)
    unfold IntPost at KP
    generalize Iv.sum s b q l = sm at *
    clear hok hln
    go_enter Tryz.func20, Tryz.ntmps20
    go_upto_region 5 with (first
      | (refine wpList_load_blk 29 (.tmp 5) rfl (w.heap.size) rfl (by kernel_rfl) (HB).out Tryz.underlying29 hgi ?_)
      | (go_at_call 41; refine K.out.mono ?_; rintro en w2 ⟨rfl, hb9⟩; replace hb := bel hb hb9; replace HB := Lib.hid (HB.out.step hb9); clear hb9)
      | (go_at_call 44; refine (KP.out _ (HS.out.step hb)).mono ?_; rintro en w3 ⟨rfl, hb9⟩; replace hb := bel hb hb9; replace HB := Lib.hid (HB.out.step hb9); clear hb9))
    cases hs : Iv.ent el.length s
    · have HE1 : Hid (E = 2) := Lib.hid (by rw [HE.out, if_neg (by unfold Iv.fit; rw [hs]; simp)])
      have HN1 : Hid (N = 0) := Lib.hid (by rw [HN.out, HE1.out]; rfl)
      go_wp2_with (first
        | (refine wpList_load_blk 29 (.tmp 5) rfl w.heap.size rfl rfl HB.out Tryz.underlying29 hgi ?_)
        | (go_at_call 42; refine (rient_any gcs cur y m p cl cA cc ro el eA ec _ _ HG).mono ?_; rintro en w5 ⟨rfl, hb9⟩; replace hb := bel hb hb9; replace HB := Lib.hid (HB.out.step hb9); clear hb9; rw [hs]))
      go_ret2
      exact ⟨by rw [HE1.out, HN1.out]; rfl, hb⟩
    · cases hs2 : Iv.ent el.length b
      · have HE1 : Hid (E = 2) := Lib.hid (by rw [HE.out, if_neg (by unfold Iv.fit; rw [hs, hs2]; simp)])
        have HN1 : Hid (N = 0) := Lib.hid (by rw [HN.out, HE1.out]; rfl)
        go_wp2_with (first
          | (refine wpList_load_blk 29 (.tmp 5) rfl w.heap.size rfl rfl HB.out Tryz.underlying29 hgi ?_)
          | (go_at_call 42; refine (rient_any gcs cur y m p cl cA cc ro el eA ec _ _ HG).mono ?_; rintro en w5 ⟨rfl, hb9⟩; replace hb := bel hb hb9; replace HB := Lib.hid (HB.out.step hb9); clear hb9; first | rw [hs] | rw [hs2]))
        go_ret2
        exact ⟨by rw [HE1.out, HN1.out]; rfl, hb⟩
      · cases hm : amV sm
        · have HE1 : Hid (E = 2) := Lib.hid (by rw [HE.out, if_neg (by unfold Iv.fit; rw [hs, hs2, hm]; simp)])
          have HN1 : Hid (N = 0) := Lib.hid (by rw [HN.out, HE1.out]; rfl)
          go_wp2_with (first
            | (refine wpList_load_blk 29 (.tmp 5) rfl w.heap.size rfl rfl HB.out Tryz.underlying29 hgi ?_)
            | (go_at_call 42; refine (rient_any gcs cur y m p cl cA cc ro el eA ec _ _ HG).mono ?_; rintro en w5 ⟨rfl, hb9⟩; replace hb := bel hb hb9; replace HB := Lib.hid (HB.out.step hb9); clear hb9; first | rw [hs] | rw [hs2])
            | (go_at_call 48; refine (rmoney_any _ _).mono ?_; rintro e w2 ⟨rfl, rfl⟩; rw [hm]))
          go_ret2
          exact ⟨by rw [HE1.out, HN1.out]; rfl, hb⟩
        · have HE1 : Hid (E = 0) := Lib.hid (by rw [HE.out, if_pos (by unfold Iv.fit; rw [hs, hs2, hm]; rfl)])
          have HN1 : Hid (N = sm) := Lib.hid (by rw [HN.out, HE1.out]; rfl)
          go_wp2_with (first
            | (refine wpList_load_blk 29 (.tmp 5) rfl w.heap.size rfl rfl HB.out Tryz.underlying29 hgi ?_)
            | (go_at_call 42; refine (rient_any gcs cur y m p cl cA cc ro el eA ec _ _ HG).mono ?_; rintro en w5 ⟨rfl, hb9⟩; replace hb := bel hb hb9; replace HB := Lib.hid (HB.out.step hb9); clear hb9; first | rw [hs] | rw [hs2])
            | (go_at_call 48; refine (rmoney_any _ _).mono ?_; rintro e w2 ⟨rfl, rfl⟩; rw [hm]))
          go_ret2
          exact ⟨by rw [HE1.out, HN1.out]; rfl, hb⟩
  · have hc0 : ck ≠ 0 := by simpa using hx
    have HE1 : Hid (E = ck) := Lib.hid (by rw [HE.out, if_neg hc0])
    have HN1 : Hid (N = 0) := Lib.hid (by rw [HN.out, if_neg (by rw [HE1.out]; exact hc0)])
    clear hc0
    go_enter Tryz.func20, Tryz.ntmps20
    go_wp2_with (first
      | (refine wpList_load_blk 29 (.tmp 5) rfl (w.heap.size) rfl (by kernel_rfl) (HB).out Tryz.underlying29 hgi ?_)
      | (go_at_call 41; refine K.out.mono ?_; rintro en w2 ⟨rfl, hb9⟩; replace hb := bel hb hb9; clear hb9))
    go_ret2
    exact ⟨by rw [HE1.out, HN1.out]; rfl, hb⟩
end
end Go.Proofs.YthfbpbbepogllaaGreat
/- The walk of Posting of dividends and of its reference. -/
namespace Go.Proofs.YthfbpbbepogllaaGreat
set_option linter.unusedVariables false
set_option linter.unusedSimpArgs false
open Go.RowKit

/-- books that begin with a group -/
structure BkIs (bcs gcs : Array Value) : Prop where
  size : bcs.size = 27
  gsz : gcs.size = 21
  grp : ∀ j, j < 21 → bcs[j]? = gcs[j]?
theorem bk_range {w : World} {b : Nat} {t : TypeId} {bcs gcs : Array Value} (hB : Blk w b t bcs) (h : BkIs bcs gcs) : w.rangeAt b 0 gcs.toList := fun j v hv => by
  have hj : j < 21 := by
    have := (List.getElem?_eq_some_iff.1 hv).1
    rwa [Array.length_toList, h.gsz] at this
  rw [Nat.zero_add, hB.cell j, h.grp j hj, ← Array.getElem?_toList]
  exact hv
theorem grp_one {gcs : Array Value} {cur : ByteArray} {y m p : Int} {cl : List Acc} {cA : Option Addr} {cc : Nat} {ro : RolesR} {el : List EntR} {eA : Option Addr} {ec : Nat} (HG : gcs = #[.string cur, .int .i64 y, .int .i64 m, .int .i64 p, .slice cA cl.length cc, .int .i64 ro.investment, .int .i64 ro.goodwill, .int .i64 ro.associates, .int .i64 ro.inventory, .int .i64 ro.reserve, .int .i64 ro.minority, .int .i64 ro.retained, .int .i64 ro.acquired, .int .i64 ro.owners, .int .i64 ro.disposal, .int .i64 ro.associateProfit, .int .i64 ro.dividends, .int .i64 ro.minorityProfit, .int .i64 ro.difference, .int .i64 ro.margin, .slice eA el.length ec]) : gcs.all (·.oneCell') = true := by
  rw [HG, ← Array.all_toList, List.all_eq_true]
  exact fun u hu => GrpR.one ⟨cur, ⟨y, m, p⟩, ⟨cl, cA, cc⟩, ro, ⟨el, eA, ec⟩⟩ u hu
def zeroPost : Array Value := #[.int .i64 0, .int .i64 0, .int .i64 0, .int .i64 0, .slice none 0 0]
def PostR.arr (x : PostR) : Array Value := #[.int .i64 x.kind, .int .i64 x.entity, .int .i64 x.other, .int .i64 x.rule, x.parts.val]
theorem PostR.arr_one (x : PostR) : x.arr.all (·.oneCell') = true := by
  rw [← Array.all_toList, List.all_eq_true]
  exact fun u hu => x.one u hu
theorem post_size : (Tryz.prog.info? 48).map (·.size) = some 5 := by kernel_rfl
def noPost : PostR := ⟨0, 0, 0, 0, ⟨[], none, 0⟩⟩
/-- a slice of a call's own -/
def OwnSl {α : Type} (f : α → List Value) (base : Nat) (e : TypeId) (sz : Nat) (w : World) (s : Sl α) : Prop := w.ownsRow base e sz s.val s.l.length (cellsOf f s.l)
def PPost (T : TypeId) (kd i k : Int) (L : List Bal) (E : Int) (w : World) (en : Ending) (w' : World) : Prop :=
  ∃ x : PostR, en = .returned (.tuple #[.agg x.arr, .int .i64 E]) ∧ Dv.IsP kd i k L x ∧ OwnSl Bal.cells w.heap.size T 2 w' x.parts ∧ Below w.heap.size w w'
theorem own_nil {α : Type} (f : α → List Value) (base : Nat) (e : TypeId) (sz : Nat) (w : World) : OwnSl f base e sz w (⟨[], none, 0⟩ : Sl α) := ⟨by simp [cellsOf], .inl ⟨rfl, rfl⟩⟩
theorem own_row {w : World} {base : Nat} {e : TypeId} {sz : Nat} {v : Value} {n : Nat} {xs : List Value} (h : w.ownsRow base e sz v n xs) {g : Nat} (hg : g < base) (cs : Array Value) : (w.setRow g cs).ownsRow base e sz v n xs :=
  ⟨h.1, h.2.imp id fun ⟨g', cap, cur, h1, h2, h3, h4⟩ => ⟨g', cap, cur, h1, h2, (setRow_other w g g' cs (by omega)).trans h3, h4⟩⟩
theorem inN_no {n : Nat} {i k : Int} (h : i < 0 ∨ k < 0 ∨ (n : Int) ≤ i ∨ (n : Int) ≤ k) : Dv.inN n i k = false := by
  unfold Dv.inN
  rw [Bool.eq_false_iff]
  simp only [Bool.and_eq_true, decide_eq_true_eq, ne_eq]
  omega
theorem inN_yes {n : Nat} {i k : Int} (h : 0 ≤ i ∧ 0 ≤ k ∧ i < (n : Int) ∧ k < (n : Int)) : Dv.inN n i k = true := by
  unfold Dv.inN
  simp only [Bool.and_eq_true, decide_eq_true_eq]
  omega
theorem parts_wf {d r n : Int} (h1 : Wf d) (h2 : Wf r) : ∀ x ∈ Dv.parts d r n, (Lit.int .i64 x.account).wf = true := by
  intro x hx
  simp only [Dv.parts, List.mem_cons, List.not_mem_nil, or_false] at hx
  rcases hx with rfl | rfl
  · exact h1
  · exact h2
theorem ppost_none {T : TypeId} {kd i k E : Int} {w w' : World} {en : Ending} {L : List Bal} (hL : L = []) (h : en = .returned (.tuple #[.agg zeroPost, .int .i64 E])) (hb : Below w.heap.size w w') : PPost T kd i k L E w en w' :=
  ⟨noPost, h, ⟨hL.symm, rfl, .inl ⟨hL, rfl, rfl, rfl⟩⟩, own_nil _ _ _ _ _, hb⟩
section
variable (gcs : Array Value) (cur : ByteArray) (y m p : Int) (cl : List Acc) (cA : Option Addr) (cc : Nat) (ro : RolesR) (el : List EntR) (eA : Option Addr) (ec : Nat) (w : World)
end
end Go.Proofs.YthfbpbbepogllaaGreat
/- The posting of a seller and a buyer: its parts, its error. No walk. -/
namespace Go.Proofs.YthfbpbbepogllaaGreat
set_option linter.unusedVariables false
set_option linter.unusedSimpArgs false
open Go.RowKit

namespace Iv
/-- the profit at the end of the fiscal year before -/
def bef (q : Int) (l : List StkR) (a b : Int) : Int := if q < 12 then 0 else sum a b (q - q % 12 - 1) l
def parts (i r m x y : Int) : List Bal := [⟨i, -x⟩, ⟨r, y⟩, ⟨m, x - y⟩]
def pts (ro : RolesR) (q : Int) (l : List StkR) (a b : Int) : List Bal := parts ro.inventory ro.retained ro.margin (sum a b q l) (bef q l a b)
noncomputable def pE (V : Bool) (q p : Int) (n : Nat) (ro : RolesR) (l : List StkR) (c : List ConR) (a b : Int) : Int :=
  if Dv.ck (val V p n l) q p = 0 then (if Dv.inN n a b = true then (if Dv.pair c a b = true then clnE (pts ro q l a b) else 0) else 2) else Dv.ck (val V p n l) q p
noncomputable def pL (V : Bool) (q p : Int) (n : Nat) (ro : RolesR) (l : List StkR) (c : List ConR) (a b : Int) : List Bal :=
  if Dv.ck (val V p n l) q p = 0 ∧ Dv.inN n a b = true ∧ Dv.pair c a b = true then clnL (pts ro q l a b) else []
theorem bef_in {p : Int} {n : Nat} (q : Int) (l : List StkR) (a b : Int) (h : l.all (Iv.ok p n) = true) : 0 ≤ bef q l a b ∧ bef q l a b ≤ 1000000000000 * l.length := by
  unfold bef
  split
  · omega
  · exact iv_sum_in a b _ l h
theorem parts_wf (i r m x y : Int) (h1 : Wf i) (h2 : Wf r) (h3 : Wf m) : ∀ z ∈ parts i r m x y, (Lit.int .i64 z.account).wf = true := by
  intro z hz
  simp only [parts, List.mem_cons, List.not_mem_nil, or_false] at hz
  rcases hz with rfl | rfl | rfl
  · exact h1
  · exact h2
  · exact h3
end Iv
end Go.Proofs.YthfbpbbepogllaaGreat
