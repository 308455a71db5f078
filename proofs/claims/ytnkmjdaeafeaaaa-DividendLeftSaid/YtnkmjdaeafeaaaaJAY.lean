/- Texts of this claim, put together. -/
import Derived.Test.YtnkmjdaeafeaaaaJAX
import Derived.Test.YtnkmjdaeafeaaaaJAO
/- What is left as income from others. No walk. -/
namespace Go.Proofs.Ytnkmjdaeafeaaaa
set_option linter.unusedVariables false
set_option linter.unusedSimpArgs false
open Go.RowKit

theorem wrap_wrap (a b : Int) : wrap64 (wrap64 a + b) = wrap64 (a + b) := by unfold wrap64; omega
theorem wrap_wrap2 (a b : Int) : wrap64 (a + wrap64 b) = wrap64 (a + b) := by unfold wrap64; omega
theorem wrap_idem (a : Int) : wrap64 (wrap64 a) = wrap64 a := by unfold wrap64; omega
namespace Dv
theorem full_is (l : List ConR) (e : Int) : full l e = ((conF l e).method == 3) := by
  unfold full
  cases h : conB l e
  · have : conF l e = default := by
      unfold conF
      have hn : l.find? (conIs e) = none := by
        rw [List.find?_eq_none]
        intro x hx
        unfold conB at h
        rw [List.any_eq_false] at h
        exact h x hx
      rw [hn]; rfl
    rw [this]; rfl
  · rfl
/-- the items of the full entities before number i -/
def foT (d : Int) (l : List ConR) : Nat → Int
  | 0 => 0
  | i + 1 => if full l i = true then wrap64 (foT d l i + sum d (fun _ => true) l i) else foT d l i
theorem foT_wrap (d : Int) (l : List ConR) (i : Nat) : wrap64 (foT d l i) = foT d l i := by
  induction i with
  | zero => show wrap64 0 = 0; unfold wrap64; omega
  | succ i ih =>
    unfold foT
    split
    · exact wrap_idem _
    · exact ih
/-- a running sum over the first k items of entity i -/
def foI (d : Int) (l : List ConR) (i : Nat) (k : Nat) : Int := if full l i = true then wrap64 (foT d l i + itSum (is d fun _ => true) ((conF l i).items.l.take k)) else foT d l i
theorem foI_zero (d : Int) (l : List ConR) (i : Nat) : foI d l i 0 = foT d l i := by
  unfold foI
  split
  · show wrap64 (foT d l i + 0) = _
    rw [Int.add_zero, foT_wrap]
  · rfl
theorem foI_step (d : Int) (l : List ConR) (i k : Nat) (hk : k < (conF l i).items.l.length) :
    foI d l i (k + 1) = if full l i = true ∧ (conF l i).items.l[k].account = d then wrap64 (foI d l i k + (conF l i).items.l[k].amount) else foI d l i k := by
  unfold foI
  rw [itSum_take _ _ k hk]
  by_cases hf : full l i = true
  · rw [if_pos hf, if_pos hf]
    by_cases ha : (conF l i).items.l[k].account = d
    · have hi : is d (fun _ => true) (conF l i).items.l[k] = true := by unfold is; simp [ha]
      rw [if_pos hi, if_pos ⟨hf, ha⟩, wrap_wrap, wrap_wrap2]
      congr 1
      omega
    · have hi : ¬ is d (fun _ => true) (conF l i).items.l[k] = true := by unfold is; simp [ha]
      rw [if_neg hi, if_neg (fun h => ha h.2)]
  · rw [if_neg hf, if_neg hf, if_neg (fun h => hf h.1)]
theorem foI_end (d : Int) (l : List ConR) (i k : Nat) (hk : (conF l i).items.l.length ≤ k) : foI d l i k = foT d l (i + 1) := by
  unfold foI
  rw [List.take_of_length_le hk]
  rfl
/-- a running sum over parts on an account -/
def ptSum (d : Int) (m : List Bal) (s : Int) : Int := m.foldl (fun n x => if x.account = d then wrap64 (n + x.amount) else n) s
theorem ptSum_take (d : Int) (m : List Bal) (s : Int) (k : Nat) (h : k < m.length) : ptSum d (m.take (k + 1)) s = if m[k].account = d then wrap64 (ptSum d (m.take k) s + m[k].amount) else ptSum d (m.take k) s := by
  unfold ptSum
  rw [List.take_succ_eq_append_getElem h, List.foldl_append]
  rfl
def foG (d : Int) (G : List (List Bal)) (s : Int) : Int := G.foldl (fun n m => ptSum d m n) s
theorem foG_take (d : Int) (G : List (List Bal)) (s : Int) (k : Nat) (h : k < G.length) : foG d (G.take (k + 1)) s = ptSum d G[k] (foG d (G.take k) s) := by
  unfold foG
  rw [List.take_succ_eq_append_getElem h, List.foldl_append]
  rfl
noncomputable def tot (V : Bool) (p P : Int) (n : Nat) (d r : Int) (l : List ConR) : Int := foG d ((psD V p P n d r l).map fun x => pL V p P n d r l x.1 x.2) (foT d l n)
noncomputable def foE (V : Bool) (p P : Int) (n : Nat) (d r : Int) (l : List ConR) : Int := if psE V p P n d r l = 0 then (if amV (tot V p P n d r l) = true then 0 else 2) else psE V p P n d r l
noncomputable def foV (V : Bool) (p P : Int) (n : Nat) (d r : Int) (l : List ConR) : Int := if foE V p P n d r l = 0 then tot V p P n d r l else 0
end Dv
theorem Ps.map_parts {kd : Int} {g : Int → Int → List Bal} {D : List (Int × Int)} {L : List PostR} (h : Ps.Is kd g D L) : (L.map fun x => x.parts.l) = D.map fun x => g x.1 x.2 := by
  apply List.ext_getElem
  · rw [List.length_map, List.length_map, h.1]
  · intro j h1 h2
    rw [List.getElem_map, List.getElem_map]
    rw [List.length_map] at h1 h2
    exact (h.2 j h1 h2).1
end Go.Proofs.Ytnkmjdaeafeaaaa
/- What is left as income from others, item by item. No walk. -/
namespace Go.Proofs.Ytnkmjdaeafeaaaa
set_option linter.unusedVariables false
set_option linter.unusedSimpArgs false
open Go.RowKit

theorem wsum {α : Type} (q : α → Prop) [DecidablePred q] (v : α → Int) (I : List α) : ∀ s : Int, wrap64 s = s → I.foldl (fun n x => if q x then wrap64 (n + v x) else n) s = wrap64 (s + sm I (fun x => if q x then v x else 0)) := by
  induction I with
  | nil => intro s hs; show s = wrap64 (s + 0); rw [Int.add_zero, hs]
  | cons a I ih =>
    intro s hs
    rw [List.foldl_cons, sm_cons]
    by_cases h : q a
    · rw [if_pos h, if_pos h, ih _ (wrap_idem _), wrap_wrap]
      congr 1
      omega
    · rw [if_neg h, if_neg h, ih _ hs]
      congr 1
      omega
theorem itSum_wrap (p : ItemR → Bool) (I : List ItemR) : itSum p I = wrap64 (itVal p I) := by
  have := wsum (fun x => p x = true) ItemR.amount I 0 (by unfold wrap64; omega)
  rw [Int.zero_add] at this
  exact this
theorem ptSum_wrap (d : Int) (m : List Bal) (s : Int) (hs : wrap64 s = s) : Dv.ptSum d m s = wrap64 (s + sm m (fun x => if x.account = d then x.amount else 0)) := wsum (fun x : Bal => x.account = d) Bal.amount m s hs
theorem sm_flat {α β : Type} (l : List α) (f : α → List β) (g : β → Int) : sm (l.flatMap f) g = sm l (fun a => sm (f a) g) := by
  induction l with
  | nil => rfl
  | cons a l ih => rw [List.flatMap_cons, sm_app, sm_cons, ih]
theorem sm_at (n : Nat) (e : Int) (v : Int) : sm (List.range n) (fun i => if ((i : Nat) : Int) = e then v else 0) = if 0 ≤ e ∧ e < n then v else 0 := by
  induction n with
  | zero => rw [if_neg (by omega)]; rfl
  | succ n ih =>
    rw [List.range_succ, sm_app, ih, sm_cons, sm_nil]
    by_cases h : (n : Int) = e
    · rw [if_pos h, if_neg (by omega), if_pos (by omega)]; omega
    · rw [if_neg h]
      by_cases h2 : 0 ≤ e ∧ e < n
      · rw [if_pos h2, if_pos (by omega)]; omega
      · rw [if_neg h2, if_neg (by omega)]; omega
theorem sm_pairs (n : Nat) (g : Int × Int → Int) : sm (Ps.pairs n) g = sm (List.range n) (fun i => sm (List.range n) (fun k => g ((i : Int), (k : Int)))) := by
  unfold Ps.pairs Ps.pre
  rw [List.range_zero, List.map_nil, List.append_nil, sm_flat]
  refine sm_congr fun i _ => ?_
  unfold Ps.row
  rw [sm_map]
theorem E_all {n : Nat} {f : Int → Int → Int} (h : Ps.E n f = 0) : ∀ x ∈ Ps.pairs n, f x.1 x.2 = 0 := by
  intro x hx
  unfold Ps.E at h
  cases hf : (Ps.pairs n).find? (fun x => f x.1 x.2 != 0) with
  | none =>
    rw [List.find?_eq_none] at hf
    simpa using hf x hx
  | some y =>
    rw [hf] at h
    have := List.find?_some hf
    simp only at h
    rw [h] at this
    simp at this
theorem pairs_in {n : Nat} {x : Int × Int} (h : x ∈ Ps.pairs n) : ∃ i k : Nat, i < n ∧ k < n ∧ x = ((i : Int), (k : Int)) := by
  unfold Ps.pairs Ps.pre Ps.row at h
  simp only [List.range_zero, List.map_nil, List.append_nil, List.mem_flatMap, List.mem_range, List.mem_map] at h
  obtain ⟨i, hi, k, hk, rfl⟩ := h
  exact ⟨i, k, hi, hk, rfl⟩
theorem parts_sum {d r n : Int} (hdr : d ≠ r) (hE : clnE (Dv.parts d r n) = 0) (s : Int) (hs : wrap64 s = s) : Dv.ptSum d (clnL (Dv.parts d r n)) s = wrap64 (s - n) := by
  rcases cln_alt (Dv.parts d r n) with ⟨_, h, hv⟩ | ⟨e, _, _⟩
  · have h0 : ∀ c, c ≠ d → c ≠ r → ofW (Dv.parts d r n) c = 0 := fun c e1 e2 => by
      unfold Dv.parts
      rw [of_two, if_neg (fun e => e2 e.symm), if_neg (fun e => e1 e.symm)]
    have vd : ofW (Dv.parts d r n) d = wrap64 (0 + wrap64 (-n)) := by
      unfold Dv.parts
      rw [of_two, if_neg (fun h => hdr h.symm), if_pos rfl]
    have vr : ofW (Dv.parts d r n) r = wrap64 (0 + n) := by
      unfold Dv.parts
      rw [of_two, if_pos rfl, if_neg hdr]
    have bd := am_bd (hv d)
    have br := am_bd (hv r)
    have hsum : ofW (Dv.parts d r n) d + ofW (Dv.parts d r n) r = 0 := by
      rw [vd, vr] at *
      unfold wrap64 at *
      omega
    by_cases hz : ofW (Dv.parts d r n) d = 0
    · rw [isC_none h fun c => by
        by_cases e1 : c = d
        · subst e1; exact hz
        by_cases e2 : c = r
        · subst e2; omega
        exact h0 c e1 e2]
      show s = wrap64 (s - n)
      rw [vd] at hz
      unfold wrap64 at *
      omega
    · rw [ptSum_wrap _ _ _ hs]
      rcases Int.lt_or_gt_of_ne hdr with hlt | hlt
      · rw [isC_two h hlt h0 hz (by omega), sm_cons, sm_cons, sm_nil]
        simp only [if_pos, if_neg (fun e => hdr (Eq.symm e) : ¬ r = d)]
        rw [vd]
        unfold wrap64 at *
        omega
      · rw [isC_two h hlt (fun c a b => h0 c b a) (by omega) hz, sm_cons, sm_cons, sm_nil]
        simp only [if_pos, if_neg (fun e => hdr (Eq.symm e) : ¬ r = d)]
        rw [vd]
        unfold wrap64 at *
        omega
  · rw [e] at hE; cases hE
namespace Lf
def fullM (ms : List Int) (e : Int) : Bool := decide (0 ≤ e) && (decide (e < ms.length) && (ms.getD e.toNat 0 == 3))
def Is (ms : List Int) (I : List ItemR) (l : List ConR) : Prop :=
  l.length = ms.length ∧ ∀ i (h : i < l.length), l[i].entity = i ∧ l[i].method = ms.getD i 0 ∧ l[i].items.l = I.filter (fun y => y.entity == (i : Int))
theorem full_in {ms : List Int} {e : Int} (h : fullM ms e = true) : 0 ≤ e ∧ e < ms.length := by
  unfold fullM at h
  simp only [Bool.and_eq_true, decide_eq_true_eq] at h
  exact ⟨h.1, h.2.1⟩
theorem con_at {ms : List Int} {I : List ItemR} {l : List ConR} (h : Is ms I l) (e : Int) : Dv.full l e = fullM ms e ∧ (fullM ms e = true → (conF l e).items.l = I.filter (fun y => y.entity == e)) := by
  by_cases he : 0 ≤ e ∧ e < ms.length
  · obtain ⟨k, rfl⟩ : ∃ k : Nat, e = k := ⟨e.toNat, by omega⟩
    have hk : k < l.length := by have := h.1; omega
    have hh := con_hit (l := l) (e := (k : Int)) k hk (fun j hj => by
      unfold conIs
      rw [(h.2 j (by omega)).1]
      simp; omega) (by unfold conIs; rw [(h.2 k hk).1]; simp)
    obtain ⟨g1, g2, g3⟩ := h.2 k hk
    refine ⟨?_, fun _ => by rw [hh.1]; exact g3⟩
    unfold Dv.full fullM
    rw [hh.1, hh.2, g2]
    have : ((k : Int)).toNat = k := by omega
    rw [this]
    simp; omega
  · have hm := con_miss (l := l) (e := e) fun j hj => by
      unfold conIs
      rw [(h.2 j hj).1]
      have := h.1
      simp; omega
    have hf : fullM ms e = false := by
      cases hh : fullM ms e
      · rfl
      · exact absurd (full_in hh) he
    refine ⟨?_, fun hh => by rw [hf] at hh; cases hh⟩
    unfold Dv.full
    rw [hm.2, hf]; rfl
def wt (ms : List Int) (d : Int) (i : Nat) (y : ItemR) : Int := if y.entity = i ∧ fullM ms i = true ∧ y.account = d ∧ (y.partner = i ∨ fullM ms y.partner = false) then y.amount else 0
def acc (ms : List Int) (d : Int) (I : List ItemR) (i j : Nat) : Int := wrap64 (sm (List.range i) (fun a => sm I (wt ms d a)) + sm (I.take j) (wt ms d i))
theorem acc_zero (ms : List Int) (d : Int) (I : List ItemR) : acc ms d I 0 0 = 0 := by
  show wrap64 (0 + 0) = 0
  unfold wrap64; omega
theorem acc_step (ms : List Int) (d : Int) (I : List ItemR) (i j : Nat) (h : j < I.length) : acc ms d I i (j + 1) = wrap64 (acc ms d I i j + wt ms d i I[j]) := by
  unfold acc
  rw [sm_take _ _ h, wrap_wrap]
  congr 1
  omega
theorem acc_skip (ms : List Int) (d : Int) (I : List ItemR) (i j : Nat) (h : j < I.length) (hw : wt ms d i I[j] = 0) : acc ms d I i (j + 1) = acc ms d I i j := by
  rw [acc_step _ _ _ _ _ h, hw, Int.add_zero]
  exact wrap_idem _
theorem acc_row (ms : List Int) (d : Int) (I : List ItemR) (i j : Nat) (h : I.length ≤ j) : acc ms d I i j = acc ms d I (i + 1) 0 := by
  unfold acc
  rw [List.take_of_length_le h, List.range_succ, sm_app, sm_cons, sm_nil, List.take_zero, sm_nil]
  congr 1
  omega
section
variable {ms : List Int} {I : List ItemR} {l : List ConR} {d r : Int} {n : Nat}
/-- the items of full entities on an account -/
def v0 (ms : List Int) (d : Int) (y : ItemR) : Int := if fullM ms y.entity = true ∧ y.account = d then y.amount else 0
def v1 (ms : List Int) (d : Int) (y : ItemR) : Int := if fullM ms y.entity = true ∧ y.account = d ∧ fullM ms y.partner = true ∧ y.partner ≠ y.entity then y.amount else 0
theorem items_val (h : Is ms I l) (q : Int → Bool) (k : Int) (hk : fullM ms k = true) : itVal (Dv.is d q) (conF l k).items.l = sm I (fun y => if y.entity = k ∧ y.account = d ∧ q y.partner = true then y.amount else 0) := by
  unfold itVal
  rw [(con_at h k).2 hk, sm_filter]
  refine sm_congr fun y _ => ?_
  unfold Dv.is
  by_cases e : y.entity = k
  · by_cases a : y.account = d
    · by_cases b : q y.partner = true
      · simp [e, a, b]
      · simp [e, a, b]
    · simp [e, a]
  · simp [e]
theorem foT_is (h : Is ms I l) (hn : ms.length ≤ n) : Dv.foT d l n = wrap64 (sm I (v0 ms d)) := by
  have key : ∀ n, Dv.foT d l n = wrap64 (sm (List.range n) (fun i => if fullM ms i = true then sm I (fun y => if y.entity = i ∧ y.account = d then y.amount else 0) else 0)) := by
    intro n
    induction n with
    | zero => show (0 : Int) = wrap64 0; unfold wrap64; omega
    | succ n ih =>
      unfold Dv.foT
      rw [List.range_succ, sm_app, sm_cons, sm_nil, (con_at h n).1, ih]
      by_cases hf : fullM ms n = true
      · rw [if_pos hf, if_pos hf]
        unfold Dv.sum
        rw [itSum_wrap, items_val h _ _ hf, wrap_wrap, wrap_wrap2]
        congr 1
        simp
      · rw [if_neg hf, if_neg hf]
        congr 1
        omega
  rw [key]
  congr 1
  have e1 : ∀ i ∈ List.range n, (if fullM ms ((i : Nat) : Int) = true then sm I (fun y => if y.entity = i ∧ y.account = d then y.amount else 0) else 0) = sm I (fun y => if ((i : Nat) : Int) = y.entity then v0 ms d y else 0) := by
    intro i _
    by_cases hf : fullM ms i = true
    · rw [if_pos hf]
      refine sm_congr fun y _ => ?_
      unfold v0
      by_cases e : y.entity = i
      · by_cases a : y.account = d
        · simp [e, a, hf]
        · simp [e, a]
      · rw [if_neg (fun h => e h.1), if_neg (fun h => e h.symm)]
    · rw [if_neg hf]
      symm
      refine sm_zero fun y _ => ?_
      by_cases e : (i : Int) = y.entity
      · rw [if_pos e]
        unfold v0
        rw [if_neg (fun h => hf (by rw [e]; exact h.1))]
      · rw [if_neg e]
  rw [sm_congr e1, sm_swap]
  refine sm_congr fun y _ => ?_
  rw [sm_at]
  by_cases hf : fullM ms y.entity = true
  · have := full_in hf
    rw [if_pos (by omega)]
  · have hv : v0 ms d y = 0 := by unfold v0; rw [if_neg (fun h => hf h.1)]
    rw [hv]
    split <;> rfl
/-- what the postings take out, pair by pair -/
def pv (ms : List Int) (d : Int) (I : List ItemR) (x : Int × Int) : Int := if x.1 ≠ x.2 ∧ fullM ms x.1 = true ∧ fullM ms x.2 = true then sm I (fun y => if y.entity = x.2 ∧ y.account = d ∧ y.partner = x.1 then y.amount else 0) else 0
theorem pv_sum (hn : ms.length ≤ n) : sm (Ps.pairs n) (pv ms d I) = sm I (v1 ms d) := by
  rw [sm_pairs]
  have e1 : ∀ i ∈ List.range n, sm (List.range n) (fun k => pv ms d I (((i : Nat) : Int), ((k : Nat) : Int))) = sm I (fun y => if ((i : Nat) : Int) = y.partner then v1 ms d y else 0) := by
    intro i _
    have e2 : ∀ k ∈ List.range n, pv ms d I (((i : Nat) : Int), ((k : Nat) : Int)) = sm I (fun y => if ((k : Nat) : Int) = y.entity then (if ((i : Nat) : Int) = y.partner then v1 ms d y else 0) else 0) := by
      intro k _
      unfold pv
      by_cases hc : ((i : Nat) : Int) ≠ ((k : Nat) : Int) ∧ fullM ms i = true ∧ fullM ms k = true
      · rw [if_pos hc]
        refine sm_congr fun y _ => ?_
        unfold v1
        by_cases e : ((k : Nat) : Int) = y.entity
        · by_cases f : ((i : Nat) : Int) = y.partner
          · rw [if_pos e, if_pos f]
            by_cases a : y.account = d
            · rw [if_pos ⟨e.symm, a, f.symm⟩, if_pos ⟨by rw [← e]; exact hc.2.2, a, by rw [← f]; exact hc.2.1, fun g => hc.1 (by rw [e, f]; exact g)⟩]
            · rw [if_neg (fun g => a g.2.1), if_neg (fun g => a g.2.1)]
          · rw [if_pos e, if_neg f, if_neg (fun g => f g.2.2.symm)]
        · rw [if_neg e, if_neg (fun g => e g.1.symm)]
      · rw [if_neg hc]
        symm
        refine sm_zero fun y _ => ?_
        by_cases e : ((k : Nat) : Int) = y.entity
        · by_cases f : ((i : Nat) : Int) = y.partner
          · rw [if_pos e, if_pos f]
            unfold v1
            rw [if_neg (fun g => hc ⟨fun g2 => g.2.2.2 (by rw [← e, ← f]; exact g2), by rw [f]; exact g.2.2.1, by rw [e]; exact g.1⟩)]
          · rw [if_pos e, if_neg f]
        · rw [if_neg e]
    rw [sm_congr e2, sm_swap]
    refine sm_congr fun y _ => ?_
    rw [sm_at]
    by_cases hf : fullM ms y.entity = true
    · have := full_in hf
      rw [if_pos (by omega)]
    · have hv : v1 ms d y = 0 := by unfold v1; rw [if_neg (fun h => hf h.1)]
      rw [hv]
      split <;> split <;> rfl
  rw [sm_congr e1, sm_swap]
  refine sm_congr fun y _ => ?_
  rw [sm_at]
  by_cases hf : fullM ms y.partner = true
  · have := full_in hf
    rw [if_pos (by omega)]
  · have hv : v1 ms d y = 0 := by unfold v1; rw [if_neg (fun h => hf h.2.2.1)]
    rw [hv]
    split <;> rfl
theorem acc_is : acc ms d I ms.length 0 = wrap64 (sm I (v0 ms d) - sm I (v1 ms d)) := by
  unfold acc
  rw [List.take_zero, sm_nil, Int.add_zero, sm_swap]
  congr 1
  have e : ∀ y ∈ I, sm (List.range ms.length) (fun a => wt ms d a y) = v0 ms d y - v1 ms d y := by
    intro y _
    have e1 : ∀ a ∈ List.range ms.length, wt ms d a y = if ((a : Nat) : Int) = y.entity then v0 ms d y - v1 ms d y else 0 := by
      intro a _
      unfold wt v0 v1
      by_cases e : ((a : Nat) : Int) = y.entity
      · rw [if_pos e, e]
        by_cases hf : fullM ms y.entity = true
        · by_cases hac : y.account = d
          · by_cases hp : fullM ms y.partner = true
            · by_cases hpe : y.partner = y.entity
              · simp [hf, hac, hpe]
              · simp [hf, hac, hp, hpe]
            · simp [hf, hac, hp]
          · simp [hf, hac]
        · simp [hf]
      · rw [if_neg e, if_neg (fun g => e g.1.symm)]
    rw [sm_congr e1, sm_at]
    by_cases hf : fullM ms y.entity = true
    · rw [if_pos (full_in hf)]
    · have h0 : v0 ms d y = 0 := by unfold v0; rw [if_neg (fun h => hf h.1)]
      have h1 : v1 ms d y = 0 := by unfold v1; rw [if_neg (fun h => hf h.1)]
      rw [h0, h1]
      split <;> rfl
  rw [sm_congr e]
  have := sm_add I (fun y => v0 ms d y - v1 ms d y) (v1 ms d)
  have e3 : sm I (fun a => v0 ms d a - v1 ms d a + v1 ms d a) = sm I (v0 ms d) := sm_congr fun y _ => by omega
  rw [e3] at this
  omega
theorem pair_is (h : Is ms I l) (i k : Int) : Dv.pair l i k = true ↔ (i ≠ k ∧ fullM ms i = true ∧ fullM ms k = true) := by
  unfold Dv.pair
  rw [(con_at h i).1, (con_at h k).1]
  simp
theorem step_is (h : Is ms I l) (hdr : d ≠ r) {P : Int} (hck : Dv.ck true 0 P = 0) {i k : Nat} (hi : i < n) (hk : k < n) (hE : Dv.pE true 0 P n d r l i k = 0) (s : Int) (hs : wrap64 s = s) :
    Dv.ptSum d (Dv.pL true 0 P n d r l i k) s = wrap64 (s - pv ms d I ((i : Int), (k : Int))) := by
  have hin : Dv.inN n i k = true := inN_yes (by omega)
  unfold Dv.pE at hE
  rw [if_pos hck, if_pos hin] at hE
  unfold Dv.pL pv
  by_cases hp : Dv.pair l i k = true
  · have hp2 := (pair_is h i k).1 hp
    rw [if_pos hp] at hE
    rw [if_pos ⟨hck, hin, hp⟩, if_pos hp2, parts_sum hdr hE s hs]
    unfold Dv.rec Dv.sum
    rw [itSum_wrap, items_val h _ _ hp2.2.2]
    have e : sm I (fun y => if y.entity = (k : Int) ∧ y.account = d ∧ (y.partner == (i : Int)) = true then y.amount else 0) = sm I (fun y => if y.entity = (k : Int) ∧ y.account = d ∧ y.partner = (i : Int) then y.amount else 0) := sm_congr fun y _ => by simp
    rw [e]
    dsimp only
    unfold wrap64; omega
  · have hp2 : ¬ (((i : Nat) : Int) ≠ ((k : Nat) : Int) ∧ fullM ms i = true ∧ fullM ms k = true) := fun g => hp ((pair_is h i k).2 g)
    rw [if_neg (fun g => hp g.2.2), if_neg hp2, Int.sub_zero, hs]
    rfl
theorem fold_is {g : Int → Int → List Bal} {v : Int × Int → Int} : ∀ (Q : List (Int × Int)) (s : Int), wrap64 s = s → (∀ x ∈ Q, ∀ s, wrap64 s = s → Dv.ptSum d (g x.1 x.2) s = wrap64 (s - v x)) → Dv.foG d ((Q.filter (Ps.some_ g)).map fun x => g x.1 x.2) s = wrap64 (s - sm Q v) := by
  intro Q
  induction Q with
  | nil => intro s hs _; show s = wrap64 (s - 0); rw [Int.sub_zero, hs]
  | cons x Q ih =>
    intro s hs hQ
    have hx := hQ x (by simp) s hs
    have hQ' : ∀ y ∈ Q, ∀ s, wrap64 s = s → Dv.ptSum d (g y.1 y.2) s = wrap64 (s - v y) := fun y hy => hQ y (by simp [hy])
    rw [List.filter_cons, sm_cons]
    by_cases hsx : Ps.some_ g x = true
    · rw [if_pos hsx, List.map_cons]
      show Dv.foG d _ (Dv.ptSum d (g x.1 x.2) s) = _
      rw [hx, ih _ (wrap_idem _) hQ']
      unfold wrap64; omega
    · rw [if_neg hsx, ih s hs hQ']
      have hg : g x.1 x.2 = [] := by unfold Ps.some_ at hsx; simpa using hsx
      rw [hg] at hx
      have hx2 : s = wrap64 (s - v x) := hx
      generalize sm Q v = z
      unfold wrap64 at *
      omega
theorem left_is {P : Int} (h : Is ms I l) (hn : ms.length ≤ n) (hdr : d ≠ r) (hE : Dv.foE true 0 P n d r l = 0) : Dv.foV true 0 P n d r l = acc ms d I ms.length 0 := by
  have hps : Dv.psE true 0 P n d r l = 0 := by
    unfold Dv.foE at hE
    by_cases h0 : Dv.psE true 0 P n d r l = 0
    · exact h0
    · rw [if_neg h0] at hE; exact hE
  have hck : Dv.ck true 0 P = 0 := by
    unfold Dv.psE at hps
    by_cases h0 : Dv.ck true 0 P = 0
    · exact h0
    · rw [if_neg h0] at hps; exact hps
  have hall : ∀ x ∈ Ps.pairs n, Dv.pE true 0 P n d r l x.1 x.2 = 0 := by
    unfold Dv.psE at hps
    rw [if_pos hck] at hps
    exact E_all hps
  unfold Dv.foV
  rw [if_pos hE, acc_is]
  unfold Dv.tot Dv.psD
  rw [if_pos hps, fold_is (v := pv ms d I) (Ps.pairs n) _ (Dv.foT_wrap _ _ _) (fun x hx s hs => by
    obtain ⟨i, k, hi, hk, rfl⟩ := pairs_in hx
    exact step_is h hdr hck hi hk (hall _ hx) s hs), foT_is h hn, pv_sum hn]
  unfold wrap64; omega
end
end Lf
theorem roles_apart {cur : ByteArray} {cl : List Acc} {ro : RolesR} {el : List EntR} {cal : Bool} (h : Gr.gv cur cl ro el cal = true) : ro.dividends ≠ ro.retained := by
  intro e
  have h1 := Gr.rolesOk_apart (gv_roles h) 11 (by show 11 < 15; omega)
  unfold Gr.codeBefore at h1
  rw [List.any_eq_false] at h1
  have h2 := h1 ((Gr.roles ro).getD 6 default) (by simp [Gr.roles])
  simp [Gr.roles, e] at h2
end Go.Proofs.Ytnkmjdaeafeaaaa
/- The walks of Foreign and of its reference. -/
namespace Go.Proofs.Ytnkmjdaeafeaaaa
set_option linter.unusedVariables false
set_option linter.unusedSimpArgs false
open Go.RowKit

def TwoI (v e : Int) (w : World) (en : Ending) (w' : World) : Prop := en = .returned (.tuple #[.int .i64 v, .int .i64 e]) ∧ Below w.heap.size w w'
section
variable (gcs : Array Value) (cur : ByteArray) (y m p : Int) (cl : List Acc) (cA : Option Addr) (cc : Nat) (ro : RolesR) (el : List EntR) (eA : Option Addr) (ec : Nat) (w : World)
set_option maxRecDepth 100000 in
set_option maxHeartbeats 16000000 in
theorem dforeign_any (bcs : Array Value) (l : List ConR) (q : Int) (A : Option Addr) (c : Nat) (HG : Hid (gcs = #[.string cur, .int .i64 y, .int .i64 m, .int .i64 p, .slice cA cl.length cc, .int .i64 ro.investment, .int .i64 ro.goodwill, .int .i64 ro.associates, .int .i64 ro.inventory, .int .i64 ro.reserve, .int .i64 ro.minority, .int .i64 ro.retained, .int .i64 ro.acquired, .int .i64 ro.owners, .int .i64 ro.disposal, .int .i64 ro.associateProfit, .int .i64 ro.dividends, .int .i64 ro.minorityProfit, .int .i64 ro.difference, .int .i64 ro.margin, .slice eA el.length ec])) (hBK : BkIs bcs gcs) (h : GIn w cl cA el eA) (hF : FewOk cur cl el) (hel : el.length ≤ 1000) (hC : CIn w l A) (hw1 : Wf ro.dividends) (hw2 : Wf ro.retained) :
    Calls Try.prog 35 #[.agg bcs, .slice A l.length c, .int .i64 q] w
      (TwoI (Dv.foV (Gr.gv cur cl ro el (Cal.ok y m p)) q p el.length ro.dividends ro.retained l) (Dv.foE (Gr.gv cur cl ro el (Cal.ok y m p)) q p el.length ro.dividends ro.retained l) w) := by
  have hb : Below w.heap.size w (w.alloc (.cells bcs 72)) := (Below.refl _ _).alloc (Nat.le_refl _) _
  have HB := Lib.hid (Blk.new w 72 bcs)
  have HBK := Lib.hid hBK
  have H := Lib.hid h
  have HC := Lib.hid hC
  have hen := hF.en
  have hg21 : (Try.prog.info? 29).map (·.size) = some 21 := grp_size
  have hgi : (Try.prog.info? 29).map (·.size) = some gcs.size := by rw [HG.out]; exact grp_size
  have hbz : (Try.prog.info? 72).map (·.size) = some bcs.size := by rw [hBK.size]; kernel_rfl
  have KP := Lib.hid (fun W h hC => dpostings_any gcs cur y m p cl cA cc ro el eA ec W bcs l q A c HG hBK h hF hel hC hw1 hw2)
  have HPD := Lib.hid (psD_some (V := Gr.gv cur cl ro el (Cal.ok y m p)) (p := q) (P := p) (n := el.length) (d := ro.dividends) (r := ro.retained) (l := l))
  have HPP := Lib.hid (fun D L => ps_parts (kd := 9) (V := Gr.gv cur cl ro el (Cal.ok y m p)) (p := q) (P := p) (n := el.length) (d := ro.dividends) (r := ro.retained) (l := l) (D := D) (L := L))
  clear h hC hBK hF
  have HE : Hid (Dv.foE (Gr.gv cur cl ro el (Cal.ok y m p)) q p el.length ro.dividends ro.retained l = if Dv.psE (Gr.gv cur cl ro el (Cal.ok y m p)) q p el.length ro.dividends ro.retained l = 0 then (if amV (Dv.tot (Gr.gv cur cl ro el (Cal.ok y m p)) q p el.length ro.dividends ro.retained l) = true then 0 else 2) else Dv.psE (Gr.gv cur cl ro el (Cal.ok y m p)) q p el.length ro.dividends ro.retained l) := Lib.hid rfl
  have HV : Hid (Dv.foV (Gr.gv cur cl ro el (Cal.ok y m p)) q p el.length ro.dividends ro.retained l = if Dv.foE (Gr.gv cur cl ro el (Cal.ok y m p)) q p el.length ro.dividends ro.retained l = 0 then Dv.tot (Gr.gv cur cl ro el (Cal.ok y m p)) q p el.length ro.dividends ro.retained l else 0) := Lib.hid rfl
  have HT : Hid (Dv.tot (Gr.gv cur cl ro el (Cal.ok y m p)) q p el.length ro.dividends ro.retained l = Dv.foG ro.dividends ((Dv.psD (Gr.gv cur cl ro el (Cal.ok y m p)) q p el.length ro.dividends ro.retained l).map fun x => Dv.pL (Gr.gv cur cl ro el (Cal.ok y m p)) q p el.length ro.dividends ro.retained l x.1 x.2) (Dv.foT ro.dividends l el.length)) := Lib.hid rfl
  generalize Dv.foE (Gr.gv cur cl ro el (Cal.ok y m p)) q p el.length ro.dividends ro.retained l = E at *
  generalize Dv.foV (Gr.gv cur cl ro el (Cal.ok y m p)) q p el.length ro.dividends ro.retained l = V at *
  generalize Dv.tot (Gr.gv cur cl ro el (Cal.ok y m p)) q p el.length ro.dividends ro.retained l = T at *
  generalize Dv.psD (Gr.gv cur cl ro el (Cal.ok y m p)) q p el.length ro.dividends ro.retained l = D at *
  generalize Dv.psE (Gr.gv cur cl ro el (Cal.ok y m p)) q p el.length ro.dividends ro.retained l = E0 at *
  generalize Dv.pL (Gr.gv cur cl ro el (Cal.ok y m p)) q p el.length ro.dividends ro.retained l = g at *
  go_enter Try.func35, Try.ntmps35
  go_upto_region 1 with fail
  generalize w.alloc (.cells bcs 72) = W at *
  go_upto_region 2 with (first
    | (refine wpList_load_blk 72 (.tmp 3) rfl w.heap.size rfl (by kernel_rfl) HB.out Try.underlying72 hbz ?_)
    | (go_at_call 32; refine (KP.out _ (H.out.step hb) (HC.out.step hb)).mono ?_; rintro en w5 ⟨v, L, rfl, hOP, hIS, hb9⟩; replace hb := bel hb hb9; replace HB := Lib.hid (HB.out.step hb9); obtain ⟨A5, n5, c5, hv⟩ := own_shape hOP.own; subst hv; have hLL := Ps.is_len hIS HPD.out.2 hen; obtain ⟨hn5, hPI⟩ := ps_pin hOP hLL (HPP.out _ _ hIS); subst hn5; have HPI := Lib.hid hPI; have HGG := Lib.hid (Ps.map_parts hIS); clear hb9 hOP hPI hIS))
  cases hx : (E0 != 0)
  · have hc0 : E0 = 0 := by simpa using hx
    clear hx
    subst hc0
    rw [if_pos rfl] at HE
    have hk20 : w5.cell? ⟨w.heap.size, 20, none⟩ = some (.slice eA el.length ec) := (bk_cell HB.out HBK.out 20 (by omega)).trans (by rw [HG.out]; rfl)
    go_wp2_with fail
    clear hk20
    go_loopw [10, 30] (fun s t wr => ∃ i : Nat, i ≤ el.length ∧ s = .int .i64 (Dv.foT ro.dividends l i) ∧ t = .int .i64 i ∧ Below w5.heap.size w5 wr) (fun _ t _ => el.length - (intOf t).toNat)
    case atStart => exact ⟨0, by omega, rfl, rfl, Below.refl _ _⟩
    case round =>
      obtain ⟨i, hi, rfl, rfl, hbr⟩ := hrel
      have hbw := bel hb hbr
      by_cases hil : i < el.length
      · have KF := Lib.hid (dfull_any l i A c wr (HC.out.step hbw))
        have HST : Hid (Dv.foT ro.dividends l (i + 1) = if Dv.full l i = true then wrap64 (Dv.foT ro.dividends l i + Dv.sum ro.dividends (fun _ => true) l i) else Dv.foT ro.dividends l i) := Lib.hid rfl
        cases hfu : Dv.full l i
        · have HE1 : Hid (Dv.foT ro.dividends l (i + 1) = Dv.foT ro.dividends l i) := Lib.hid (by rw [HST.out, hfu]; rfl)
          rw [hfu] at KF
          clear hfu HST
          generalize Dv.foT ro.dividends l i = s at *
          go_wp2_with (go_at_call 70; refine KF.out.mono ?_; rintro en w6 ⟨rfl, hb9⟩; have hb6 := bel hbr hb9; clear hb9)
          go_roundw
          case rel => exact ⟨i + 1, by omega, by rw [HE1.out], by go_num, hb6⟩
          case measure => simp [intOf]; omega
        · have HE1 : Hid (Dv.foT ro.dividends l (i + 1) = wrap64 (Dv.foT ro.dividends l i + Dv.sum ro.dividends (fun _ => true) l i)) := Lib.hid (by rw [HST.out, hfu]; rfl)
          rw [hfu] at KF
          clear hfu HST
          have KS := Lib.hid (fun W h => sumFor_any gcs cur y m p cl cA cc ro el eA ec W (fun _ => true) l i A c HG h (fun x W2 _ => for1_any x W2))
          unfold IntPost at KS
          generalize Dv.foT ro.dividends l i = s at *
          generalize Dv.sum ro.dividends (fun _ => true) l i = s2 at *
          go_wp2_with (first
            | (go_at_call 70; refine KF.out.mono ?_; rintro en w6 ⟨rfl, hb9⟩; have hb6 := bel hbr hb9; have HB6 := Lib.hid (HB.out.step hb6); clear hb9)
            | (refine wpList_load_arr rfl 29 (.tmp 37) rfl w.heap.size 0 rfl gcs (bk_range HB6.out HBK.out) Try.underlying29 21 hg21 HBK.out.gsz ?_)
            | (go_at_call 74; refine (KS.out _ (HC.out.step (bel hb hb6))).mono ?_; rintro en w7 ⟨rfl, hb9⟩; have hb7 := bel hb6 hb9; clear hb9))
          go_roundw
          case rel => exact ⟨i + 1, by omega, by rw [HE1.out], by go_num, hb7⟩
          case measure => simp [intOf]; omega
      · have hie : i = el.length := by omega
        have HTT : Hid (T = Dv.foG ro.dividends (L.map fun x => x.parts.l) (Dv.foT ro.dividends l i)) := Lib.hid (by rw [HT.out, HGG.out, hie])
        clear hie HT HGG
        obtain ⟨wo, rfl⟩ : ∃ wo : World, wo = wr := ⟨_, rfl⟩
        generalize Dv.foT ro.dividends l i = T0 at *
        go_wp2_with fail
        go_loopw [10, 46] (fun s t wr => ∃ k : Nat, k ≤ L.length ∧ s = .int .i64 (Dv.foG ro.dividends ((L.map fun x => x.parts.l).take k) T0) ∧ t = .int .i64 k ∧ Below w5.heap.size w5 wr) (fun _ t _ => L.length - (intOf t).toNat)
        case atStart => exact ⟨0, by omega, rfl, rfl, hbr⟩
        case round =>
          clear hbr hbw
          obtain ⟨k, hk, rfl, rfl, hbr⟩ := hrel
          have hbw := bel hb hbr
          by_cases hkl : k < L.length
          · obtain ⟨b, o, hA, hbo, hx⟩ := rd_at (f := PostR.cells) (sz := 5) (fun _ => rfl) (Rd.now HPI.out.rd hbr) hkl
            subst hA
            have HX := Lib.hid hx
            have HR := Lib.hid (HPI.out.pt _ (List.getElem_mem hkl))
            have hfew := HPI.out.few _ (List.getElem_mem hkl)
            have HGT := Lib.hid (Dv.foG_take ro.dividends (L.map fun x => x.parts.l) T0 k (by rw [List.length_map]; exact hkl))
            rw [List.getElem_map] at HGT
            clear hx
            generalize L[k] = x at *
            obtain ⟨xk, xe, xo, xr, ⟨xl, xA, xc⟩⟩ := x
            dsimp only at *
            have f0 : wr.cell? ⟨b, o + k * 5, none⟩ = some (.int .i64 xk) := HX.out 0 _ rfl
            have f1 : wr.cell? ⟨b, o + k * 5 + 1, none⟩ = some (.int .i64 xe) := HX.out 1 _ rfl
            have f2 : wr.cell? ⟨b, o + k * 5 + 2, none⟩ = some (.int .i64 xo) := HX.out 2 _ rfl
            have f3 : wr.cell? ⟨b, o + k * 5 + 3, none⟩ = some (.int .i64 xr) := HX.out 3 _ rfl
            have f4 : wr.cell? ⟨b, o + k * 5 + 4, none⟩ = some (.slice xA xl.length xc) := HX.out 4 _ rfl
            generalize Dv.foG ro.dividends ((L.map fun x => x.parts.l).take k) T0 = sk at *
            have hst := hbr.alloc hbr.size (.cells #[.int .i64 xk, .int .i64 xe, .int .i64 xo, .int .i64 xr, .slice xA xl.length xc] 55)
            obtain ⟨wp, rfl⟩ : ∃ wp : World, wp = wr := ⟨_, rfl⟩
            go_wp2_with fail
            clear f0 f1 f2 f3 f4
            generalize wp.alloc (.cells #[.int .i64 xk, .int .i64 xe, .int .i64 xo, .int .i64 xr, .slice xA xl.length xc] 55) = wq at *
            go_loopw [10, 53] (fun s t wr => ∃ j : Nat, j ≤ xl.length ∧ s = .int .i64 (Dv.ptSum ro.dividends (xl.take j) sk) ∧ t = .int .i64 j ∧ Below w5.heap.size w5 wr) (fun _ t _ => xl.length - (intOf t).toNat)
            case atStart => exact ⟨0, by omega, rfl, rfl, hst⟩
            case round =>
              clear hbr hbw hst
              obtain ⟨j, hj, rfl, rfl, hbr⟩ := hrel
              have HPT := Lib.hid (Dv.ptSum_take ro.dividends xl sk j)
              by_cases hjl : j < xl.length
              · obtain ⟨b2, o2, hA2, hbo2, g0, g1⟩ := Bal.at_ (Rd.now HR.out hbr) hjl
                subst hA2
                have HPJ := Lib.hid (HPT.out hjl)
                generalize xl[j] = pt at *
                obtain ⟨pc, pa⟩ := pt
                dsimp only at *
                have hs2 := hbr.alloc hbr.size (.cells #[.int .i64 pc, .int .i64 pa] 129)
                have hk16 : (wr.alloc (.cells #[.int .i64 pc, .int .i64 pa] 129)).cell? ⟨w.heap.size, 16, none⟩ = some (.int .i64 ro.dividends) := (bk_cell (HB.out.step hs2) HBK.out 16 (by omega)).trans (by rw [HG.out]; rfl)
                generalize Dv.ptSum ro.dividends (xl.take j) sk = sj at *
                by_cases hac : pc = ro.dividends
                · have HE1 : Hid (Dv.ptSum ro.dividends (xl.take (j + 1)) sk = wrap64 (sj + pa)) := Lib.hid (by rw [HPJ.out, if_pos hac])
                  have hacb : (pc == ro.dividends) = true := by simpa using hac
                  clear hac
                  go_wp2_with fail
                  clear hk16
                  go_roundw
                  case rel => exact ⟨j + 1, by omega, by rw [HE1.out], by go_num, hs2⟩
                  case measure => simp [intOf]; omega
                · have HE1 : Hid (Dv.ptSum ro.dividends (xl.take (j + 1)) sk = sj) := Lib.hid (by rw [HPJ.out, if_neg hac])
                  have hacb : (pc == ro.dividends) = false := by simpa using hac
                  clear hac
                  go_wp2_with fail
                  clear hk16
                  go_roundw
                  case rel => exact ⟨j + 1, by omega, by rw [HE1.out], by go_num, hs2⟩
                  case measure => simp [intOf]; omega
              · have HE1 : Hid (Dv.foG ro.dividends ((L.map fun x => x.parts.l).take (k + 1)) T0 = Dv.ptSum ro.dividends (xl.take j) sk) := Lib.hid (by rw [HGT.out, List.take_of_length_le (by omega)])
                generalize Dv.ptSum ro.dividends (xl.take j) sk = sj at *
                go_wp2_with fail
                go_roundw
                case rel => exact ⟨k + 1, by omega, by rw [HE1.out], by go_num, hbr⟩
                case measure => simp [intOf]; omega
          · have HE1 : Hid (Dv.foG ro.dividends ((L.map fun x => x.parts.l).take k) T0 = T) := Lib.hid (by rw [HTT.out, List.take_of_length_le (by rw [List.length_map]; omega)])
            rw [HE1.out]
            cases ha : amV T
            · have HE2 : Hid (E = 2) := Lib.hid (by rw [HE.out, ha]; rfl)
              have HV2 : Hid (V = 0) := Lib.hid (by rw [HV.out, HE2.out]; rfl)
              have HA := Lib.hid ha
              clear ha
              go_wp2_with (go_at_call 64; refine (money_any _ _).mono ?_; rintro e w2 ⟨rfl, rfl⟩; rw [HA.out])
              go_ret2
              exact ⟨by rw [HE2.out, HV2.out]; rfl, hbw⟩
            · have HE2 : Hid (E = 0) := Lib.hid (by rw [HE.out, ha]; rfl)
              have HV2 : Hid (V = T) := Lib.hid (by rw [HV.out, HE2.out]; rfl)
              have HA := Lib.hid ha
              clear ha
              go_wp2_with (go_at_call 64; refine (money_any _ _).mono ?_; rintro e w2 ⟨rfl, rfl⟩; rw [HA.out])
              go_ret2
              exact ⟨by rw [HE2.out, HV2.out]; rfl, hbw⟩
  · have hc0 : E0 ≠ 0 := by simpa using hx
    have HE1 : Hid (E = E0) := Lib.hid (by rw [HE.out, if_neg hc0])
    have HV1 : Hid (V = 0) := Lib.hid (by rw [HV.out, HE1.out, if_neg hc0])
    clear hc0
    go_wp2_with fail
    go_ret2
    exact ⟨by rw [HE1.out, HV1.out]; rfl, hb⟩
end
end Go.Proofs.Ytnkmjdaeafeaaaa
