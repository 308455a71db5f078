/- Texts of this claim, put together. -/
import Derived.Test.YthfbpbbepogllaaGreatJBJ
import Derived.Test.YthfbpbbepogllaaGreatJAB
import Derived.Laws.StructEq
import Derived.Test.YthfbpbbepogllaaGreatJBH
/- Charts of accounts: the tree of a valid chart; what rolled sums add up to. No program. -/
namespace Go.Proofs.YthfbpbbepogllaaGreat
set_option linter.unusedVariables false
set_option linter.unusedSimpArgs false
open Go.RowKit
namespace Ch
theorem ru_app (l : List Acc) (n : Nat) (s t : List Int) (c : Int) : ru l n (s ++ t) c = s ++ ru l n t c := by
  induction n generalizing t c with
  | zero => rfl
  | succ n ih =>
    cases hf : find l c with
    | none => rw [ru_none l _ _ _ hf, ru_none l _ _ _ hf]
    | some a => rw [ru_on l n _ c a hf, ru_on l n t c a hf, List.append_assoc, ih]
theorem ru_more (l : List Acc) (n : Nat) (s : List Int) (c : Int) (h : (ru l (n + 1) s c).length ≤ s.length + n) : ru l n s c = ru l (n + 1) s c := by
  induction n generalizing s c with
  | zero =>
    cases hf : find l c with
    | none => rw [ru_none l _ _ _ hf, ru_none l _ _ _ hf]
    | some a => rw [ru_on l 0 s c a hf] at h; simp [ru] at h; omega
  | succ n ih =>
    cases hf : find l c with
    | none => rw [ru_none l _ _ _ hf, ru_none l _ _ _ hf]
    | some a =>
      rw [ru_on l n s c a hf, ru_on l (n + 1) s c a hf]
      refine ih _ _ ?_
      rw [ru_on l (n + 1) s c a hf] at h
      simp only [List.length_append, List.length_singleton]
      omega
section
variable {l : List Acc} {g : Bool} (h : validV l g = true)
include h
theorem v_base : base l g := (valid_base h).1
theorem v_nodup : (l.map Acc.code).Nodup := by
  have hb := v_base h
  rw [List.nodup_iff_pairwise_ne, List.pairwise_map, List.pairwise_iff_getElem]
  intro i j hi hj hij e
  have := base_asc hb i j hj hij
  omega
/-- the path of an account: itself, and the path of its parent -/
theorem v_path {u : Acc} (hu : u ∈ l) : pcl l u.code = u.code :: pcl l u.parent := by
  have hb := v_base h
  obtain ⟨hr, _⟩ := valid_path h u.code
  obtain ⟨hr2, _⟩ := valid_path h u.parent
  rw [← hr, ← hr2]
  unfold rcl
  rw [ru_on l _ [] u.code u (base_find hb hu), List.nil_append]
  have e := ru_app l l.length [u.code] [] u.parent
  rw [List.append_nil] at e
  rw [e, ru_more l l.length [] u.parent]
  · rfl
  · have := pcl_len l u.parent
    rw [← hr2] at this
    unfold rcl at this
    simpa using this
theorem v_zero : pcl l 0 = [] := pcl_none l 0 (base_zero (v_base h))
theorem v_up {u : Acc} (hu : u ∈ l) : u.parent = 0 ∨ ∃ p ∈ l, p.code = u.parent ∧ p.kind = u.kind := by
  obtain ⟨j, hj, rfl⟩ := List.mem_iff_getElem.1 hu
  have := (v_base h j hj).1
  unfold rproperV at this
  simp only [Bool.and_eq_true, Bool.or_eq_true, beq_iff_eq] at this
  rcases this.2 with e | e
  · exact .inl e
  · unfold rrestV at e
    cases hf : find l l[j].parent with
    | none => rw [hf] at e; cases e
    | some p =>
      rw [hf] at e
      simp only [Bool.and_eq_true, beq_iff_eq] at e
      obtain ⟨h1, h2⟩ := find_some l _ p hf
      exact .inr ⟨p, h1, h2, e.2⟩
theorem v_pos {u : Acc} (hu : u ∈ l) : 1 ≤ u.code := by
  obtain ⟨j, hj, rfl⟩ := List.mem_iff_getElem.1 hu
  have := (v_base h j hj).1
  unfold rproperV at this
  simp only [Bool.and_eq_true] at this
  exact fields_pos this.1
theorem v_notin {u : Acc} (hu : u ∈ l) : u.code ∉ pcl l u.parent := by
  have := pcl_nodup l u.code
  rw [v_path h hu, List.nodup_cons] at this
  exact this.1
/-- an induction along the paths -/
theorem v_ind {p : Acc → Prop} (hp : ∀ u ∈ l, (∀ v ∈ l, v.code = u.parent → p v) → p u) : ∀ u ∈ l, p u := by
  have : ∀ n, ∀ u ∈ l, (pcl l u.code).length ≤ n → p u := by
    intro n
    induction n with
    | zero =>
      intro u hu hn
      rw [v_path h hu] at hn
      simp at hn
    | succ n ih =>
      intro u hu hn
      refine hp u hu fun v hv e => ih v hv ?_
      rw [v_path h hu] at hn
      rw [e]
      simpa using hn
  exact fun u hu => this _ u hu (Nat.le_refl _)
/-- how often an account stands on a path -/
theorem v_in {u : Acc} (hu : u ∈ l) (c : Int) : (if c ∈ pcl l u.code then (1 : Int) else 0) = (if u.code = c then 1 else 0) + (if c ∈ pcl l u.parent then 1 else 0) := by
  rw [v_path h hu]
  have hn := v_notin h hu
  by_cases e : u.code = c
  · subst e
    simp [hn]
  · have e2 : ¬ c = u.code := fun x => e x.symm
    simp [e, e2]
theorem v_kids {u : Acc} (hu : u ∈ l) (c : Int) : sm (kids l c) (fun k => if u.code = k then (1 : Int) else 0) = if u.parent = c then 1 else 0 := by
  unfold kids
  rw [sm_map, sm_filter]
  have e : sm l (fun a => if (a.parent == c) = true then (if u.code = a.code then (1 : Int) else 0) else 0) = sm l (fun a => if a.code = u.code then (if a.parent = c then (1 : Int) else 0) else 0) := by
    refine sm_congr fun a _ => ?_
    by_cases h1 : a.parent = c <;> by_cases h2 : a.code = u.code
    · simp [h1, h2]
    · have h3 : ¬ u.code = a.code := fun x => h2 x.symm
      simp [h1, h2, h3]
    · simp [h1, h2]
    · simp [h1, h2]
  rw [e, sm_one Acc.code (v_nodup h) hu]
theorem v_split {c : Int} (hc : 1 ≤ c) : ∀ u ∈ l, (if c ∈ pcl l u.code then (1 : Int) else 0) = (if u.code = c then 1 else 0) + sm (kids l c) (fun k => if k ∈ pcl l u.code then 1 else 0) := by
  refine v_ind h fun u hu ih => ?_
  rw [v_in h hu]
  have e : sm (kids l c) (fun k => if k ∈ pcl l u.code then (1 : Int) else 0) = (if u.parent = c then 1 else 0) + sm (kids l c) (fun k => if k ∈ pcl l u.parent then 1 else 0) := by
    rw [← v_kids h hu c, ← sm_add]
    exact sm_congr fun k _ => v_in h hu k
  rw [e]
  rcases v_up h hu with hp | ⟨p, hp, e1, _⟩
  · rw [hp, v_zero h]
    have : ¬ (0 : Int) = c := by omega
    rw [sm_zero (fun k _ => by simp)]
    simp [this]
  · have := ih p hp e1
    rw [e1] at this
    rw [this]
theorem v_roots : ∀ u ∈ l, sm l (fun r => if r.parent = 0 ∧ r.code ∈ pcl l u.code then (1 : Int) else 0) = 1 := by
  refine v_ind h fun u hu ih => ?_
  have e : sm l (fun r => if r.parent = 0 ∧ r.code ∈ pcl l u.code then (1 : Int) else 0) = (if u.parent = 0 then 1 else 0) + sm l (fun r => if r.parent = 0 ∧ r.code ∈ pcl l u.parent then 1 else 0) := by
    rw [← sm_one Acc.code (v_nodup h) hu (fun r => if r.parent = 0 then (1 : Int) else 0), ← sm_add]
    refine sm_congr fun r _ => ?_
    have := v_in h hu r.code
    by_cases h1 : r.parent = 0
    · simp only [h1, true_and, if_true]
      rw [this]
      by_cases h2 : u.code = r.code
      · simp only [if_pos h2, if_pos h2.symm]
      · have h3 : ¬ r.code = u.code := fun x => h2 x.symm
        simp only [if_neg h2, if_neg h3]
    · simp [h1]
  rw [e]
  rcases v_up h hu with hp | ⟨p, hp, e1, _⟩
  · rw [hp, v_zero h, sm_zero (fun r _ => by simp)]
    simp
  · have h1 := ih p hp e1
    rw [e1] at h1
    have h2 := v_pos h hp
    rw [h1, if_neg (by omega)]
    rfl
/-- what stands on a path -/
theorem v_chain : ∀ u ∈ l, ∀ i (hi : i < (pcl l u.code).length), ∃ x ∈ l, x.code = (pcl l u.code)[i] ∧ x.kind = u.kind ∧ (∀ (h2 : i + 1 < (pcl l u.code).length), x.parent = (pcl l u.code)[i + 1]) ∧ (i + 1 = (pcl l u.code).length → x.parent = 0) := by
  refine v_ind h fun u hu ih => ?_
  intro i hi
  have hp := v_path h hu
  cases i with
  | zero =>
    refine ⟨u, hu, by simp [hp], rfl, fun h2 => ?_, fun h2 => ?_⟩
    · simp only [hp] at h2 ⊢
      simp only [Nat.zero_add, List.getElem_cons_succ]
      rcases v_up h hu with e | ⟨p, hpl, e, _⟩
      · simp only [e, v_zero h] at h2
        simp at h2
      · have q := v_path h hpl
        rw [e] at q
        simp only [q, List.getElem_cons_zero]
    · rw [hp] at h2
      rcases v_up h hu with e | ⟨p, hpl, e, _⟩
      · exact e
      · rw [← e, v_path h hpl] at h2
        simp at h2
  | succ i =>
    have hi' : i < (pcl l u.parent).length := by rw [hp] at hi; simpa using hi
    rcases v_up h hu with e | ⟨p, hpl, e, ek⟩
    · rw [e, v_zero h] at hi'
      simp at hi'
    · have hi2 : i < (pcl l p.code).length := by rw [e]; exact hi'
      obtain ⟨x, hx, h1, h2, h3, h4⟩ := ih p hpl e i hi2
      refine ⟨x, hx, ?_, by rw [h2, ek], fun h5 => ?_, fun h5 => ?_⟩
      · rw [h1]
        simp only [hp, List.getElem_cons_succ, e]
      · have h6 : i + 1 < (pcl l p.code).length := by rw [e]; rw [hp] at h5; simpa using h5
        rw [h3 h6]
        simp only [hp, List.getElem_cons_succ, e]
      · refine h4 ?_
        rw [e]
        rw [hp] at h5
        simpa using h5
omit h in
theorem v_under (l : List Acc) (c : Int) : ((und l c l).length : Int) = sm l (fun a => if c ∈ pcl l a.code then 1 else 0) := by
  unfold und
  rw [List.length_map, sm_count]
  exact sm_congr fun a _ => by simp
/-- an account and what belongs to its children -/
theorem v_count {a : Acc} (ha : a ∈ l) : ((und l a.code l).length : Int) = 1 + sm (kids l a.code) (fun k => ((und l k l).length : Int)) := by
  rw [v_under l]
  have e : sm l (fun x => if a.code ∈ pcl l x.code then (1 : Int) else 0) = sm l (fun x => (if x.code = a.code then 1 else 0) + sm (kids l a.code) (fun k => if k ∈ pcl l x.code then 1 else 0)) := sm_congr fun x hx => v_split h (v_pos h ha) x hx
  rw [e, sm_add, sm_one Acc.code (v_nodup h) ha (fun _ => 1), sm_swap]
  congr 1
  exact sm_congr fun k _ => (v_under l k).symm
end
/-- balances are put together by their accounts -/
theorem regroup {l : List Acc} {g : Bool} (h : validV l g = true) (F : Int → Prop) [DecidablePred F] (b : List Bal) (hb : ∀ x ∈ b, fnB l x.account = true) :
    sm b (fun x => if F x.account then x.amount else 0) = sm l (fun u => if F u.code then ofV b u.code else 0) := by
  induction b with
  | nil => rw [sm_nil, sm_zero]; intro u _; simp [ofV, sm_nil]
  | cons x b ih =>
    have hx := hb x (by simp)
    have ⟨u, hu, e⟩ : ∃ u ∈ l, u.code = x.account := by
      unfold fnB at hx
      cases hf : find l x.account with
      | none => rw [hf] at hx; cases hx
      | some a => exact ⟨a, find_some l _ a hf⟩
    rw [sm_cons, ih (fun y hy => hb y (by simp [hy]))]
    have e2 : sm l (fun u => if F u.code then ofV (x :: b) u.code else 0) = sm l (fun v => (if v.code = u.code then (if F v.code then x.amount else 0) else 0) + if F v.code then ofV b v.code else 0) := by
      refine sm_congr fun v _ => ?_
      have : ofV (x :: b) v.code = (if x.account = v.code then x.amount else 0) + ofV b v.code := sm_cons _ _ _
      rw [this, ← e]
      by_cases h1 : F v.code
      · by_cases h2 : v.code = u.code
        · simp only [if_pos h1, if_pos h2, if_pos h2.symm]
        · have h3 : ¬ u.code = v.code := fun y => h2 y.symm
          simp only [if_pos h1, if_neg h2, if_neg h3]
      · simp [h1]
    rw [e2, sm_add, sm_one Acc.code (v_nodup h) hu, e]
/-- accounts with a number that is not 0 -/
def pickL (f : Int → Int) (m : List Acc) : List Bal := (m.filter fun a => f a.code != 0).map fun a => ⟨a.code, f a.code⟩
theorem roll_pick (l : List Acc) (b : List Bal) (m : List Acc) : rollL l b m = pickL (sumAt l b) m := rfl
theorem pickL_take (f : Int → Int) (m : List Acc) (k : Nat) (h : k < m.length) : pickL f (m.take (k + 1)) = if f m[k].code = 0 then pickL f (m.take k) else pickL f (m.take k) ++ [⟨m[k].code, f m[k].code⟩] := by
  unfold pickL
  rw [List.take_succ_eq_append_getElem h, List.filter_append]
  by_cases hp : f m[k].code = 0
  · simp [hp]
  · simp [hp]
theorem pickL_len (f : Int → Int) (m : List Acc) : (pickL f m).length ≤ m.length := by
  unfold pickL
  rw [List.length_map]
  exact List.length_filter_le _ _
theorem pickL_congr {f e : Int → Int} {m : List Acc} (h : ∀ a ∈ m, f a.code = e a.code) : pickL f m = pickL e m := by
  unfold pickL
  rw [List.filter_congr (fun a ha => by rw [h a ha])]
  refine List.map_congr_left fun a ha => ?_
  rw [h a (List.mem_filter.1 ha).1]
theorem pick_sum (f : Int → Int) (m : List Acc) (F : Int → Prop) [DecidablePred F] : sm (pickL f m) (fun x => if F x.account then x.amount else 0) = sm m (fun a => if F a.code then f a.code else 0) := by
  unfold pickL
  rw [sm_map, sm_filter]
  refine sm_congr fun a _ => ?_
  by_cases h0 : f a.code = 0
  · simp [h0]
  · simp [h0]
theorem pick_of {l : List Acc} {g : Bool} (h : validV l g = true) (f : Int → Int) {a : Acc} (ha : a ∈ l) : ofV (pickL f l) a.code = f a.code := by
  have e : ofV (pickL f l) a.code = sm l (fun x => if x.code = a.code then f x.code else 0) := pick_sum f l (fun c => c = a.code)
  rw [e, sm_one Acc.code (v_nodup h) ha (fun x => f x.code)]
theorem sumAt_sm (l : List Acc) (b : List Bal) (c : Int) : sumAt l b c = sm b (fun x => if c ∈ pcl l x.account then x.amount else 0) := rfl
/-- the sum of an account: its own, and those of its children -/
theorem v_sums {l : List Acc} {g : Bool} (h : validV l g = true) {b : List Bal} (hb : ∀ x ∈ b, fnB l x.account = true) {a : Acc} (ha : a ∈ l) :
    sumAt l b a.code = ofV b a.code + sm (kids l a.code) (fun k => sumAt l b k) := by
  rw [sumAt_sm, regroup h (fun y => a.code ∈ pcl l y) b hb]
  have e1 : sm l (fun u => if a.code ∈ pcl l u.code then ofV b u.code else 0) = sm l (fun u => (if u.code = a.code then ofV b u.code else 0) + sm (kids l a.code) (fun k => if k ∈ pcl l u.code then ofV b u.code else 0)) := by
    refine sm_congr fun u hu => ?_
    have := v_split h (v_pos h ha) u hu
    rw [sm_mul_ite (kids l a.code) (fun k => k ∈ pcl l u.code) (ofV b u.code)]
    by_cases h1 : a.code ∈ pcl l u.code <;> by_cases h2 : u.code = a.code
    · rw [if_pos h1, if_pos h2] at this
      have h3 : sm (kids l a.code) (fun k => if k ∈ pcl l u.code then (1 : Int) else 0) = 0 := by omega
      rw [if_pos h1, if_pos h2, h3]; simp
    · rw [if_pos h1, if_neg h2] at this
      have h3 : sm (kids l a.code) (fun k => if k ∈ pcl l u.code then (1 : Int) else 0) = 1 := by omega
      rw [if_pos h1, if_neg h2, h3]; simp
    · rw [if_neg h1, if_pos h2] at this
      have h3 : sm (kids l a.code) (fun k => if k ∈ pcl l u.code then (1 : Int) else 0) = -1 := by omega
      rw [if_neg h1, if_pos h2, h3]; omega
    · rw [if_neg h1, if_neg h2] at this
      have h3 : sm (kids l a.code) (fun k => if k ∈ pcl l u.code then (1 : Int) else 0) = 0 := by omega
      rw [if_neg h1, if_neg h2, h3]; simp
  rw [e1, sm_add, sm_one Acc.code (v_nodup h) ha (fun u => ofV b u.code), sm_swap]
  congr 1
  refine sm_congr fun k _ => ?_
  rw [sumAt_sm, regroup h (fun y => k ∈ pcl l y) b hb]
/-- the sums of the accounts at the top are all -/
theorem v_all {l : List Acc} {g : Bool} (h : validV l g = true) {b : List Bal} (hb : ∀ x ∈ b, fnB l x.account = true) :
    sm l (fun a => if a.parent = 0 then sumAt l b a.code else 0) = sm b (fun x => x.amount) := by
  have e : sm l (fun a => if a.parent = 0 then sumAt l b a.code else 0) = sm l (fun a => sm b (fun x => if a.parent = 0 ∧ a.code ∈ pcl l x.account then x.amount else 0)) := by
    refine sm_congr fun a _ => ?_
    by_cases h1 : a.parent = 0
    · rw [if_pos h1, sumAt_sm]
      exact sm_congr fun x _ => by simp [h1]
    · rw [if_neg h1, sm_zero (fun x _ => by simp [h1])]
  rw [e, sm_swap]
  refine sm_congr fun x hx => ?_
  have ⟨u, hu, e⟩ : ∃ u ∈ l, u.code = x.account := by
    have hx := hb x hx
    unfold fnB at hx
    cases hf : find l x.account with
    | none => rw [hf] at hx; cases hx
    | some a => exact ⟨a, find_some l _ a hf⟩
  rw [← e, sm_mul_ite l (fun a => a.parent = 0 ∧ a.code ∈ pcl l u.code) x.amount, v_roots h u hu]
  simp
def addL (l : List Acc) (a b : List Bal) : List Acc → List Bal := pickL (fun c => wrap64 (ofW a c + ofW b c))
theorem roll_ok {l : List Acc} {b : List Bal} (h : rollE l b = 0) : eitherV l = true ∧ balsV l b = true ∧ (∀ a ∈ l, amV (sumAt l b a.code) = true) ∧ rollV l b = rollL l b l := by
  unfold rollE at h
  by_cases h1 : (eitherV l && balsV l b) = true
  · rw [if_pos h1] at h
    by_cases h2 : rollOk l b = true
    · simp only [Bool.and_eq_true] at h1
      refine ⟨h1.1, h1.2, fun a ha => ?_, ?_⟩
      · obtain ⟨j, hj, rfl⟩ := List.mem_iff_getElem.1 ha
        have := allAt_at h2 hj
        rwa [getD_at l j hj] at this
      · unfold rollV
        simp [h1.1, h1.2, h2]
    · rw [if_neg h2] at h; omega
  · rw [if_neg h1] at h; omega
theorem roll_amounts {l : List Acc} {b : List Bal} (h : rollE l b = 0) : ∀ x ∈ rollV l b, amV x.amount = true := by
  obtain ⟨_, _, h3, h4⟩ := roll_ok h
  rw [h4]
  intro x hx
  unfold rollL at hx
  obtain ⟨a, ha, rfl⟩ := List.mem_map.1 hx
  exact h3 a (List.mem_filter.1 ha).1
/-- rolled balances add up -/
theorem adds {l : List Acc} {a b : List Bal} (ha : rollE l a = 0) (hb : rollE l b = 0) (hc : rollE l (addL l a b l) = 0) (hn : l.length ≤ 60) (hna : a.length ≤ 60) (hnb : b.length ≤ 60) :
    rollV l (addL l a b l) = addL l (rollV l a) (rollV l b) l := by
  obtain ⟨h1, h2, h3, h4⟩ := roll_ok ha
  obtain ⟨_, h5, h6, h7⟩ := roll_ok hb
  obtain ⟨_, _, _, h10⟩ := roll_ok hc
  obtain ⟨g, _, hv⟩ := either_base h1
  rw [h10, roll_pick]
  unfold addL
  refine pickL_congr fun u hu => ?_
  have ea : ofW (rollV l a) u.code = sumAt l a u.code := by
    rw [ofW_eq _ _ (roll_amounts ha) (by have := rollV_len l a; omega), h4, roll_pick, pick_of hv _ hu]
  have eb : ofW (rollV l b) u.code = sumAt l b u.code := by
    rw [ofW_eq _ _ (roll_amounts hb) (by have := rollV_len l b; omega), h7, roll_pick, pick_of hv _ hu]
  have w1 := amV_is (h3 u hu)
  have w2 := amV_is (h6 u hu)
  show sumAt l (pickL (fun c => wrap64 (ofW a c + ofW b c)) l) u.code = wrap64 (ofW (rollV l a) u.code + ofW (rollV l b) u.code)
  rw [ea, eb, IntWalk.wrap64_in _ ⟨by omega, by omega⟩, sumAt_sm, pick_sum _ _ (fun y => u.code ∈ pcl l y), sumAt_sm, sumAt_sm, regroup hv (fun y => u.code ∈ pcl l y) a (fun x hx => bals_found h2 hx),
    regroup hv (fun y => u.code ∈ pcl l y) b (fun x hx => bals_found h5 hx), ← sm_add]
  refine sm_congr fun v _ => ?_
  have k1 := fun x hx => asc_amount (bals_asc h2) (x := x) hx
  have k2 := fun x hx => asc_amount (bals_asc h5) (x := x) hx
  rw [ofW_eq a _ k1 (by omega), ofW_eq b _ k2 (by omega)]
  have d1 := ofV_bd a v.code k1
  have d2 := ofV_bd b v.code k2
  rw [IntWalk.wrap64_in _ ⟨by omega, by omega⟩]
  split <;> omega
end Ch
end Go.Proofs.YthfbpbbepogllaaGreat
/- The walks of Of, Same and Add. -/
namespace Go.Proofs.YthfbpbbepogllaaGreat
set_option linter.unusedVariables false
set_option linter.unusedSimpArgs false
open Go.RowKit

set_option maxHeartbeats 1000000 in
theorem sameb_yes (b : List Bal) (A B : Option Addr) (c1 c2 : Nat) (w : World) (hr : Rd w w.heap.size 2 A b.length (cellsOf Bal.cells b)) (hq : Rd w w.heap.size 2 B b.length (cellsOf Bal.cells b)) (hn2 : b.length ≤ 300000) :
    Calls Tryz.prog 29 #[.slice A b.length c1, .slice B b.length c2] w (BoolPost true w) := by
  have hb := Below.refl w.heap.size w
  have HR := Lib.hid hr
  have HQ := Lib.hid hq
  clear hr hq
  go_enter Tryz.func29, Tryz.ntmps29
  go_wp2_with fail
  go_loopw [5] (fun t wr => ∃ k : Nat, k ≤ b.length ∧ t = .int .i64 k ∧ Below w.heap.size w wr) (fun t _ => b.length - (intOf t).toNat)
  case atStart => exact ⟨0, by omega, rfl, hb⟩
  case round =>
    clear hb
    obtain ⟨k, hk, rfl, hb⟩ := hrel
    by_cases hlt : k < b.length
    · obtain ⟨x, o, hA, hbo, f0, f1⟩ := Bal.at_ (Rd.now HR.out hb) hlt
      obtain ⟨y, p, hB, hbp, g0, g1⟩ := Bal.at_ (Rd.now HQ.out hb) hlt
      subst hA hB
      have q0 : ∀ d : Later wr, d.now.cell? ⟨x, o + k * 2, none⟩ = some (.int .i64 b[k].account) := fun d => d.cell hbo f0
      have q1 : ∀ d : Later wr, d.now.cell? ⟨x, o + k * 2 + 1, none⟩ = some (.int .i64 b[k].amount) := fun d => d.cell hbo f1
      have q2 : ∀ d : Later wr, d.now.cell? ⟨y, p + k * 2, none⟩ = some (.int .i64 b[k].account) := fun d => d.cell hbp g0
      have q3 : ∀ d : Later wr, d.now.cell? ⟨y, p + k * 2 + 1, none⟩ = some (.int .i64 b[k].amount) := fun d => d.cell hbp g1
      clear f0 f1 g0 g1
      go_wp2_with fail
      refine wp_region_later (by kernel_rfl) (by kernel_rfl) ?_; (repeat (go_big_quiet_step ((fail)))); refine wpQuiet_nil ?_; rintro _ ⟨dq, rfl⟩
      have hbe := bel hb dq.below
      go_wp2_with fail
      go_roundw
      case rel => exact ⟨k + 1, by omega, by go_num, hbe⟩
      case measure => simp [intOf]; omega
    · go_wp2_with fail
      go_ret
      exact ⟨rfl, hb⟩

def OwnBals (base : Nat) (L : List Bal) (w : World) (e : Ending) (w' : World) : Prop :=
  ∃ v, e = .returned v ∧ w'.ownsRow base 126 2 v L.length (cellsOf Bal.cells L) ∧ Below w.heap.size w w'
end Go.Proofs.YthfbpbbepogllaaGreat
/- The walk of CarrySums. -/
namespace Go.Proofs.YthfbpbbepogllaaGreat
set_option linter.unusedVariables false
set_option linter.unusedSimpArgs false
open Go.RowKit

section
variable (cur : ByteArray) (y m p : Int) (cl : List Acc) (cA : Option Addr) (cc : Nat) (ro : RolesR) (el : List EntR) (eA : Option Addr) (ec : Nat) (w : World)
set_option maxRecDepth 100000 in
set_option maxHeartbeats 16000000 in
theorem law_CarrySums (l : List DatR) (A : Option Addr) (lc : Nat) (q : Int) (h : GIn w cl cA el eA) (hc : cur.size ≤ maxLen) (hcl : cl.length ≤ maxLen) (hel : el.length ≤ maxLen) (hr : Rd w w.heap.size 3 A l.length (cellsOf DatR.cells l)) (hl : l.length ≤ maxLen) :
    Calls Tryz.prog 8 #[.agg #[.string cur, .int .i64 y, .int .i64 m, .int .i64 p, .slice cA cl.length cc, .int .i64 ro.investment, .int .i64 ro.goodwill, .int .i64 ro.associates, .int .i64 ro.inventory, .int .i64 ro.reserve, .int .i64 ro.minority, .int .i64 ro.retained, .int .i64 ro.acquired, .int .i64 ro.owners, .int .i64 ro.disposal, .int .i64 ro.associateProfit, .int .i64 ro.dividends, .int .i64 ro.minorityProfit, .int .i64 ro.difference, .int .i64 ro.margin, .slice eA el.length ec], .slice A l.length lc, .int .i64 q] w fun e w' => e = .returned (.bool true) ∧ Below w.heap.size w w' := by
  have H := Lib.hid h
  have HR := Lib.hid hr
  unfold maxLen at hl
  clear h hr
  obtain ⟨gcs, hgc⟩ : ∃ x : Array Value, x = #[.string cur, .int .i64 y, .int .i64 m, .int .i64 p, .slice cA cl.length cc, .int .i64 ro.investment, .int .i64 ro.goodwill, .int .i64 ro.associates, .int .i64 ro.inventory, .int .i64 ro.reserve, .int .i64 ro.minority, .int .i64 ro.retained, .int .i64 ro.acquired, .int .i64 ro.owners, .int .i64 ro.disposal, .int .i64 ro.associateProfit, .int .i64 ro.dividends, .int .i64 ro.minorityProfit, .int .i64 ro.difference, .int .i64 ro.margin, .slice eA el.length ec] := ⟨_, rfl⟩
  have hgi : (Tryz.prog.info? 29).map (·.size) = some gcs.size := by rw [hgc]; exact grp_size
  have HG := Lib.hid hgc
  rw [← hgc]
  clear hgc
  have K0 := Lib.hid (fun W h => HG.out.symm ▸ few_any cur y m p cl cA cc ro el eA ec W h hc hcl hel)
  clear hcl hel
  have hb : Below w.heap.size w (w.alloc (.cells gcs 29)) := (Below.refl _ _).alloc (Nat.le_refl _) _
  have HB := Lib.hid (Blk.new w 29 gcs)
  go_enter Tryz.func8, Tryz.ntmps8
  go_wp2_with (first
    | (refine wpList_load_blk 29 (.tmp 3) rfl (w.heap.size) rfl (by kernel_rfl) (HB).out Tryz.underlying29 hgi ?_)
    | (go_at_call 24; refine (car_awake _).mono ?_; rintro e w2 ⟨rfl, hb9⟩; replace hb := bel hb hb9; replace HB := Lib.hid (HB.out.step hb9); clear hb9))
  refine (K0.out _ (H.out.step hb)).mono ?_
  rintro e w3 ⟨b, rfl, hb9, hok⟩
  replace hb := bel hb hb9
  replace HB := Lib.hid (HB.out.step hb9)
  clear hb9 K0
  cases b
  · clear hok
    go_wp2_with (go_at_call 24; refine (car_awake _).mono ?_; rintro e w4 ⟨rfl, hb9⟩; replace hb := bel hb hb9; clear hb9)
    go_ret
    exact ⟨rfl, hb⟩
  · have OK := Lib.hid (hok rfl)
    clear hok
    by_cases h60 : l.length ≤ 60
    · have hch := OK.out.ch
      have KT := Lib.hid (fun W A lc h => to_any l A lc W h (by omega))
      have K1 := Lib.hid (fun W A lc h h2 => carry_any gcs cur y m p cl cA cc ro el eA ec W l A lc q HG h OK.out h2 (by omega))
      have K2 := Lib.hid (fun W A lc h h2 => rcarry_any gcs cur y m p cl cA cc ro el eA ec W l A lc q HG h OK.out h2 (by omega))
      have hml := Cr.cL_len (V := Gr.gv cur cl ro el (Cal.ok y m p)) (Y := y) (M := m) (P := p) (q := q) (cl := cl) (ro := ro) (l := l)
      unfold CaPost at K1 K2
      generalize Gr.gv cur cl ro el (Cal.ok y m p) = V at *
      generalize Cr.cE V y m p q cl ro l = E at *
      generalize Cr.cL V y m p q cl ro l = M at *
      have hE : (E == E) = true := by simp
      go_wp2_with fail
      refine rel_begin (n := 10) (w3) (by kernel_rfl) rfl ?_; have hC := Near.drew (w3)
      refine rel_load_blk (i := 0) rfl 29 (.tmp 3) rfl (w.heap.size) rfl (by kernel_rfl) (by kernel_rfl) (by kernel_rfl) rfl (fun _ _ _ _ h => h) hC (HB).out Tryz.underlying29 hgi ?_; (try simp only [Act.put, List.setIfInBounds_toArray, List.set_cons_zero, List.set_cons_succ])
      (first | (refine rel_want (i := 1) rfl rfl (by kernel_rfl) (by kernel_rfl) (by kernel_rfl) rfl (fun _ _ _ _ h => h) hC ?_; intro K hK; go_big_quiet_op; go_big_quiet_on) | (refine rel_skip (i := 1) rfl (by kernel_rfl) (by kernel_rfl) (by kernel_rfl) rfl (fun _ _ _ _ h => h) hC ?_; simp only [Act.put, List.setIfInBounds_toArray, List.set_cons_zero, List.set_cons_succ])); (first | (refine rel_want (i := 3) rfl rfl (by kernel_rfl) (by kernel_rfl) (by kernel_rfl) rfl (fun _ _ _ _ h => h) hC ?_; intro K hK; go_big_quiet_op; go_big_quiet_on) | (refine rel_skip (i := 3) rfl (by kernel_rfl) (by kernel_rfl) (by kernel_rfl) rfl (fun _ _ _ _ h => h) hC ?_; simp only [Act.put, List.setIfInBounds_toArray, List.set_cons_zero, List.set_cons_succ]))
      refine rel_call (i := 2) (by kernel_rfl) rfl rfl ?_; intro K hK; go_simp; go_at_call 27; refine (KT.out _ _ _ (Rd.now HR.out (bel hb hC.below))).mono ?_; rintro e w2 ⟨v, rfl, ho, hb2⟩; obtain ⟨A5, c5, rfl, hr5⟩ := Rd.of_own ho; have HR5 := Lib.hid hr5; clear hr5 ho; (try go_wp2_with fail); replace hC := hC.on hb2; refine hK _ _ hC (fun _ => ?_); clear hK K; (try simp only [Act.put, List.setIfInBounds_toArray, List.set_cons_zero, List.set_cons_succ])
      refine rel_call (i := 4) (by kernel_rfl) rfl rfl ?_; intro K hK; go_simp; go_at_call 26; refine (K1.out _ _ _ (H.out.step (bel hb hC.below)) HR5.out).mono ?_; rintro e w2 ⟨v, rfl, ho, hb2⟩; obtain ⟨A6, c6, rfl, hr6⟩ := Rd.of_own ho; have HR6 := Lib.hid hr6; clear hr6 ho; (try go_wp2_with fail); replace hC := hC.on hb2; refine hK _ _ hC (fun _ => ?_); clear hK K; (try simp only [Act.put, List.setIfInBounds_toArray, List.set_cons_zero, List.set_cons_succ])
      (first | (refine rel_want (i := 5) rfl rfl (by kernel_rfl) (by kernel_rfl) (by kernel_rfl) rfl (fun _ _ _ _ h => h) hC ?_; intro K hK; go_big_quiet_op; go_big_quiet_on) | (refine rel_skip (i := 5) rfl (by kernel_rfl) (by kernel_rfl) (by kernel_rfl) rfl (fun _ _ _ _ h => h) hC ?_; simp only [Act.put, List.setIfInBounds_toArray, List.set_cons_zero, List.set_cons_succ])); (first | (refine rel_want (i := 6) rfl rfl (by kernel_rfl) (by kernel_rfl) (by kernel_rfl) rfl (fun _ _ _ _ h => h) hC ?_; intro K hK; go_big_quiet_op; go_big_quiet_on) | (refine rel_skip (i := 6) rfl (by kernel_rfl) (by kernel_rfl) (by kernel_rfl) rfl (fun _ _ _ _ h => h) hC ?_; simp only [Act.put, List.setIfInBounds_toArray, List.set_cons_zero, List.set_cons_succ])); (first | (refine rel_want (i := 7) rfl rfl (by kernel_rfl) (by kernel_rfl) (by kernel_rfl) rfl (fun _ _ _ _ h => h) hC ?_; intro K hK; go_big_quiet_op; go_big_quiet_on) | (refine rel_skip (i := 7) rfl (by kernel_rfl) (by kernel_rfl) (by kernel_rfl) rfl (fun _ _ _ _ h => h) hC ?_; simp only [Act.put, List.setIfInBounds_toArray, List.set_cons_zero, List.set_cons_succ])); (first | (refine rel_want (i := 8) rfl rfl (by kernel_rfl) (by kernel_rfl) (by kernel_rfl) rfl (fun _ _ _ _ h => h) hC ?_; intro K hK; go_big_quiet_op; go_big_quiet_on) | (refine rel_skip (i := 8) rfl (by kernel_rfl) (by kernel_rfl) (by kernel_rfl) rfl (fun _ _ _ _ h => h) hC ?_; simp only [Act.put, List.setIfInBounds_toArray, List.set_cons_zero, List.set_cons_succ])); (first | (refine rel_want (i := 9) rfl rfl (by kernel_rfl) (by kernel_rfl) (by kernel_rfl) rfl (fun _ _ _ _ h => h) hC ?_; intro K hK; go_big_quiet_op; go_big_quiet_on) | (refine rel_skip (i := 9) rfl (by kernel_rfl) (by kernel_rfl) (by kernel_rfl) rfl (fun _ _ _ _ h => h) hC ?_; simp only [Act.put, List.setIfInBounds_toArray, List.set_cons_zero, List.set_cons_succ]))
      refine wpAnyH_done (by kernel_rfl) ?_ _
      have hb5 := bel hb hC.below
      have HB5 := Lib.hid (HB.out.step hC.below)
      clear HR5 hC K1
      obtain ⟨w6, rfl⟩ : ∃ x : World, x = w2 := ⟨_, rfl⟩
      go_wp2_with (first
        | (refine wpList_load_blk 29 (.tmp 3) rfl (w.heap.size) rfl (by kernel_rfl) (HB5).out Tryz.underlying29 hgi ?_)
        | (go_at_call 28; refine (K2.out _ _ _ (H.out.step hb5) (Rd.now HR.out hb5)).mono ?_; rintro e w7 ⟨v, rfl, ho, hb9⟩; obtain ⟨A7, c7, rfl, hr7⟩ := Rd.of_own ho; have hb7 := bel hb5 hb9; have HS := Lib.hid (sameb_yes M A6 A7 c6 c7 w7 (Rd.now HR6.out hb9) hr7 (by omega)); clear ho hr7 hb9)
        | (go_at_call 29; refine HS.out.mono ?_; rintro e w8 ⟨rfl, hb9⟩; have hb8 := bel hb7 hb9; clear hb9))
      go_ret
      exact ⟨rfl, hb8⟩
    · have h61 : 60 < l.length := by omega
      go_wp2_with (go_at_call 24; refine (car_awake _).mono ?_; rintro e w4 ⟨rfl, hb9⟩; replace hb := bel hb hb9; clear hb9)
      go_ret
      exact ⟨rfl, hb⟩
end
end Go.Proofs.YthfbpbbepogllaaGreat
