/- Texts of this claim, put together. -/
import Derived.Test.YtkfbchgabmffoaaJAG
import Derived.Test.YtkfbchgabmffoaaJAI
import Derived.Test.YtkfbchgabmffoaaJAB
/- The sources of a result; what makes a result consistent. No program. -/
namespace Go.Proofs.Ytkfbchgabmffoaa
set_option linter.unusedVariables false
set_option linter.unusedSimpArgs false
open Go.RowKit

instance instDecRef : DecidableEq RefR := fun a b => decidable_of_iff (a.entry = b.entry ∧ a.line = b.line) (by cases a; cases b; simp)
structure SrcR where
  ref : RefR
  posting : Int
  index : Int
  account : Int
  amount : Int
instance inhSrcR : Inhabited SrcR := ⟨⟨default, 0, 0, 0, 0⟩⟩
instance instDecSrc : DecidableEq SrcR := fun a b => decidable_of_iff (a.ref = b.ref ∧ a.posting = b.posting ∧ a.index = b.index ∧ a.account = b.account ∧ a.amount = b.amount) (by cases a; cases b; simp)
def SrcR.cells (x : SrcR) : List Value := [.int .i64 x.ref.entry, .int .i64 x.ref.line, .int .i64 x.posting, .int .i64 x.index, .int .i64 x.account, .int .i64 x.amount]
theorem SrcR.len (x : SrcR) : x.cells.length = 6 := rfl
theorem SrcR.one (x : SrcR) : ∀ u ∈ x.cells, u.oneCell' = true := by
  intro u hu
  simp only [SrcR.cells, List.mem_cons, List.not_mem_nil, or_false] at hu
  rcases hu with rfl | rfl | rfl | rfl | rfl | rfl
  all_goals rfl
theorem SrcR.at_ {w : World} {B : Nat} {A : Option Addr} {l : List SrcR} (h : Rd w B 6 A l.length (cellsOf SrcR.cells l)) {k : Nat} (hk : k < l.length) :
    ∃ b o, A = some ⟨b, o, none⟩ ∧ b < B ∧ w.cell? ⟨b, o + k * 6, none⟩ = some (.int .i64 l[k].ref.entry) ∧ w.cell? ⟨b, o + k * 6 + 1, none⟩ = some (.int .i64 l[k].ref.line) ∧ w.cell? ⟨b, o + k * 6 + 2, none⟩ = some (.int .i64 l[k].posting) ∧ w.cell? ⟨b, o + k * 6 + 3, none⟩ = some (.int .i64 l[k].index) ∧ w.cell? ⟨b, o + k * 6 + 4, none⟩ = some (.int .i64 l[k].account) ∧ w.cell? ⟨b, o + k * 6 + 5, none⟩ = some (.int .i64 l[k].amount) := by
  obtain ⟨b, o, e, hb, hc⟩ := rd_at (f := SrcR.cells) (sz := 6) (fun _ => rfl) h hk
  exact ⟨b, o, e, hb, hc 0 _ rfl, hc 1 _ rfl, hc 2 _ rfl, hc 3 _ rfl, hc 4 _ rfl, hc 5 _ rfl⟩
def SrcR.bal (x : SrcR) : Bal := ⟨x.account, x.amount⟩
def itS (n : Nat) : List ItemR → List SrcR
  | [] => []
  | x :: l => ⟨x.ref, -1, n, x.account, x.amount⟩ :: itS (n + 1) l
def paS (k : Nat) (n : Nat) : List Bal → List SrcR
  | [] => []
  | x :: l => ⟨⟨0, 0⟩, k, n, x.account, x.amount⟩ :: paS k (n + 1) l
def poS (n : Nat) : List PostR → List SrcR
  | [] => []
  | p :: l => paS n 0 p.parts.l ++ poS (n + 1) l
theorem itS_app (l m : List ItemR) : ∀ n, itS n (l ++ m) = itS n l ++ itS (n + l.length) m := by
  induction l with
  | nil => intro n; simp [itS]
  | cons x l ih => intro n; simp only [List.cons_append, itS, ih, List.length_cons]; rw [show n + 1 + l.length = n + (l.length + 1) by omega]
theorem paS_app (k : Nat) (l m : List Bal) : ∀ n, paS k n (l ++ m) = paS k n l ++ paS k (n + l.length) m := by
  induction l with
  | nil => intro n; simp [paS]
  | cons x l ih => intro n; simp only [List.cons_append, paS, ih, List.length_cons]; rw [show n + 1 + l.length = n + (l.length + 1) by omega]
theorem poS_app (l m : List PostR) : ∀ n, poS n (l ++ m) = poS n l ++ poS (n + l.length) m := by
  induction l with
  | nil => intro n; simp [poS]
  | cons x l ih => intro n; simp only [List.cons_append, poS, ih, List.length_cons, List.append_assoc]; rw [show n + 1 + l.length = n + (l.length + 1) by omega]
theorem itS_len (l : List ItemR) : ∀ n, (itS n l).length = l.length := by
  induction l with
  | nil => intro n; rfl
  | cons x l ih => intro n; simp [itS, ih]
theorem paS_len (k : Nat) (l : List Bal) : ∀ n, (paS k n l).length = l.length := by
  induction l with
  | nil => intro n; rfl
  | cons x l ih => intro n; simp [paS, ih]
theorem itS_take (I : List ItemR) (k : Nat) (h : k < I.length) : itS 0 (I.take (k + 1)) = itS 0 (I.take k) ++ [⟨I[k].ref, -1, k, I[k].account, I[k].amount⟩] := by
  rw [List.take_succ_eq_append_getElem h, itS_app]
  simp [itS, Nat.min_eq_left (Nat.le_of_lt h)]
theorem paS_take (n : Nat) (I : List Bal) (k : Nat) (h : k < I.length) : paS n 0 (I.take (k + 1)) = paS n 0 (I.take k) ++ [⟨⟨0, 0⟩, n, k, I[k].account, I[k].amount⟩] := by
  rw [List.take_succ_eq_append_getElem h, paS_app]
  simp [paS, Nat.min_eq_left (Nat.le_of_lt h)]
theorem poS_take (P : List PostR) (k : Nat) (h : k < P.length) : poS 0 (P.take (k + 1)) = poS 0 (P.take k) ++ paS k 0 P[k].parts.l := by
  rw [List.take_succ_eq_append_getElem h, poS_app]
  simp [poS, Nat.min_eq_left (Nat.le_of_lt h)]
def srcs (I : List ItemR) (P : List PostR) : List SrcR := itS 0 I ++ poS 0 P
theorem itS_bal (l : List ItemR) : ∀ n, (itS n l).map SrcR.bal = itBals l := by
  induction l with
  | nil => intro n; rfl
  | cons x l ih => intro n; show _ :: _ = _ :: _; rw [ih]; rfl
theorem paS_bal (k : Nat) (l : List Bal) : ∀ n, (paS k n l).map SrcR.bal = l := by
  induction l with
  | nil => intro n; rfl
  | cons x l ih => intro n; show _ :: _ = _ :: _; rw [ih]; rfl
theorem poS_bal (l : List PostR) : ∀ n, (poS n l).map SrcR.bal = poBals l := by
  induction l with
  | nil => intro n; rfl
  | cons x l ih => intro n; simp only [poS, List.map_append, paS_bal, ih]; simp [poBals]
theorem srcs_bal (I : List ItemR) (P : List PostR) : (srcs I P).map SrcR.bal = allB I P := by unfold srcs allB; rw [List.map_append, itS_bal, poS_bal]
theorem srcs_len (I : List ItemR) (P : List PostR) : (srcs I P).length = (allB I P).length := by rw [← srcs_bal, List.length_map]
def inS (f t : Int) (s : SrcR) : Bool := decide (f ≤ s.account) && decide (s.account ≤ t)
theorem inS_yes {f t : Int} {s : SrcR} (h1 : f ≤ s.account) (h2 : s.account ≤ t) : inS f t s = true := by unfold inS; simp [h1, h2]
theorem inS_no1 {f t : Int} {s : SrcR} (h1 : ¬ f ≤ s.account) : inS f t s = false := by unfold inS; simp [h1]
theorem inS_no2 {f t : Int} {s : SrcR} (h1 : ¬ s.account ≤ t) : inS f t s = false := by unfold inS; simp [h1]
/-- the sources of a range -/
def pick (f t : Int) (l : List SrcR) : List SrcR := l.filter (inS f t)
theorem pick_yes {f t : Int} (l : List SrcR) {s : SrcR} (h : inS f t s = true) : pick f t (l ++ [s]) = pick f t l ++ [s] := by unfold pick; simp [h]
theorem pick_no {f t : Int} (l : List SrcR) {s : SrcR} (h : inS f t s = false) : pick f t (l ++ [s]) = pick f t l := by unfold pick; simp [h]
theorem pick_le (f t : Int) (l : List SrcR) : (pick f t l).length ≤ l.length := List.length_filter_le _ _
def linesV (f t : Int) (I : List ItemR) (P : List PostR) : List SrcR := pick f t (srcs I P)
theorem lines_len (f t : Int) (I : List ItemR) (P : List PostR) : (linesV f t I P).length ≤ (allB I P).length := by
  have := pick_le f t (srcs I P)
  rw [srcs_len] at this
  exact this
theorem lines_sum (f t : Int) (I : List ItemR) (P : List PostR) : sumV ((linesV f t I P).map SrcR.bal) = condV (inR f t) (allB I P) := by
  unfold sumV condV linesV pick
  rw [← srcs_bal, sm_map, sm_map, sm_filter]
  rfl
theorem lines_within {M : Int} {f t : Int} {I : List ItemR} {P : List PostR} (h : within M (allB I P)) : within M ((linesV f t I P).map SrcR.bal) := by
  intro x hx
  obtain ⟨s, hs, rfl⟩ := List.mem_map.1 hx
  refine h _ ?_
  rw [← srcs_bal]
  exact List.mem_map.2 ⟨s, (List.mem_filter.1 hs).1, rfl⟩
/-- two ranges side by side -/
theorem pick_pick {a b c : Int} (h1 : a ≤ b) (h2 : b ≤ c) (l : List SrcR) : pick a b l = (pick a c l).filter (fun s => decide (s.account ≤ b)) ∧ pick (b + 1) c l = (pick a c l).filter (fun s => !decide (s.account ≤ b)) := by
  unfold pick
  rw [List.filter_filter, List.filter_filter]
  refine ⟨List.filter_congr fun s _ => ?_, List.filter_congr fun s _ => ?_⟩
  all_goals
    unfold inS
    by_cases c1 : a ≤ s.account <;> by_cases c2 : s.account ≤ b <;> by_cases c3 : s.account ≤ c <;> by_cases c4 : b + 1 ≤ s.account <;> simp [c1, c2, c3, c4] <;> omega
theorem filter_at {α : Type} (p : α → Bool) (l : List α) (n : Nat) (hn : n < l.length) (h : p l[n] = true) : ((l.take n).filter p).length < (l.filter p).length ∧ (l.filter p)[((l.take n).filter p).length]? = some l[n] := by
  have e : l.filter p = (l.take n).filter p ++ l[n] :: (l.drop (n + 1)).filter p := by
    conv => lhs; rw [← List.take_append_drop n l, List.filter_append, List.drop_eq_getElem_cons hn, List.filter_cons, if_pos h]
  constructor
  · rw [e]; simp
  · rw [e]; simp
theorem filter_step {α : Type} (p : α → Bool) (l : List α) (n : Nat) (hn : n < l.length) : ((l.take (n + 1)).filter p).length = ((l.take n).filter p).length + if p l[n] = true then 1 else 0 := by
  rw [List.take_succ_eq_append_getElem hn, List.filter_append, List.length_append]
  cases h : p l[n] <;> simp [h]

/-- the order of items -/
def cmpI (x y : ItemR) : Int := firstNZ [cmpV x.entity y.entity, cmpV x.date y.date, cmpV x.ref.entry y.ref.entry, cmpV x.ref.line y.ref.line]
def itemAt (I : List ItemR) (j : Nat) : Bool := (j == 0 || decide (cmpI (I.getD (j - 1) default) (I.getD j default) < 0)) && !((I.take j).map ItemR.ref).contains (I.getD j default).ref
def itemsV (I : List ItemR) : Bool := allAt I.length (itemAt I)
theorem refs_nodup {I : List ItemR} (h : itemsV I = true) : (I.map ItemR.ref).Nodup := by
  rw [List.nodup_iff_pairwise_ne, List.pairwise_iff_getElem]
  intro i j hi hj hij e
  rw [List.length_map] at hi hj
  have := allAt_at h hj
  unfold itemAt at this
  simp only [Bool.and_eq_true, Bool.not_eq_true'] at this
  have h2 := this.2
  rw [List.contains_eq_mem, decide_eq_false_iff_not] at h2
  refine h2 ?_
  rw [show I.getD j default = I[j] by simp [hj]]
  rw [List.getElem_map, List.getElem_map] at e
  rw [← e]
  exact List.mem_map.2 ⟨I[i], by rw [List.mem_take_iff_getElem]; exact ⟨i, by omega, rfl⟩, rfl⟩
theorem items_twice (I : List ItemR) (i : Nat) (hi : i < I.length) : itemsV (I ++ [I[i]]) = false := by
  cases h : itemsV (I ++ [I[i]])
  · rfl
  · have := refs_nodup h
    rw [List.map_append, List.nodup_append] at this
    exact absurd rfl (this.2.2 I[i].ref (List.mem_map.2 ⟨_, List.getElem_mem hi, rfl⟩) I[i].ref (by simp))
/-- the items among all sources: their references differ -/
theorem srcs_refs {I : List ItemR} (P : List PostR) (h : itemsV I = true) : ∀ i k (hi : i < (srcs I P).length) (hk : k < i), ((srcs I P)[i]).posting = -1 → ((srcs I P)[k]'(by omega)).posting = -1 → ((srcs I P)[i]).ref ≠ ((srcs I P)[k]'(by omega)).ref := by
  have hpo : ∀ (l : List Bal) (k n : Nat), ∀ s ∈ paS k n l, s.posting ≠ -1 := by
    intro l k
    induction l with
    | nil => intro n s hs; simp [paS] at hs
    | cons x l ih =>
      intro n s hs
      simp only [paS, List.mem_cons] at hs
      rcases hs with rfl | hs
      · show (k : Int) ≠ -1; omega
      · exact ih _ s hs
  have hpp : ∀ (l : List PostR) (n : Nat), ∀ s ∈ poS n l, s.posting ≠ -1 := by
    intro l
    induction l with
    | nil => intro n s hs; simp [poS] at hs
    | cons x l ih =>
      intro n s hs
      simp only [poS, List.mem_append] at hs
      rcases hs with hs | hs
      · exact hpo _ _ _ s hs
      · exact ih _ s hs
  have hit : ∀ (l : List ItemR) (n : Nat), (itS n l).map SrcR.ref = l.map ItemR.ref := by
    intro l
    induction l with
    | nil => intro n; rfl
    | cons x l ih => intro n; simp [itS, ih]
  have hlt : ∀ j (hj : j < (srcs I P).length), ((srcs I P)[j]).posting = -1 → j < I.length := by
    intro j hj e
    by_cases hc : j < I.length
    · exact hc
    · refine absurd e (hpp P 0 _ ?_)
      unfold srcs at hj ⊢
      rw [List.getElem_append_right (by rw [itS_len]; omega)]
      exact List.getElem_mem _
  intro i k hi hk e1 e2 e
  have h1 := hlt i hi e1
  have h2 := hlt k (by omega) e2
  have hn := refs_nodup h
  rw [← hit I 0, List.nodup_iff_pairwise_ne, List.pairwise_iff_getElem] at hn
  have := hn k i (by rw [List.length_map, itS_len]; omega) (by rw [List.length_map, itS_len]; omega) hk
  refine this ?_
  rw [List.getElem_map, List.getElem_map]
  have g : ∀ j (hj : j < I.length) (hj2 : j < (srcs I P).length), (srcs I P)[j] = (itS 0 I)[j]'(by rw [itS_len]; exact hj) := by
    intro j hj hj2
    exact List.getElem_append_left (bs := poS 0 P) (by rw [itS_len]; exact hj)
  rw [← g i h1 hi, ← g k h2 (by omega)]
  exact e.symm

/-- a result is consistent -/
def CheckOk (I : List ItemR) (P : List PostR) (T : List Bal) : Prop := itemsV I = true ∧ IsC (ofW (allB I P)) T ∧ ∀ c, amV (ofW (allB I P) c) = true
open Classical in
noncomputable def checkV (I : List ItemR) (P : List PostR) (T : List Bal) : Bool := decide (CheckOk I P T)
open Classical in
theorem check_ok {I : List ItemR} {P : List PostR} {T : List Bal} (h : checkV I P T = true) : CheckOk I P T := by unfold checkV at h; exact of_decide_eq_true h
open Classical in
theorem check_yes {I : List ItemR} {P : List PostR} {T : List Bal} (h : CheckOk I P T) : checkV I P T = true := by unfold checkV; exact decide_eq_true h
open Classical in
theorem check_no {I : List ItemR} {P : List PostR} {T : List Bal} (h : ¬ CheckOk I P T) : checkV I P T = false := by unfold checkV; exact decide_eq_false h
theorem isC_same {f g : Int → Int} {T : List Bal} (h1 : IsC f T) (h2 : IsC g T) (c : Int) : f c = g c := by
  by_cases h : f c = 0
  · by_cases h' : g c = 0
    · rw [h, h']
    · have := (h1.2 ⟨c, g c⟩).1 ((h2.2 ⟨c, g c⟩).2 ⟨rfl, h'⟩)
      exact this.1
  · have := (h2.2 ⟨c, f c⟩).1 ((h1.2 ⟨c, f c⟩).2 ⟨rfl, h⟩)
    exact this.1.symm
/-- the amounts of a range in a consistent result -/
theorem check_sum {I : List ItemR} {P : List PostR} {T : List Bal} (h : CheckOk I P T) (hw : within 1125899906842624 (allB I P)) (hl : (allB I P).length ≤ 3000) (f t : Int) : condV (inR f t) (allB I P) = condV (inR f t) T := by
  obtain ⟨_, hC, _⟩ := h
  have hf : ∀ c, ofW (allB I P) c = ofV (allB I P) c := fun c => ofW_eq' _ c hw (by omega) (by omega)
  have key : ∀ m : List Bal, condV (inR f t) m = sumV (m.filter (inR f t)) := by
    intro m
    unfold condV sumV
    rw [sm_filter]
  have hofV : ∀ (m : List Bal) (c : Int), ofV (m.filter (inR f t)) c = if inR f t ⟨c, 0⟩ = true then ofV m c else 0 := by
    intro m c
    unfold ofV
    rw [sm_filter]
    by_cases hc : inR f t ⟨c, 0⟩ = true
    · rw [if_pos hc]
      refine sm_congr fun x _ => ?_
      by_cases e : x.account = c
      · rw [if_pos e, if_pos (by unfold inR at hc ⊢; rw [e]; exact hc)]
      · rw [if_neg e]; split <;> rfl
    · rw [if_neg hc]
      refine sm_zero fun x _ => ?_
      by_cases e : x.account = c
      · rw [if_neg (by unfold inR at hc ⊢; rw [e]; exact hc)]
      · rw [if_neg e]; split <;> rfl
  rw [key, key]
  let g : Int → Int := fun c => if inR f t ⟨c, 0⟩ = true then ofW (allB I P) c else 0
  have hg : IsC g (T.filter (inR f t)) := by
    refine ⟨List.Pairwise.sublist (List.Sublist.map _ List.filter_sublist) hC.1, fun x => ?_⟩
    rw [List.mem_filter, hC.2 x]
    show _ ↔ (if inR f t ⟨x.account, 0⟩ = true then ofW (allB I P) x.account else 0) = x.amount ∧ x.amount ≠ 0
    have e : inR f t x = inR f t ⟨x.account, 0⟩ := rfl
    rw [e]
    by_cases hc : inR f t ⟨x.account, 0⟩ = true
    · rw [if_pos hc]; simp [hc]
    · rw [if_neg hc]
      constructor
      · rintro ⟨_, h⟩; exact absurd h hc
      · rintro ⟨h, h0⟩; exact absurd h.symm h0
  refine (clean_sum hg fun c => ?_).symm
  rw [hofV]
  show (if inR f t ⟨c, 0⟩ = true then ofW (allB I P) c else 0) = _
  rw [hf]
theorem sm_set {α : Type} (l : List α) (y : α) (f : α → Int) : ∀ (i : Nat) (hi : i < l.length), sm (l.set i y) f = sm l f + f y - f l[i] := by
  induction l with
  | nil => intro i hi; simp at hi
  | cons x l ih =>
    intro i hi
    cases i with
    | zero => simp only [List.set_cons_zero, sm_cons, List.getElem_cons_zero]; omega
    | succ i =>
      simp only [List.set_cons_succ, sm_cons, List.getElem_cons_succ]
      rw [ih i (by simpa using hi)]
      omega
/-- other amounts, the same totals: not both consistent -/
theorem check_spoiled {I J : List ItemR} {P Q : List PostR} {T : List Bal} (h : CheckOk I P T) (h2 : CheckOk J Q T) {M N : Int} (hw : within M (allB I P)) (hM : 0 ≤ M) (hl : M * (allB I P).length ≤ 4000000000000000000) (hw2 : within N (allB J Q)) (hN : 0 ≤ N) (hl2 : N * (allB J Q).length ≤ 4000000000000000000) (c : Int) : ofV (allB I P) c = ofV (allB J Q) c := by
  rw [← ofW_eq' _ c hw hM hl, ← ofW_eq' _ c hw2 hN hl2]
  exact isC_same h.2.1 h2.2.1 c
end Go.Proofs.Ytkfbchgabmffoaa
/- The walks of SameParts, small and awake. -/
namespace Go.Proofs.Ytkfbchgabmffoaa
set_option linter.unusedVariables false
set_option linter.unusedSimpArgs false
open Go.RowKit

def sample : List Bal := [⟨3000, 5⟩, ⟨1000, 2⟩, ⟨3000, -5⟩, ⟨2000, -2⟩]
def sampleL : List Bal := [⟨1000, 2⟩, ⟨2000, -2⟩]
theorem sample_of (c : Int) : ofW sample c = if c = 1000 then 2 else if c = 2000 then -2 else 0 := by
  rw [ofW_eq' (M := 10) sample c (by unfold within sample; decide) (by decide) (by decide)]
  unfold ofV sample
  by_cases h1 : c = 1000
  · subst h1; decide
  by_cases h2 : c = 2000
  · subst h2; decide
  by_cases h3 : c = 3000
  · subst h3; decide
  rw [if_neg h1, if_neg h2]
  simp only [sm_cons, sm_nil]
  rw [if_neg (fun e => h3 e.symm), if_neg (fun e => h1 e.symm), if_neg (fun e => h3 e.symm), if_neg (fun e => h2 e.symm)]
  rfl
theorem sample_is : IsC (ofW sample) sampleL := by
  refine ⟨by decide, fun x => ?_⟩
  rw [sample_of]
  obtain ⟨a, n⟩ := x
  simp only [sampleL, List.mem_cons, List.not_mem_nil, or_false, Bal.mk.injEq]
  by_cases h1 : a = 1000
  · subst h1; simp; omega
  by_cases h2 : a = 2000
  · subst h2; simp; omega
  simp [h1, h2]
  omega
theorem sample_am (c : Int) : amV (ofW sample c) = true := by
  rw [sample_of]
  by_cases h1 : c = 1000
  · rw [if_pos h1]; decide
  by_cases h2 : c = 2000
  · rw [if_neg h1, if_pos h2]; decide
  · rw [if_neg h1, if_neg h2]; decide
theorem sample_wf : ∀ x ∈ sample, (Lit.int .i64 x.account).wf = true := by unfold sample; decide
end Go.Proofs.Ytkfbchgabmffoaa
/- The walks of Or, slices.Equal, posting.Compare and posting.Equal. -/
namespace Go.Proofs.Ytkfbchgabmffoaa
set_option linter.unusedVariables false
set_option linter.unusedSimpArgs false
open Go.RowKit

theorem or_any (l : List Int) (A : Option Addr) (cap : Nat) (w : World) (hr : Rd w w.heap.size 1 A l.length (intCells l)) (hn : l.length ≤ 1000000) :
    Calls Try.prog 28 #[.slice A l.length cap] w (fun e w' => e = .returned (.int .i64 (firstNZ l)) ∧ w = w') := by
  have HR := Lib.hid hr
  clear hr
  go_enter Try.func28, Try.ntmps28
  go_wp2_with fail
  go_loopw [5, 8] (fun _ t wr => ∃ k : Nat, k ≤ l.length ∧ (∀ j, j < k → l.getD j 0 = 0) ∧ t = .int .i64 k ∧ w = wr) (fun _ t _ => l.length - (intOf t).toNat)
  case atStart => exact ⟨0, by omega, fun j h => by omega, rfl, rfl⟩
  case round =>
    obtain ⟨k, hk, hno, rfl, rfl⟩ := hrel
    have HN := Lib.hid hno
    clear hno
    by_cases hlt : k < l.length
    · obtain ⟨b, o, hA, hbo, f0⟩ := int_at HR.out hlt
      subst hA
      by_cases h0 : l[k] = 0
      · have hd : (l[k] != 0) = false := by simp [h0]
        have H0 : Hid (l.getD k 0 = 0) := Lib.hid (by rw [getD_in_ l k hlt]; exact h0)
        clear h0
        go_wp2_with fail
        go_roundw
        case rel => exact ⟨k + 1, by omega, upto_succ HN.out H0.out, by go_num, trivial⟩
        case measure => simp [intOf]; omega
      · have hd : (l[k] != 0) = true := by simp [h0]
        have HE : Hid (firstNZ l = l[k]) := Lib.hid (firstNZ_at l k hlt HN.out h0)
        clear h0
        go_wp2_with fail
        go_ret
        exact ⟨ret_int HE.out.symm, rfl⟩
    · have HE : Hid (firstNZ l = 0) := Lib.hid (firstNZ_none _ fun j hj => by
        have := HN.out j (by omega)
        rwa [getD_in_ _ _ hj] at this)
      go_wp2_with fail
      go_ret
      exact ⟨ret_int HE.out.symm, rfl⟩
theorem bal_cases (s t : Bal) : s = t ∨ ((s.account == t.account) = false ∧ s ≠ t) ∨ ((s.account == t.account) = true ∧ (s.amount == t.amount) = false ∧ s ≠ t) := by
  by_cases h1 : s.account = t.account
  · by_cases h2 : s.amount = t.amount
    · refine .inl ?_
      cases s; cases t; simp at h1 h2 ⊢; exact ⟨h1, h2⟩
    · exact .inr (.inr ⟨by simpa using h1, by simpa using h2, fun e => h2 (by rw [e])⟩)
  · exact .inr (.inl ⟨by simpa using h1, fun e => h1 (by rw [e])⟩)
end Go.Proofs.Ytkfbchgabmffoaa
/- Several calls that come up together, in every order. Over any program. -/
namespace Go.Proofs.Ytkfbchgabmffoaa
set_option linter.unusedVariables false
set_option linter.unusedSimpArgs false
open Go.RowKit

section
variable {P : Program} {ops : Array Oper} {Q : Exit → Act → World → Prop} {W w : World} {fuel : Nat} {a : Act} {listed : Array Bool}
theorem rel_calls {is : List Nat} (hr : Region.ready .any ops listed = is) (hne : is ≠ [])
    (h : ∀ j ∈ is, ∃ o, ops[j]? = some o ∧ Region.wanted o (yielded ops a.tmps) = true ∧
      ∀ K : Act → World → Prop, (∀ a' w', Near W w' → (Near W w' → wpAnyH P .any ops Q (fun w' => ∃ d : Later W, w' = d.now) fuel (listed.setIfInBounds j true) a' w') → K a' w') → o.wp P a w K Q) :
    wpAnyH P .any ops Q (fun w' => ∃ d : Later W, w' = d.now) (fuel + 1) listed a w := by
  refine wpAnyH_all hr hne fun j hj => ?_
  obtain ⟨o, h1, hw, h2⟩ := h j hj
  unfold wpOp
  rw [h1]
  show if Region.wanted o (yielded ops a.tmps) = true then _ else _
  rw [if_pos hw]
  exact .inl (h2 _ fun a' w' hn hh => ⟨hn, hh hn⟩)
end
end Go.Proofs.Ytkfbchgabmffoaa
