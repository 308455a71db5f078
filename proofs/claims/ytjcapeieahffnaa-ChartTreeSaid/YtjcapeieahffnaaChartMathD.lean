/- Charts of accounts: paths, what belongs to an account. No program. -/
import Derived.Test.YtjcapeieahffnaaChartMathC
namespace Go.Proofs.Ytjcapeieahffnaa
set_option linter.unusedVariables false
set_option linter.unusedSimpArgs false
open Go.RowKit
namespace Ch
def pathV (l : List Acc) (c : Int) : List Int := if eitherV l = true then pcl l c else []
theorem path_r (l : List Acc) (c : Int) (h : eitherV l = true) : rcl l c = pathV l c := by
  unfold pathV
  rw [if_pos h]
  obtain ⟨g, _, hv⟩ := either_base h
  exact (valid_path hv c).1
theorem path_no (l : List Acc) (c : Int) (h : eitherV l = false) : pathV l c = [] := by unfold pathV; rw [if_neg (by simp [h])]
theorem path_yes (l : List Acc) (c : Int) (h : eitherV l = true) : pathV l c = pcl l c := by unfold pathV; rw [if_pos h]
theorem fnB_none {l : List Acc} {c : Int} (h : fnB l c = false) : find l c = none := by
  unfold fnB at h
  cases hf : find l c with
  | none => rfl
  | some a => rw [hf] at h; cases h
theorem path_un (l : List Acc) (c : Int) (h : fnB l c = false) : pathV l c = [] := by
  unfold pathV
  rw [pcl_none l c (fnB_none h)]
  split <;> rfl
def und (l : List Acc) (c : Int) (m : List Acc) : List Int := (m.filter fun a => decide (c ∈ pcl l a.code)).map Acc.code
def underV (l : List Acc) (c : Int) : List Int := if eitherV l = true then und l c l else []
theorem und_take (l : List Acc) (c : Int) (k : Nat) (h : k < l.length) : und l c (l.take (k + 1)) = if c ∈ pcl l l[k].code then und l c (l.take k) ++ [l[k].code] else und l c (l.take k) := by
  unfold und
  rw [List.take_succ_eq_append_getElem h, List.filter_append]
  by_cases hp : c ∈ pcl l l[k].code
  · simp [hp]
  · simp [hp]
theorem und_len (l : List Acc) (c : Int) (m : List Acc) : (und l c m).length ≤ m.length := by
  unfold und
  rw [List.length_map]
  exact List.length_filter_le _ _
theorem pcl_codes (l : List Acc) (c x : Int) (h : x ∈ pcl l c) : ∃ a, find l x = some a := by
  have := (up_way l (l.length + 1) [] c (way_nil l)).2 x h
  obtain ⟨a, ha, rfl⟩ := List.mem_map.1 this
  exact find_in l a ha
theorem und_un (l : List Acc) (c : Int) (m : List Acc) (h : find l c = none) : und l c m = [] := by
  unfold und
  have : (m.filter fun a => decide (c ∈ pcl l a.code)) = [] := by
    rw [List.filter_eq_nil_iff]
    intro a _
    simp only [decide_eq_true_eq]
    intro hm
    obtain ⟨b, hb⟩ := pcl_codes l _ c hm
    rw [h] at hb
    cases hb
  rw [this]; rfl
theorem under_no (l : List Acc) (c : Int) (h : eitherV l = false) : underV l c = [] := by unfold underV; rw [if_neg (by simp [h])]
theorem under_yes (l : List Acc) (c : Int) (h : eitherV l = true) : underV l c = und l c l := by unfold underV; rw [if_pos h]
theorem under_un (l : List Acc) (c : Int) (h : fnB l c = false) : underV l c = [] := by
  unfold underV
  rw [und_un l c l (fnB_none h)]
  split <;> rfl
theorem underV_len (l : List Acc) (c : Int) : (underV l c).length ≤ l.length := by
  unfold underV
  split
  · exact und_len l c l
  · simp
theorem pathV_len (l : List Acc) (c : Int) : (pathV l c).length ≤ l.length := by
  unfold pathV
  split
  · exact pcl_len l c
  · simp
end Ch
end Go.Proofs.Ytjcapeieahffnaa
