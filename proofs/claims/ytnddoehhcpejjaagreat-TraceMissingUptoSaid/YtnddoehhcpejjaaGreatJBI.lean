/- Texts of this claim, put together. -/
import Derived.Test.YtnddoehhcpejjaaGreatJAR
import Derived.Test.YtnddoehhcpejjaaGreatJAS
/- Sums of amounts, wrapping around; the reference's way to the sums in order. No program. -/
namespace Go.Proofs.YtnddoehhcpejjaaGreat
set_option linter.unusedVariables false
set_option linter.unusedSimpArgs false
open Go.RowKit

theorem ofW_put (m : List Bal) (k : Nat) (hk : k < m.length) :
    (fun d => if d = m[k].account then wrap64 (ofW (m.take k) m[k].account + m[k].amount) else ofW (m.take k) d) = ofW (m.take (k + 1)) := by
  funext d
  rw [ofW_take m k hk]
  by_cases h : d = m[k].account
  · subst h; simp
  · rw [if_neg h, if_neg (fun e => h e.symm)]
theorem ofW_zero (m : List Bal) : ofW (m.take 0) = fun _ => 0 := by funext c; rfl
/-- the sum of all amounts -/
def sumW (m : List Bal) : Int := m.foldl (fun n x => wrap64 (n + x.amount)) 0
theorem sumW_take (m : List Bal) (k : Nat) (h : k < m.length) : sumW (m.take (k + 1)) = wrap64 (sumW (m.take k) + m[k].amount) := by
  unfold sumW
  rw [List.take_succ_eq_append_getElem h, List.foldl_append]
  rfl
/-- the amounts negated -/
def negL (m : List Bal) : List Bal := m.map fun x => ⟨x.account, wrap64 (-x.amount)⟩
theorem negL_take (m : List Bal) (k : Nat) (h : k < m.length) : negL (m.take (k + 1)) = negL (m.take k) ++ [⟨m[k].account, wrap64 (-m[k].amount)⟩] := by
  unfold negL
  rw [List.take_succ_eq_append_getElem h, List.map_append]
  rfl
theorem negL_len (m : List Bal) : (negL m).length = m.length := by unfold negL; rw [List.length_map]
/-- may an account come up? -/
def elig (first : Bool) (last c : Int) : Bool := first || decide (last < c)
/-- what the search for the next account has found among the first ones -/
def Found (m : List Bal) (first : Bool) (last : Int) (found : Bool) (next : Int) : Prop :=
  (found = true → next ∈ m.map Bal.account ∧ elig first last next = true ∧ ∀ x ∈ m, elig first last x.account = true → next ≤ x.account) ∧ (found = false → ∀ x ∈ m, elig first last x.account = false)
theorem found_start (first : Bool) (last next : Int) : Found [] first last false next := ⟨fun h => by simp at h, fun _ x hx => by simp at hx⟩
theorem found_hit {m : List Bal} {first found : Bool} {last next : Int} {x : Bal} (h : Found m first last found next) (he : elig first last x.account = true) (hn : found = false ∨ x.account < next) : Found (m ++ [x]) first last true x.account := by
  refine ⟨fun _ => ⟨by simp, he, fun y hy hye => ?_⟩, fun h => by simp at h⟩
  rcases List.mem_append.1 hy with hy | hy
  · cases found with
    | false => rw [h.2 rfl y hy] at hye; cases hye
    | true =>
      have := (h.1 rfl).2.2 y hy hye
      rcases hn with hn | hn
      · cases hn
      · omega
  · simp only [List.mem_singleton] at hy
    subst hy
    omega
theorem found_miss {m : List Bal} {first found : Bool} {last next : Int} {x : Bal} (h : Found m first last found next) (hn : elig first last x.account = false ∨ (found = true ∧ next ≤ x.account)) : Found (m ++ [x]) first last found next := by
  refine ⟨fun hf => ?_, fun hf y hy => ?_⟩
  · obtain ⟨h1, h2, h3⟩ := h.1 hf
    refine ⟨by rw [List.map_append]; exact List.mem_append_left _ h1, h2, fun y hy hye => ?_⟩
    rcases List.mem_append.1 hy with hy | hy
    · exact h3 y hy hye
    · simp only [List.mem_singleton] at hy
      subst hy
      rcases hn with hn | hn
      · rw [hn] at hye; cases hye
      · exact hn.2
  · rcases List.mem_append.1 hy with hy | hy
    · exact h.2 hf y hy
    · simp only [List.mem_singleton] at hy
      subst hy
      rcases hn with hn | hn
      · exact hn
      · rw [hf] at hn; cases hn.1
/-- the accounts gone through, in order -/
def Part (f : Int → Int) (m : List Bal) (first : Bool) (last : Int) (L : List Int) : Prop :=
  L.Pairwise (· < ·) ∧ (∀ c, c ∈ L ↔ (f c ≠ 0 ∧ elig first last c = false ∧ c ∈ m.map Bal.account)) ∧ (∀ x ∈ m, elig first last x.account = false → amV (f x.account) = true)
theorem part_start (f : Int → Int) (m : List Bal) (last : Int) : Part f m true last [] := ⟨List.Pairwise.nil, fun c => by simp [elig], fun x _ h => by simp [elig] at h⟩
theorem elig_next {first : Bool} {last next c : Int} (h : elig first last next = true) : elig false next c = false ↔ c ≤ next := by simp [elig]
/-- one account more is gone through -/
theorem part_step {f : Int → Int} {m : List Bal} {first : Bool} {last next : Int} {L : List Int} (h : Part f m first last L) (hf : Found m first last true next) (ha : amV (f next) = true) :
    (f next = 0 → Part f m false next L) ∧ (f next ≠ 0 → Part f m false next (L ++ [next])) := by
  obtain ⟨h1, h2, h3⟩ := hf.1 rfl
  have hold : ∀ c, elig first last c = false → c < next := by
    intro c hc
    unfold elig at h2 hc
    cases first
    · simp at h2 hc; omega
    · simp at hc
  have hmid : ∀ x ∈ m, elig first last x.account = true → x.account ≤ next → x.account = next := fun x hx h4 h5 => by have := h3 x hx h4; omega
  have ham : ∀ x ∈ m, elig false next x.account = false → amV (f x.account) = true := by
    intro x hx hle
    rw [elig_next h2] at hle
    cases he : elig first last x.account with
    | false => exact h.2.2 x hx he
    | true => rw [hmid x hx he hle]; exact ha
  refine ⟨fun h0 => ⟨h.1, fun c => ?_, ham⟩, fun h0 => ⟨?_, fun c => ?_, ham⟩⟩
  · rw [h.2.1 c, elig_next h2]
    constructor
    · rintro ⟨a, b, d⟩; exact ⟨a, by have := hold c b; omega, d⟩
    · rintro ⟨a, b, d⟩
      refine ⟨a, ?_, d⟩
      cases he : elig first last c with
      | false => rfl
      | true =>
        obtain ⟨x, hx, rfl⟩ := List.mem_map.1 d
        rw [hmid x hx he b] at a
        exact absurd h0 a
  · rw [List.pairwise_append]
    refine ⟨h.1, by simp, fun a hal b hb => ?_⟩
    simp only [List.mem_singleton] at hb
    subst hb
    exact hold a ((h.2.1 a).1 hal).2.1
  · rw [List.mem_append, List.mem_singleton, h.2.1 c, elig_next h2]
    constructor
    · rintro (⟨a, b, d⟩ | rfl)
      · exact ⟨a, by have := hold c b; omega, d⟩
      · exact ⟨h0, by omega, h1⟩
    · rintro ⟨a, b, d⟩
      cases he : elig first last c with
      | false => exact .inl ⟨a, rfl, d⟩
      | true =>
        obtain ⟨x, hx, rfl⟩ := List.mem_map.1 d
        exact .inr (hmid x hx he b)
theorem part_end {m : List Bal} {first : Bool} {last next : Int} {L : List Int} (h : Part (ofW m) m first last L) (hf : Found m first last false next) : IsC (ofW m) (balsOf (ofW m) L) ∧ ∀ c, amV (ofW m c) = true := by
  have hz : ∀ c, c ∉ m.map Bal.account → ofW m c = 0 := by
    intro c hc
    unfold ofW
    have : ∀ (l : List Bal) (n : Int), (∀ x ∈ l, x.account ≠ c) → l.foldl (fun n x => if x.account = c then wrap64 (n + x.amount) else n) n = n := by
      intro l
      induction l with
      | nil => intro n _; rfl
      | cons a l ih => intro n hl; rw [List.foldl_cons, if_neg (hl a (by simp)), ih n (fun x hx => hl x (by simp [hx]))]
    exact this m 0 (fun x hx e => hc (List.mem_map.2 ⟨x, hx, e⟩))
  have hall : ∀ c, c ∈ m.map Bal.account → elig first last c = false := by
    intro c hc
    obtain ⟨x, hx, rfl⟩ := List.mem_map.1 hc
    exact hf.2 rfl x hx
  refine ⟨isC_of h.1 (fun c => ?_), fun c => ?_⟩
  · rw [h.2.1 c]
    constructor
    · exact fun hh => hh.1
    · intro hc
      by_cases hm : c ∈ m.map Bal.account
      · exact ⟨hc, hall c hm, hm⟩
      · exact absurd (hz c hm) hc
  · by_cases hm : c ∈ m.map Bal.account
    · obtain ⟨x, hx, rfl⟩ := List.mem_map.1 hm
      exact h.2.2 x hx (hf.2 rfl x hx)
    · rw [hz c hm]; rfl
/-- how many accounts may still come up -/
def togo (m : List Bal) : Value → Value → Nat
  | .bool true, _ => m.length + 1
  | _, .int _ last => (m.filter fun x => decide (last < x.account)).length
  | _, _ => 0
theorem togo_next {m : List Bal} {first : Bool} {last next : Int} (hf : Found m first last true next) : togo m (.bool false) (.int .i64 next) < togo m (.bool first) (.int .i64 last) := by
  obtain ⟨h1, h2, -⟩ := hf.1 rfl
  cases first with
  | true =>
    have := List.length_filter_le (fun x : Bal => decide (next < x.account)) m
    simp only [togo]
    omega
  | false =>
    simp only [togo]
    obtain ⟨x, hx, e⟩ := List.mem_map.1 h1
    have hlt : last < next := by simpa [elig] using h2
    clear hf h1 h2
    have hle : ∀ l : List Bal, (l.filter fun x => decide (next < x.account)).length ≤ (l.filter fun x => decide (last < x.account)).length := by
      intro l
      induction l with
      | nil => simp
      | cons b l ih =>
        rw [List.filter_cons, List.filter_cons]
        by_cases c1 : next < b.account
        · have : last < b.account := by omega
          simp [c1, this]; exact ih
        · by_cases c2 : last < b.account
          · simp [c1, c2]; omega
          · simp [c1, c2]; exact ih
    induction m with
    | nil => simp at hx
    | cons a m ih =>
      rw [List.filter_cons, List.filter_cons]
      rcases List.mem_cons.1 hx with rfl | hx
      · have h1 : ¬ next < x.account := by omega
        have h2 : last < x.account := by omega
        have := hle m
        simp [h1, h2]; omega
      · have := ih hx
        by_cases h1 : next < a.account
        · have h2 : last < a.account := by omega
          simp [h1, h2]; exact this
        · by_cases h2 : last < a.account
          · simp [h1, h2]; omega
          · simp [h1, h2]; exact this
theorem nodup_len_ (s t : List Int) (hd : s.Nodup) (hs : ∀ x ∈ s, x ∈ t) : s.length ≤ t.length := by
  induction s generalizing t with
  | nil => simp
  | cons a s ih =>
    have ha := hs a (by simp)
    have hn := List.nodup_cons.1 hd
    have := ih (t.erase a) hn.2 (fun x hx => by
      refine (List.mem_erase_of_ne ?_).2 (hs x (by simp [hx]))
      rintro rfl
      exact hn.1 hx)
    rw [List.length_erase_of_mem ha] at this
    have := List.length_pos_of_mem ha
    simp only [List.length_cons]
    omega
theorem part_len {f : Int → Int} {m : List Bal} {first : Bool} {last : Int} {L : List Int} (h : Part f m first last L) : L.length ≤ m.length := by
  have hd : L.Nodup := h.1.imp fun {a b} hab => by omega
  have := nodup_len_ L (m.map Bal.account) hd (fun c hc => ((h.2.1 c).1 hc).2.2)
  simpa using this
theorem take_snoc_ (m : List Bal) (k : Nat) (h : k < m.length) : m.take (k + 1) = m.take k ++ [m[k]] := List.take_succ_eq_append_getElem h
end Go.Proofs.YtnddoehhcpejjaaGreat
/- The walks of Clean, Sum, Negate and of their references. -/
namespace Go.Proofs.YtnddoehhcpejjaaGreat
set_option linter.unusedVariables false
set_option linter.unusedSimpArgs false
open Go.RowKit

theorem rmoney_any (n : Int) (w : World) : Calls Tryz.prog 137 #[.int .i64 n] w (fun e w' => e = .returned (.bool (amV n)) ∧ w = w') := by
  have HE : Hid (amV n = (decide (-1000000000000 ≤ n) && decide (n ≤ 1000000000000))) := Lib.hid rfl
  by_cases h1 : -1000000000000 ≤ n
  · by_cases h2 : n ≤ 1000000000000
    all_goals
      go_enter Tryz.func137, Tryz.ntmps137
      go_wp2_with fail
      go_ret
      exact ⟨ret_bool (by rw [HE.out]; simp [h1, h2] <;> omega), rfl⟩
  · go_enter Tryz.func137, Tryz.ntmps137
    go_wp2_with fail
    go_ret
    exact ⟨ret_bool (by rw [HE.out]; simp [h1] <;> omega), rfl⟩
def OwnParts (base : Nat) (L : List Bal) (w : World) (e : Ending) (w' : World) : Prop :=
  ∃ v, e = .returned v ∧ w'.ownsRow base 57 2 v L.length (cellsOf Bal.cells L) ∧ Below w.heap.size w w'
end Go.Proofs.YtnddoehhcpejjaaGreat
