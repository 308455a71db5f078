/- Texts of this claim, put together. -/
import Derived.Test.YtkfbchgabmffoaaJAD
import Derived.Test.YtkfbchgabmffoaaJAC
import Derived.Laws.IdiomArrays
import Derived.Lib.SmallJoins
/- What lists of sums add up to. No program. -/
namespace Go.Proofs.Ytkfbchgabmffoaa
set_option linter.unusedVariables false
set_option linter.unusedSimpArgs false
open Go.RowKit

def sumV (m : List Bal) : Int := sm m Bal.amount
/-- amounts within M in number and size -/
def within (M : Int) (m : List Bal) : Prop := ∀ x ∈ m, -M ≤ x.amount ∧ x.amount ≤ M
theorem wrap_in {n : Int} (h0 : -9223372036854775808 ≤ n) (h1 : n ≤ 9223372036854775807) : wrap64 n = n := IntWalk.wrap64_in n ⟨h0, h1⟩
theorem sumW_eq {M : Int} (m : List Bal) (h : within M m) (h0 : 0 ≤ M) (hl : M * m.length ≤ 4000000000000000000) : sumW m = sumV m := by
  have : ∀ k, k ≤ m.length → sumW (m.take k) = sumV (m.take k) := by
    intro k
    induction k with
    | zero => intro _; rfl
    | succ k ih =>
      intro hk
      have hk' : k < m.length := by omega
      rw [sumW_take m k hk', ih (by omega)]
      have e : sumV (m.take (k + 1)) = sumV (m.take k) + m[k].amount := sm_take m k hk' _
      rw [e]
      have hb := sm_bd (m.take k) Bal.amount M (fun x hx => h x (List.mem_of_mem_take hx))
      have hx := h _ (List.getElem_mem hk')
      rw [List.length_take, Nat.min_eq_left (by omega)] at hb
      have h2 : M * (k : Int) ≤ M * (m.length : Int) := Int.mul_le_mul_of_nonneg_left (by omega) h0
      have h3 : M * 1 ≤ M * (m.length : Int) := Int.mul_le_mul_of_nonneg_left (by omega) h0
      show wrap64 (sumV (m.take k) + m[k].amount) = _
      unfold sumV
      rw [wrap_in (by omega) (by omega)]
  have := this m.length (Nat.le_refl _)
  rwa [List.take_length] at this
theorem ofW_eq' {M : Int} (m : List Bal) (c : Int) (h : within M m) (h0 : 0 ≤ M) (hl : M * m.length ≤ 4000000000000000000) : ofW m c = ofV m c := by
  have : ∀ k, k ≤ m.length → ofW (m.take k) c = ofV (m.take k) c := by
    intro k
    induction k with
    | zero => intro _; rfl
    | succ k ih =>
      intro hk
      have hk' : k < m.length := by omega
      rw [ofW_take m k hk', ih (by omega)]
      have e : ofV (m.take (k + 1)) c = ofV (m.take k) c + if m[k].account = c then m[k].amount else 0 := sm_take m k hk' _
      rw [e]
      have hb := sm_bd (m.take k) (fun x => if x.account = c then x.amount else 0) M (fun x hx => by
        have := h x (List.mem_of_mem_take hx)
        show -M ≤ (if x.account = c then x.amount else 0) ∧ (if x.account = c then x.amount else 0) ≤ M
        split <;> omega)
      have hx := h _ (List.getElem_mem hk')
      rw [List.length_take, Nat.min_eq_left (by omega)] at hb
      have h2 : M * (k : Int) ≤ M * (m.length : Int) := Int.mul_le_mul_of_nonneg_left (by omega) h0
      have h3 : M * 1 ≤ M * (m.length : Int) := Int.mul_le_mul_of_nonneg_left (by omega) h0
      by_cases hc : m[k].account = c
      · rw [if_pos hc, if_pos hc]
        unfold ofV
        rw [wrap_in (by omega) (by omega)]
      · rw [if_neg hc, if_neg hc]; omega
  have := this m.length (Nat.le_refl _)
  rwa [List.take_length] at this
/-- each once -/
def dd : List Int → List Int
  | [] => []
  | a :: l => if a ∈ dd l then dd l else a :: dd l
theorem dd_mem (l : List Int) (c : Int) : c ∈ dd l ↔ c ∈ l := by
  induction l with
  | nil => simp [dd]
  | cons a l ih =>
    unfold dd
    by_cases h : a ∈ dd l
    · rw [if_pos h, ih, List.mem_cons]
      constructor
      · exact .inr
      · rintro (rfl | h2)
        · exact ih.1 h
        · exact h2
    · rw [if_neg h, List.mem_cons, ih, List.mem_cons]
theorem dd_nodup (l : List Int) : (dd l).Nodup := by
  induction l with
  | nil => exact List.nodup_nil
  | cons a l ih =>
    unfold dd
    by_cases h : a ∈ dd l
    · rw [if_pos h]; exact ih
    · rw [if_neg h, List.nodup_cons]; exact ⟨h, ih⟩
theorem sm_perm {l m : List Int} (h : l.Perm m) (f : Int → Int) : sm l f = sm m f := by
  induction h with
  | nil => rfl
  | cons a _ ih => rw [sm_cons, sm_cons, ih]
  | swap a b l => rw [sm_cons, sm_cons, sm_cons, sm_cons]; omega
  | trans _ _ h1 h2 => rw [h1, h2]
theorem sm_same {l m : List Int} (hl : l.Nodup) (hm : m.Nodup) (h : ∀ c, c ∈ l ↔ c ∈ m) (f : Int → Int) : sm l f = sm m f := sm_perm ((List.perm_ext_iff_of_nodup hl hm).2 h) f
theorem sm_single {l : List Int} (hl : l.Nodup) {c : Int} (hc : c ∈ l) (g : Int) : sm l (fun a => if c = a then g else 0) = g := by
  have := sm_one (fun a : Int => a) (by simpa using hl) hc (fun _ => g)
  refine Eq.trans (sm_congr fun a _ => ?_) this
  by_cases h : a = c
  · rw [if_pos h, if_pos h.symm]
  · have h' : ¬ c = a := fun e => h e.symm
    rw [if_neg h, if_neg h']
/-- all amounts, by accounts -/
theorem sumV_by (m : List Bal) (D : List Int) (hD : D.Nodup) (h : ∀ x ∈ m, x.account ∈ D) : sumV m = sm D (ofV m) := by
  induction m with
  | nil => unfold sumV; rw [sm_nil, sm_zero]; intro c _; rfl
  | cons x m ih =>
    have e : sm D (ofV (x :: m)) = sm D (fun c => (if x.account = c then x.amount else 0) + ofV m c) := sm_congr fun c _ => sm_cons _ _ _
    rw [e, sm_add, sm_single hD (h x (by simp)), ← ih (fun y hy => h y (by simp [hy]))]
    exact sm_cons _ _ _
theorem sm_drop0 (l : List Int) (f : Int → Int) : sm (l.filter fun c => f c != 0) f = sm l f := by
  rw [sm_filter]
  refine sm_congr fun c _ => ?_
  by_cases h : f c = 0 <;> simp [h]
theorem isC_nodup {f : Int → Int} {L : List Bal} (h : IsC f L) : (L.map Bal.account).Nodup := h.1.imp fun {a b} hab => by omega
theorem isC_sum {f : Int → Int} {L : List Bal} (h : IsC f L) : sumV L = sm (L.map Bal.account) f := by
  unfold sumV
  rw [sm_map]
  exact sm_congr fun x hx => ((h.2 x).1 hx).1.symm
/-- the list of sums adds up to the same -/
theorem clean_sum {m : List Bal} {f : Int → Int} {L : List Bal} (h : IsC f L) (hf : ∀ c, f c = ofV m c) : sumV L = sumV m := by
  have e : f = ofV m := funext hf
  subst e
  rw [isC_sum h, sumV_by m (dd (m.map Bal.account)) (dd_nodup _) (fun x hx => (dd_mem _ _).2 (List.mem_map.2 ⟨x, hx, rfl⟩)), ← sm_drop0 (dd (m.map Bal.account))]
  refine sm_same (isC_nodup h) ((dd_nodup _).filter _) (fun c => ?_) _
  rw [isC_codes h, List.mem_filter, dd_mem]
  constructor
  · intro hc
    refine ⟨?_, by simpa using hc⟩
    by_cases hm : c ∈ m.map Bal.account
    · exact hm
    · exact absurd (sm_zero (fun x hx => if_neg (fun e => hm (List.mem_map.2 ⟨x, hx, e⟩)))) hc
  · intro hc
    simpa using hc.2
/-- a list of sums is its own list of sums -/
theorem clean_again {f : Int → Int} {L : List Bal} (h : IsC f L) (c : Int) : ofV L c = f c := by
  unfold ofV
  by_cases hc : f c = 0
  · rw [hc]
    refine sm_zero fun x hx => ?_
    by_cases e : x.account = c
    · have := (h.2 x).1 hx
      rw [e, hc] at this
      exact absurd this.1.symm this.2
    · rw [if_neg e]
  · have hx : (⟨c, f c⟩ : Bal) ∈ L := (h.2 _).2 ⟨rfl, hc⟩
    exact sm_one Bal.account (isC_nodup h) hx Bal.amount
theorem clean_amount {f : Int → Int} {L : List Bal} (h : IsC f L) (ha : ∀ c, amV (f c) = true) : within 1000000000000 L := by
  intro x hx
  have := amV_is (ha x.account)
  rw [((h.2 x).1 hx).1] at this
  exact this
theorem clean_len {m : List Bal} {L : List Bal} (h : IsC (ofW m) L) : L.length ≤ m.length := by
  have := nodup_len_ (L.map Bal.account) (m.map Bal.account) (isC_nodup h) (fun c hc => by
    have h1 := (isC_codes h c).1 hc
    by_cases hm : c ∈ m.map Bal.account
    · exact hm
    · refine absurd ?_ h1
      unfold ofW
      have : ∀ (l : List Bal) (n : Int), (∀ x ∈ l, x.account ≠ c) → l.foldl (fun n x => if x.account = c then wrap64 (n + x.amount) else n) n = n := by
        intro l
        induction l with
        | nil => intro n _; rfl
        | cons a l ih => intro n hl; rw [List.foldl_cons, if_neg (hl a (by simp)), ih n (fun x hx => hl x (by simp [hx]))]
      exact this m 0 (fun x hx e => hm (List.mem_map.2 ⟨x, hx, e⟩)))
  simpa using this
theorem clean_in {m : List Bal} {L : List Bal} (h : IsC (ofW m) L) {x : Bal} (hx : x ∈ L) : ∃ y ∈ m, y.account = x.account := by
  have h1 := (isC_codes h x.account).1 (List.mem_map.2 ⟨x, hx, rfl⟩)
  by_cases hm : x.account ∈ m.map Bal.account
  · obtain ⟨y, hy, e⟩ := List.mem_map.1 hm
    exact ⟨y, hy, e⟩
  · refine absurd ?_ h1
    unfold ofW
    have : ∀ (l : List Bal) (n : Int), (∀ y ∈ l, y.account ≠ x.account) → l.foldl (fun n y => if y.account = x.account then wrap64 (n + y.amount) else n) n = n := by
      intro l
      induction l with
      | nil => intro n _; rfl
      | cons a l ih => intro n hl; rw [List.foldl_cons, if_neg (hl a (by simp)), ih n (fun y hy => hl y (by simp [hy]))]
    exact this m 0 (fun y hy e => hm (List.mem_map.2 ⟨y, hy, e⟩))
/-- both ways of collecting end alike -/
theorem col_same {f e : Int → Int} {L M : List Bal} {E G : Int} (h1 : (E = 0 ∧ IsC f L ∧ ∀ c, amV (f c) = true) ∨ (E = 2 ∧ L = [] ∧ ∃ c, amV (f c) = false)) (h2 : (G = 0 ∧ IsC e M ∧ ∀ c, amV (e c) = true) ∨ (G = 2 ∧ M = [] ∧ ∃ c, amV (e c) = false)) (h : ∀ c, f c = e c) : E = G ∧ L = M := by
  rcases h1 with ⟨e1, c1, a1⟩ | ⟨e1, l1, c, a1⟩ <;> rcases h2 with ⟨e2, c2, a2⟩ | ⟨e2, l2, d, a2⟩
  · exact ⟨by rw [e1, e2], isC_unique c1 c2 h⟩
  · rw [← h, a1 d] at a2; cases a2
  · rw [h, a2 c] at a1; cases a1
  · exact ⟨by rw [e1, e2], by rw [l1, l2]⟩
/-- sums do not hang on the order -/
theorem ofV_perm {l m : List Bal} (h : l.Perm m) (c : Int) : ofV l c = ofV m c := by
  unfold ofV
  induction h with
  | nil => rfl
  | cons a _ ih => rw [sm_cons, sm_cons, ih]
  | swap a b l => rw [sm_cons, sm_cons, sm_cons, sm_cons]; omega
  | trans _ _ h1 h2 => rw [h1, h2]
/-- amounts of at most 2^50, at most 200 -/
def smallAt (m : List Bal) (j : Nat) : Bool := decide ((m.getD j Bal.zero).amount ≤ 1125899906842624) && decide (-1125899906842624 ≤ (m.getD j Bal.zero).amount)
def smallV (m : List Bal) : Bool := allAt m.length (smallAt m) && decide (m.length ≤ 200)
theorem small_is {m : List Bal} (h : smallV m = true) : within 1125899906842624 m ∧ m.length ≤ 200 := by
  unfold smallV at h
  simp only [Bool.and_eq_true, decide_eq_true_eq] at h
  refine ⟨fun x hx => ?_, h.2⟩
  obtain ⟨j, hj, rfl⟩ := List.mem_iff_getElem.1 hx
  have := allAt_at h.1 hj
  unfold smallAt at this
  rw [Bal.getD_at m j hj] at this
  simp only [Bool.and_eq_true, decide_eq_true_eq] at this
  exact ⟨this.2, this.1⟩
end Go.Proofs.Ytkfbchgabmffoaa
/- The capacity of a slice that came in. Over any program. -/
namespace Go.Proofs.Ytkfbchgabmffoaa
set_option linter.unusedVariables false
set_option linter.unusedSimpArgs false
open Go.RowKit Go.ChangeShapes Go.WideShapes Go.Deep

section
variable {P : Program} {w : World} {base : Nat} {spare : Nat → Bool} {held : Bool} {H : Type} {enc : TypeId × Value → H}
theorem open_cap {t e : TypeId} {fs : Array Field} {A : Option Addr} {n cap : Nat} {d : DataW H} {p : List MemPlace} (ht : P.underlying t = some (.slice e)) (he : P.underlying e = some (.struct fs))
    (hone : oneCellFields P fs = true) (hC : P.cellsOf e = fs.size) (h : DataW.Trod enc P w base spare held t (.slice A n cap) d p) : n ≤ cap ∧ cap ≤ maxLen := by
  obtain ⟨fuel, hx⟩ := h
  rcases open_slice_fields ht he hone hC hx with ⟨hcs, -⟩ | ⟨a, len', cap', m, D, Pl, hcs, -, hl, hm, hmm, -, hi⟩
  · simp [Value.cells] at hcs
    obtain ⟨rfl, rfl, rfl⟩ := hcs
    simp [maxLen]
  · simp [Value.cells] at hcs
    obtain ⟨rfl, rfl, rfl⟩ := hcs
    exact ⟨hl, hm⟩
theorem open_arr3 {r : Reach} {b0 : Nat} {t e : TypeId} {v : Value} {d : DataW H} {p : List MemPlace} (ht : P.underlying t = some (.array 3 e)) (hce : P.cellsOf e = 1) (hC : P.cellsOf t = 3)
    (hv : Value.okWide P w r b0 t v) (h : DataW.Trod enc P w base spare held t v d p) :
    ∃ (c0 c1 c2 : Value) (y0 y1 y2 : DataW H × List MemPlace) (n : Nat), v = .agg #[c0, c1, c2] ∧
      DataW.trod enc P w base spare held n e [c0] = some y0 ∧ DataW.trod enc P w base spare held n e [c1] = some y1 ∧ DataW.trod enc P w base spare held n e [c2] = some y2 := by
  simp only [Value.okWide, ht] at hv
  obtain ⟨cs, rfl, h2, _⟩ := hv
  obtain ⟨c0, c1, c2, rfl⟩ : ∃ a b c, cs = #[a, b, c] := by
    obtain ⟨l⟩ := cs
    match l, h2.trans hC with
    | [a, b, c], _ => exact ⟨a, b, c, rfl⟩
  obtain ⟨fuel, hf⟩ := h
  obtain ⟨y0, y1, y2, n, -, h0, h1, h2⟩ := trod_array3 ht hce (by simpa [Value.cells] using hf)
  exact ⟨c0, c1, c2, y0, y1, y2, n, rfl, h0, h1, h2⟩
theorem bounds_u16 {n : Int} (h : (Lit.int .u16 n).wf = true) : 0 ≤ n ∧ n ≤ 65535 := by
  simp [Lit.wf, IntKind.min, IntKind.max, IntKind.signed, IntKind.bits] at h
  omega
end
end Go.Proofs.Ytkfbchgabmffoaa
/- What an argument is, by its type: structs in structs, slices in slices. Over any program. -/
namespace Go.Proofs.Ytkfbchgabmffoaa
set_option linter.unusedVariables false
set_option linter.unusedSimpArgs false
open Go.RowKit Go.ChangeShapes Go.WideShapes Go.Deep

/-- a slice: its elements, where it lies, its capacity -/
structure Sl (α : Type) where
  l : List α
  A : Option Addr
  cap : Nat
def Sl.val {α : Type} (s : Sl α) : Value := .slice s.A s.l.length s.cap
def Sl.Lies {α : Type} (s : Sl α) (w : World) (f : α → List Value) (sz : Nat) : Prop := Rd w w.heap.size sz s.A s.l.length (cellsOf f s.l) ∧ s.l.length ≤ s.cap ∧ s.cap ≤ maxLen
/-- the cells of type t are those of an a -/
def Opens {H : Type} (enc : TypeId × Value → H) (P : Program) (w : World) (base : Nat) (spare : Nat → Bool) (held : Bool) (t : TypeId) {α : Type} (f : α → List Value) (Q : α → Prop) : Prop :=
  ∀ (n : Nat) (cs : List Value) (x : DataW H × List MemPlace), DataW.trod enc P w base spare held n t cs = some x → ∃ a : α, f a = cs ∧ Q a
def span (P : Program) (l : List Field) : Nat := (l.map fun fd => P.cellsOf fd.type).sum
/-- the fields from offset o on -/
def OpensF {H : Type} (enc : TypeId × Value → H) (P : Program) (w : World) (base : Nat) (spare : Nat → Bool) (held : Bool) (l : List Field) (o : Nat) {α : Type} (f : α → List Value) (Q : α → Prop) : Prop :=
  ∀ (n : Nat) (cs : List Value), (∀ fd ∈ l, ∃ x, DataW.trod enc P w base spare held n fd.type ((cs.drop fd.offset).take (P.cellsOf fd.type)) = some x) → ∃ a : α, f a = (cs.drop o).take (span P l) ∧ Q a
section
variable {H : Type} {enc : TypeId × Value → H} {P : Program} {w : World} {base : Nat} {spare : Nat → Bool} {held : Bool} {t e : TypeId} {α β : Type} {f : α → List Value} {Q : α → Prop} {f2 : β → List Value} {Q2 : β → Prop}
theorem opens_int {k : IntKind} (ht : P.underlying t = some (.int k)) : Opens enc P w base spare held t (fun z : Int => [.int k z]) (fun z => (Lit.int k z).wf = true) := by
  intro n cs x h
  obtain ⟨c, h1, _, h3⟩ := DataW.trod_int ht h
  exact ⟨c, h1.symm, h3⟩
theorem opens_string (ht : P.underlying t = some .string) : Opens enc P w base spare held t (fun z : ByteArray => [.string z]) (fun z => z.size ≤ maxLen) := by
  intro n cs x h
  obtain ⟨c, h1, _, h3⟩ := DataW.trod_string ht h
  exact ⟨c, h1.symm, h3⟩
theorem opens_bool (ht : P.underlying t = some .bool) : Opens enc P w base spare held t (fun z : Bool => [.bool z]) (fun _ => True) := by
  intro n cs x h
  cases n with
  | zero => simp [DataW.trod] at h
  | succ n =>
    unfold DataW.trod at h
    rw [ht] at h
    split at h <;> simp_all
theorem Opens.map (h : Opens enc P w base spare held t f Q) (g : α → β) (hf : ∀ a, f2 (g a) = f a) (hQ : ∀ a, Q a → Q2 (g a)) : Opens enc P w base spare held t f2 Q2 := by
  intro n cs x hx
  obtain ⟨a, h1, h2⟩ := h n cs x hx
  exact ⟨g a, (hf a).trans h1, hQ a h2⟩
theorem opensF_nil (o : Nat) : OpensF enc P w base spare held [] o (fun _ : Unit => []) (fun _ => True) := by
  intro n cs _
  exact ⟨(), by simp [span], trivial⟩
theorem opensF_cons {fd : Field} {l : List Field} {o k : Nat} (h1 : Opens enc P w base spare held fd.type f Q) (ho : fd.offset = o) (hk : P.cellsOf fd.type = k) (h2 : OpensF enc P w base spare held l (o + k) f2 Q2) :
    OpensF enc P w base spare held (fd :: l) o (fun p : α × β => f p.1 ++ f2 p.2) (fun p => Q p.1 ∧ Q2 p.2) := by
  intro n cs h
  obtain ⟨x, hx⟩ := h fd (by simp)
  obtain ⟨a, ha, hQ⟩ := h1 n _ x hx
  obtain ⟨b, hb, hR⟩ := h2 n cs (fun g hg => h g (by simp [hg]))
  refine ⟨(a, b), ?_, hQ, hR⟩
  show f a ++ f2 b = _
  rw [ha, hb, ho, hk]
  have e : span P (fd :: l) = k + span P l := by simp [span, hk]
  rw [e, List.take_add, List.drop_drop]
theorem opens_struct {fs : Array Field} (ht : P.underlying t = some (.struct fs)) (hC : P.cellsOf t = span P fs.toList) (h : OpensF enc P w base spare held fs.toList 0 f Q) : Opens enc P w base spare held t f Q := by
  intro n cs x hx
  obtain ⟨xs, m, _, _, hl, hxs, hf⟩ := DataW.trod_struct ht hx
  obtain ⟨a, ha, hQ⟩ := h m cs (fun fd hfd => by
    obtain ⟨i, hi, e⟩ := List.mem_iff_getElem.1 hfd
    have h1 := hf i fd (by rw [← e]; simp)
    have hi' : i < xs.length := by rw [hxs]; simpa using hi
    exact ⟨xs[i], by rw [h1]; exact List.getElem?_eq_getElem hi'⟩)
  refine ⟨a, ?_, hQ⟩
  rw [ha, List.drop_zero, ← hC, ← hl, List.take_length]
theorem opens_slice {sz : Nat} (ht : P.underlying t = some (.slice e)) (hC : P.cellsOf e = sz) (hsz : 0 < sz) [Inhabited α] (hlen : ∀ a, (f a).length = sz) (h : Opens enc P w base spare held e f Q) :
    Opens enc P w base spare held t (fun s : Sl α => [s.val]) (fun s => s.Lies w f sz ∧ ∀ a ∈ s.l, Q a) := by
  intro n cs x hx
  rcases open_slice ht hx with ⟨hcs, -⟩ | ⟨a, len, cap, m, n, D, Pl, hcs, hb, hl, hm, hmm, -, hi⟩
  · exact ⟨⟨[], none, 0⟩, hcs.symm, ⟨Rd.none_, by simp, by simp [maxLen]⟩, fun a ha => by simp at ha⟩
  · have hml : len ≤ m := by rw [hmm]; split <;> omega
    have hrow : ∀ i, i < len → ∃ y : α, (∀ j u, (f y)[j]? = some u → w.cell? (a.add (i * sz + j)) = some u) ∧ Q y := by
      intro i hil
      obtain ⟨cs', hc, hd⟩ := hi i (by omega)
      obtain ⟨y, hy, hQ⟩ := h n cs' _ hd
      rw [hC] at hc
      obtain ⟨_, hcl, hat⟩ := World.cells?_some hc
      refine ⟨y, fun j u hu => ?_, hQ⟩
      rw [hy] at hu
      have hj : j < sz := by
        have := (List.getElem?_eq_some_iff.1 hu).1
        omega
      have := hat j hj
      rw [Go.Deep.add_add] at this
      rw [this]; exact hu
    obtain ⟨V, hV⟩ := choose_lt (α := α) (p := fun i x => (∀ j u, (f x)[j]? = some u → w.cell? (a.add (i * sz + j)) = some u) ∧ Q x) hrow
    refine ⟨⟨(List.range len).map V, some a, cap⟩, by simp [Sl.val, hcs], ⟨?_, by simpa using hl, hm⟩, fun x hx => ?_⟩
    · exact rd_mk (w := w) (a := a) (l := (List.range len).map V) hlen hsz (fun k hk j u hu => by
        simp only [List.getElem_map, List.getElem_range] at hu
        exact (hV k (by simpa using hk)).1 j u hu)
    · simp only [List.mem_map, List.mem_range] at hx
      obtain ⟨i, hi, rfl⟩ := hx
      exact (hV i hi).2
/-- an argument that is a struct -/
theorem opens_agg {r : Reach} {b0 : Nat} {fs : Array Field} {v : Value} {d : DataW H} {p : List MemPlace} (ht : P.underlying t = some (.struct fs)) (h : Opens enc P w base spare held t f Q)
    (hv : Value.okWide P w r b0 t v) (hd : DataW.Trod enc P w base spare held t v d p) : ∃ a : α, v = .agg (f a).toArray ∧ Q a := by
  obtain ⟨cs, rfl, _⟩ := okWide_struct ht hv
  obtain ⟨fuel, hf⟩ := hd
  obtain ⟨a, h1, h2⟩ := h fuel _ _ hf
  refine ⟨a, ?_, h2⟩
  rw [h1]
  simp [Value.cells]
/-- an argument that is a slice -/
theorem opens_sl {r : Reach} {b0 : Nat} {v : Value} {d : DataW H} {p : List MemPlace} {R : Sl α → Prop} (ht : P.underlying t = some (.slice e)) (h : Opens enc P w base spare held t (fun s : Sl α => [s.val]) R)
    (hv : Value.okWide P w r b0 t v) (hd : DataW.Trod enc P w base spare held t v d p) : ∃ s : Sl α, v = s.val ∧ R s := by
  obtain ⟨A, n, c, rfl⟩ := okWide_slice ht hv
  obtain ⟨fuel, hf⟩ := hd
  obtain ⟨a, h1, h2⟩ := h fuel _ _ hf
  refine ⟨a, ?_, h2⟩
  simp [Value.cells] at h1
  exact h1.symm
end
end Go.Proofs.Ytkfbchgabmffoaa
