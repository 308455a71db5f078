/- Texts of this claim, put together. -/
import Derived.Test.YtnkmjdaeafeaaaaJAQ
import Derived.Test.YtnkmjdaeafeaaaaApiZ
import Derived.Test.YtnkmjdaeafeaaaaJAC
import Derived.Test.YtnkmjdaeafeaaaaJAE
import Derived.Test.YtnkmjdaeafeaaaaLibRZ
import Derived.Test.YtnkmjdaeafeaaaaJAN
import Derived.Test.YtnkmjdaeafeaaaaJAO
/- The walk of PostingClean. -/
namespace Go.Proofs.Ytnkmjdaeafeaaaa
set_option linter.unusedVariables false
set_option linter.unusedSimpArgs false
open Go.RowKit

theorem sameparts_yes (m : List Bal) (A B : Option Addr) (c1 c2 : Nat) (w : World) (hr : Rd w w.heap.size 2 A m.length (cellsOf Bal.cells m)) (hq : Rd w w.heap.size 2 B m.length (cellsOf Bal.cells m)) (hn : m.length ≤ 1000000) :
    Calls Try.prog 62 #[.slice A m.length c1, .slice B m.length c2] w (BoolPost true w) :=
  (sameparts_any m m A B c1 c2 w hr hq hn hn).mono fun e w' h => ⟨h.1.trans (ret_bool (by simp)), h.2⟩
/-- how collecting ends -/
def ColAlt (f : Int → Int) (L : List Bal) (E : Int) : Prop := (E = 0 ∧ IsC f L ∧ ∀ c, amV (f c) = true) ∨ (E = 2 ∧ L = [] ∧ ∃ c, amV (f c) = false)
theorem small_sum {m : List Bal} (h : smallV m = true) : sumW m = sumV m := by
  obtain ⟨h1, h2⟩ := small_is h
  exact sumW_eq m h1 (by omega) (by omega)
theorem small_of {m : List Bal} (h : smallV m = true) (c : Int) : ofW m c = ofV m c := by
  obtain ⟨h1, h2⟩ := small_is h
  exact ofW_eq' m c h1 (by omega) (by omega)
theorem clean_of {m L : List Bal} (hl : m.length ≤ 200) (h : IsC (ofW m) L) (ha : ∀ c, amV (ofW m c) = true) (c : Int) : ofW L c = ofW m c := by
  have := clean_len h
  rw [ofW_eq' L c (clean_amount h ha) (by omega) (by omega)]
  exact clean_again h c
theorem clean_twice {m L L2 : List Bal} {E2 : Int} (hs : smallV m = true) (h : IsC (ofW m) L) (ha : ∀ c, amV (ofW m c) = true) (h2 : ColAlt (ofW L) L2 E2) : E2 = 0 ∧ L2 = L ∧ sumW L = sumW m := by
  have hl := (small_is hs).2
  have hll := clean_len h
  have hof := clean_of hl h ha
  refine ⟨?_, ?_, ?_⟩
  · rcases h2 with ⟨e, _, _⟩ | ⟨_, _, c, hc⟩
    · exact e
    · rw [hof, ha c] at hc; cases hc
  · rcases h2 with ⟨_, h3, _⟩ | ⟨_, _, c, hc⟩
    · exact isC_unique h3 h hof
    · rw [hof, ha c] at hc; cases hc
  · rw [sumW_eq L (clean_amount h ha) (by omega) (by omega), small_sum hs]
    exact clean_sum h (small_of hs)
theorem col_len {f : Int → Int} {m L : List Bal} {E : Int} (h : ColAlt f L E) (hf : f = ofW m) : L.length ≤ m.length := by
  subst hf
  rcases h with ⟨_, h, _⟩ | ⟨_, rfl, _⟩
  · exact clean_len h
  · simp
theorem col_wf {m L : List Bal} {E : Int} (h : ColAlt (ofW m) L E) (hwf : ∀ x ∈ m, (Lit.int .i64 x.account).wf = true) : ∀ x ∈ L, (Lit.int .i64 x.account).wf = true := by
  rcases h with ⟨_, h, _⟩ | ⟨_, rfl, _⟩
  · intro x hx
    obtain ⟨y, hy, e⟩ := clean_in h hx
    rw [← e]; exact hwf y hy
  · intro x hx; simp at hx
end Go.Proofs.Ytnkmjdaeafeaaaa
/- Contributions, and what dividends and sums of parts come to. No walk. -/
namespace Go.Proofs.Ytnkmjdaeafeaaaa
set_option linter.unusedVariables false
set_option linter.unusedSimpArgs false
open Go.RowKit

/-- what matters of a contribution -/
structure ConR where
  entity : Int
  method : Int
  items : Sl ItemR
instance inhConR : Inhabited ConR := ⟨⟨0, 0, ⟨[], none, 0⟩⟩⟩
def ConR.cells (x : ConR) : List Value := [.int .i64 x.entity, .int .i64 x.method, .int .i64 0, .bool false, .slice none 0 0, .bool false, .slice none 0 0, .bool false, .slice none 0 0, .bool false, .slice none 0 0, x.items.val, .slice none 0 0]
def ConR.own (x : ConR) : List Value := [.int .i64 x.entity, .int .i64 x.method, x.items.val]
theorem ConR.len (x : ConR) : x.cells.length = 13 := rfl
theorem ConR.own_len (x : ConR) : x.own.length = 3 := rfl
theorem ConR.one (x : ConR) : ∀ u ∈ x.cells, u.oneCell' = true := by
  intro u hu
  simp only [ConR.cells, List.mem_cons, List.not_mem_nil, or_false] at hu
  rcases hu with rfl | rfl | rfl | rfl | rfl | rfl | rfl | rfl | rfl | rfl | rfl | rfl | rfl
  all_goals rfl
def ConR.Ok (w : World) (x : ConR) : Prop := Wf x.entity ∧ Wf x.method ∧ (x.items.Lies w ItemR.cells 7 ∧ ∀ y ∈ x.items.l, ItemR.Ok w y)
theorem ConR.Ok.step {w w2 : World} {x : ConR} (h : x.Ok w) (hb : Below w.heap.size w w2) : x.Ok w2 := ⟨h.1, h.2.1, ⟨(h.2.2).1.step hb, fun y hy => ((h.2.2).2 y hy).step hb⟩⟩
theorem ConR.at_ {w : World} {B : Nat} {A : Option Addr} {l : List ConR} (h : Rd w B 13 A l.length (cellsOf ConR.cells l)) {k : Nat} (hk : k < l.length) :
    ∃ b o, A = some ⟨b, o, none⟩ ∧ b < B ∧ ∀ j u, (l[k]).cells[j]? = some u → w.cell? ⟨b, o + k * 13 + j, none⟩ = some u := rd_at (f := ConR.cells) (sz := 13) (fun _ => rfl) h hk
theorem ConR.own_at {w : World} {B : Nat} {A : Option Addr} {l : List ConR} (h : Rd w B 3 A l.length (cellsOf ConR.own l)) {k : Nat} (hk : k < l.length) :
    ∃ b o, A = some ⟨b, o, none⟩ ∧ b < B ∧ w.cell? ⟨b, o + k * 3, none⟩ = some (.int .i64 l[k].entity) ∧ w.cell? ⟨b, o + k * 3 + 1, none⟩ = some (.int .i64 l[k].method) ∧ w.cell? ⟨b, o + k * 3 + 2, none⟩ = some l[k].items.val := by
  obtain ⟨b, o, e, hb, hc⟩ := rd_at (f := ConR.own) (sz := 3) (fun _ => rfl) h hk
  exact ⟨b, o, e, hb, hc 0 _ rfl, hc 1 _ rfl, hc 2 _ rfl⟩
/-- the contribution of an entity -/
def conIs (e : Int) (x : ConR) : Bool := x.entity == e
def conF (l : List ConR) (e : Int) : ConR := (l.find? (conIs e)).getD default
def conB (l : List ConR) (e : Int) : Bool := l.any (conIs e)
theorem con_hit {l : List ConR} {e : Int} (k : Nat) (hk : k < l.length) (hno : ∀ j (h : j < k), conIs e (l[j]'(by omega)) = false) (h : conIs e l[k] = true) : conF l e = l[k] ∧ conB l e = true := by
  constructor
  · unfold conF
    have : l.find? (conIs e) = some l[k] := by
      rw [List.find?_eq_some_iff_getElem]
      exact ⟨h, k, hk, rfl, fun j hj => by simp [hno j hj]⟩
    rw [this]; rfl
  · unfold conB
    rw [List.any_eq_true]
    exact ⟨_, List.getElem_mem hk, h⟩
theorem con_miss {l : List ConR} {e : Int} (hno : ∀ j (h : j < l.length), conIs e l[j] = false) : conF l e = default ∧ conB l e = false := by
  have h : ∀ x ∈ l, conIs e x = false := by
    intro x hx
    obtain ⟨j, hj, rfl⟩ := List.mem_iff_getElem.1 hx
    exact hno j hj
  constructor
  · unfold conF
    rw [List.find?_eq_none.2 (fun x hx => by rw [h x hx]; decide)]; rfl
  · unfold conB
    rw [List.any_eq_false]
    intro x hx
    rw [h x hx]; decide
theorem con_ok {w : World} {l : List ConR} (h : ∀ x ∈ l, x.Ok w) (e : Int) : (conF l e).Ok w := by
  unfold conF
  cases hf : l.find? (conIs e) with
  | none => exact ⟨rfl, rfl, ⟨⟨Rd.none_, by simp [Option.getD, default], by simp [Option.getD, default, maxLen]⟩, by simp [Option.getD, default]⟩⟩
  | some x => exact h x (List.mem_of_find?_eq_some hf)
/-- a sum over some of the items -/
def itSum (p : ItemR → Bool) (I : List ItemR) : Int := I.foldl (fun n x => if p x = true then wrap64 (n + x.amount) else n) 0
theorem itSum_take (p : ItemR → Bool) (m : List ItemR) (k : Nat) (h : k < m.length) : itSum p (m.take (k + 1)) = if p m[k] = true then wrap64 (itSum p (m.take k) + m[k].amount) else itSum p (m.take k) := by
  unfold itSum
  rw [List.take_succ_eq_append_getElem h, List.foldl_append]
  rfl
def itVal (p : ItemR → Bool) (I : List ItemR) : Int := sm I fun x => if p x = true then x.amount else 0
def itWithin (M : Int) (I : List ItemR) : Prop := ∀ x ∈ I, -M ≤ x.amount ∧ x.amount ≤ M
theorem itSum_eq {M : Int} (p : ItemR → Bool) (m : List ItemR) (h : itWithin M m) (h0 : 0 ≤ M) (hl : M * m.length ≤ 4000000000000000000) : itSum p m = itVal p m := by
  have : ∀ k, k ≤ m.length → itSum p (m.take k) = itVal p (m.take k) := by
    intro k
    induction k with
    | zero => intro _; rfl
    | succ k ih =>
      intro hk
      have hk' : k < m.length := by omega
      rw [itSum_take p m k hk', ih (by omega)]
      have e : itVal p (m.take (k + 1)) = itVal p (m.take k) + if p m[k] = true then m[k].amount else 0 := sm_take m k hk' _
      rw [e]
      have hb := sm_bd (m.take k) (fun x => if p x = true then x.amount else 0) M (fun x hx => by
        have := h x (List.mem_of_mem_take hx)
        show -M ≤ (if p x = true then x.amount else 0) ∧ (if p x = true then x.amount else 0) ≤ M
        split <;> omega)
      have hx := h _ (List.getElem_mem hk')
      rw [List.length_take, Nat.min_eq_left (by omega)] at hb
      have h2 : M * (k : Int) ≤ M * (m.length : Int) := Int.mul_le_mul_of_nonneg_left (by omega) h0
      have h3 : M * 1 ≤ M * (m.length : Int) := Int.mul_le_mul_of_nonneg_left (by omega) h0
      by_cases hc : p m[k] = true
      · rw [if_pos hc, if_pos hc]
        unfold itVal
        rw [wrap_in (by omega) (by omega)]
      · rw [if_neg hc, if_neg hc]; omega
  have := this m.length (Nat.le_refl _)
  rwa [List.take_length] at this

/-- the clean list of parts, or an error -/
def cleanL (m : List Bal) : List Bal := balsOf (ofW m) (srt ((dd (m.map Bal.account)).filter fun c => ofW m c != 0))
open Classical in
noncomputable def clnE (m : List Bal) : Int := if ∀ c, amV (ofW m c) = true then 0 else 2
open Classical in
noncomputable def clnL (m : List Bal) : List Bal := if ∀ c, amV (ofW m c) = true then cleanL m else []
theorem ofW_in {m : List Bal} {c : Int} (h : ofW m c ≠ 0) : c ∈ m.map Bal.account := by
  have key : ∀ k, k ≤ m.length → ofW (m.take k) c ≠ 0 → c ∈ (m.take k).map Bal.account := by
    intro k
    induction k with
    | zero => intro _ h; exact absurd rfl h
    | succ k ih =>
      intro hk h
      have hk' : k < m.length := by omega
      rw [List.take_succ_eq_append_getElem hk', List.map_append, List.mem_append]
      by_cases e : m[k].account = c
      · right; simp [e]
      · left
        refine ih (by omega) ?_
        rw [ofW_take m k hk', if_neg e] at h
        exact h
  have := key m.length (Nat.le_refl _)
  rw [List.take_length] at this
  exact this h
theorem cleanL_is (m : List Bal) : IsC (ofW m) (cleanL m) := by
  unfold cleanL
  refine isC_of (srt_asc ((dd_nodup _).filter _)) fun c => ?_
  rw [srt_mem, List.mem_filter, dd_mem]
  constructor
  · rintro ⟨_, h⟩; simpa using h
  · intro h; exact ⟨ofW_in h, by simpa using h⟩
open Classical in
theorem cln_is {m L : List Bal} {E : Int} (h : ColAlt (ofW m) L E) : L = clnL m ∧ E = clnE m := by
  unfold clnL clnE
  rcases h with ⟨rfl, h1, h2⟩ | ⟨rfl, rfl, c, hc⟩
  · rw [if_pos h2, if_pos h2]; exact ⟨isC_unique h1 (cleanL_is m) fun _ => rfl, rfl⟩
  · have hn : ¬ ∀ c, amV (ofW m c) = true := fun h => by rw [h c] at hc; cases hc
    rw [if_neg hn, if_neg hn]; exact ⟨rfl, rfl⟩
open Classical in
theorem cln_alt (m : List Bal) : ColAlt (ofW m) (clnL m) (clnE m) := by
  unfold clnL clnE
  by_cases h : ∀ c, amV (ofW m c) = true
  · rw [if_pos h, if_pos h]; exact .inl ⟨rfl, cleanL_is m, h⟩
  · rw [if_neg h, if_neg h]
    refine .inr ⟨rfl, rfl, ?_⟩
    obtain ⟨c, hc⟩ := Classical.not_forall.1 h
    exact ⟨c, by simpa using hc⟩
end Go.Proofs.Ytnkmjdaeafeaaaa
/- What dividends come to: sums of items, the parts of a posting, errors. No walk. -/
namespace Go.Proofs.Ytnkmjdaeafeaaaa
set_option linter.unusedVariables false
set_option linter.unusedSimpArgs false
open Go.RowKit

/-- contributions as they lie in a world -/
structure CIn (w : World) (l : List ConR) (A : Option Addr) : Prop where
  rd : Rd w w.heap.size 13 A l.length (cellsOf ConR.cells l)
  it : ∀ x ∈ l, Rd w w.heap.size 7 x.items.A x.items.l.length (cellsOf ItemR.cells x.items.l)
  few : ∀ x ∈ l, x.items.l.length ≤ 1000
  len : l.length ≤ 1000
theorem CIn.step {w w2 : World} {l : List ConR} {A : Option Addr} (h : CIn w l A) (hb : Below w.heap.size w w2) : CIn w2 l A :=
  ⟨Rd.now h.rd hb, fun x hx => Rd.now (h.it x hx) hb, h.few, h.len⟩
theorem CIn.at_ {w : World} {l : List ConR} {A : Option Addr} (h : CIn w l A) (e : Int) : Rd w w.heap.size 7 (conF l e).items.A (conF l e).items.l.length (cellsOf ItemR.cells (conF l e).items.l) ∧ (conF l e).items.l.length ≤ 1000 := by
  unfold conF
  cases hf : l.find? (conIs e) with
  | none => exact ⟨Rd.none_, by simp [Option.getD, default]⟩
  | some x => exact ⟨h.it x (List.mem_of_find?_eq_some hf), h.few x (List.mem_of_find?_eq_some hf)⟩
namespace Dv
/-- an item on an account, with a partner of a kind -/
def is (d : Int) (q : Int → Bool) (x : ItemR) : Bool := x.account == d && q x.partner
def sum (d : Int) (q : Int → Bool) (l : List ConR) (e : Int) : Int := itSum (is d q) (conF l e).items.l
def rec (d : Int) (l : List ConR) (payer receiver : Int) : Int := sum d (fun p => p == payer) l receiver
def full (l : List ConR) (e : Int) : Bool := conB l e && (conF l e).method == 3
def ck (V : Bool) (p P : Int) : Int := if V = true then (if 0 ≤ p ∧ p < P then 0 else 2) else 1
def inN (n : Nat) (i k : Int) : Bool := decide (0 ≤ i) && (decide (i < n) && (decide (0 ≤ k) && decide (k < n)))
def pair (l : List ConR) (i k : Int) : Bool := !(i == k) && (full l i && full l k)
def parts (d r n : Int) : List Bal := [⟨d, wrap64 (-n)⟩, ⟨r, n⟩]
noncomputable def pE (V : Bool) (p P : Int) (n : Nat) (d r : Int) (l : List ConR) (i k : Int) : Int :=
  if ck V p P = 0 then (if inN n i k = true then (if pair l i k = true then clnE (parts d r (rec d l i k)) else 0) else 2) else ck V p P
noncomputable def pL (V : Bool) (p P : Int) (n : Nat) (d r : Int) (l : List ConR) (i k : Int) : List Bal :=
  if ck V p P = 0 ∧ inN n i k = true ∧ pair l i k = true then clnL (parts d r (rec d l i k)) else []
/-- a posting of kind 9 between i and k with parts L, or none -/
def IsP (kd i k : Int) (L : List Bal) (x : PostR) : Prop :=
  x.parts.l = L ∧ x.rule = 0 ∧ ((L = [] ∧ x.kind = 0 ∧ x.entity = 0 ∧ x.other = 0) ∨ (L ≠ [] ∧ x.kind = kd ∧ x.entity = i ∧ x.other = k))
end Dv
theorem clnL_none {m : List Bal} (h : clnE m ≠ 0) : clnL m = [] := by
  rcases cln_alt m with ⟨e, -, -⟩ | ⟨-, e, -⟩
  · exact absurd e h
  · exact e
end Go.Proofs.Ytnkmjdaeafeaaaa
/- Structs of many cells, whole: loaded out of a list, stored into a block, handed back. Over any program. -/
namespace Go.Proofs.Ytnkmjdaeafeaaaa
set_option linter.unusedVariables false
set_option linter.unusedSimpArgs false
open Go.RowKit

theorem blk_row {w : World} {g : Nat} {t : TypeId} {cs : Array Value} (h : Blk w g t cs) (cs' : Array Value) : Blk (w.setRow g cs') g t cs' := setRow_heap w g cs cs' t (0, 0) h
theorem blk_row_other {w : World} {g g' : Nat} {t : TypeId} {cs : Array Value} (h : Blk w g t cs) (hg : g ≠ g') (cs' : Array Value) : Blk (w.setRow g' cs') g t cs := (setRow_other w g' g cs' hg).trans h
theorem below_row {B g : Nat} {w w' : World} {cs : Array Value} (h : Below B w w') (hg : B ≤ g) : Below B w (w'.setRow g cs) :=
  ⟨h.os, h.tape, h.output, by have := h.size; simpa [World.setRow] using this, fun b hb => (setRow_other w' g b cs (by omega)).trans (h.block b hb)⟩
theorem alloc_row (w : World) (zs cs : Array Value) (t : TypeId) : (w.alloc (.cells zs t)).setRow w.heap.size cs = w.alloc (.cells cs t) := by
  unfold World.setRow World.alloc
  simp only
  congr 1
  apply Array.ext
  · simp
  · intro i h1 h2
    simp only [Array.getElem_modify, Array.getElem_push]
    simp only [Array.size_modify, Array.size_push] at h1
    by_cases e : i < w.heap.size
    · simp [e, Nat.ne_of_gt e]
    · have : i = w.heap.size := by omega
      subst this
      simp
section
variable {P : Program} {ops : Array Oper} {w W : World} {o : Oper} {rest : List Oper} {a : Act} {t T : TypeId} {fs : Array Field}
theorem wpList_load_arr {Q : Exit → Act → World → Prop} (hgd : o.guard = none) (ty : TypeId) (x : Operand) (ho : o.op = .load ty x) (b off : Nat) (hx : a.eval x = .pointer (some ⟨b, off, none⟩)) (arr : Array Value) (hc : w.rangeAt b off arr.toList)
    (hu : P.underlying ty = some (.struct fs)) (n : Nat) (hi : (P.info? ty).map (·.size) = some n) (hn : arr.size = n)
    (h : wpList P ops Q rest (a.put o.dst (.agg arr)) w) : wpList P ops Q (o :: rest) a w :=
  wpList_load_mid hgd ty x ho b off hx arr.toList _ hc hu rfl (by rw [hi, Array.length_toList, hn]) (by simpa using h)
theorem wpList_alloc_put {Q : Exit → Act → World → Prop} (hgd : o.guard = none) (ty : TypeId) (x y : Operand) (ho : o.op = .store ty x y) (hd : o.dst = none)
    (cells : Array Value) (zs : Array Value) (hx : a.eval x = .pointer (some ⟨w.heap.size, 0, none⟩)) (hy : a.eval y = .agg cells)
    (n : Nat) (hi : (P.info? ty).map (·.size) = some n) (hn : cells.size = n) (hz : zs.size = n) (h1 : cells.all (·.oneCell') = true)
    (h : wpList P ops Q rest a (w.alloc (.cells cells t))) : wpList P ops Q (o :: rest) a (w.alloc (.cells zs t)) := by
  refine wpList_store_row hgd ty x y ho w.heap.size cells hx hy t zs (Blk.new w t zs) (by rw [hi, hn]) (by rw [hz, hn]) h1 ?_
  rw [alloc_row, hd]
  exact h
theorem wpList_builtV {Q : Exit → Act → World → Prop} (hg : o.guard = none) (dst : Tmp) (hdst : o.dst = some dst) (T : TypeId) (parts : Array (Nat × Operand)) (ho : o.op = .build T parts) (cs : Array Value) (vs : List (Nat × Value))
    (hv : (parts.map fun (i, x) => (i, a.eval x)).toList = vs) (h : P.built T vs = some cs) (hK : wpList P ops Q rest (a.put (some dst) (.agg cs)) w) : wpList P ops Q (o :: rest) a w :=
  wpList_built hg dst hdst T parts ho cs (hv ▸ h) hK
theorem results_row2 {fn : Func} {p q : Tmp} {ty : TypeId} (h : fn.results = #[.cell p ty, .tmp q]) (tmps : Array Value) (w : World) (g : Nat) (t : TypeId) (cs : Array Value)
    (hp : tmps.getD p undef = .pointer (some ⟨g, 0, none⟩)) (hg : Blk w g t cs) (hu : P.underlying ty = some (.struct fs)) (hi : (P.info? ty).map (·.size) = some cs.size) :
    (results fn tmps).run P w = .ok (.tuple #[.agg cs, tmps.getD q undef]) w := by
  have hp' : tmps[p]?.getD undef = .pointer (some ⟨g, 0, none⟩) := by simpa using hp
  simp [results, h, hp', asAddr, run_loadVar_row w g t ty cs (0, 0) _ hg hu rfl hi]
end
end Go.Proofs.Ytnkmjdaeafeaaaa
/- The walks of Find of contributions, and of its reference. -/
namespace Go.Proofs.Ytnkmjdaeafeaaaa
set_option linter.unusedVariables false
set_option linter.unusedSimpArgs false
open Go.RowKit

def zeroCon : Array Value := #[.int .i64 0, .int .i64 0, .int .i64 0, .bool false, .slice none 0 0, .bool false, .slice none 0 0, .bool false, .slice none 0 0, .bool false, .slice none 0 0, .slice none 0 0, .slice none 0 0]
/-- the cells of a contribution whose items are shown -/
def conCs (e m : Int) (v : Value) : Array Value := #[.int .i64 e, .int .i64 m, .int .i64 0, .bool false, .slice none 0 0, .bool false, .slice none 0 0, .bool false, .slice none 0 0, .bool false, .slice none 0 0, v, .slice none 0 0]
def ConR.arr (x : ConR) : Array Value := conCs x.entity x.method x.items.val
def ConPost (l : List ConR) (e : Int) (w : World) (en : Ending) (w' : World) : Prop :=
  en = .returned (.tuple #[.agg (conF l e).arr, .bool (conB l e)]) ∧ Below w.heap.size w w'
theorem ConR.cell_at {w : World} {B : Nat} {A : Option Addr} {l : List ConR} (h : Rd w B 13 A l.length (cellsOf ConR.cells l)) {k : Nat} (hk : k < l.length) :
    ∃ b o, A = some ⟨b, o, none⟩ ∧ b < B ∧ w.rangeAt b (o + k * 13) (l[k]).cells := by
  obtain ⟨b, o, e, hb, hc⟩ := ConR.at_ h hk
  exact ⟨b, o, e, hb, fun j v hv => hc j v hv⟩
theorem ConR.arr_list (x : ConR) : x.arr.toList = x.cells := rfl
theorem ConR.arr_one (x : ConR) : x.arr.all (·.oneCell') = true := by
  rw [← Array.all_toList, List.all_eq_true]
  exact fun u hu => x.one u hu
theorem zero_one : zeroCon.all (·.oneCell') = true := (default : ConR).arr_one
theorem con_default : (default : ConR).arr = zeroCon := rfl
theorem conf_range {w : World} {b o : Nat} {x : ConR} (h : w.rangeAt b o x.cells) : w.rangeAt b o x.arr.toList := h
theorem cfind_any_size : (Try.prog.info? 139).map (·.size) = some 13 := by kernel_rfl
set_option maxRecDepth 100000 in
set_option maxHeartbeats 4000000 in
theorem cfind_any (l : List ConR) (e : Int) (A : Option Addr) (cap : Nat) (w : World) (hr : Rd w w.heap.size 13 A l.length (cellsOf ConR.cells l)) (hn : l.length ≤ 1000000) :
    Calls Try.prog 115 #[.slice A l.length cap, .int .i64 e] w (ConPost l e w) := by
  have hb : Below w.heap.size w (w.alloc (.cells zeroCon 139)) := (Below.refl _ _).alloc (Nat.le_refl _) _
  have HB := Lib.hid (Blk.new w 139 zeroCon)
  have HR := Lib.hid hr
  clear hr
  unfold ConPost
  go_enter Try.func115, Try.ntmps115
  go_wp2_with fail
  go_loopw [10] (fun t wr => ∃ k : Nat, k ≤ l.length ∧ (∀ j (h : j < k) (h2 : j < l.length), conIs e (l[j]'h2) = false) ∧ t = .int .i64 k ∧ Blk wr w.heap.size 139 zeroCon ∧ Below w.heap.size w wr) (fun t _ => l.length - (intOf t).toNat)
  case atStart => exact ⟨0, by omega, fun j h => by omega, rfl, HB.out, hb⟩
  case round =>
    clear hb
    obtain ⟨k, hk, hno, rfl, hB, hb⟩ := hrel
    have HN := Lib.hid hno
    have hz := hb.size
    have hlB := hB.lt
    have HBr := Lib.hid hB
    clear hno hB
    by_cases hlt : k < l.length
    · obtain ⟨b, o, hA, hbo, hx⟩ := ConR.cell_at (Rd.now HR.out hb) hlt
      subst hA
      have f0 : wr.cell? ⟨b, o + k * 13, none⟩ = some (.int .i64 l[k].entity) := hx 0 _ rfl
      have HX := Lib.hid hx
      have HH := Lib.hid (con_hit (l := l) (e := e) k hlt (fun j h => HN.out j h (by omega)))
      clear hx
      generalize hxx : l[k] = x at *
      have HXX := Lib.hid hxx
      clear hxx
      have HBn := Lib.hid (HBr.out.alloc (.cells x.arr 139))
      have HNx := Lib.hid (Blk.new wr 139 x.arr)
      have hbn := hb.alloc hz (.cells x.arr 139)
      cases hc : (x.entity == e)
      · have HC : Hid (conIs e x = false) := Lib.hid hc
        go_wp2_with (first
          | (refine wpList_load_arr rfl 139 (.tmp 12) rfl b (o + k * 13) rfl x.arr HX.out Try.underlying139 13 cfind_any_size rfl ?_)
          | (refine wpList_alloc_put rfl 139 (.tmp 7) (.tmp 13) rfl rfl x.arr _ rfl rfl 13 cfind_any_size rfl rfl x.arr_one ?_; have k0 : (wr.alloc (.cells x.arr 139)).cell? ⟨wr.heap.size, 0, none⟩ = some (.int .i64 x.entity) := HNx.out.cell 0))
        clear k0
        go_roundw
        case rel =>
          refine ⟨k + 1, by omega, fun j h h2 => ?_, by go_num, HBn.out, hbn⟩
          by_cases hj : j = k
          · subst hj; rw [HXX.out]; exact HC.out
          · exact HN.out j (by omega) h2
        case measure => simp [intOf]; omega
      · have HC : Hid (conIs e x = true) := Lib.hid hc
        go_wp2_with (first
          | (refine wpList_load_arr rfl 139 (.tmp 12) rfl b (o + k * 13) rfl x.arr HX.out Try.underlying139 13 cfind_any_size rfl ?_)
          | (refine wpList_alloc_put rfl 139 (.tmp 7) (.tmp 13) rfl rfl x.arr _ rfl rfl 13 cfind_any_size rfl rfl x.arr_one ?_; have k0 : (wr.alloc (.cells x.arr 139)).cell? ⟨wr.heap.size, 0, none⟩ = some (.int .i64 x.entity) := HNx.out.cell 0)
          | (refine wpList_load_blk 139 (.tmp 7) rfl wr.heap.size rfl (by kernel_rfl) HNx.out Try.underlying139 cfind_any_size ?_)
          | (refine wpList_store_row rfl 139 (.tmp 4) (.tmp 18) rfl w.heap.size x.arr rfl rfl 139 zeroCon HBn.out cfind_any_size rfl x.arr_one ?_))
        clear k0
        refine bodyPost_ret (v := .tuple #[.agg x.arr, .bool true]) (results_row2 Try.results115 _ _ w.heap.size 139 x.arr rfl (blk_row HBn.out _) Try.underlying139 cfind_any_size) rfl ?_
        obtain ⟨h1, h2⟩ := HH.out HC.out
        exact ⟨by rw [h1, h2], below_row hbn (Nat.le_refl _)⟩
    · have HE := Lib.hid (con_miss (l := l) (e := e) (fun j h => HN.out j (by omega) h))
      go_wp2_with (refine wpList_store_row rfl 139 (.tmp 4) (.tmp 20) rfl w.heap.size zeroCon rfl rfl 139 zeroCon HBr.out cfind_any_size rfl zero_one ?_)
      refine bodyPost_ret (v := .tuple #[.agg zeroCon, .bool false]) (results_row2 Try.results115 _ _ w.heap.size 139 zeroCon rfl (blk_row HBr.out _) Try.underlying139 cfind_any_size) rfl ?_
      exact ⟨by rw [HE.out.1, HE.out.2]; rfl, below_row hb (Nat.le_refl _)⟩
theorem rcfind_any_size : (Try.prog.info? 145).map (·.size) = some 13 := by kernel_rfl
set_option maxRecDepth 100000 in
set_option maxHeartbeats 4000000 in
theorem rcfind_any (l : List ConR) (e : Int) (A : Option Addr) (cap : Nat) (w : World) (hr : Rd w w.heap.size 13 A l.length (cellsOf ConR.cells l)) (hn : l.length ≤ 1000000) :
    Calls Try.prog 76 #[.slice A l.length cap, .int .i64 e] w (ConPost l e w) := by
  have hb : Below w.heap.size w (w.alloc (.cells zeroCon 145)) := (Below.refl _ _).alloc (Nat.le_refl _) _
  have HB := Lib.hid (Blk.new w 145 zeroCon)
  have HR := Lib.hid hr
  clear hr
  unfold ConPost
  go_enter Try.func76, Try.ntmps76
  go_wp2_with fail
  go_loopw [6] (fun t wr => ∃ k : Nat, k ≤ l.length ∧ (∀ j (h : j < k) (h2 : j < l.length), conIs e (l[j]'h2) = false) ∧ t = .int .i64 k ∧ Blk wr w.heap.size 145 zeroCon ∧ Below w.heap.size w wr) (fun t _ => l.length - (intOf t).toNat)
  case atStart => exact ⟨0, by omega, fun j h => by omega, rfl, HB.out, hb⟩
  case round =>
    clear hb
    obtain ⟨k, hk, hno, rfl, hB, hb⟩ := hrel
    have HN := Lib.hid hno
    have hz := hb.size
    have hlB := hB.lt
    have HBr := Lib.hid hB
    clear hno hB
    by_cases hlt : k < l.length
    · obtain ⟨b, o, hA, hbo, hx⟩ := ConR.cell_at (Rd.now HR.out hb) hlt
      subst hA
      have f0 : wr.cell? ⟨b, o + k * 13, none⟩ = some (.int .i64 l[k].entity) := hx 0 _ rfl
      have HX := Lib.hid hx
      have HH := Lib.hid (con_hit (l := l) (e := e) k hlt (fun j h => HN.out j h (by omega)))
      clear hx
      generalize hxx : l[k] = x at *
      have HXX := Lib.hid hxx
      clear hxx
      cases hc : (x.entity == e)
      · have HC : Hid (conIs e x = false) := Lib.hid hc
        go_wp2_with fail
        go_roundw
        case rel =>
          refine ⟨k + 1, by omega, fun j h h2 => ?_, by go_num, HBr.out, hb⟩
          by_cases hj : j = k
          · subst hj; rw [HXX.out]; exact HC.out
          · exact HN.out j (by omega) h2
        case measure => simp [intOf]; omega
      · have HC : Hid (conIs e x = true) := Lib.hid hc
        go_wp2_with (first
          | (refine wpList_load_arr rfl 145 (.tmp 22) rfl b (o + k * 13) rfl x.arr HX.out Try.underlying145 13 rcfind_any_size rfl ?_)
          | (refine wpList_store_row rfl 145 (.tmp 4) (.tmp 23) rfl w.heap.size x.arr rfl rfl 145 zeroCon HBr.out rcfind_any_size rfl x.arr_one ?_))
        refine bodyPost_ret (v := .tuple #[.agg x.arr, .bool true]) (results_row2 Try.results76 _ _ w.heap.size 145 x.arr rfl (blk_row HBr.out _) Try.underlying145 rcfind_any_size) rfl ?_
        obtain ⟨h1, h2⟩ := HH.out HC.out
        exact ⟨by rw [h1, h2], below_row hb (Nat.le_refl _)⟩
    · have HE := Lib.hid (con_miss (l := l) (e := e) (fun j h => HN.out j (by omega) h))
      go_wp2_with (refine wpList_store_row rfl 145 (.tmp 4) (.tmp 24) rfl w.heap.size zeroCon rfl rfl 145 zeroCon HBr.out rcfind_any_size rfl zero_one ?_)
      refine bodyPost_ret (v := .tuple #[.agg zeroCon, .bool false]) (results_row2 Try.results76 _ _ w.heap.size 145 zeroCon rfl (blk_row HBr.out _) Try.underlying145 rcfind_any_size) rfl ?_
      exact ⟨by rw [HE.out.1, HE.out.2]; rfl, below_row hb (Nat.le_refl _)⟩
end Go.Proofs.Ytnkmjdaeafeaaaa
/- The walks of the dividends' sums, of 'full' and of 'check', and of their references. -/
namespace Go.Proofs.Ytnkmjdaeafeaaaa
set_option linter.unusedVariables false
set_option linter.unusedSimpArgs false
open Go.RowKit

def IntPost (v : Int) (w : World) (e : Ending) (w' : World) : Prop := e = .returned (.int .i64 v) ∧ Below w.heap.size w w'
theorem is_eq {d : Int} {q : Int → Bool} {x : ItemR} {b : Bool} (h : (x.account == d && q x.partner) = b) : Dv.is d q x = b := h
section
variable (gcs : Array Value) (cur : ByteArray) (y m p : Int) (cl : List Acc) (cA : Option Addr) (cc : Nat) (ro : RolesR) (el : List EntR) (eA : Option Addr) (ec : Nat) (w : World)
theorem rec1_any (x : Int) (g : Nat) (c : Int) (w : World) (hg : g < w.heap.size) (hs : w.cell? ⟨g, 0, none⟩ = some (.int .i64 c)) :
    Calls Try.prog 75 #[.int .i64 x, .pointer (some ⟨g, 0, none⟩)] w (BoolPost (x == c) w) := by
  have hb := Below.refl w.heap.size w
  go_enter Try.func75, Try.ntmps75
  go_wp2_with fail
  go_ret
  exact ⟨rfl, hb⟩
theorem for1_any (x : Int) (w : World) : Calls Try.prog 77 #[.int .i64 x] w (BoolPost true w) := by
  have hb := Below.refl w.heap.size w
  go_enter Try.func77, Try.ntmps77
  go_wp2_with fail
  go_ret
  exact ⟨rfl, hb⟩
set_option maxRecDepth 100000 in
set_option maxHeartbeats 8000000 in
theorem sumRec_any (q : Int → Bool) (l : List ConR) (e : Int) (A : Option Addr) (c : Nat) (g : Nat) (HG : Hid (gcs = #[.string cur, .int .i64 y, .int .i64 m, .int .i64 p, .slice cA cl.length cc, .int .i64 ro.investment, .int .i64 ro.goodwill, .int .i64 ro.associates, .int .i64 ro.inventory, .int .i64 ro.reserve, .int .i64 ro.minority, .int .i64 ro.retained, .int .i64 ro.acquired, .int .i64 ro.owners, .int .i64 ro.disposal, .int .i64 ro.associateProfit, .int .i64 ro.dividends, .int .i64 ro.minorityProfit, .int .i64 ro.difference, .int .i64 ro.margin, .slice eA el.length ec])) (hC : CIn w l A)
    (hq : ∀ (x : Int) (W : World), Below w.heap.size w W → Calls Try.prog 75 #[.int .i64 x, .pointer (some ⟨g, 0, none⟩)] W (BoolPost (q x) W)) :
    Calls Try.prog 74 #[.agg gcs, .slice A l.length c, .int .i64 e, .func (.func 75) #[] #[.pointer (some ⟨g, 0, none⟩)]] w (IntPost (Dv.sum ro.dividends q l e) w) := by
  have hgi : (Try.prog.info? 29).map (·.size) = some gcs.size := by rw [HG.out]; exact grp_size
  have hb : Below w.heap.size w (w.alloc (.cells gcs 29)) := (Below.refl _ _).alloc (Nat.le_refl _) _
  have HB := Lib.hid (Blk.new w 29 gcs)
  have HC := Lib.hid hC
  have HQ := Lib.hid hq
  obtain ⟨hit, hln⟩ := hC.at_ e
  have HIT := Lib.hid hit
  have hlen := hC.len
  have K := Lib.hid (fun W (h : CIn W l A) => cfind_any l e A c W h.rd (by have := h.len; omega))
  clear hC hq hit
  unfold IntPost Dv.sum
  unfold ConPost at K
  generalize conF l e = x at *
  generalize conB l e = xb at *
  obtain ⟨xe, xm, ⟨il, iA, ic⟩⟩ := x
  dsimp only at *
  go_enter Try.func74, Try.ntmps74
  go_wp2_with (first
    | (go_at_call 115; refine (K.out _ (HC.out.step hb)).mono ?_; rintro en w2 ⟨rfl, hb9⟩; replace hb := bel hb hb9; have HB2 := Lib.hid (HB.out.step hb9); clear hb9)
    | (refine wpList_alloc_put rfl 139 (.tmp 9) (.tmp 18) rfl rfl (ConR.arr ⟨xe, xm, ⟨il, iA, ic⟩⟩) _ rfl rfl 13 cfind_any_size rfl rfl (ConR.arr_one _) ?_; have k11 : (w2.alloc (.cells (ConR.arr ⟨xe, xm, ⟨il, iA, ic⟩⟩) 139)).cell? ⟨w2.heap.size, 11, none⟩ = some (.slice iA il.length ic) := (Blk.new w2 139 _).cell 11; have hb3 := hb.alloc hb.size (.cells (ConR.arr ⟨xe, xm, ⟨il, iA, ic⟩⟩) 139); have HB3 := Lib.hid (HB2.out.alloc (.cells (ConR.arr ⟨xe, xm, ⟨il, iA, ic⟩⟩) 139)); generalize w2.alloc (.cells (ConR.arr ⟨xe, xm, ⟨il, iA, ic⟩⟩) 139) = w3 at *))
  clear k11
  go_loopw [11, 23] (fun n t wr => ∃ k : Nat, k ≤ il.length ∧ n = .int .i64 (itSum (Dv.is ro.dividends q) (il.take k)) ∧ t = .int .i64 k ∧ Blk wr w.heap.size 29 gcs ∧ Below w.heap.size w wr) (fun _ t _ => il.length - (intOf t).toNat)
  case atStart => exact ⟨0, by omega, rfl, rfl, HB3.out, hb3⟩
  case round =>
    clear hb hb3
    obtain ⟨k, hk, rfl, rfl, hB, hb⟩ := hrel
    have hz := hb.size
    have hlB := hB.lt
    have HBr := Lib.hid hB
    clear hB
    by_cases hlt : k < il.length
    · obtain ⟨b, o, hA, hbo, f0, f1, f2, f3, f4, f5, f6⟩ := ItemR.at_ (Rd.now HIT.out hb) hlt
      subst hA
      have HTT := Lib.hid (itSum_take (Dv.is ro.dividends q) il k hlt)
      generalize il[k] = it at *
      obtain ⟨⟨r1, r2⟩, ie, ia, ip, id, im⟩ := it
      dsimp only at *
      have HBn := HBr.out.alloc (.cells #[.int .i64 r1, .int .i64 r2, .int .i64 ie, .int .i64 ia, .int .i64 ip, .int .i64 id, .int .i64 im] 87)
      have HIn := Blk.new wr 87 #[.int .i64 r1, .int .i64 r2, .int .i64 ie, .int .i64 ia, .int .i64 ip, .int .i64 id, .int .i64 im]
      have hbn := hb.alloc hz (.cells #[.int .i64 r1, .int .i64 r2, .int .i64 ie, .int .i64 ia, .int .i64 ip, .int .i64 id, .int .i64 im] 87)
      have k16 : (wr.alloc (.cells #[.int .i64 r1, .int .i64 r2, .int .i64 ie, .int .i64 ia, .int .i64 ip, .int .i64 id, .int .i64 im] 87)).cell? ⟨w.heap.size, 16, none⟩ = some (.int .i64 ro.dividends) := (HBn.cell 16).trans (by rw [HG.out]; rfl)
      have HBN := Lib.hid HBn
      have HIN := Lib.hid HIn
      clear HBn HIn
      generalize itSum (Dv.is ro.dividends q) (il.take k) = s at *
      generalize ro.dividends = dv at *
      cases hc : (ia == dv)
      · have HE : Hid (itSum (Dv.is dv q) (il.take (k + 1)) = s) := Lib.hid (by rw [HTT.out, is_eq (b := false) (by show (ia == dv && q ip) = false; rw [hc]; rfl)]; rfl)
        go_wp2_with fail
        clear k16
        go_roundw
        case rel => exact ⟨k + 1, by omega, by rw [HE.out], by go_num, HBN.out, hbn⟩
        case measure => simp [intOf]; omega
      · have KQ := Lib.hid (fun W h => HQ.out ip W h)
        cases hqq : q ip
        · have HE : Hid (itSum (Dv.is dv q) (il.take (k + 1)) = s) := Lib.hid (by rw [HTT.out, is_eq (b := false) (by show (ia == dv && q ip) = false; rw [hqq, Bool.and_false])]; rfl)
          rw [hqq] at KQ
          clear hqq
          go_wp2_with (go_at_call 75; refine (KQ.out _ hbn).mono ?_; rintro en w5 ⟨rfl, hb9⟩; have hb5 := bel hbn hb9; have HB5 := Lib.hid (HBN.out.step hb9); clear hb9)
          clear k16
          go_roundw
          case rel => exact ⟨k + 1, by omega, by rw [HE.out], by go_num, HB5.out, hb5⟩
          case measure => simp [intOf]; omega
        · have HE : Hid (itSum (Dv.is dv q) (il.take (k + 1)) = wrap64 (s + im)) := Lib.hid (by rw [HTT.out, is_eq (b := true) (by show (ia == dv && q ip) = true; rw [hc, hqq]; rfl)]; rfl)
          rw [hqq] at KQ
          clear hqq
          go_wp2_with (go_at_call 75; refine (KQ.out _ hbn).mono ?_; rintro en w5 ⟨rfl, hb9⟩; have hb5 := bel hbn hb9; have HB5 := Lib.hid (HBN.out.step hb9); have j5 : w5.cell? ⟨wr.heap.size, 5, none⟩ = some (.int .i64 id) := (HIN.out.step hb9).cell 5; have j6 : w5.cell? ⟨wr.heap.size, 6, none⟩ = some (.int .i64 im) := (HIN.out.step hb9).cell 6; clear hb9)
          clear k16 j5 j6
          go_roundw
          case rel => exact ⟨k + 1, by omega, by rw [HE.out], by go_num, HB5.out, hb5⟩
          case measure => simp [intOf]; omega
    · have HE : Hid (itSum (Dv.is ro.dividends q) (il.take k) = itSum (Dv.is ro.dividends q) il) := Lib.hid (by rw [List.take_of_length_le (by omega)])
      rw [HE.out]
      go_wp2_with fail
      go_ret
      exact ⟨rfl, hb⟩
set_option maxRecDepth 100000 in
set_option maxHeartbeats 8000000 in
theorem sumFor_any (q : Int → Bool) (l : List ConR) (e : Int) (A : Option Addr) (c : Nat)  (HG : Hid (gcs = #[.string cur, .int .i64 y, .int .i64 m, .int .i64 p, .slice cA cl.length cc, .int .i64 ro.investment, .int .i64 ro.goodwill, .int .i64 ro.associates, .int .i64 ro.inventory, .int .i64 ro.reserve, .int .i64 ro.minority, .int .i64 ro.retained, .int .i64 ro.acquired, .int .i64 ro.owners, .int .i64 ro.disposal, .int .i64 ro.associateProfit, .int .i64 ro.dividends, .int .i64 ro.minorityProfit, .int .i64 ro.difference, .int .i64 ro.margin, .slice eA el.length ec])) (hC : CIn w l A)
    (hq : ∀ (x : Int) (W : World), Below w.heap.size w W → Calls Try.prog 77 #[.int .i64 x] W (BoolPost (q x) W)) :
    Calls Try.prog 74 #[.agg gcs, .slice A l.length c, .int .i64 e, .func (.func 77) #[] #[]] w (IntPost (Dv.sum ro.dividends q l e) w) := by
  have hgi : (Try.prog.info? 29).map (·.size) = some gcs.size := by rw [HG.out]; exact grp_size
  have hb : Below w.heap.size w (w.alloc (.cells gcs 29)) := (Below.refl _ _).alloc (Nat.le_refl _) _
  have HB := Lib.hid (Blk.new w 29 gcs)
  have HC := Lib.hid hC
  have HQ := Lib.hid hq
  obtain ⟨hit, hln⟩ := hC.at_ e
  have HIT := Lib.hid hit
  have hlen := hC.len
  have K := Lib.hid (fun W (h : CIn W l A) => cfind_any l e A c W h.rd (by have := h.len; omega))
  clear hC hq hit
  unfold IntPost Dv.sum
  unfold ConPost at K
  generalize conF l e = x at *
  generalize conB l e = xb at *
  obtain ⟨xe, xm, ⟨il, iA, ic⟩⟩ := x
  dsimp only at *
  go_enter Try.func74, Try.ntmps74
  go_wp2_with (first
    | (go_at_call 115; refine (K.out _ (HC.out.step hb)).mono ?_; rintro en w2 ⟨rfl, hb9⟩; replace hb := bel hb hb9; have HB2 := Lib.hid (HB.out.step hb9); clear hb9)
    | (refine wpList_alloc_put rfl 139 (.tmp 9) (.tmp 18) rfl rfl (ConR.arr ⟨xe, xm, ⟨il, iA, ic⟩⟩) _ rfl rfl 13 cfind_any_size rfl rfl (ConR.arr_one _) ?_; have k11 : (w2.alloc (.cells (ConR.arr ⟨xe, xm, ⟨il, iA, ic⟩⟩) 139)).cell? ⟨w2.heap.size, 11, none⟩ = some (.slice iA il.length ic) := (Blk.new w2 139 _).cell 11; have hb3 := hb.alloc hb.size (.cells (ConR.arr ⟨xe, xm, ⟨il, iA, ic⟩⟩) 139); have HB3 := Lib.hid (HB2.out.alloc (.cells (ConR.arr ⟨xe, xm, ⟨il, iA, ic⟩⟩) 139)); generalize w2.alloc (.cells (ConR.arr ⟨xe, xm, ⟨il, iA, ic⟩⟩) 139) = w3 at *))
  clear k11
  go_loopw [11, 23] (fun n t wr => ∃ k : Nat, k ≤ il.length ∧ n = .int .i64 (itSum (Dv.is ro.dividends q) (il.take k)) ∧ t = .int .i64 k ∧ Blk wr w.heap.size 29 gcs ∧ Below w.heap.size w wr) (fun _ t _ => il.length - (intOf t).toNat)
  case atStart => exact ⟨0, by omega, rfl, rfl, HB3.out, hb3⟩
  case round =>
    clear hb hb3
    obtain ⟨k, hk, rfl, rfl, hB, hb⟩ := hrel
    have hz := hb.size
    have hlB := hB.lt
    have HBr := Lib.hid hB
    clear hB
    by_cases hlt : k < il.length
    · obtain ⟨b, o, hA, hbo, f0, f1, f2, f3, f4, f5, f6⟩ := ItemR.at_ (Rd.now HIT.out hb) hlt
      subst hA
      have HTT := Lib.hid (itSum_take (Dv.is ro.dividends q) il k hlt)
      generalize il[k] = it at *
      obtain ⟨⟨r1, r2⟩, ie, ia, ip, id, im⟩ := it
      dsimp only at *
      have HBn := HBr.out.alloc (.cells #[.int .i64 r1, .int .i64 r2, .int .i64 ie, .int .i64 ia, .int .i64 ip, .int .i64 id, .int .i64 im] 87)
      have HIn := Blk.new wr 87 #[.int .i64 r1, .int .i64 r2, .int .i64 ie, .int .i64 ia, .int .i64 ip, .int .i64 id, .int .i64 im]
      have hbn := hb.alloc hz (.cells #[.int .i64 r1, .int .i64 r2, .int .i64 ie, .int .i64 ia, .int .i64 ip, .int .i64 id, .int .i64 im] 87)
      have k16 : (wr.alloc (.cells #[.int .i64 r1, .int .i64 r2, .int .i64 ie, .int .i64 ia, .int .i64 ip, .int .i64 id, .int .i64 im] 87)).cell? ⟨w.heap.size, 16, none⟩ = some (.int .i64 ro.dividends) := (HBn.cell 16).trans (by rw [HG.out]; rfl)
      have HBN := Lib.hid HBn
      have HIN := Lib.hid HIn
      clear HBn HIn
      generalize itSum (Dv.is ro.dividends q) (il.take k) = s at *
      generalize ro.dividends = dv at *
      cases hc : (ia == dv)
      · have HE : Hid (itSum (Dv.is dv q) (il.take (k + 1)) = s) := Lib.hid (by rw [HTT.out, is_eq (b := false) (by show (ia == dv && q ip) = false; rw [hc]; rfl)]; rfl)
        go_wp2_with fail
        clear k16
        go_roundw
        case rel => exact ⟨k + 1, by omega, by rw [HE.out], by go_num, HBN.out, hbn⟩
        case measure => simp [intOf]; omega
      · have KQ := Lib.hid (fun W h => HQ.out ip W h)
        cases hqq : q ip
        · have HE : Hid (itSum (Dv.is dv q) (il.take (k + 1)) = s) := Lib.hid (by rw [HTT.out, is_eq (b := false) (by show (ia == dv && q ip) = false; rw [hqq, Bool.and_false])]; rfl)
          rw [hqq] at KQ
          clear hqq
          go_wp2_with (go_at_call 77; refine (KQ.out _ hbn).mono ?_; rintro en w5 ⟨rfl, hb9⟩; have hb5 := bel hbn hb9; have HB5 := Lib.hid (HBN.out.step hb9); clear hb9)
          clear k16
          go_roundw
          case rel => exact ⟨k + 1, by omega, by rw [HE.out], by go_num, HB5.out, hb5⟩
          case measure => simp [intOf]; omega
        · have HE : Hid (itSum (Dv.is dv q) (il.take (k + 1)) = wrap64 (s + im)) := Lib.hid (by rw [HTT.out, is_eq (b := true) (by show (ia == dv && q ip) = true; rw [hc, hqq]; rfl)]; rfl)
          rw [hqq] at KQ
          clear hqq
          go_wp2_with (go_at_call 77; refine (KQ.out _ hbn).mono ?_; rintro en w5 ⟨rfl, hb9⟩; have hb5 := bel hbn hb9; have HB5 := Lib.hid (HBN.out.step hb9); have j5 : w5.cell? ⟨wr.heap.size, 5, none⟩ = some (.int .i64 id) := (HIN.out.step hb9).cell 5; have j6 : w5.cell? ⟨wr.heap.size, 6, none⟩ = some (.int .i64 im) := (HIN.out.step hb9).cell 6; clear hb9)
          clear k16 j5 j6
          go_roundw
          case rel => exact ⟨k + 1, by omega, by rw [HE.out], by go_num, HB5.out, hb5⟩
          case measure => simp [intOf]; omega
    · have HE : Hid (itSum (Dv.is ro.dividends q) (il.take k) = itSum (Dv.is ro.dividends q) il) := Lib.hid (by rw [List.take_of_length_le (by omega)])
      rw [HE.out]
      go_wp2_with fail
      go_ret
      exact ⟨rfl, hb⟩
end
end Go.Proofs.Ytnkmjdaeafeaaaa
