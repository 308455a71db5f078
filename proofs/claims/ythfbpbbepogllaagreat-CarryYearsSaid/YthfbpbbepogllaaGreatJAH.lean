/- Texts of this claim, put together. -/
import Derived.Test.YthfbpbbepogllaaGreatApiZ
import Derived.Test.YthfbpbbepogllaaGreatJAG
import Derived.Test.YthfbpbbepogllaaGreatJAE
import Derived.Test.YthfbpbbepogllaaGreatJAB
import Derived.BigFrame
import Derived.Laws.Rows
import Derived.Laws.Tables
/- Groups: names, currencies, roles, validity. No walk. -/
namespace Go.Proofs.YthfbpbbepogllaaGreat
set_option linter.unusedVariables false
set_option linter.unusedSimpArgs false
open Go.RowKit

theorem getD_lt {α : Type} (l : List α) (k : Nat) (d : α) (h : k < l.length) : l.getD k d = l[k] := by simp [List.getD, h]
namespace Gr
/-- a byte of a text -/
def byte (s : ByteArray) (k : Nat) : UInt8 := s.data.toList.getD k 0
theorem byte_at (s : ByteArray) (k : Nat) (h : k < s.size) : byte s k = s[k] := by
  unfold byte
  rw [getD_lt _ _ _ (by simpa using h)]
  rfl
def upB (c : UInt8) : Bool := decide (65 ≤ (c.toNat : Int)) && decide ((c.toNat : Int) ≤ 90)
def curV (s : ByteArray) : Bool := allAt s.size (fun k => upB (byte s k)) && decide (s.size = 3)
def letB (c : UInt8) : Bool := (decide (97 ≤ (c.toNat : Int)) && decide ((c.toNat : Int) ≤ 122)) || (decide (65 ≤ (c.toNat : Int)) && decide ((c.toNat : Int) ≤ 90))
def namAt (s : ByteArray) (k : Nat) : Bool := letB (byte s k) || (decide (k ≠ 0) && (decide ((byte s k).toNat = 45) || (decide (48 ≤ ((byte s k).toNat : Int)) && decide (((byte s k).toNat : Int) ≤ 57))))
def namV (s : ByteArray) : Bool := allAt s.size (namAt s) && (decide (1 ≤ s.size) && decide (s.size ≤ 16))
/-- a basis that belongs to its kind -/
def based (a : Acc) : Bool := if a.kind = 1 ∨ a.kind = 2 then decide (a.basis = 1 ∨ a.basis = 3) else if a.kind = 3 then decide (a.basis = 3) else decide (a.basis = 2)
end Gr
structure RoleR where
  name : ByteArray
  code : Int
  kind : Int
  basis : Int
  mapped : Bool
instance inhRoleR : Inhabited RoleR := ⟨⟨ByteArray.empty, 0, 0, 0, false⟩⟩
def RoleR.cells (x : RoleR) : List Value := [.string x.name, .int .i64 x.code, .int .i64 x.kind, .int .i64 x.basis, .bool x.mapped]
theorem RoleR.len (x : RoleR) : x.cells.length = 5 := rfl
theorem RoleR.at_ {w : World} {B : Nat} {A : Option Addr} {l : List RoleR} (h : Rd w B 5 A l.length (cellsOf RoleR.cells l)) {k : Nat} (hk : k < l.length) :
    ∃ b o, A = some ⟨b, o, none⟩ ∧ b < B ∧ w.cell? ⟨b, o + k * 5, none⟩ = some (.string l[k].name) ∧ w.cell? ⟨b, o + k * 5 + 1, none⟩ = some (.int .i64 l[k].code) ∧ w.cell? ⟨b, o + k * 5 + 2, none⟩ = some (.int .i64 l[k].kind) ∧
      w.cell? ⟨b, o + k * 5 + 3, none⟩ = some (.int .i64 l[k].basis) ∧ w.cell? ⟨b, o + k * 5 + 4, none⟩ = some (.bool l[k].mapped) := by
  obtain ⟨b, o, e, hb, hc⟩ := rd_at (f := RoleR.cells) (sz := 5) (fun _ => rfl) h hk
  exact ⟨b, o, e, hb, hc 0 _ rfl, hc 1 _ rfl, hc 2 _ rfl, hc 3 _ rfl, hc 4 _ rfl⟩
namespace Gr
def txt (l : List UInt8) : ByteArray := ⟨l.toArray⟩
/-- the roles, in the order of the table -/
def roles (r : RolesR) : List RoleR :=
  [⟨txt [105, 110, 118, 101, 115, 116, 109, 101, 110, 116], r.investment, 1, 3, true⟩, ⟨txt [103, 111, 111, 100, 119, 105, 108, 108], r.goodwill, 1, 3, false⟩, ⟨txt [97, 115, 115, 111, 99, 105, 97, 116, 101, 115], r.associates, 1, 3, false⟩, ⟨txt [105, 110, 118, 101, 110, 116, 111, 114, 121], r.inventory, 1, 1, true⟩,
   ⟨txt [114, 101, 115, 101, 114, 118, 101], r.reserve, 3, 3, false⟩, ⟨txt [109, 105, 110, 111, 114, 105, 116, 121], r.minority, 3, 3, false⟩, ⟨txt [114, 101, 116, 97, 105, 110, 101, 100], r.retained, 3, 3, true⟩, ⟨txt [97, 99, 113, 117, 105, 114, 101, 100], r.acquired, 3, 3, false⟩, ⟨txt [111, 119, 110, 101, 114, 115], r.owners, 3, 3, false⟩,
   ⟨txt [100, 105, 115, 112, 111, 115, 97, 108], r.disposal, 4, 2, false⟩, ⟨txt [97, 115, 115, 111, 99, 105, 97, 116, 101, 80, 114, 111, 102, 105, 116], r.associateProfit, 4, 2, false⟩, ⟨txt [100, 105, 118, 105, 100, 101, 110, 100, 115], r.dividends, 4, 2, true⟩,
   ⟨txt [109, 105, 110, 111, 114, 105, 116, 121, 80, 114, 111, 102, 105, 116], r.minorityProfit, 5, 2, false⟩, ⟨txt [100, 105, 102, 102, 101, 114, 101, 110, 99, 101], r.difference, 5, 2, false⟩, ⟨txt [109, 97, 114, 103, 105, 110], r.margin, 5, 2, false⟩]
theorem roles_len (r : RolesR) : (roles r).length = 15 := rfl
/-- the first role with a code -/
def roleAt (R : List RoleR) (c : Int) : Option RoleR := R.find? fun x => x.code == c
def roleN (R : List RoleR) (c : Int) : ByteArray := match roleAt R c with | some x => x.name | none => ByteArray.empty
def roleB (R : List RoleR) (c : Int) : Bool := (roleAt R c).isSome
theorem role_hit (R : List RoleR) (c : Int) (k : Nat) (hk : k < R.length) (h : ∀ j (hj : j < k), (R[j]'(by omega)).code ≠ c) (hc : R[k].code = c) : roleAt R c = some R[k] := by
  unfold roleAt
  rw [List.find?_eq_some_iff_getElem]
  exact ⟨by simpa using hc, k, hk, rfl, fun j hj => by simpa using h j hj⟩
theorem role_miss (R : List RoleR) (c : Int) (h : ∀ j (hj : j < R.length), R[j].code ≠ c) : roleAt R c = none := by
  unfold roleAt
  rw [List.find?_eq_none]
  intro x hx
  obtain ⟨j, hj, rfl⟩ := List.mem_iff_getElem.1 hx
  simpa using h j hj
/-- a role's account is there, with its kind and basis, and has no other role -/
def codeBefore (R : List RoleR) (k : Nat) : Bool := (R.take k).any fun x => x.code == (R.getD k default).code
def roleOk (ch : List Acc) (R : List RoleR) (k : Nat) : Bool :=
  Ch.fnB ch (R.getD k default).code && (!codeBefore R k && (decide ((Ch.fnV ch (R.getD k default).code).kind = (R.getD k default).kind) && decide ((Ch.fnV ch (R.getD k default).code).basis = (R.getD k default).basis)))
def rolesOk (ch : List Acc) (R : List RoleR) : Bool := allAt R.length (roleOk ch R)
def basedAll (ch : List Acc) : Bool := allAt ch.length fun k => based (ch.getD k Ch.zero)
def accsV (ch : List Acc) (R : List RoleR) : Bool := Ch.validV ch true && (basedAll ch && rolesOk ch R)
/-- a link leads from an account to one of the same kind -/
def dayV (n : Int) : Bool := decide (-25567 ≤ n) && decide (n ≤ 84005)
def linkV (e c : List Acc) (l : LinkR) : Bool := Ch.fnB e l.from_ && (Ch.fnB c l.to && (decide ((Ch.fnV e l.from_).kind = (Ch.fnV c l.to).kind) && dayV l.since))
def linkBefore (L : List LinkR) (k : Nat) : Bool := (L.take k).any fun x => x.from_ == (L.getD k default).from_ && x.since == (L.getD k default).since
def linkOk (e c : List Acc) (L : List LinkR) (k : Nat) : Bool := linkV e c (L.getD k default) && !linkBefore L k
def mapV (e c : List Acc) (L : List LinkR) : Bool := Ch.validV c true && (Ch.validV e false && (decide (L.length ≤ 400) && allAt L.length (linkOk e c L)))
/-- no link leads to an account that is closed to links -/
def shut (R : List RoleR) (c : Int) : Bool := R.any fun x => x.code == c && !x.mapped
def openL (R : List RoleR) (L : List LinkR) : Bool := allAt L.length fun k => !shut R (L.getD k default).to
def entV (ch : List Acc) (R : List RoleR) (x : EntR) : Bool := namV x.name && (curV x.currency && (mapV x.chart.l ch x.links.l && openL R x.links.l))
def nameBefore (E : List EntR) (k : Nat) : Bool := (E.take k).any fun x => decide (x.name = (E.getD k default).name)
def entsV (ch : List Acc) (R : List RoleR) (E : List EntR) : Bool := allAt E.length fun k => !nameBefore E k && entV ch R (E.getD k default)
/-- the group -/
def headV (g : GrpR) (cal : Bool) : Bool := curV g.currency && (cal && (accsV g.chart.l (roles g.roles) && (decide (1 ≤ g.entities.l.length) && (decide (g.entities.l.length ≤ 12) && !(g.entities.l.getD 0 default).joint))))
def grpV (g : GrpR) (cal : Bool) : Bool := headV g cal && entsV g.chart.l (roles g.roles) g.entities.l
/-- what is closed to links, the last word counting -/
def closedF (R : List RoleR) (c : Int) : Bool := R.foldl (fun b x => if x.code = c then !x.mapped else b) false
theorem closed_take (R : List RoleR) (k : Nat) (h : k < R.length) (c : Int) : closedF (R.take (k + 1)) c = if R[k].code = c then !R[k].mapped else closedF (R.take k) c := by
  unfold closedF
  rw [List.take_succ_eq_append_getElem h, List.foldl_append]
  rfl
theorem closed_is (R : List RoleR) (h : ∀ k, k < R.length → codeBefore R k = false) (c : Int) : closedF R c = shut R c := by
  have : ∀ k, k ≤ R.length → closedF (R.take k) c = shut (R.take k) c := by
    intro k
    induction k with
    | zero => intro _; rfl
    | succ k ih =>
      intro hk
      have hk' : k < R.length := by omega
      have e : shut (R.take (k + 1)) c = (shut (R.take k) c || (R[k].code == c && !R[k].mapped)) := by
        unfold shut
        rw [List.take_succ_eq_append_getElem hk', List.any_append]
        simp
      rw [closed_take R k hk', e, ih (by omega)]
      by_cases hc : R[k].code = c
      · have h0 : shut (R.take k) c = false := by
          have h1 := h k hk'
          unfold codeBefore at h1
          unfold shut
          rw [List.any_eq_false] at h1 ⊢
          intro x hx
          have := h1 x hx
          rw [getD_lt R k default hk', hc] at this
          simp at this ⊢
          exact fun e => absurd e this
        rw [if_pos hc, h0]
        simp [hc]
      · rw [if_neg hc]
        simp [hc]
  have := this R.length (Nat.le_refl _)
  rwa [List.take_length] at this
theorem rolesOk_apart {ch : List Acc} {R : List RoleR} (h : rolesOk ch R = true) : ∀ k, k < R.length → codeBefore R k = false := by
  intro k hk
  have := allAt_at h hk
  unfold roleOk at this
  simp only [Bool.and_eq_true, Bool.not_eq_true'] at this
  exact this.2.1
end Gr
end Go.Proofs.YthfbpbbepogllaaGreat
/- Contributions, and what dividends and sums of parts come to. No walk. -/
namespace Go.Proofs.YthfbpbbepogllaaGreat
set_option linter.unusedVariables false
set_option linter.unusedSimpArgs false
open Go.RowKit

/-- what matters of a contribution -/
structure ConR where
  entity : Int
  method : Int
  items : Sl ItemR
instance inhConR : Inhabited ConR := ⟨⟨0, 0, ⟨[], none, 0⟩⟩⟩
def ConR.cells (x : ConR) : List Value := [.int .i64 x.entity, .int .i64 x.method, .int .i64 0, .bool false, .slice none 0 0, .bool false, .slice none 0 0, .bool false, .slice none 0 0, .bool false, .slice none 0 0, x.items.val, .slice none 0 0]
def ConR.own (x : ConR) : List Value := [.int .i64 x.entity, .int .i64 x.method, x.items.val]
theorem ConR.len (x : ConR) : x.cells.length = 13 := rfl
theorem ConR.own_len (x : ConR) : x.own.length = 3 := rfl
theorem ConR.one (x : ConR) : ∀ u ∈ x.cells, u.oneCell' = true := by
  intro u hu
  simp only [ConR.cells, List.mem_cons, List.not_mem_nil, or_false] at hu
  rcases hu with rfl | rfl | rfl | rfl | rfl | rfl | rfl | rfl | rfl | rfl | rfl | rfl | rfl
  all_goals rfl
def ConR.Ok (w : World) (x : ConR) : Prop := Wf x.entity ∧ Wf x.method ∧ (x.items.Lies w ItemR.cells 7 ∧ ∀ y ∈ x.items.l, ItemR.Ok w y)
theorem ConR.Ok.step {w w2 : World} {x : ConR} (h : x.Ok w) (hb : Below w.heap.size w w2) : x.Ok w2 := ⟨h.1, h.2.1, ⟨(h.2.2).1.step hb, fun y hy => ((h.2.2).2 y hy).step hb⟩⟩
theorem ConR.at_ {w : World} {B : Nat} {A : Option Addr} {l : List ConR} (h : Rd w B 13 A l.length (cellsOf ConR.cells l)) {k : Nat} (hk : k < l.length) :
    ∃ b o, A = some ⟨b, o, none⟩ ∧ b < B ∧ ∀ j u, (l[k]).cells[j]? = some u → w.cell? ⟨b, o + k * 13 + j, none⟩ = some u := rd_at (f := ConR.cells) (sz := 13) (fun _ => rfl) h hk
theorem ConR.own_at {w : World} {B : Nat} {A : Option Addr} {l : List ConR} (h : Rd w B 3 A l.length (cellsOf ConR.own l)) {k : Nat} (hk : k < l.length) :
    ∃ b o, A = some ⟨b, o, none⟩ ∧ b < B ∧ w.cell? ⟨b, o + k * 3, none⟩ = some (.int .i64 l[k].entity) ∧ w.cell? ⟨b, o + k * 3 + 1, none⟩ = some (.int .i64 l[k].method) ∧ w.cell? ⟨b, o + k * 3 + 2, none⟩ = some l[k].items.val := by
  obtain ⟨b, o, e, hb, hc⟩ := rd_at (f := ConR.own) (sz := 3) (fun _ => rfl) h hk
  exact ⟨b, o, e, hb, hc 0 _ rfl, hc 1 _ rfl, hc 2 _ rfl⟩
/-- the contribution of an entity -/
def conIs (e : Int) (x : ConR) : Bool := x.entity == e
def conF (l : List ConR) (e : Int) : ConR := (l.find? (conIs e)).getD default
def conB (l : List ConR) (e : Int) : Bool := l.any (conIs e)
theorem con_hit {l : List ConR} {e : Int} (k : Nat) (hk : k < l.length) (hno : ∀ j (h : j < k), conIs e (l[j]'(by omega)) = false) (h : conIs e l[k] = true) : conF l e = l[k] ∧ conB l e = true := by
  constructor
  · unfold conF
    have : l.find? (conIs e) = some l[k] := by
      rw [List.find?_eq_some_iff_getElem]
      exact ⟨h, k, hk, rfl, fun j hj => by simp [hno j hj]⟩
    rw [this]; rfl
  · unfold conB
    rw [List.any_eq_true]
    exact ⟨_, List.getElem_mem hk, h⟩
theorem con_miss {l : List ConR} {e : Int} (hno : ∀ j (h : j < l.length), conIs e l[j] = false) : conF l e = default ∧ conB l e = false := by
  have h : ∀ x ∈ l, conIs e x = false := by
    intro x hx
    obtain ⟨j, hj, rfl⟩ := List.mem_iff_getElem.1 hx
    exact hno j hj
  constructor
  · unfold conF
    rw [List.find?_eq_none.2 (fun x hx => by rw [h x hx]; decide)]; rfl
  · unfold conB
    rw [List.any_eq_false]
    intro x hx
    rw [h x hx]; decide
theorem con_ok {w : World} {l : List ConR} (h : ∀ x ∈ l, x.Ok w) (e : Int) : (conF l e).Ok w := by
  unfold conF
  cases hf : l.find? (conIs e) with
  | none => exact ⟨rfl, rfl, ⟨⟨Rd.none_, by simp [Option.getD, default], by simp [Option.getD, default, maxLen]⟩, by simp [Option.getD, default]⟩⟩
  | some x => exact h x (List.mem_of_find?_eq_some hf)
/-- a sum over some of the items -/
def itSum (p : ItemR → Bool) (I : List ItemR) : Int := I.foldl (fun n x => if p x = true then wrap64 (n + x.amount) else n) 0
theorem itSum_take (p : ItemR → Bool) (m : List ItemR) (k : Nat) (h : k < m.length) : itSum p (m.take (k + 1)) = if p m[k] = true then wrap64 (itSum p (m.take k) + m[k].amount) else itSum p (m.take k) := by
  unfold itSum
  rw [List.take_succ_eq_append_getElem h, List.foldl_append]
  rfl
def itVal (p : ItemR → Bool) (I : List ItemR) : Int := sm I fun x => if p x = true then x.amount else 0
def itWithin (M : Int) (I : List ItemR) : Prop := ∀ x ∈ I, -M ≤ x.amount ∧ x.amount ≤ M
theorem itSum_eq {M : Int} (p : ItemR → Bool) (m : List ItemR) (h : itWithin M m) (h0 : 0 ≤ M) (hl : M * m.length ≤ 4000000000000000000) : itSum p m = itVal p m := by
  have : ∀ k, k ≤ m.length → itSum p (m.take k) = itVal p (m.take k) := by
    intro k
    induction k with
    | zero => intro _; rfl
    | succ k ih =>
      intro hk
      have hk' : k < m.length := by omega
      rw [itSum_take p m k hk', ih (by omega)]
      have e : itVal p (m.take (k + 1)) = itVal p (m.take k) + if p m[k] = true then m[k].amount else 0 := sm_take m k hk' _
      rw [e]
      have hb := sm_bd (m.take k) (fun x => if p x = true then x.amount else 0) M (fun x hx => by
        have := h x (List.mem_of_mem_take hx)
        show -M ≤ (if p x = true then x.amount else 0) ∧ (if p x = true then x.amount else 0) ≤ M
        split <;> omega)
      have hx := h _ (List.getElem_mem hk')
      rw [List.length_take, Nat.min_eq_left (by omega)] at hb
      have h2 : M * (k : Int) ≤ M * (m.length : Int) := Int.mul_le_mul_of_nonneg_left (by omega) h0
      have h3 : M * 1 ≤ M * (m.length : Int) := Int.mul_le_mul_of_nonneg_left (by omega) h0
      by_cases hc : p m[k] = true
      · rw [if_pos hc, if_pos hc]
        unfold itVal
        rw [wrap_in (by omega) (by omega)]
      · rw [if_neg hc, if_neg hc]; omega
  have := this m.length (Nat.le_refl _)
  rwa [List.take_length] at this

/-- the clean list of parts, or an error -/
def cleanL (m : List Bal) : List Bal := balsOf (ofW m) (srt ((dd (m.map Bal.account)).filter fun c => ofW m c != 0))
open Classical in
noncomputable def clnE (m : List Bal) : Int := if ∀ c, amV (ofW m c) = true then 0 else 2
open Classical in
noncomputable def clnL (m : List Bal) : List Bal := if ∀ c, amV (ofW m c) = true then cleanL m else []
theorem ofW_in {m : List Bal} {c : Int} (h : ofW m c ≠ 0) : c ∈ m.map Bal.account := by
  have key : ∀ k, k ≤ m.length → ofW (m.take k) c ≠ 0 → c ∈ (m.take k).map Bal.account := by
    intro k
    induction k with
    | zero => intro _ h; exact absurd rfl h
    | succ k ih =>
      intro hk h
      have hk' : k < m.length := by omega
      rw [List.take_succ_eq_append_getElem hk', List.map_append, List.mem_append]
      by_cases e : m[k].account = c
      · right; simp [e]
      · left
        refine ih (by omega) ?_
        rw [ofW_take m k hk', if_neg e] at h
        exact h
  have := key m.length (Nat.le_refl _)
  rw [List.take_length] at this
  exact this h
theorem cleanL_is (m : List Bal) : IsC (ofW m) (cleanL m) := by
  unfold cleanL
  refine isC_of (srt_asc ((dd_nodup _).filter _)) fun c => ?_
  rw [srt_mem, List.mem_filter, dd_mem]
  constructor
  · rintro ⟨_, h⟩; simpa using h
  · intro h; exact ⟨ofW_in h, by simpa using h⟩
open Classical in
theorem cln_is {m L : List Bal} {E : Int} (h : ColAlt (ofW m) L E) : L = clnL m ∧ E = clnE m := by
  unfold clnL clnE
  rcases h with ⟨rfl, h1, h2⟩ | ⟨rfl, rfl, c, hc⟩
  · rw [if_pos h2, if_pos h2]; exact ⟨isC_unique h1 (cleanL_is m) fun _ => rfl, rfl⟩
  · have hn : ¬ ∀ c, amV (ofW m c) = true := fun h => by rw [h c] at hc; cases hc
    rw [if_neg hn, if_neg hn]; exact ⟨rfl, rfl⟩
open Classical in
theorem cln_alt (m : List Bal) : ColAlt (ofW m) (clnL m) (clnE m) := by
  unfold clnL clnE
  by_cases h : ∀ c, amV (ofW m c) = true
  · rw [if_pos h, if_pos h]; exact .inl ⟨rfl, cleanL_is m, h⟩
  · rw [if_neg h, if_neg h]
    refine .inr ⟨rfl, rfl, ?_⟩
    obtain ⟨c, hc⟩ := Classical.not_forall.1 h
    exact ⟨c, by simpa using hc⟩
end Go.Proofs.YthfbpbbepogllaaGreat
/- What dividends come to: sums of items, the parts of a posting, errors. No walk. -/
namespace Go.Proofs.YthfbpbbepogllaaGreat
set_option linter.unusedVariables false
set_option linter.unusedSimpArgs false
open Go.RowKit

/-- contributions as they lie in a world -/
structure CIn (w : World) (l : List ConR) (A : Option Addr) : Prop where
  rd : Rd w w.heap.size 13 A l.length (cellsOf ConR.cells l)
  it : ∀ x ∈ l, Rd w w.heap.size 7 x.items.A x.items.l.length (cellsOf ItemR.cells x.items.l)
  few : ∀ x ∈ l, x.items.l.length ≤ 1000
  len : l.length ≤ 1000
theorem CIn.step {w w2 : World} {l : List ConR} {A : Option Addr} (h : CIn w l A) (hb : Below w.heap.size w w2) : CIn w2 l A :=
  ⟨Rd.now h.rd hb, fun x hx => Rd.now (h.it x hx) hb, h.few, h.len⟩
theorem CIn.at_ {w : World} {l : List ConR} {A : Option Addr} (h : CIn w l A) (e : Int) : Rd w w.heap.size 7 (conF l e).items.A (conF l e).items.l.length (cellsOf ItemR.cells (conF l e).items.l) ∧ (conF l e).items.l.length ≤ 1000 := by
  unfold conF
  cases hf : l.find? (conIs e) with
  | none => exact ⟨Rd.none_, by simp [Option.getD, default]⟩
  | some x => exact ⟨h.it x (List.mem_of_find?_eq_some hf), h.few x (List.mem_of_find?_eq_some hf)⟩
namespace Dv
/-- an item on an account, with a partner of a kind -/
def is (d : Int) (q : Int → Bool) (x : ItemR) : Bool := x.account == d && q x.partner
def sum (d : Int) (q : Int → Bool) (l : List ConR) (e : Int) : Int := itSum (is d q) (conF l e).items.l
def rec (d : Int) (l : List ConR) (payer receiver : Int) : Int := sum d (fun p => p == payer) l receiver
def full (l : List ConR) (e : Int) : Bool := conB l e && (conF l e).method == 3
def ck (V : Bool) (p P : Int) : Int := if V = true then (if 0 ≤ p ∧ p < P then 0 else 2) else 1
def inN (n : Nat) (i k : Int) : Bool := decide (0 ≤ i) && (decide (i < n) && (decide (0 ≤ k) && decide (k < n)))
def pair (l : List ConR) (i k : Int) : Bool := !(i == k) && (full l i && full l k)
def parts (d r n : Int) : List Bal := [⟨d, wrap64 (-n)⟩, ⟨r, n⟩]
noncomputable def pE (V : Bool) (p P : Int) (n : Nat) (d r : Int) (l : List ConR) (i k : Int) : Int :=
  if ck V p P = 0 then (if inN n i k = true then (if pair l i k = true then clnE (parts d r (rec d l i k)) else 0) else 2) else ck V p P
noncomputable def pL (V : Bool) (p P : Int) (n : Nat) (d r : Int) (l : List ConR) (i k : Int) : List Bal :=
  if ck V p P = 0 ∧ inN n i k = true ∧ pair l i k = true then clnL (parts d r (rec d l i k)) else []
/-- a posting of kind 9 between i and k with parts L, or none -/
def IsP (kd i k : Int) (L : List Bal) (x : PostR) : Prop :=
  x.parts.l = L ∧ x.rule = 0 ∧ ((L = [] ∧ x.kind = 0 ∧ x.entity = 0 ∧ x.other = 0) ∨ (L ≠ [] ∧ x.kind = kd ∧ x.entity = i ∧ x.other = k))
end Dv
theorem clnL_none {m : List Bal} (h : clnE m ≠ 0) : clnL m = [] := by
  rcases cln_alt m with ⟨e, -, -⟩ | ⟨-, e, -⟩
  · exact absurd e h
  · exact e
end Go.Proofs.YthfbpbbepogllaaGreat
/- Several calls that come up together, in every order. Over any program. -/
namespace Go.Proofs.YthfbpbbepogllaaGreat
set_option linter.unusedVariables false
set_option linter.unusedSimpArgs false
open Go.RowKit

section
variable {P : Program} {ops : Array Oper} {Q : Exit → Act → World → Prop} {W w : World} {fuel : Nat} {a : Act} {listed : Array Bool}
theorem rel_calls {is : List Nat} (hr : Region.ready .any ops listed = is) (hne : is ≠ [])
    (h : ∀ j ∈ is, ∃ o, ops[j]? = some o ∧ Region.wanted o (yielded ops a.tmps) = true ∧
      ∀ K : Act → World → Prop, (∀ a' w', Near W w' → (Near W w' → wpAnyH P .any ops Q (fun w' => ∃ d : Later W, w' = d.now) fuel (listed.setIfInBounds j true) a' w') → K a' w') → o.wp P a w K Q) :
    wpAnyH P .any ops Q (fun w' => ∃ d : Later W, w' = d.now) (fuel + 1) listed a w := by
  refine wpAnyH_all hr hne fun j hj => ?_
  obtain ⟨o, h1, hw, h2⟩ := h j hj
  unfold wpOp
  rw [h1]
  show if Region.wanted o (yielded ops a.tmps) = true then _ else _
  rw [if_pos hw]
  exact .inl (h2 _ fun a' w' hn hh => ⟨hn, hh hn⟩)
end
end Go.Proofs.YthfbpbbepogllaaGreat
/- Great structs: a block is loaded whole, its cells unseen. Over any program. -/
namespace Go.Proofs.YthfbpbbepogllaaGreat
set_option linter.unusedVariables false
set_option linter.unusedSimpArgs false
open Go.RowKit

section
variable {P : Program} {ops : Array Oper} {w W : World} {o : Oper} {rest : List Oper} {a : Act} {g : Nat} {t T : TypeId} {cs : Array Value} {fs : Array Field}
theorem run_load_blk (x : Operand) (ho : o.op = .load T x) (hx : a.eval x = .pointer (some ⟨g, 0, none⟩)) (h : Blk w g t cs) (hu : P.underlying T = some (.struct fs))
    (hi : (P.info? T).map (·.size) = some cs.size) : (execOp a.eval o).run P w = .ok (.value (.agg cs)) w := by
  unfold execOp
  simp only [ho, hx, Instr.loadAt, Instr.sureAddr, Sem.run_bind, Sem.run_pure, Result.andThen_ok, run_loadVar_row w g t T cs (0, 0) _ h hu rfl hi]
theorem wpList_load_blk {Q : Exit → Act → World → Prop} (T : TypeId) (x : Operand) (ho : o.op = .load T x) (g : Nat) (hx : a.eval x = .pointer (some ⟨g, 0, none⟩)) (hw : Region.wanted o (yielded ops a.tmps) = true)
    (h : Blk w g t cs) (hu : P.underlying T = some (.struct fs)) (hi : (P.info? T).map (·.size) = some cs.size)
    (hK : wpList P ops Q rest (a.put o.dst (.agg cs)) w) : wpList P ops Q (o :: rest) a w :=
  BigFrame.wpList_want hw fun _ hh => wp_load_row T x ho g hx t cs (0, 0) _ h hu rfl hi (hh _ _ hK)
theorem quiet_load_blk {Q : Act → Prop} (T : TypeId) (x : Operand) (ho : o.op = .load T x) (g : Nat) (hx : a.eval x = .pointer (some ⟨g, 0, none⟩)) (hw : Region.wanted o (yielded ops a.tmps) = true)
    (h : Blk W g t cs) (hu : P.underlying T = some (.struct fs)) (hi : (P.info? T).map (·.size) = some cs.size)
    (hK : wpQuiet P ops (fun w' => ∃ d : Later W, w' = d.now) Q rest (a.put o.dst (.agg cs))) : wpQuiet P ops (fun w' => ∃ d : Later W, w' = d.now) Q (o :: rest) a := by
  refine BigFrame.wpQuiet_want hw fun K hh => ⟨.agg cs, fun w' hw' => ?_, hh _ hK⟩
  obtain ⟨dd, rfl⟩ := hw'
  unfold Oper.quietAt
  rw [run_load_blk x ho hx (h.step dd.below) hu hi]
  exact ⟨rfl, rfl⟩
theorem rel_load_blk {Q : Exit → Act → World → Prop} {i fuel : Nat} {listed : Array Bool} (hl : ops.toList.drop i = o :: rest) (T : TypeId) (x : Operand) (ho : o.op = .load T x) (g : Nat) (hx : a.eval x = .pointer (some ⟨g, 0, none⟩))
    (hs : Region.noSelect ops = true) (hf : Region.free .any ops listed i = true) (hr : (Region.ready .any ops listed).contains i = true)
    (hw : Region.wanted o (yielded ops a.tmps) = true) (hQ : ∀ c a v w, Q (.panic c) (Act.put a o.dst v) w → Q (.panic c) a w) (hS : Near W w)
    (h : Blk W g t cs) (hu : P.underlying T = some (.struct fs)) (hi : (P.info? T).map (·.size) = some cs.size)
    (hK : wpAnyH P .any ops Q (fun w' => ∃ d : Later W, w' = d.now) fuel (listed.setIfInBounds i true) (a.put o.dst (.agg cs)) w) :
    wpAnyH P .any ops Q (fun w' => ∃ d : Later W, w' = d.now) (fuel + 1) listed a w := by
  refine wpAnyH_take (v := .agg cs) (drop_at hl) hs hf hr (fun c a w h => hQ c a _ w h) (.inl ⟨hw, fun w' hw' => ?_⟩) hS hK
  obtain ⟨dd, rfl⟩ := hw'
  exact run_load_blk x ho hx (h.step dd.below) hu hi
theorem wpList_isSlice {Q : Exit → Act → World → Prop} (t : TypeId) (len : Nat) (parts : Array (Nat × Operand)) (ho : o.op = .buildSlice t len parts) (h : wpList P ops Q (o :: rest) a w) : wpList P ops Q (o :: rest) a w := h
theorem wpList_built {Q : Exit → Act → World → Prop} (hg : o.guard = none) (dst : Tmp) (hdst : o.dst = some dst) (T : TypeId) (parts : Array (Nat × Operand)) (ho : o.op = .build T parts) (cs : Array Value)
    (h : P.built T (parts.map fun (i, x) => (i, a.eval x)).toList = some cs) (hK : wpList P ops Q rest (a.put (some dst) (.agg cs)) w) : wpList P ops Q (o :: rest) a w := by
  refine wpList_plain hg fun K' hK' => ?_
  have h1 : (execOp a.eval o).run P w = .ok (.value (.agg cs)) w := by
    unfold execOp
    simp only [ho, Sem.run_bind, Sem.run_pure, Result.andThen_ok, run_build w T _ cs h]
  unfold Oper.wp
  rw [h1, Oper.upon_value, hdst]
  exact hK' _ _ hK
end
end Go.Proofs.YthfbpbbepogllaaGreat
