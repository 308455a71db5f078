/- Texts of this claim, put together. -/
import Derived.Test.YtnddoehhcpejjaaGreatJAB
import Derived.Test.YtnddoehhcpejjaaGreatJAC
import Derived.Test.YtnddoehhcpejjaaGreatProg
/- The records of the program: their cells; how an argument is opened into them. -/
namespace Go.Proofs.YtnddoehhcpejjaaGreat
set_option linter.unusedVariables false
set_option linter.unusedSimpArgs false
open Go.RowKit

abbrev Wf (n : Int) : Prop := (Lit.int .i64 n).wf = true
variable {H : Type} {enc : TypeId × Value → H} {w : World} {base : Nat} {spare : Nat → Bool} {held : Bool}

theorem Bal.len (x : Bal) : x.cells.length = 2 := rfl

theorem Sl.Lies.step {α : Type} {s : Sl α} {w w2 : World} {f : α → List Value} {sz : Nat} (h : s.Lies w f sz) (hb : Below w.heap.size w w2) : s.Lies w2 f sz := ⟨Rd.now h.1 hb, h.2⟩

def Bal.Ok (w : World) (x : Bal) : Prop := Wf x.account ∧ Wf x.amount
theorem Bal.Ok.step {w w2 : World} {x : Bal} (h : x.Ok w) (hb : Below w.heap.size w w2) : x.Ok w2 := ⟨h.1, h.2⟩
theorem opens_Bal : Opens enc Tryz.prog w base spare held 57 Bal.cells (Bal.Ok w) :=
  (opens_struct Tryz.underlying57 (by kernel_rfl) (opensF_cons (k := 1) (opens_int Tryz.underlying3) rfl (by kernel_rfl) (opensF_cons (k := 1) (opens_int Tryz.underlying3) rfl (by kernel_rfl) (opensF_nil _)))).map (fun p => ⟨p.1, p.2.1⟩) (fun _ => rfl) (fun _ h => ⟨h.1, h.2.1⟩)
theorem opens_Bal_Balance : Opens enc Tryz.prog w base spare held 61 Bal.cells (Bal.Ok w) :=
  (opens_struct Tryz.underlying61 (by kernel_rfl) (opensF_cons (k := 1) (opens_int Tryz.underlying3) rfl (by kernel_rfl) (opensF_cons (k := 1) (opens_int Tryz.underlying3) rfl (by kernel_rfl) (opensF_nil _)))).map (fun p => ⟨p.1, p.2.1⟩) (fun _ => rfl) (fun _ h => ⟨h.1, h.2.1⟩)
structure RefR where
  entry : Int
  line : Int

instance inhRefR : Inhabited RefR := ⟨⟨0, 0⟩⟩
def RefR.cells (x : RefR) : List Value := [.int .i64 x.entry, .int .i64 x.line]
theorem RefR.len (x : RefR) : x.cells.length = 2 := rfl
def RefR.Ok (w : World) (x : RefR) : Prop := Wf x.entry ∧ Wf x.line
theorem RefR.Ok.step {w w2 : World} {x : RefR} (h : x.Ok w) (hb : Below w.heap.size w w2) : x.Ok w2 := ⟨h.1, h.2⟩
theorem RefR.at_ {w : World} {B : Nat} {A : Option Addr} {l : List RefR} (h : Rd w B 2 A l.length (cellsOf RefR.cells l)) {k : Nat} (hk : k < l.length) :
    ∃ b o, A = some ⟨b, o, none⟩ ∧ b < B ∧ w.cell? ⟨b, o + k * 2, none⟩ = some (.int .i64 l[k].entry) ∧ w.cell? ⟨b, o + k * 2 + 1, none⟩ = some (.int .i64 l[k].line) := by
  obtain ⟨b, o, e, hb, hc⟩ := rd_at (f := RefR.cells) (sz := 2) (fun _ => rfl) h hk
  exact ⟨b, o, e, hb, hc 0 _ rfl, hc 1 _ rfl⟩
theorem RefR.one (x : RefR) : ∀ u ∈ x.cells, u.oneCell' = true := by
  intro u hu
  simp only [RefR.cells, List.mem_cons, List.not_mem_nil, or_false] at hu
  rcases hu with rfl | rfl
  all_goals rfl
theorem RefR.info : (Tryz.prog.info? 50).map (fun i => (i.zero, i.size, i.bytes)) = some (some (.agg #[.int .i64 0, .int .i64 0]), 2, 16) := by kernel_rfl
theorem opens_RefR : Opens enc Tryz.prog w base spare held 50 RefR.cells (RefR.Ok w) :=
  (opens_struct Tryz.underlying50 (by kernel_rfl) (opensF_cons (k := 1) (opens_int Tryz.underlying3) rfl (by kernel_rfl) (opensF_cons (k := 1) (opens_int Tryz.underlying3) rfl (by kernel_rfl) (opensF_nil _)))).map (fun p => ⟨p.1, p.2.1⟩) (fun _ => rfl) (fun _ h => ⟨h.1, h.2.1⟩)
structure ItemR where
  ref : RefR
  entity : Int
  account : Int
  partner : Int
  date : Int
  amount : Int

instance inhItemR : Inhabited ItemR := ⟨⟨default, 0, 0, 0, 0, 0⟩⟩
def ItemR.cells (x : ItemR) : List Value := [.int .i64 x.ref.entry, .int .i64 x.ref.line, .int .i64 x.entity, .int .i64 x.account, .int .i64 x.partner, .int .i64 x.date, .int .i64 x.amount]
theorem ItemR.len (x : ItemR) : x.cells.length = 7 := rfl
def ItemR.Ok (w : World) (x : ItemR) : Prop := RefR.Ok w x.ref ∧ Wf x.entity ∧ Wf x.account ∧ Wf x.partner ∧ Wf x.date ∧ Wf x.amount
theorem ItemR.Ok.step {w w2 : World} {x : ItemR} (h : x.Ok w) (hb : Below w.heap.size w w2) : x.Ok w2 := ⟨(h.1).step hb, h.2.1, h.2.2.1, h.2.2.2.1, h.2.2.2.2.1, h.2.2.2.2.2⟩
theorem ItemR.at_ {w : World} {B : Nat} {A : Option Addr} {l : List ItemR} (h : Rd w B 7 A l.length (cellsOf ItemR.cells l)) {k : Nat} (hk : k < l.length) :
    ∃ b o, A = some ⟨b, o, none⟩ ∧ b < B ∧ w.cell? ⟨b, o + k * 7, none⟩ = some (.int .i64 l[k].ref.entry) ∧ w.cell? ⟨b, o + k * 7 + 1, none⟩ = some (.int .i64 l[k].ref.line) ∧ w.cell? ⟨b, o + k * 7 + 2, none⟩ = some (.int .i64 l[k].entity) ∧ w.cell? ⟨b, o + k * 7 + 3, none⟩ = some (.int .i64 l[k].account) ∧ w.cell? ⟨b, o + k * 7 + 4, none⟩ = some (.int .i64 l[k].partner) ∧ w.cell? ⟨b, o + k * 7 + 5, none⟩ = some (.int .i64 l[k].date) ∧ w.cell? ⟨b, o + k * 7 + 6, none⟩ = some (.int .i64 l[k].amount) := by
  obtain ⟨b, o, e, hb, hc⟩ := rd_at (f := ItemR.cells) (sz := 7) (fun _ => rfl) h hk
  exact ⟨b, o, e, hb, hc 0 _ rfl, hc 1 _ rfl, hc 2 _ rfl, hc 3 _ rfl, hc 4 _ rfl, hc 5 _ rfl, hc 6 _ rfl⟩
theorem ItemR.one (x : ItemR) : ∀ u ∈ x.cells, u.oneCell' = true := by
  intro u hu
  simp only [ItemR.cells, List.mem_cons, List.not_mem_nil, or_false] at hu
  rcases hu with rfl | rfl | rfl | rfl | rfl | rfl | rfl
  all_goals rfl
theorem ItemR.info : (Tryz.prog.info? 55).map (fun i => (i.zero, i.size, i.bytes)) = some (some (.agg #[.int .i64 0, .int .i64 0, .int .i64 0, .int .i64 0, .int .i64 0, .int .i64 0, .int .i64 0]), 7, 56) := by kernel_rfl
theorem opens_ItemR : Opens enc Tryz.prog w base spare held 55 ItemR.cells (ItemR.Ok w) :=
  (opens_struct Tryz.underlying55 (by kernel_rfl) (opensF_cons (k := 2) (opens_RefR) rfl (by kernel_rfl) (opensF_cons (k := 1) (opens_int Tryz.underlying3) rfl (by kernel_rfl) (opensF_cons (k := 1) (opens_int Tryz.underlying3) rfl (by kernel_rfl) (opensF_cons (k := 1) (opens_int Tryz.underlying3) rfl (by kernel_rfl) (opensF_cons (k := 1) (opens_int Tryz.underlying3) rfl (by kernel_rfl) (opensF_cons (k := 1) (opens_int Tryz.underlying3) rfl (by kernel_rfl) (opensF_nil _)))))))).map (fun p => ⟨p.1, p.2.1, p.2.2.1, p.2.2.2.1, p.2.2.2.2.1, p.2.2.2.2.2.1⟩) (fun _ => rfl) (fun _ h => ⟨h.1, h.2.1, h.2.2.1, h.2.2.2.1, h.2.2.2.2.1, h.2.2.2.2.2.1⟩)
structure PostR where
  kind : Int
  entity : Int
  other : Int
  rule : Int
  parts : Sl Bal

instance inhPostR : Inhabited PostR := ⟨⟨0, 0, 0, 0, ⟨[], none, 0⟩⟩⟩
def PostR.cells (x : PostR) : List Value := [.int .i64 x.kind, .int .i64 x.entity, .int .i64 x.other, .int .i64 x.rule, x.parts.val]
theorem PostR.len (x : PostR) : x.cells.length = 5 := rfl
def PostR.Ok (w : World) (x : PostR) : Prop := Wf x.kind ∧ Wf x.entity ∧ Wf x.other ∧ Wf x.rule ∧ (x.parts.Lies w Bal.cells 2 ∧ ∀ y ∈ x.parts.l, Bal.Ok w y)
theorem PostR.Ok.step {w w2 : World} {x : PostR} (h : x.Ok w) (hb : Below w.heap.size w w2) : x.Ok w2 := ⟨h.1, h.2.1, h.2.2.1, h.2.2.2.1, ⟨(h.2.2.2.2).1.step hb, fun y hy => ((h.2.2.2.2).2 y hy).step hb⟩⟩
theorem PostR.at_ {w : World} {B : Nat} {A : Option Addr} {l : List PostR} (h : Rd w B 5 A l.length (cellsOf PostR.cells l)) {k : Nat} (hk : k < l.length) :
    ∃ b o, A = some ⟨b, o, none⟩ ∧ b < B ∧ w.cell? ⟨b, o + k * 5, none⟩ = some (.int .i64 l[k].kind) ∧ w.cell? ⟨b, o + k * 5 + 1, none⟩ = some (.int .i64 l[k].entity) ∧ w.cell? ⟨b, o + k * 5 + 2, none⟩ = some (.int .i64 l[k].other) ∧ w.cell? ⟨b, o + k * 5 + 3, none⟩ = some (.int .i64 l[k].rule) ∧ w.cell? ⟨b, o + k * 5 + 4, none⟩ = some (l[k].parts.val) := by
  obtain ⟨b, o, e, hb, hc⟩ := rd_at (f := PostR.cells) (sz := 5) (fun _ => rfl) h hk
  exact ⟨b, o, e, hb, hc 0 _ rfl, hc 1 _ rfl, hc 2 _ rfl, hc 3 _ rfl, hc 4 _ rfl⟩
theorem PostR.one (x : PostR) : ∀ u ∈ x.cells, u.oneCell' = true := by
  intro u hu
  simp only [PostR.cells, List.mem_cons, List.not_mem_nil, or_false] at hu
  rcases hu with rfl | rfl | rfl | rfl | rfl
  all_goals rfl
theorem PostR.info : (Tryz.prog.info? 60).map (fun i => (i.zero, i.size, i.bytes)) = some (some (.agg #[.int .i64 0, .int .i64 0, .int .i64 0, .int .i64 0, .slice none 0 0]), 5, 56) := by kernel_rfl
theorem opens_PostR : Opens enc Tryz.prog w base spare held 60 PostR.cells (PostR.Ok w) :=
  (opens_struct Tryz.underlying60 (by kernel_rfl) (opensF_cons (k := 1) (opens_int Tryz.underlying3) rfl (by kernel_rfl) (opensF_cons (k := 1) (opens_int Tryz.underlying3) rfl (by kernel_rfl) (opensF_cons (k := 1) (opens_int Tryz.underlying3) rfl (by kernel_rfl) (opensF_cons (k := 1) (opens_int Tryz.underlying3) rfl (by kernel_rfl) (opensF_cons (k := 1) (opens_slice Tryz.underlying58 (by kernel_rfl) (by decide) Bal.len opens_Bal) rfl (by kernel_rfl) (opensF_nil _))))))).map (fun p => ⟨p.1, p.2.1, p.2.2.1, p.2.2.2.1, p.2.2.2.2.1⟩) (fun _ => rfl) (fun _ h => ⟨h.1, h.2.1, h.2.2.1, h.2.2.2.1, h.2.2.2.2.1⟩)
structure ResR where
  period : Int
  items : Sl ItemR
  postings : Sl PostR
  totals : Sl Bal

instance inhResR : Inhabited ResR := ⟨⟨0, ⟨[], none, 0⟩, ⟨[], none, 0⟩, ⟨[], none, 0⟩⟩⟩
def ResR.cells (x : ResR) : List Value := [.int .i64 x.period, x.items.val, x.postings.val, x.totals.val]
theorem ResR.len (x : ResR) : x.cells.length = 4 := rfl
def ResR.Ok (w : World) (x : ResR) : Prop := Wf x.period ∧ (x.items.Lies w ItemR.cells 7 ∧ ∀ y ∈ x.items.l, ItemR.Ok w y) ∧ (x.postings.Lies w PostR.cells 5 ∧ ∀ y ∈ x.postings.l, PostR.Ok w y) ∧ (x.totals.Lies w Bal.cells 2 ∧ ∀ y ∈ x.totals.l, Bal.Ok w y)
theorem ResR.Ok.step {w w2 : World} {x : ResR} (h : x.Ok w) (hb : Below w.heap.size w w2) : x.Ok w2 := ⟨h.1, ⟨(h.2.1).1.step hb, fun y hy => ((h.2.1).2 y hy).step hb⟩, ⟨(h.2.2.1).1.step hb, fun y hy => ((h.2.2.1).2 y hy).step hb⟩, ⟨(h.2.2.2).1.step hb, fun y hy => ((h.2.2.2).2 y hy).step hb⟩⟩
theorem ResR.at_ {w : World} {B : Nat} {A : Option Addr} {l : List ResR} (h : Rd w B 4 A l.length (cellsOf ResR.cells l)) {k : Nat} (hk : k < l.length) :
    ∃ b o, A = some ⟨b, o, none⟩ ∧ b < B ∧ w.cell? ⟨b, o + k * 4, none⟩ = some (.int .i64 l[k].period) ∧ w.cell? ⟨b, o + k * 4 + 1, none⟩ = some (l[k].items.val) ∧ w.cell? ⟨b, o + k * 4 + 2, none⟩ = some (l[k].postings.val) ∧ w.cell? ⟨b, o + k * 4 + 3, none⟩ = some (l[k].totals.val) := by
  obtain ⟨b, o, e, hb, hc⟩ := rd_at (f := ResR.cells) (sz := 4) (fun _ => rfl) h hk
  exact ⟨b, o, e, hb, hc 0 _ rfl, hc 1 _ rfl, hc 2 _ rfl, hc 3 _ rfl⟩
theorem ResR.one (x : ResR) : ∀ u ∈ x.cells, u.oneCell' = true := by
  intro u hu
  simp only [ResR.cells, List.mem_cons, List.not_mem_nil, or_false] at hu
  rcases hu with rfl | rfl | rfl | rfl
  all_goals rfl
theorem ResR.info : (Tryz.prog.info? 41).map (fun i => (i.zero, i.size, i.bytes)) = some (some (.agg #[.int .i64 0, .slice none 0 0, .slice none 0 0, .slice none 0 0]), 4, 80) := by kernel_rfl
theorem opens_ResR : Opens enc Tryz.prog w base spare held 41 ResR.cells (ResR.Ok w) :=
  (opens_struct Tryz.underlying41 (by kernel_rfl) (opensF_cons (k := 1) (opens_int Tryz.underlying3) rfl (by kernel_rfl) (opensF_cons (k := 1) (opens_slice Tryz.underlying37 (by kernel_rfl) (by decide) ItemR.len opens_ItemR) rfl (by kernel_rfl) (opensF_cons (k := 1) (opens_slice Tryz.underlying38 (by kernel_rfl) (by decide) PostR.len opens_PostR) rfl (by kernel_rfl) (opensF_cons (k := 1) (opens_slice Tryz.underlying39 (by kernel_rfl) (by decide) Bal.len opens_Bal_Balance) rfl (by kernel_rfl) (opensF_nil _)))))).map (fun p => ⟨p.1, p.2.1, p.2.2.1, p.2.2.2.1⟩) (fun _ => rfl) (fun _ h => ⟨h.1, h.2.1, h.2.2.1, h.2.2.2.1⟩)
def Acc.Ok (w : World) (x : Acc) : Prop := Wf x.code ∧ Wf x.kind ∧ Wf x.basis ∧ Wf x.parent
theorem Acc.Ok.step {w w2 : World} {x : Acc} (h : x.Ok w) (hb : Below w.heap.size w w2) : x.Ok w2 := ⟨h.1, h.2.1, h.2.2.1, h.2.2.2⟩
theorem opens_Acc : Opens enc Tryz.prog w base spare held 121 Acc.cells (Acc.Ok w) :=
  (opens_struct Tryz.underlying121 (by kernel_rfl) (opensF_cons (k := 1) (opens_int Tryz.underlying3) rfl (by kernel_rfl) (opensF_cons (k := 1) (opens_int Tryz.underlying3) rfl (by kernel_rfl) (opensF_cons (k := 1) (opens_int Tryz.underlying3) rfl (by kernel_rfl) (opensF_cons (k := 1) (opens_int Tryz.underlying3) rfl (by kernel_rfl) (opensF_nil _)))))).map (fun p => ⟨p.1, p.2.1, p.2.2.1, p.2.2.2.1⟩) (fun _ => rfl) (fun _ h => ⟨h.1, h.2.1, h.2.2.1, h.2.2.2.1⟩)
structure LinkR where
  from_ : Int
  to : Int
  since : Int

instance inhLinkR : Inhabited LinkR := ⟨⟨0, 0, 0⟩⟩
def LinkR.cells (x : LinkR) : List Value := [.int .i64 x.from_, .int .i64 x.to, .int .i64 x.since]
theorem LinkR.len (x : LinkR) : x.cells.length = 3 := rfl
def LinkR.Ok (w : World) (x : LinkR) : Prop := Wf x.from_ ∧ Wf x.to ∧ Wf x.since
theorem LinkR.Ok.step {w w2 : World} {x : LinkR} (h : x.Ok w) (hb : Below w.heap.size w w2) : x.Ok w2 := ⟨h.1, h.2.1, h.2.2⟩
theorem LinkR.at_ {w : World} {B : Nat} {A : Option Addr} {l : List LinkR} (h : Rd w B 3 A l.length (cellsOf LinkR.cells l)) {k : Nat} (hk : k < l.length) :
    ∃ b o, A = some ⟨b, o, none⟩ ∧ b < B ∧ w.cell? ⟨b, o + k * 3, none⟩ = some (.int .i64 l[k].from_) ∧ w.cell? ⟨b, o + k * 3 + 1, none⟩ = some (.int .i64 l[k].to) ∧ w.cell? ⟨b, o + k * 3 + 2, none⟩ = some (.int .i64 l[k].since) := by
  obtain ⟨b, o, e, hb, hc⟩ := rd_at (f := LinkR.cells) (sz := 3) (fun _ => rfl) h hk
  exact ⟨b, o, e, hb, hc 0 _ rfl, hc 1 _ rfl, hc 2 _ rfl⟩
theorem LinkR.one (x : LinkR) : ∀ u ∈ x.cells, u.oneCell' = true := by
  intro u hu
  simp only [LinkR.cells, List.mem_cons, List.not_mem_nil, or_false] at hu
  rcases hu with rfl | rfl | rfl
  all_goals rfl
theorem LinkR.info : (Tryz.prog.info? 126).map (fun i => (i.zero, i.size, i.bytes)) = some (some (.agg #[.int .i64 0, .int .i64 0, .int .i64 0]), 3, 24) := by kernel_rfl
theorem opens_LinkR : Opens enc Tryz.prog w base spare held 126 LinkR.cells (LinkR.Ok w) :=
  (opens_struct Tryz.underlying126 (by kernel_rfl) (opensF_cons (k := 1) (opens_int Tryz.underlying3) rfl (by kernel_rfl) (opensF_cons (k := 1) (opens_int Tryz.underlying3) rfl (by kernel_rfl) (opensF_cons (k := 1) (opens_int Tryz.underlying3) rfl (by kernel_rfl) (opensF_nil _))))).map (fun p => ⟨p.1, p.2.1, p.2.2.1⟩) (fun _ => rfl) (fun _ h => ⟨h.1, h.2.1, h.2.2.1⟩)
structure EntR where
  name : ByteArray
  currency : ByteArray
  chart : Sl Acc
  links : Sl LinkR
  joint : Bool

instance inhEntR : Inhabited EntR := ⟨⟨ByteArray.empty, ByteArray.empty, ⟨[], none, 0⟩, ⟨[], none, 0⟩, false⟩⟩
def EntR.cells (x : EntR) : List Value := [.string x.name, .string x.currency, x.chart.val, x.links.val, .bool x.joint]
theorem EntR.len (x : EntR) : x.cells.length = 5 := rfl
def EntR.Ok (w : World) (x : EntR) : Prop := x.name.size ≤ maxLen ∧ x.currency.size ≤ maxLen ∧ (x.chart.Lies w Acc.cells 4 ∧ ∀ y ∈ x.chart.l, Acc.Ok w y) ∧ (x.links.Lies w LinkR.cells 3 ∧ ∀ y ∈ x.links.l, LinkR.Ok w y) ∧ True
theorem EntR.Ok.step {w w2 : World} {x : EntR} (h : x.Ok w) (hb : Below w.heap.size w w2) : x.Ok w2 := ⟨h.1, h.2.1, ⟨(h.2.2.1).1.step hb, fun y hy => ((h.2.2.1).2 y hy).step hb⟩, ⟨(h.2.2.2.1).1.step hb, fun y hy => ((h.2.2.2.1).2 y hy).step hb⟩, h.2.2.2.2⟩
theorem EntR.at_ {w : World} {B : Nat} {A : Option Addr} {l : List EntR} (h : Rd w B 5 A l.length (cellsOf EntR.cells l)) {k : Nat} (hk : k < l.length) :
    ∃ b o, A = some ⟨b, o, none⟩ ∧ b < B ∧ w.cell? ⟨b, o + k * 5, none⟩ = some (.string l[k].name) ∧ w.cell? ⟨b, o + k * 5 + 1, none⟩ = some (.string l[k].currency) ∧ w.cell? ⟨b, o + k * 5 + 2, none⟩ = some (l[k].chart.val) ∧ w.cell? ⟨b, o + k * 5 + 3, none⟩ = some (l[k].links.val) ∧ w.cell? ⟨b, o + k * 5 + 4, none⟩ = some (.bool l[k].joint) := by
  obtain ⟨b, o, e, hb, hc⟩ := rd_at (f := EntR.cells) (sz := 5) (fun _ => rfl) h hk
  exact ⟨b, o, e, hb, hc 0 _ rfl, hc 1 _ rfl, hc 2 _ rfl, hc 3 _ rfl, hc 4 _ rfl⟩
theorem EntR.one (x : EntR) : ∀ u ∈ x.cells, u.oneCell' = true := by
  intro u hu
  simp only [EntR.cells, List.mem_cons, List.not_mem_nil, or_false] at hu
  rcases hu with rfl | rfl | rfl | rfl | rfl
  all_goals rfl
theorem EntR.info : (Tryz.prog.info? 90).map (fun i => (i.zero, i.size, i.bytes)) = some (some (.agg #[.string ⟨#[]⟩, .string ⟨#[]⟩, .slice none 0 0, .slice none 0 0, .bool false]), 5, 88) := by kernel_rfl
theorem opens_EntR : Opens enc Tryz.prog w base spare held 90 EntR.cells (EntR.Ok w) :=
  (opens_struct Tryz.underlying90 (by kernel_rfl) (opensF_cons (k := 1) (opens_string Tryz.underlying9) rfl (by kernel_rfl) (opensF_cons (k := 1) (opens_string Tryz.underlying9) rfl (by kernel_rfl) (opensF_cons (k := 1) (opens_slice Tryz.underlying24 (by kernel_rfl) (by decide) Acc.len opens_Acc) rfl (by kernel_rfl) (opensF_cons (k := 1) (opens_slice Tryz.underlying88 (by kernel_rfl) (by decide) LinkR.len opens_LinkR) rfl (by kernel_rfl) (opensF_cons (k := 1) (opens_bool Tryz.underlying4) rfl (by kernel_rfl) (opensF_nil _))))))).map (fun p => ⟨p.1, p.2.1, p.2.2.1, p.2.2.2.1, p.2.2.2.2.1⟩) (fun _ => rfl) (fun _ h => ⟨h.1, h.2.1, h.2.2.1, h.2.2.2.1, h.2.2.2.2.1⟩)
structure CalR where
  year : Int
  month : Int
  periods : Int

instance inhCalR : Inhabited CalR := ⟨⟨0, 0, 0⟩⟩
def CalR.cells (x : CalR) : List Value := [.int .i64 x.year, .int .i64 x.month, .int .i64 x.periods]
theorem CalR.len (x : CalR) : x.cells.length = 3 := rfl
def CalR.Ok (w : World) (x : CalR) : Prop := Wf x.year ∧ Wf x.month ∧ Wf x.periods
theorem CalR.Ok.step {w w2 : World} {x : CalR} (h : x.Ok w) (hb : Below w.heap.size w w2) : x.Ok w2 := ⟨h.1, h.2.1, h.2.2⟩
theorem CalR.at_ {w : World} {B : Nat} {A : Option Addr} {l : List CalR} (h : Rd w B 3 A l.length (cellsOf CalR.cells l)) {k : Nat} (hk : k < l.length) :
    ∃ b o, A = some ⟨b, o, none⟩ ∧ b < B ∧ w.cell? ⟨b, o + k * 3, none⟩ = some (.int .i64 l[k].year) ∧ w.cell? ⟨b, o + k * 3 + 1, none⟩ = some (.int .i64 l[k].month) ∧ w.cell? ⟨b, o + k * 3 + 2, none⟩ = some (.int .i64 l[k].periods) := by
  obtain ⟨b, o, e, hb, hc⟩ := rd_at (f := CalR.cells) (sz := 3) (fun _ => rfl) h hk
  exact ⟨b, o, e, hb, hc 0 _ rfl, hc 1 _ rfl, hc 2 _ rfl⟩
theorem CalR.one (x : CalR) : ∀ u ∈ x.cells, u.oneCell' = true := by
  intro u hu
  simp only [CalR.cells, List.mem_cons, List.not_mem_nil, or_false] at hu
  rcases hu with rfl | rfl | rfl
  all_goals rfl
theorem CalR.info : (Tryz.prog.info? 23).map (fun i => (i.zero, i.size, i.bytes)) = some (some (.agg #[.int .i64 0, .int .i64 0, .int .i64 0]), 3, 24) := by kernel_rfl
theorem opens_CalR : Opens enc Tryz.prog w base spare held 23 CalR.cells (CalR.Ok w) :=
  (opens_struct Tryz.underlying23 (by kernel_rfl) (opensF_cons (k := 1) (opens_int Tryz.underlying3) rfl (by kernel_rfl) (opensF_cons (k := 1) (opens_int Tryz.underlying3) rfl (by kernel_rfl) (opensF_cons (k := 1) (opens_int Tryz.underlying3) rfl (by kernel_rfl) (opensF_nil _))))).map (fun p => ⟨p.1, p.2.1, p.2.2.1⟩) (fun _ => rfl) (fun _ h => ⟨h.1, h.2.1, h.2.2.1⟩)
structure RolesR where
  investment : Int
  goodwill : Int
  associates : Int
  inventory : Int
  reserve : Int
  minority : Int
  retained : Int
  acquired : Int
  owners : Int
  disposal : Int
  associateProfit : Int
  dividends : Int
  minorityProfit : Int
  difference : Int
  margin : Int

instance inhRolesR : Inhabited RolesR := ⟨⟨0, 0, 0, 0, 0, 0, 0, 0, 0, 0, 0, 0, 0, 0, 0⟩⟩
def RolesR.cells (x : RolesR) : List Value := [.int .i64 x.investment, .int .i64 x.goodwill, .int .i64 x.associates, .int .i64 x.inventory, .int .i64 x.reserve, .int .i64 x.minority, .int .i64 x.retained, .int .i64 x.acquired, .int .i64 x.owners, .int .i64 x.disposal, .int .i64 x.associateProfit, .int .i64 x.dividends, .int .i64 x.minorityProfit, .int .i64 x.difference, .int .i64 x.margin]
theorem RolesR.len (x : RolesR) : x.cells.length = 15 := rfl
def RolesR.Ok (w : World) (x : RolesR) : Prop := Wf x.investment ∧ Wf x.goodwill ∧ Wf x.associates ∧ Wf x.inventory ∧ Wf x.reserve ∧ Wf x.minority ∧ Wf x.retained ∧ Wf x.acquired ∧ Wf x.owners ∧ Wf x.disposal ∧ Wf x.associateProfit ∧ Wf x.dividends ∧ Wf x.minorityProfit ∧ Wf x.difference ∧ Wf x.margin
theorem RolesR.Ok.step {w w2 : World} {x : RolesR} (h : x.Ok w) (hb : Below w.heap.size w w2) : x.Ok w2 := ⟨h.1, h.2.1, h.2.2.1, h.2.2.2.1, h.2.2.2.2.1, h.2.2.2.2.2.1, h.2.2.2.2.2.2.1, h.2.2.2.2.2.2.2.1, h.2.2.2.2.2.2.2.2.1, h.2.2.2.2.2.2.2.2.2.1, h.2.2.2.2.2.2.2.2.2.2.1, h.2.2.2.2.2.2.2.2.2.2.2.1, h.2.2.2.2.2.2.2.2.2.2.2.2.1, h.2.2.2.2.2.2.2.2.2.2.2.2.2.1, h.2.2.2.2.2.2.2.2.2.2.2.2.2.2⟩
theorem RolesR.at_ {w : World} {B : Nat} {A : Option Addr} {l : List RolesR} (h : Rd w B 15 A l.length (cellsOf RolesR.cells l)) {k : Nat} (hk : k < l.length) :
    ∃ b o, A = some ⟨b, o, none⟩ ∧ b < B ∧ w.cell? ⟨b, o + k * 15, none⟩ = some (.int .i64 l[k].investment) ∧ w.cell? ⟨b, o + k * 15 + 1, none⟩ = some (.int .i64 l[k].goodwill) ∧ w.cell? ⟨b, o + k * 15 + 2, none⟩ = some (.int .i64 l[k].associates) ∧ w.cell? ⟨b, o + k * 15 + 3, none⟩ = some (.int .i64 l[k].inventory) ∧ w.cell? ⟨b, o + k * 15 + 4, none⟩ = some (.int .i64 l[k].reserve) ∧ w.cell? ⟨b, o + k * 15 + 5, none⟩ = some (.int .i64 l[k].minority) ∧ w.cell? ⟨b, o + k * 15 + 6, none⟩ = some (.int .i64 l[k].retained) ∧ w.cell? ⟨b, o + k * 15 + 7, none⟩ = some (.int .i64 l[k].acquired) ∧ w.cell? ⟨b, o + k * 15 + 8, none⟩ = some (.int .i64 l[k].owners) ∧ w.cell? ⟨b, o + k * 15 + 9, none⟩ = some (.int .i64 l[k].disposal) ∧ w.cell? ⟨b, o + k * 15 + 10, none⟩ = some (.int .i64 l[k].associateProfit) ∧ w.cell? ⟨b, o + k * 15 + 11, none⟩ = some (.int .i64 l[k].dividends) ∧ w.cell? ⟨b, o + k * 15 + 12, none⟩ = some (.int .i64 l[k].minorityProfit) ∧ w.cell? ⟨b, o + k * 15 + 13, none⟩ = some (.int .i64 l[k].difference) ∧ w.cell? ⟨b, o + k * 15 + 14, none⟩ = some (.int .i64 l[k].margin) := by
  obtain ⟨b, o, e, hb, hc⟩ := rd_at (f := RolesR.cells) (sz := 15) (fun _ => rfl) h hk
  exact ⟨b, o, e, hb, hc 0 _ rfl, hc 1 _ rfl, hc 2 _ rfl, hc 3 _ rfl, hc 4 _ rfl, hc 5 _ rfl, hc 6 _ rfl, hc 7 _ rfl, hc 8 _ rfl, hc 9 _ rfl, hc 10 _ rfl, hc 11 _ rfl, hc 12 _ rfl, hc 13 _ rfl, hc 14 _ rfl⟩
theorem RolesR.one (x : RolesR) : ∀ u ∈ x.cells, u.oneCell' = true := by
  intro u hu
  simp only [RolesR.cells, List.mem_cons, List.not_mem_nil, or_false] at hu
  rcases hu with rfl | rfl | rfl | rfl | rfl | rfl | rfl | rfl | rfl | rfl | rfl | rfl | rfl | rfl | rfl
  all_goals rfl
theorem RolesR.info : (Tryz.prog.info? 26).map (fun i => (i.zero, i.size, i.bytes)) = some (some (.agg #[.int .i64 0, .int .i64 0, .int .i64 0, .int .i64 0, .int .i64 0, .int .i64 0, .int .i64 0, .int .i64 0, .int .i64 0, .int .i64 0, .int .i64 0, .int .i64 0, .int .i64 0, .int .i64 0, .int .i64 0]), 15, 120) := by kernel_rfl
theorem opens_RolesR : Opens enc Tryz.prog w base spare held 26 RolesR.cells (RolesR.Ok w) :=
  (opens_struct Tryz.underlying26 (by kernel_rfl) (opensF_cons (k := 1) (opens_int Tryz.underlying3) rfl (by kernel_rfl) (opensF_cons (k := 1) (opens_int Tryz.underlying3) rfl (by kernel_rfl) (opensF_cons (k := 1) (opens_int Tryz.underlying3) rfl (by kernel_rfl) (opensF_cons (k := 1) (opens_int Tryz.underlying3) rfl (by kernel_rfl) (opensF_cons (k := 1) (opens_int Tryz.underlying3) rfl (by kernel_rfl) (opensF_cons (k := 1) (opens_int Tryz.underlying3) rfl (by kernel_rfl) (opensF_cons (k := 1) (opens_int Tryz.underlying3) rfl (by kernel_rfl) (opensF_cons (k := 1) (opens_int Tryz.underlying3) rfl (by kernel_rfl) (opensF_cons (k := 1) (opens_int Tryz.underlying3) rfl (by kernel_rfl) (opensF_cons (k := 1) (opens_int Tryz.underlying3) rfl (by kernel_rfl) (opensF_cons (k := 1) (opens_int Tryz.underlying3) rfl (by kernel_rfl) (opensF_cons (k := 1) (opens_int Tryz.underlying3) rfl (by kernel_rfl) (opensF_cons (k := 1) (opens_int Tryz.underlying3) rfl (by kernel_rfl) (opensF_cons (k := 1) (opens_int Tryz.underlying3) rfl (by kernel_rfl) (opensF_cons (k := 1) (opens_int Tryz.underlying3) rfl (by kernel_rfl) (opensF_nil _))))))))))))))))).map (fun p => ⟨p.1, p.2.1, p.2.2.1, p.2.2.2.1, p.2.2.2.2.1, p.2.2.2.2.2.1, p.2.2.2.2.2.2.1, p.2.2.2.2.2.2.2.1, p.2.2.2.2.2.2.2.2.1, p.2.2.2.2.2.2.2.2.2.1, p.2.2.2.2.2.2.2.2.2.2.1, p.2.2.2.2.2.2.2.2.2.2.2.1, p.2.2.2.2.2.2.2.2.2.2.2.2.1, p.2.2.2.2.2.2.2.2.2.2.2.2.2.1, p.2.2.2.2.2.2.2.2.2.2.2.2.2.2.1⟩) (fun _ => rfl) (fun _ h => ⟨h.1, h.2.1, h.2.2.1, h.2.2.2.1, h.2.2.2.2.1, h.2.2.2.2.2.1, h.2.2.2.2.2.2.1, h.2.2.2.2.2.2.2.1, h.2.2.2.2.2.2.2.2.1, h.2.2.2.2.2.2.2.2.2.1, h.2.2.2.2.2.2.2.2.2.2.1, h.2.2.2.2.2.2.2.2.2.2.2.1, h.2.2.2.2.2.2.2.2.2.2.2.2.1, h.2.2.2.2.2.2.2.2.2.2.2.2.2.1, h.2.2.2.2.2.2.2.2.2.2.2.2.2.2.1⟩)
structure GrpR where
  currency : ByteArray
  calendar : CalR
  chart : Sl Acc
  roles : RolesR
  entities : Sl EntR

instance inhGrpR : Inhabited GrpR := ⟨⟨ByteArray.empty, default, ⟨[], none, 0⟩, default, ⟨[], none, 0⟩⟩⟩
def GrpR.cells (x : GrpR) : List Value := [.string x.currency, .int .i64 x.calendar.year, .int .i64 x.calendar.month, .int .i64 x.calendar.periods, x.chart.val, .int .i64 x.roles.investment, .int .i64 x.roles.goodwill, .int .i64 x.roles.associates, .int .i64 x.roles.inventory, .int .i64 x.roles.reserve, .int .i64 x.roles.minority, .int .i64 x.roles.retained, .int .i64 x.roles.acquired, .int .i64 x.roles.owners, .int .i64 x.roles.disposal, .int .i64 x.roles.associateProfit, .int .i64 x.roles.dividends, .int .i64 x.roles.minorityProfit, .int .i64 x.roles.difference, .int .i64 x.roles.margin, x.entities.val]
theorem GrpR.len (x : GrpR) : x.cells.length = 21 := rfl
def GrpR.Ok (w : World) (x : GrpR) : Prop := x.currency.size ≤ maxLen ∧ CalR.Ok w x.calendar ∧ (x.chart.Lies w Acc.cells 4 ∧ ∀ y ∈ x.chart.l, Acc.Ok w y) ∧ RolesR.Ok w x.roles ∧ (x.entities.Lies w EntR.cells 5 ∧ ∀ y ∈ x.entities.l, EntR.Ok w y)
theorem GrpR.Ok.step {w w2 : World} {x : GrpR} (h : x.Ok w) (hb : Below w.heap.size w w2) : x.Ok w2 := ⟨h.1, (h.2.1).step hb, ⟨(h.2.2.1).1.step hb, fun y hy => ((h.2.2.1).2 y hy).step hb⟩, (h.2.2.2.1).step hb, ⟨(h.2.2.2.2).1.step hb, fun y hy => ((h.2.2.2.2).2 y hy).step hb⟩⟩
theorem GrpR.at_ {w : World} {B : Nat} {A : Option Addr} {l : List GrpR} (h : Rd w B 21 A l.length (cellsOf GrpR.cells l)) {k : Nat} (hk : k < l.length) :
    ∃ b o, A = some ⟨b, o, none⟩ ∧ b < B ∧ w.cell? ⟨b, o + k * 21, none⟩ = some (.string l[k].currency) ∧ w.cell? ⟨b, o + k * 21 + 1, none⟩ = some (.int .i64 l[k].calendar.year) ∧ w.cell? ⟨b, o + k * 21 + 2, none⟩ = some (.int .i64 l[k].calendar.month) ∧ w.cell? ⟨b, o + k * 21 + 3, none⟩ = some (.int .i64 l[k].calendar.periods) ∧ w.cell? ⟨b, o + k * 21 + 4, none⟩ = some (l[k].chart.val) ∧ w.cell? ⟨b, o + k * 21 + 5, none⟩ = some (.int .i64 l[k].roles.investment) ∧ w.cell? ⟨b, o + k * 21 + 6, none⟩ = some (.int .i64 l[k].roles.goodwill) ∧ w.cell? ⟨b, o + k * 21 + 7, none⟩ = some (.int .i64 l[k].roles.associates) ∧ w.cell? ⟨b, o + k * 21 + 8, none⟩ = some (.int .i64 l[k].roles.inventory) ∧ w.cell? ⟨b, o + k * 21 + 9, none⟩ = some (.int .i64 l[k].roles.reserve) ∧ w.cell? ⟨b, o + k * 21 + 10, none⟩ = some (.int .i64 l[k].roles.minority) ∧ w.cell? ⟨b, o + k * 21 + 11, none⟩ = some (.int .i64 l[k].roles.retained) ∧ w.cell? ⟨b, o + k * 21 + 12, none⟩ = some (.int .i64 l[k].roles.acquired) ∧ w.cell? ⟨b, o + k * 21 + 13, none⟩ = some (.int .i64 l[k].roles.owners) ∧ w.cell? ⟨b, o + k * 21 + 14, none⟩ = some (.int .i64 l[k].roles.disposal) ∧ w.cell? ⟨b, o + k * 21 + 15, none⟩ = some (.int .i64 l[k].roles.associateProfit) ∧ w.cell? ⟨b, o + k * 21 + 16, none⟩ = some (.int .i64 l[k].roles.dividends) ∧ w.cell? ⟨b, o + k * 21 + 17, none⟩ = some (.int .i64 l[k].roles.minorityProfit) ∧ w.cell? ⟨b, o + k * 21 + 18, none⟩ = some (.int .i64 l[k].roles.difference) ∧ w.cell? ⟨b, o + k * 21 + 19, none⟩ = some (.int .i64 l[k].roles.margin) ∧ w.cell? ⟨b, o + k * 21 + 20, none⟩ = some (l[k].entities.val) := by
  obtain ⟨b, o, e, hb, hc⟩ := rd_at (f := GrpR.cells) (sz := 21) (fun _ => rfl) h hk
  exact ⟨b, o, e, hb, hc 0 _ rfl, hc 1 _ rfl, hc 2 _ rfl, hc 3 _ rfl, hc 4 _ rfl, hc 5 _ rfl, hc 6 _ rfl, hc 7 _ rfl, hc 8 _ rfl, hc 9 _ rfl, hc 10 _ rfl, hc 11 _ rfl, hc 12 _ rfl, hc 13 _ rfl, hc 14 _ rfl, hc 15 _ rfl, hc 16 _ rfl, hc 17 _ rfl, hc 18 _ rfl, hc 19 _ rfl, hc 20 _ rfl⟩
theorem GrpR.one (x : GrpR) : ∀ u ∈ x.cells, u.oneCell' = true := by
  intro u hu
  simp only [GrpR.cells, List.mem_cons, List.not_mem_nil, or_false] at hu
  rcases hu with rfl | rfl | rfl | rfl | rfl | rfl | rfl | rfl | rfl | rfl | rfl | rfl | rfl | rfl | rfl | rfl | rfl | rfl | rfl | rfl | rfl
  all_goals rfl
theorem GrpR.info : (Tryz.prog.info? 29).map (fun i => (i.zero, i.size, i.bytes)) = some (some (.agg #[.string ⟨#[]⟩, .int .i64 0, .int .i64 0, .int .i64 0, .slice none 0 0, .int .i64 0, .int .i64 0, .int .i64 0, .int .i64 0, .int .i64 0, .int .i64 0, .int .i64 0, .int .i64 0, .int .i64 0, .int .i64 0, .int .i64 0, .int .i64 0, .int .i64 0, .int .i64 0, .int .i64 0, .slice none 0 0]), 21, 208) := by kernel_rfl
theorem opens_GrpR : Opens enc Tryz.prog w base spare held 29 GrpR.cells (GrpR.Ok w) :=
  (opens_struct Tryz.underlying29 (by kernel_rfl) (opensF_cons (k := 1) (opens_string Tryz.underlying9) rfl (by kernel_rfl) (opensF_cons (k := 3) (opens_CalR) rfl (by kernel_rfl) (opensF_cons (k := 1) (opens_slice Tryz.underlying24 (by kernel_rfl) (by decide) Acc.len opens_Acc) rfl (by kernel_rfl) (opensF_cons (k := 15) (opens_RolesR) rfl (by kernel_rfl) (opensF_cons (k := 1) (opens_slice Tryz.underlying27 (by kernel_rfl) (by decide) EntR.len opens_EntR) rfl (by kernel_rfl) (opensF_nil _))))))).map (fun p => ⟨p.1, p.2.1, p.2.2.1, p.2.2.2.1, p.2.2.2.2.1⟩) (fun _ => rfl) (fun _ h => ⟨h.1, h.2.1, h.2.2.1, h.2.2.2.1, h.2.2.2.2.1⟩)
structure LineR where
  account : Int
  amount : Int
  partner : Int

instance inhLineR : Inhabited LineR := ⟨⟨0, 0, 0⟩⟩
def LineR.cells (x : LineR) : List Value := [.int .i64 x.account, .int .i64 x.amount, .int .i64 x.partner]
theorem LineR.len (x : LineR) : x.cells.length = 3 := rfl
def LineR.Ok (w : World) (x : LineR) : Prop := Wf x.account ∧ Wf x.amount ∧ Wf x.partner
theorem LineR.Ok.step {w w2 : World} {x : LineR} (h : x.Ok w) (hb : Below w.heap.size w w2) : x.Ok w2 := ⟨h.1, h.2.1, h.2.2⟩
theorem LineR.at_ {w : World} {B : Nat} {A : Option Addr} {l : List LineR} (h : Rd w B 3 A l.length (cellsOf LineR.cells l)) {k : Nat} (hk : k < l.length) :
    ∃ b o, A = some ⟨b, o, none⟩ ∧ b < B ∧ w.cell? ⟨b, o + k * 3, none⟩ = some (.int .i64 l[k].account) ∧ w.cell? ⟨b, o + k * 3 + 1, none⟩ = some (.int .i64 l[k].amount) ∧ w.cell? ⟨b, o + k * 3 + 2, none⟩ = some (.int .i64 l[k].partner) := by
  obtain ⟨b, o, e, hb, hc⟩ := rd_at (f := LineR.cells) (sz := 3) (fun _ => rfl) h hk
  exact ⟨b, o, e, hb, hc 0 _ rfl, hc 1 _ rfl, hc 2 _ rfl⟩
theorem LineR.one (x : LineR) : ∀ u ∈ x.cells, u.oneCell' = true := by
  intro u hu
  simp only [LineR.cells, List.mem_cons, List.not_mem_nil, or_false] at hu
  rcases hu with rfl | rfl | rfl
  all_goals rfl
theorem LineR.info : (Tryz.prog.info? 69).map (fun i => (i.zero, i.size, i.bytes)) = some (some (.agg #[.int .i64 0, .int .i64 0, .int .i64 0]), 3, 24) := by kernel_rfl
theorem opens_LineR : Opens enc Tryz.prog w base spare held 69 LineR.cells (LineR.Ok w) :=
  (opens_struct Tryz.underlying69 (by kernel_rfl) (opensF_cons (k := 1) (opens_int Tryz.underlying3) rfl (by kernel_rfl) (opensF_cons (k := 1) (opens_int Tryz.underlying3) rfl (by kernel_rfl) (opensF_cons (k := 1) (opens_int Tryz.underlying3) rfl (by kernel_rfl) (opensF_nil _))))).map (fun p => ⟨p.1, p.2.1, p.2.2.1⟩) (fun _ => rfl) (fun _ h => ⟨h.1, h.2.1, h.2.2.1⟩)
structure EntryR where
  id : Int
  entity : Int
  date : Int
  kind : Int
  of : Int
  text : ByteArray
  lines : Sl LineR

instance inhEntryR : Inhabited EntryR := ⟨⟨0, 0, 0, 0, 0, ByteArray.empty, ⟨[], none, 0⟩⟩⟩
def EntryR.cells (x : EntryR) : List Value := [.int .i64 x.id, .int .i64 x.entity, .int .i64 x.date, .int .i64 x.kind, .int .i64 x.of, .string x.text, x.lines.val]
theorem EntryR.len (x : EntryR) : x.cells.length = 7 := rfl
def EntryR.Ok (w : World) (x : EntryR) : Prop := Wf x.id ∧ Wf x.entity ∧ Wf x.date ∧ Wf x.kind ∧ Wf x.of ∧ x.text.size ≤ maxLen ∧ (x.lines.Lies w LineR.cells 3 ∧ ∀ y ∈ x.lines.l, LineR.Ok w y)
theorem EntryR.Ok.step {w w2 : World} {x : EntryR} (h : x.Ok w) (hb : Below w.heap.size w w2) : x.Ok w2 := ⟨h.1, h.2.1, h.2.2.1, h.2.2.2.1, h.2.2.2.2.1, h.2.2.2.2.2.1, ⟨(h.2.2.2.2.2.2).1.step hb, fun y hy => ((h.2.2.2.2.2.2).2 y hy).step hb⟩⟩
theorem EntryR.at_ {w : World} {B : Nat} {A : Option Addr} {l : List EntryR} (h : Rd w B 7 A l.length (cellsOf EntryR.cells l)) {k : Nat} (hk : k < l.length) :
    ∃ b o, A = some ⟨b, o, none⟩ ∧ b < B ∧ w.cell? ⟨b, o + k * 7, none⟩ = some (.int .i64 l[k].id) ∧ w.cell? ⟨b, o + k * 7 + 1, none⟩ = some (.int .i64 l[k].entity) ∧ w.cell? ⟨b, o + k * 7 + 2, none⟩ = some (.int .i64 l[k].date) ∧ w.cell? ⟨b, o + k * 7 + 3, none⟩ = some (.int .i64 l[k].kind) ∧ w.cell? ⟨b, o + k * 7 + 4, none⟩ = some (.int .i64 l[k].of) ∧ w.cell? ⟨b, o + k * 7 + 5, none⟩ = some (.string l[k].text) ∧ w.cell? ⟨b, o + k * 7 + 6, none⟩ = some (l[k].lines.val) := by
  obtain ⟨b, o, e, hb, hc⟩ := rd_at (f := EntryR.cells) (sz := 7) (fun _ => rfl) h hk
  exact ⟨b, o, e, hb, hc 0 _ rfl, hc 1 _ rfl, hc 2 _ rfl, hc 3 _ rfl, hc 4 _ rfl, hc 5 _ rfl, hc 6 _ rfl⟩
theorem EntryR.one (x : EntryR) : ∀ u ∈ x.cells, u.oneCell' = true := by
  intro u hu
  simp only [EntryR.cells, List.mem_cons, List.not_mem_nil, or_false] at hu
  rcases hu with rfl | rfl | rfl | rfl | rfl | rfl | rfl
  all_goals rfl
theorem EntryR.info : (Tryz.prog.info? 67).map (fun i => (i.zero, i.size, i.bytes)) = some (some (.agg #[.int .i64 0, .int .i64 0, .int .i64 0, .int .i64 0, .int .i64 0, .string ⟨#[]⟩, .slice none 0 0]), 7, 80) := by kernel_rfl
theorem opens_EntryR : Opens enc Tryz.prog w base spare held 67 EntryR.cells (EntryR.Ok w) :=
  (opens_struct Tryz.underlying67 (by kernel_rfl) (opensF_cons (k := 1) (opens_int Tryz.underlying3) rfl (by kernel_rfl) (opensF_cons (k := 1) (opens_int Tryz.underlying3) rfl (by kernel_rfl) (opensF_cons (k := 1) (opens_int Tryz.underlying3) rfl (by kernel_rfl) (opensF_cons (k := 1) (opens_int Tryz.underlying3) rfl (by kernel_rfl) (opensF_cons (k := 1) (opens_int Tryz.underlying3) rfl (by kernel_rfl) (opensF_cons (k := 1) (opens_string Tryz.underlying9) rfl (by kernel_rfl) (opensF_cons (k := 1) (opens_slice Tryz.underlying65 (by kernel_rfl) (by decide) LineR.len opens_LineR) rfl (by kernel_rfl) (opensF_nil _))))))))).map (fun p => ⟨p.1, p.2.1, p.2.2.1, p.2.2.2.1, p.2.2.2.2.1, p.2.2.2.2.2.1, p.2.2.2.2.2.2.1⟩) (fun _ => rfl) (fun _ h => ⟨h.1, h.2.1, h.2.2.1, h.2.2.2.1, h.2.2.2.2.1, h.2.2.2.2.2.1, h.2.2.2.2.2.2.1⟩)
structure RateR where
  currency : ByteArray
  kind : Int
  when_ : Int
  value : Int

instance inhRateR : Inhabited RateR := ⟨⟨ByteArray.empty, 0, 0, 0⟩⟩
def RateR.cells (x : RateR) : List Value := [.string x.currency, .int .i64 x.kind, .int .i64 x.when_, .int .i64 x.value]
theorem RateR.len (x : RateR) : x.cells.length = 4 := rfl
def RateR.Ok (w : World) (x : RateR) : Prop := x.currency.size ≤ maxLen ∧ Wf x.kind ∧ Wf x.when_ ∧ Wf x.value
theorem RateR.Ok.step {w w2 : World} {x : RateR} (h : x.Ok w) (hb : Below w.heap.size w w2) : x.Ok w2 := ⟨h.1, h.2.1, h.2.2.1, h.2.2.2⟩
theorem RateR.at_ {w : World} {B : Nat} {A : Option Addr} {l : List RateR} (h : Rd w B 4 A l.length (cellsOf RateR.cells l)) {k : Nat} (hk : k < l.length) :
    ∃ b o, A = some ⟨b, o, none⟩ ∧ b < B ∧ w.cell? ⟨b, o + k * 4, none⟩ = some (.string l[k].currency) ∧ w.cell? ⟨b, o + k * 4 + 1, none⟩ = some (.int .i64 l[k].kind) ∧ w.cell? ⟨b, o + k * 4 + 2, none⟩ = some (.int .i64 l[k].when_) ∧ w.cell? ⟨b, o + k * 4 + 3, none⟩ = some (.int .i64 l[k].value) := by
  obtain ⟨b, o, e, hb, hc⟩ := rd_at (f := RateR.cells) (sz := 4) (fun _ => rfl) h hk
  exact ⟨b, o, e, hb, hc 0 _ rfl, hc 1 _ rfl, hc 2 _ rfl, hc 3 _ rfl⟩
theorem RateR.one (x : RateR) : ∀ u ∈ x.cells, u.oneCell' = true := by
  intro u hu
  simp only [RateR.cells, List.mem_cons, List.not_mem_nil, or_false] at hu
  rcases hu with rfl | rfl | rfl | rfl
  all_goals rfl
theorem RateR.info : (Tryz.prog.info? 205).map (fun i => (i.zero, i.size, i.bytes)) = some (some (.agg #[.string ⟨#[]⟩, .int .i64 0, .int .i64 0, .int .i64 0]), 4, 40) := by kernel_rfl
theorem opens_RateR : Opens enc Tryz.prog w base spare held 205 RateR.cells (RateR.Ok w) :=
  (opens_struct Tryz.underlying205 (by kernel_rfl) (opensF_cons (k := 1) (opens_string Tryz.underlying9) rfl (by kernel_rfl) (opensF_cons (k := 1) (opens_int Tryz.underlying3) rfl (by kernel_rfl) (opensF_cons (k := 1) (opens_int Tryz.underlying3) rfl (by kernel_rfl) (opensF_cons (k := 1) (opens_int Tryz.underlying3) rfl (by kernel_rfl) (opensF_nil _)))))).map (fun p => ⟨p.1, p.2.1, p.2.2.1, p.2.2.2.1⟩) (fun _ => rfl) (fun _ h => ⟨h.1, h.2.1, h.2.2.1, h.2.2.2.1⟩)
structure HoldR where
  holder : Int
  entity : Int
  date : Int
  share : Int

instance inhHoldR : Inhabited HoldR := ⟨⟨0, 0, 0, 0⟩⟩
def HoldR.cells (x : HoldR) : List Value := [.int .i64 x.holder, .int .i64 x.entity, .int .i64 x.date, .int .i64 x.share]
theorem HoldR.len (x : HoldR) : x.cells.length = 4 := rfl
def HoldR.Ok (w : World) (x : HoldR) : Prop := Wf x.holder ∧ Wf x.entity ∧ Wf x.date ∧ Wf x.share
theorem HoldR.Ok.step {w w2 : World} {x : HoldR} (h : x.Ok w) (hb : Below w.heap.size w w2) : x.Ok w2 := ⟨h.1, h.2.1, h.2.2.1, h.2.2.2⟩
theorem HoldR.at_ {w : World} {B : Nat} {A : Option Addr} {l : List HoldR} (h : Rd w B 4 A l.length (cellsOf HoldR.cells l)) {k : Nat} (hk : k < l.length) :
    ∃ b o, A = some ⟨b, o, none⟩ ∧ b < B ∧ w.cell? ⟨b, o + k * 4, none⟩ = some (.int .i64 l[k].holder) ∧ w.cell? ⟨b, o + k * 4 + 1, none⟩ = some (.int .i64 l[k].entity) ∧ w.cell? ⟨b, o + k * 4 + 2, none⟩ = some (.int .i64 l[k].date) ∧ w.cell? ⟨b, o + k * 4 + 3, none⟩ = some (.int .i64 l[k].share) := by
  obtain ⟨b, o, e, hb, hc⟩ := rd_at (f := HoldR.cells) (sz := 4) (fun _ => rfl) h hk
  exact ⟨b, o, e, hb, hc 0 _ rfl, hc 1 _ rfl, hc 2 _ rfl, hc 3 _ rfl⟩
theorem HoldR.one (x : HoldR) : ∀ u ∈ x.cells, u.oneCell' = true := by
  intro u hu
  simp only [HoldR.cells, List.mem_cons, List.not_mem_nil, or_false] at hu
  rcases hu with rfl | rfl | rfl | rfl
  all_goals rfl
theorem HoldR.info : (Tryz.prog.info? 207).map (fun i => (i.zero, i.size, i.bytes)) = some (some (.agg #[.int .i64 0, .int .i64 0, .int .i64 0, .int .i64 0]), 4, 32) := by kernel_rfl
theorem opens_HoldR : Opens enc Tryz.prog w base spare held 207 HoldR.cells (HoldR.Ok w) :=
  (opens_struct Tryz.underlying207 (by kernel_rfl) (opensF_cons (k := 1) (opens_int Tryz.underlying3) rfl (by kernel_rfl) (opensF_cons (k := 1) (opens_int Tryz.underlying3) rfl (by kernel_rfl) (opensF_cons (k := 1) (opens_int Tryz.underlying3) rfl (by kernel_rfl) (opensF_cons (k := 1) (opens_int Tryz.underlying3) rfl (by kernel_rfl) (opensF_nil _)))))).map (fun p => ⟨p.1, p.2.1, p.2.2.1, p.2.2.2.1⟩) (fun _ => rfl) (fun _ h => ⟨h.1, h.2.1, h.2.2.1, h.2.2.2.1⟩)
structure MatchR where
  id : Int
  left : Sl RefR
  right : Sl RefR
  state : Int

instance inhMatchR : Inhabited MatchR := ⟨⟨0, ⟨[], none, 0⟩, ⟨[], none, 0⟩, 0⟩⟩
def MatchR.cells (x : MatchR) : List Value := [.int .i64 x.id, x.left.val, x.right.val, .int .i64 x.state]
theorem MatchR.len (x : MatchR) : x.cells.length = 4 := rfl
def MatchR.Ok (w : World) (x : MatchR) : Prop := Wf x.id ∧ (x.left.Lies w RefR.cells 2 ∧ ∀ y ∈ x.left.l, RefR.Ok w y) ∧ (x.right.Lies w RefR.cells 2 ∧ ∀ y ∈ x.right.l, RefR.Ok w y) ∧ Wf x.state
theorem MatchR.Ok.step {w w2 : World} {x : MatchR} (h : x.Ok w) (hb : Below w.heap.size w w2) : x.Ok w2 := ⟨h.1, ⟨(h.2.1).1.step hb, fun y hy => ((h.2.1).2 y hy).step hb⟩, ⟨(h.2.2.1).1.step hb, fun y hy => ((h.2.2.1).2 y hy).step hb⟩, h.2.2.2⟩
theorem MatchR.at_ {w : World} {B : Nat} {A : Option Addr} {l : List MatchR} (h : Rd w B 4 A l.length (cellsOf MatchR.cells l)) {k : Nat} (hk : k < l.length) :
    ∃ b o, A = some ⟨b, o, none⟩ ∧ b < B ∧ w.cell? ⟨b, o + k * 4, none⟩ = some (.int .i64 l[k].id) ∧ w.cell? ⟨b, o + k * 4 + 1, none⟩ = some (l[k].left.val) ∧ w.cell? ⟨b, o + k * 4 + 2, none⟩ = some (l[k].right.val) ∧ w.cell? ⟨b, o + k * 4 + 3, none⟩ = some (.int .i64 l[k].state) := by
  obtain ⟨b, o, e, hb, hc⟩ := rd_at (f := MatchR.cells) (sz := 4) (fun _ => rfl) h hk
  exact ⟨b, o, e, hb, hc 0 _ rfl, hc 1 _ rfl, hc 2 _ rfl, hc 3 _ rfl⟩
theorem MatchR.one (x : MatchR) : ∀ u ∈ x.cells, u.oneCell' = true := by
  intro u hu
  simp only [MatchR.cells, List.mem_cons, List.not_mem_nil, or_false] at hu
  rcases hu with rfl | rfl | rfl | rfl
  all_goals rfl
theorem MatchR.info : (Tryz.prog.info? 209).map (fun i => (i.zero, i.size, i.bytes)) = some (some (.agg #[.int .i64 0, .slice none 0 0, .slice none 0 0, .int .i64 0]), 4, 64) := by kernel_rfl
theorem opens_MatchR : Opens enc Tryz.prog w base spare held 209 MatchR.cells (MatchR.Ok w) :=
  (opens_struct Tryz.underlying209 (by kernel_rfl) (opensF_cons (k := 1) (opens_int Tryz.underlying3) rfl (by kernel_rfl) (opensF_cons (k := 1) (opens_slice Tryz.underlying45 (by kernel_rfl) (by decide) RefR.len opens_RefR) rfl (by kernel_rfl) (opensF_cons (k := 1) (opens_slice Tryz.underlying45 (by kernel_rfl) (by decide) RefR.len opens_RefR) rfl (by kernel_rfl) (opensF_cons (k := 1) (opens_int Tryz.underlying3) rfl (by kernel_rfl) (opensF_nil _)))))).map (fun p => ⟨p.1, p.2.1, p.2.2.1, p.2.2.2.1⟩) (fun _ => rfl) (fun _ h => ⟨h.1, h.2.1, h.2.2.1, h.2.2.2.1⟩)
structure StockR where
  period : Int
  seller : Int
  buyer : Int
  amount : Int
  margin : Int

instance inhStockR : Inhabited StockR := ⟨⟨0, 0, 0, 0, 0⟩⟩
def StockR.cells (x : StockR) : List Value := [.int .i64 x.period, .int .i64 x.seller, .int .i64 x.buyer, .int .i64 x.amount, .int .i64 x.margin]
theorem StockR.len (x : StockR) : x.cells.length = 5 := rfl
def StockR.Ok (w : World) (x : StockR) : Prop := Wf x.period ∧ Wf x.seller ∧ Wf x.buyer ∧ Wf x.amount ∧ Wf x.margin
theorem StockR.Ok.step {w w2 : World} {x : StockR} (h : x.Ok w) (hb : Below w.heap.size w w2) : x.Ok w2 := ⟨h.1, h.2.1, h.2.2.1, h.2.2.2.1, h.2.2.2.2⟩
theorem StockR.at_ {w : World} {B : Nat} {A : Option Addr} {l : List StockR} (h : Rd w B 5 A l.length (cellsOf StockR.cells l)) {k : Nat} (hk : k < l.length) :
    ∃ b o, A = some ⟨b, o, none⟩ ∧ b < B ∧ w.cell? ⟨b, o + k * 5, none⟩ = some (.int .i64 l[k].period) ∧ w.cell? ⟨b, o + k * 5 + 1, none⟩ = some (.int .i64 l[k].seller) ∧ w.cell? ⟨b, o + k * 5 + 2, none⟩ = some (.int .i64 l[k].buyer) ∧ w.cell? ⟨b, o + k * 5 + 3, none⟩ = some (.int .i64 l[k].amount) ∧ w.cell? ⟨b, o + k * 5 + 4, none⟩ = some (.int .i64 l[k].margin) := by
  obtain ⟨b, o, e, hb, hc⟩ := rd_at (f := StockR.cells) (sz := 5) (fun _ => rfl) h hk
  exact ⟨b, o, e, hb, hc 0 _ rfl, hc 1 _ rfl, hc 2 _ rfl, hc 3 _ rfl, hc 4 _ rfl⟩
theorem StockR.one (x : StockR) : ∀ u ∈ x.cells, u.oneCell' = true := by
  intro u hu
  simp only [StockR.cells, List.mem_cons, List.not_mem_nil, or_false] at hu
  rcases hu with rfl | rfl | rfl | rfl | rfl
  all_goals rfl
theorem StockR.info : (Tryz.prog.info? 211).map (fun i => (i.zero, i.size, i.bytes)) = some (some (.agg #[.int .i64 0, .int .i64 0, .int .i64 0, .int .i64 0, .int .i64 0]), 5, 40) := by kernel_rfl
theorem opens_StockR : Opens enc Tryz.prog w base spare held 211 StockR.cells (StockR.Ok w) :=
  (opens_struct Tryz.underlying211 (by kernel_rfl) (opensF_cons (k := 1) (opens_int Tryz.underlying3) rfl (by kernel_rfl) (opensF_cons (k := 1) (opens_int Tryz.underlying3) rfl (by kernel_rfl) (opensF_cons (k := 1) (opens_int Tryz.underlying3) rfl (by kernel_rfl) (opensF_cons (k := 1) (opens_int Tryz.underlying3) rfl (by kernel_rfl) (opensF_cons (k := 1) (opens_int Tryz.underlying3) rfl (by kernel_rfl) (opensF_nil _))))))).map (fun p => ⟨p.1, p.2.1, p.2.2.1, p.2.2.2.1, p.2.2.2.2.1⟩) (fun _ => rfl) (fun _ h => ⟨h.1, h.2.1, h.2.2.1, h.2.2.2.1, h.2.2.2.2.1⟩)
structure BooksR where
  group : GrpR
  entries : Sl EntryR
  rates : Sl RateR
  holdings : Sl HoldR
  matchs : Sl MatchR
  stocks : Sl StockR
  rules : ByteArray

instance inhBooksR : Inhabited BooksR := ⟨⟨default, ⟨[], none, 0⟩, ⟨[], none, 0⟩, ⟨[], none, 0⟩, ⟨[], none, 0⟩, ⟨[], none, 0⟩, ByteArray.empty⟩⟩
def BooksR.cells (x : BooksR) : List Value := [.string x.group.currency, .int .i64 x.group.calendar.year, .int .i64 x.group.calendar.month, .int .i64 x.group.calendar.periods, x.group.chart.val, .int .i64 x.group.roles.investment, .int .i64 x.group.roles.goodwill, .int .i64 x.group.roles.associates, .int .i64 x.group.roles.inventory, .int .i64 x.group.roles.reserve, .int .i64 x.group.roles.minority, .int .i64 x.group.roles.retained, .int .i64 x.group.roles.acquired, .int .i64 x.group.roles.owners, .int .i64 x.group.roles.disposal, .int .i64 x.group.roles.associateProfit, .int .i64 x.group.roles.dividends, .int .i64 x.group.roles.minorityProfit, .int .i64 x.group.roles.difference, .int .i64 x.group.roles.margin, x.group.entities.val, x.entries.val, x.rates.val, x.holdings.val, x.matchs.val, x.stocks.val, .string x.rules]
theorem BooksR.len (x : BooksR) : x.cells.length = 27 := rfl
def BooksR.Ok (w : World) (x : BooksR) : Prop := GrpR.Ok w x.group ∧ (x.entries.Lies w EntryR.cells 7 ∧ ∀ y ∈ x.entries.l, EntryR.Ok w y) ∧ (x.rates.Lies w RateR.cells 4 ∧ ∀ y ∈ x.rates.l, RateR.Ok w y) ∧ (x.holdings.Lies w HoldR.cells 4 ∧ ∀ y ∈ x.holdings.l, HoldR.Ok w y) ∧ (x.matchs.Lies w MatchR.cells 4 ∧ ∀ y ∈ x.matchs.l, MatchR.Ok w y) ∧ (x.stocks.Lies w StockR.cells 5 ∧ ∀ y ∈ x.stocks.l, StockR.Ok w y) ∧ x.rules.size ≤ maxLen
theorem BooksR.Ok.step {w w2 : World} {x : BooksR} (h : x.Ok w) (hb : Below w.heap.size w w2) : x.Ok w2 := ⟨(h.1).step hb, ⟨(h.2.1).1.step hb, fun y hy => ((h.2.1).2 y hy).step hb⟩, ⟨(h.2.2.1).1.step hb, fun y hy => ((h.2.2.1).2 y hy).step hb⟩, ⟨(h.2.2.2.1).1.step hb, fun y hy => ((h.2.2.2.1).2 y hy).step hb⟩, ⟨(h.2.2.2.2.1).1.step hb, fun y hy => ((h.2.2.2.2.1).2 y hy).step hb⟩, ⟨(h.2.2.2.2.2.1).1.step hb, fun y hy => ((h.2.2.2.2.2.1).2 y hy).step hb⟩, h.2.2.2.2.2.2⟩
theorem BooksR.at_ {w : World} {B : Nat} {A : Option Addr} {l : List BooksR} (h : Rd w B 27 A l.length (cellsOf BooksR.cells l)) {k : Nat} (hk : k < l.length) :
    ∃ b o, A = some ⟨b, o, none⟩ ∧ b < B ∧ w.cell? ⟨b, o + k * 27, none⟩ = some (.string l[k].group.currency) ∧ w.cell? ⟨b, o + k * 27 + 1, none⟩ = some (.int .i64 l[k].group.calendar.year) ∧ w.cell? ⟨b, o + k * 27 + 2, none⟩ = some (.int .i64 l[k].group.calendar.month) ∧ w.cell? ⟨b, o + k * 27 + 3, none⟩ = some (.int .i64 l[k].group.calendar.periods) ∧ w.cell? ⟨b, o + k * 27 + 4, none⟩ = some (l[k].group.chart.val) ∧ w.cell? ⟨b, o + k * 27 + 5, none⟩ = some (.int .i64 l[k].group.roles.investment) ∧ w.cell? ⟨b, o + k * 27 + 6, none⟩ = some (.int .i64 l[k].group.roles.goodwill) ∧ w.cell? ⟨b, o + k * 27 + 7, none⟩ = some (.int .i64 l[k].group.roles.associates) ∧ w.cell? ⟨b, o + k * 27 + 8, none⟩ = some (.int .i64 l[k].group.roles.inventory) ∧ w.cell? ⟨b, o + k * 27 + 9, none⟩ = some (.int .i64 l[k].group.roles.reserve) ∧ w.cell? ⟨b, o + k * 27 + 10, none⟩ = some (.int .i64 l[k].group.roles.minority) ∧ w.cell? ⟨b, o + k * 27 + 11, none⟩ = some (.int .i64 l[k].group.roles.retained) ∧ w.cell? ⟨b, o + k * 27 + 12, none⟩ = some (.int .i64 l[k].group.roles.acquired) ∧ w.cell? ⟨b, o + k * 27 + 13, none⟩ = some (.int .i64 l[k].group.roles.owners) ∧ w.cell? ⟨b, o + k * 27 + 14, none⟩ = some (.int .i64 l[k].group.roles.disposal) ∧ w.cell? ⟨b, o + k * 27 + 15, none⟩ = some (.int .i64 l[k].group.roles.associateProfit) ∧ w.cell? ⟨b, o + k * 27 + 16, none⟩ = some (.int .i64 l[k].group.roles.dividends) ∧ w.cell? ⟨b, o + k * 27 + 17, none⟩ = some (.int .i64 l[k].group.roles.minorityProfit) ∧ w.cell? ⟨b, o + k * 27 + 18, none⟩ = some (.int .i64 l[k].group.roles.difference) ∧ w.cell? ⟨b, o + k * 27 + 19, none⟩ = some (.int .i64 l[k].group.roles.margin) ∧ w.cell? ⟨b, o + k * 27 + 20, none⟩ = some (l[k].group.entities.val) ∧ w.cell? ⟨b, o + k * 27 + 21, none⟩ = some (l[k].entries.val) ∧ w.cell? ⟨b, o + k * 27 + 22, none⟩ = some (l[k].rates.val) ∧ w.cell? ⟨b, o + k * 27 + 23, none⟩ = some (l[k].holdings.val) ∧ w.cell? ⟨b, o + k * 27 + 24, none⟩ = some (l[k].matchs.val) ∧ w.cell? ⟨b, o + k * 27 + 25, none⟩ = some (l[k].stocks.val) ∧ w.cell? ⟨b, o + k * 27 + 26, none⟩ = some (.string l[k].rules) := by
  obtain ⟨b, o, e, hb, hc⟩ := rd_at (f := BooksR.cells) (sz := 27) (fun _ => rfl) h hk
  exact ⟨b, o, e, hb, hc 0 _ rfl, hc 1 _ rfl, hc 2 _ rfl, hc 3 _ rfl, hc 4 _ rfl, hc 5 _ rfl, hc 6 _ rfl, hc 7 _ rfl, hc 8 _ rfl, hc 9 _ rfl, hc 10 _ rfl, hc 11 _ rfl, hc 12 _ rfl, hc 13 _ rfl, hc 14 _ rfl, hc 15 _ rfl, hc 16 _ rfl, hc 17 _ rfl, hc 18 _ rfl, hc 19 _ rfl, hc 20 _ rfl, hc 21 _ rfl, hc 22 _ rfl, hc 23 _ rfl, hc 24 _ rfl, hc 25 _ rfl, hc 26 _ rfl⟩
theorem BooksR.one (x : BooksR) : ∀ u ∈ x.cells, u.oneCell' = true := by
  intro u hu
  simp only [BooksR.cells, List.mem_cons, List.not_mem_nil, or_false] at hu
  rcases hu with rfl | rfl | rfl | rfl | rfl | rfl | rfl | rfl | rfl | rfl | rfl | rfl | rfl | rfl | rfl | rfl | rfl | rfl | rfl | rfl | rfl | rfl | rfl | rfl | rfl | rfl | rfl
  all_goals rfl
theorem BooksR.info : (Tryz.prog.info? 36).map (fun i => (i.zero, i.size, i.bytes)) = some (some (.agg #[.string ⟨#[]⟩, .int .i64 0, .int .i64 0, .int .i64 0, .slice none 0 0, .int .i64 0, .int .i64 0, .int .i64 0, .int .i64 0, .int .i64 0, .int .i64 0, .int .i64 0, .int .i64 0, .int .i64 0, .int .i64 0, .int .i64 0, .int .i64 0, .int .i64 0, .int .i64 0, .int .i64 0, .slice none 0 0, .slice none 0 0, .slice none 0 0, .slice none 0 0, .slice none 0 0, .slice none 0 0, .string ⟨#[]⟩]), 27, 344) := by kernel_rfl
theorem opens_BooksR : Opens enc Tryz.prog w base spare held 36 BooksR.cells (BooksR.Ok w) :=
  (opens_struct Tryz.underlying36 (by kernel_rfl) (opensF_cons (k := 21) (opens_GrpR) rfl (by kernel_rfl) (opensF_cons (k := 1) (opens_slice Tryz.underlying30 (by kernel_rfl) (by decide) EntryR.len opens_EntryR) rfl (by kernel_rfl) (opensF_cons (k := 1) (opens_slice Tryz.underlying31 (by kernel_rfl) (by decide) RateR.len opens_RateR) rfl (by kernel_rfl) (opensF_cons (k := 1) (opens_slice Tryz.underlying32 (by kernel_rfl) (by decide) HoldR.len opens_HoldR) rfl (by kernel_rfl) (opensF_cons (k := 1) (opens_slice Tryz.underlying33 (by kernel_rfl) (by decide) MatchR.len opens_MatchR) rfl (by kernel_rfl) (opensF_cons (k := 1) (opens_slice Tryz.underlying34 (by kernel_rfl) (by decide) StockR.len opens_StockR) rfl (by kernel_rfl) (opensF_cons (k := 1) (opens_string Tryz.underlying9) rfl (by kernel_rfl) (opensF_nil _))))))))).map (fun p => ⟨p.1, p.2.1, p.2.2.1, p.2.2.2.1, p.2.2.2.2.1, p.2.2.2.2.2.1, p.2.2.2.2.2.2.1⟩) (fun _ => rfl) (fun _ h => ⟨h.1, h.2.1, h.2.2.1, h.2.2.2.1, h.2.2.2.2.1, h.2.2.2.2.2.1, h.2.2.2.2.2.2.1⟩)
end Go.Proofs.YtnddoehhcpejjaaGreat
