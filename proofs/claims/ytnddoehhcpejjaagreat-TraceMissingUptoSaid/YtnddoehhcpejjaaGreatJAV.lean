/- Texts of this claim, put together. -/
import Derived.Test.YtnddoehhcpejjaaGreatJAR
import Derived.Test.YtnddoehhcpejjaaGreatJAU
import Derived.WalkSpells
import Derived.Lib.SliceRun
import Derived.Test.YtnddoehhcpejjaaGreatJAA
import Derived.Test.YtnddoehhcpejjaaGreatJAK
import Derived.WideKeyEntry
/- The walks of slices.Clone at structs, and of an entry's copy. -/
namespace Go.Proofs.YtnddoehhcpejjaaGreat
set_option linter.unusedVariables false
set_option linter.unusedSimpArgs false
open Go.RowKit

/-- a slice of a call's own -/
def OwnL {α : Type} (f : α → List Value) (base : Nat) (e : TypeId) (sz : Nat) (w : World) (s : Sl α) : Prop := w.ownsRow base e sz s.val s.l.length (cellsOf f s.l)
def ClonePost {α : Type} (f : α → List Value) (e : TypeId) (sz : Nat) (l : List α) (w : World) (en : Ending) (w' : World) : Prop :=
  ∃ (A2 : Option Addr) (c2 : Nat), en = .returned (.slice A2 l.length c2) ∧ OwnL f w.heap.size e sz w' ⟨l, A2, c2⟩ ∧ Below w.heap.size w w'
theorem OwnL.lies {α : Type} {f : α → List Value} {base : Nat} {e : TypeId} {sz : Nat} {w : World} {s : Sl α} (h : OwnL f base e sz w s) : s.Lies w f sz := by
  obtain ⟨l, A, c⟩ := s
  obtain ⟨A', c', he, hr⟩ := Rd.of_own h
  unfold Sl.val at he
  dsimp only at he
  injection he with h1 _ h3
  subst h1 h3
  refine ⟨hr, ?_⟩
  unfold OwnL Sl.val at h
  dsimp only at h ⊢
  rcases h.2 with ⟨hv, h0⟩ | ⟨g, cap, cur, hv, _, _, hnc, hcm, _⟩
  · injection hv with _ hv2 hv3
    rw [h0]
    exact ⟨by omega, by rw [hv3]; decide⟩
  · injection hv with _ _ hv3
    subst hv3
    exact ⟨hnc, hcm⟩
theorem Acc.info : (Tryz.prog.info? 121).map (fun i => (i.zero, i.size, i.bytes)) = some (some (.agg #[.int .i64 0, .int .i64 0, .int .i64 0, .int .i64 0]), 4, 32) := by kernel_rfl
theorem Acc.one (x : Acc) : ∀ u ∈ Acc.cells x, u.oneCell' = true := by
  intro u hu
  simp only [Acc.cells, Ch.cells1, List.mem_cons, List.not_mem_nil, or_false] at hu
  rcases hu with rfl | rfl | rfl | rfl
  all_goals rfl
set_option maxRecDepth 100000 in
set_option maxHeartbeats 2000000 in
theorem cloneAcc_any (l : List Acc) (A : Option Addr) (cap : Nat) (w : World) (hr : Rd w w.heap.size 4 A l.length (cellsOf Acc.cells l)) (hn : l.length ≤ 1000000) :
    Calls Tryz.prog 61 #[.slice A l.length cap] w (ClonePost Acc.cells 121 4 l w) := by
  have hnil : ∀ (w : World) (a : Option Addr) (n c n' c' : Nat), (binOp .eql 24 (.slice a n c) (.slice none n' c')).run Tryz.prog w = .ok (.bool a.isNone) w := fun w a n c n' c' => Lib.run_eql_slice_nil w _ _ a n c n' c' Tryz.underlying24
  have HR := Lib.hid hr
  clear hr
  obtain ⟨i0, hi, hz0, hz1, hz2⟩ := info_parts Acc.info
  cases A with
  | none =>
    have hl : l = [] := by
      rcases Nat.eq_zero_or_pos l.length with h0 | h0
      · exact List.eq_nil_of_length_eq_zero h0
      · obtain ⟨b, o, h, _⟩ := HR.out.2 h0
        cases h
    subst hl
    go_enter Tryz.func61, Tryz.ntmps61
    go_wp2_with fail
    go_ret
    exact ⟨none, 0, rfl, World.ownsRow_nil _ _ _ _, Below.refl _ _⟩
  | some ad =>
    go_enter Tryz.func61, Tryz.ntmps61
    go_wp2_with (at_builtin; (refine wpList_append_any _ rfl (.tmp 5) (.tmp 6) 24 rfl w.heap.size 121 i0 (.agg #[.int .i64 0, .int .i64 0, .int .i64 0, .int .i64 0]) 4 32 Tryz.underlying24 hi hz0 hz1 hz2 rfl (by decide) _ 0 [] rfl (own_empty w 121 w.heap.size 4 0 (Nat.le_refl _) #[] rfl (by decide)) w.heap.size (some ad) l.length cap (cellsOf Acc.cells l) rfl (HR.out.alloc (Nat.le_refl _) _) (cells_one Acc.one l) (by simp only [maxLen]; omega) (by omega) (by simp) ?_))
    intro v7 w7 ho7 hg7
    have hb7 : Below w.heap.size w w7 := bel_own ((Below.refl _ _).alloc (Nat.le_refl _) _) (by simp) (own_empty w 121 w.heap.size 4 0 (Nat.le_refl _) #[] rfl (by decide)) hg7
    obtain ⟨A2, c2, rfl, -⟩ := Rd.of_own ho7
    have HO := Lib.hid ho7
    clear hg7 ho7
    go_wp2_with fail
    go_ret
    exact ⟨A2, c2, rfl, HO.out, hb7⟩
set_option maxRecDepth 100000 in
set_option maxHeartbeats 2000000 in
theorem cloneEnt_any (l : List EntR) (A : Option Addr) (cap : Nat) (w : World) (hr : Rd w w.heap.size 5 A l.length (cellsOf EntR.cells l)) (hn : l.length ≤ 1000000) :
    Calls Tryz.prog 62 #[.slice A l.length cap] w (ClonePost EntR.cells 90 5 l w) := by
  have hnil : ∀ (w : World) (a : Option Addr) (n c n' c' : Nat), (binOp .eql 27 (.slice a n c) (.slice none n' c')).run Tryz.prog w = .ok (.bool a.isNone) w := fun w a n c n' c' => Lib.run_eql_slice_nil w _ _ a n c n' c' Tryz.underlying27
  have HR := Lib.hid hr
  clear hr
  obtain ⟨i0, hi, hz0, hz1, hz2⟩ := info_parts EntR.info
  cases A with
  | none =>
    have hl : l = [] := by
      rcases Nat.eq_zero_or_pos l.length with h0 | h0
      · exact List.eq_nil_of_length_eq_zero h0
      · obtain ⟨b, o, h, _⟩ := HR.out.2 h0
        cases h
    subst hl
    go_enter Tryz.func62, Tryz.ntmps62
    go_wp2_with fail
    go_ret
    exact ⟨none, 0, rfl, World.ownsRow_nil _ _ _ _, Below.refl _ _⟩
  | some ad =>
    go_enter Tryz.func62, Tryz.ntmps62
    go_wp2_with (at_builtin; (refine wpList_append_any _ rfl (.tmp 5) (.tmp 6) 27 rfl w.heap.size 90 i0 (.agg #[.string ⟨#[]⟩, .string ⟨#[]⟩, .slice none 0 0, .slice none 0 0, .bool false]) 5 88 Tryz.underlying27 hi hz0 hz1 hz2 rfl (by decide) _ 0 [] rfl (own_empty w 90 w.heap.size 5 0 (Nat.le_refl _) #[] rfl (by decide)) w.heap.size (some ad) l.length cap (cellsOf EntR.cells l) rfl (HR.out.alloc (Nat.le_refl _) _) (cells_one EntR.one l) (by simp only [maxLen]; omega) (by omega) (by simp) ?_))
    intro v7 w7 ho7 hg7
    have hb7 : Below w.heap.size w w7 := bel_own ((Below.refl _ _).alloc (Nat.le_refl _) _) (by simp) (own_empty w 90 w.heap.size 5 0 (Nat.le_refl _) #[] rfl (by decide)) hg7
    obtain ⟨A2, c2, rfl, -⟩ := Rd.of_own ho7
    have HO := Lib.hid ho7
    clear hg7 ho7
    go_wp2_with fail
    go_ret
    exact ⟨A2, c2, rfl, HO.out, hb7⟩
set_option maxRecDepth 100000 in
set_option maxHeartbeats 2000000 in
theorem cloneLink_any (l : List LinkR) (A : Option Addr) (cap : Nat) (w : World) (hr : Rd w w.heap.size 3 A l.length (cellsOf LinkR.cells l)) (hn : l.length ≤ 1000000) :
    Calls Tryz.prog 63 #[.slice A l.length cap] w (ClonePost LinkR.cells 126 3 l w) := by
  have hnil : ∀ (w : World) (a : Option Addr) (n c n' c' : Nat), (binOp .eql 88 (.slice a n c) (.slice none n' c')).run Tryz.prog w = .ok (.bool a.isNone) w := fun w a n c n' c' => Lib.run_eql_slice_nil w _ _ a n c n' c' Tryz.underlying88
  have HR := Lib.hid hr
  clear hr
  obtain ⟨i0, hi, hz0, hz1, hz2⟩ := info_parts LinkR.info
  cases A with
  | none =>
    have hl : l = [] := by
      rcases Nat.eq_zero_or_pos l.length with h0 | h0
      · exact List.eq_nil_of_length_eq_zero h0
      · obtain ⟨b, o, h, _⟩ := HR.out.2 h0
        cases h
    subst hl
    go_enter Tryz.func63, Tryz.ntmps63
    go_wp2_with fail
    go_ret
    exact ⟨none, 0, rfl, World.ownsRow_nil _ _ _ _, Below.refl _ _⟩
  | some ad =>
    go_enter Tryz.func63, Tryz.ntmps63
    go_wp2_with (at_builtin; (refine wpList_append_any _ rfl (.tmp 5) (.tmp 6) 88 rfl w.heap.size 126 i0 (.agg #[.int .i64 0, .int .i64 0, .int .i64 0]) 3 24 Tryz.underlying88 hi hz0 hz1 hz2 rfl (by decide) _ 0 [] rfl (own_empty w 126 w.heap.size 3 0 (Nat.le_refl _) #[] rfl (by decide)) w.heap.size (some ad) l.length cap (cellsOf LinkR.cells l) rfl (HR.out.alloc (Nat.le_refl _) _) (cells_one LinkR.one l) (by simp only [maxLen]; omega) (by omega) (by simp) ?_))
    intro v7 w7 ho7 hg7
    have hb7 : Below w.heap.size w w7 := bel_own ((Below.refl _ _).alloc (Nat.le_refl _) _) (by simp) (own_empty w 126 w.heap.size 3 0 (Nat.le_refl _) #[] rfl (by decide)) hg7
    obtain ⟨A2, c2, rfl, -⟩ := Rd.of_own ho7
    have HO := Lib.hid ho7
    clear hg7 ho7
    go_wp2_with fail
    go_ret
    exact ⟨A2, c2, rfl, HO.out, hb7⟩
set_option maxRecDepth 100000 in
set_option maxHeartbeats 2000000 in
theorem cloneLine_any (l : List LineR) (A : Option Addr) (cap : Nat) (w : World) (hr : Rd w w.heap.size 3 A l.length (cellsOf LineR.cells l)) (hn : l.length ≤ 1000000) :
    Calls Tryz.prog 69 #[.slice A l.length cap] w (ClonePost LineR.cells 69 3 l w) := by
  have hnil : ∀ (w : World) (a : Option Addr) (n c n' c' : Nat), (binOp .eql 65 (.slice a n c) (.slice none n' c')).run Tryz.prog w = .ok (.bool a.isNone) w := fun w a n c n' c' => Lib.run_eql_slice_nil w _ _ a n c n' c' Tryz.underlying65
  have HR := Lib.hid hr
  clear hr
  obtain ⟨i0, hi, hz0, hz1, hz2⟩ := info_parts LineR.info
  cases A with
  | none =>
    have hl : l = [] := by
      rcases Nat.eq_zero_or_pos l.length with h0 | h0
      · exact List.eq_nil_of_length_eq_zero h0
      · obtain ⟨b, o, h, _⟩ := HR.out.2 h0
        cases h
    subst hl
    go_enter Tryz.func69, Tryz.ntmps69
    go_wp2_with fail
    go_ret
    exact ⟨none, 0, rfl, World.ownsRow_nil _ _ _ _, Below.refl _ _⟩
  | some ad =>
    go_enter Tryz.func69, Tryz.ntmps69
    go_wp2_with (at_builtin; (refine wpList_append_any _ rfl (.tmp 5) (.tmp 6) 65 rfl w.heap.size 69 i0 (.agg #[.int .i64 0, .int .i64 0, .int .i64 0]) 3 24 Tryz.underlying65 hi hz0 hz1 hz2 rfl (by decide) _ 0 [] rfl (own_empty w 69 w.heap.size 3 0 (Nat.le_refl _) #[] rfl (by decide)) w.heap.size (some ad) l.length cap (cellsOf LineR.cells l) rfl (HR.out.alloc (Nat.le_refl _) _) (cells_one LineR.one l) (by simp only [maxLen]; omega) (by omega) (by simp) ?_))
    intro v7 w7 ho7 hg7
    have hb7 : Below w.heap.size w w7 := bel_own ((Below.refl _ _).alloc (Nat.le_refl _) _) (by simp) (own_empty w 69 w.heap.size 3 0 (Nat.le_refl _) #[] rfl (by decide)) hg7
    obtain ⟨A2, c2, rfl, -⟩ := Rd.of_own ho7
    have HO := Lib.hid ho7
    clear hg7 ho7
    go_wp2_with fail
    go_ret
    exact ⟨A2, c2, rfl, HO.out, hb7⟩
def zeroEn : Array Value := #[.int .i64 0, .int .i64 0, .int .i64 0, .int .i64 0, .int .i64 0, .string ⟨#[]⟩, .slice none 0 0]
def CopyPost (id en da kd fo : Int) (tx : ByteArray) (ll : List LineR) (w : World) (e : Ending) (w' : World) : Prop :=
  ∃ (A2 : Option Addr) (c2 : Nat), e = .returned (.agg #[.int .i64 id, .int .i64 en, .int .i64 da, .int .i64 kd, .int .i64 fo, .string tx, .slice A2 ll.length c2]) ∧ OwnL LineR.cells w.heap.size 69 3 w' ⟨ll, A2, c2⟩ ∧ Below w.heap.size w w'
theorem OwnL.row {α : Type} {f : α → List Value} {base : Nat} {e : TypeId} {sz : Nat} {w : World} {s : Sl α} (h : OwnL f base e sz w s) {g : Nat} (hg : g < base) (cs : Array Value) : OwnL f base e sz (w.setRow g cs) s :=
  ⟨h.1, h.2.imp id fun ⟨g', cap, cur, h1, h2, h3, h4⟩ => ⟨g', cap, cur, h1, h2, (setRow_other w g g' cs (by omega)).trans h3, h4⟩⟩
theorem OwnL.base_ {α : Type} {f : α → List Value} {base base' : Nat} {e : TypeId} {sz : Nat} {w : World} {s : Sl α} (h : OwnL f base e sz w s) (hB : base' ≤ base) : OwnL f base' e sz w s := own_base h hB
theorem entry_one (id en da kd fo : Int) (tx : ByteArray) (ll : List LineR) (A : Option Addr) (c : Nat) : (#[.int .i64 id, .int .i64 en, .int .i64 da, .int .i64 kd, .int .i64 fo, .string tx, .slice A ll.length c] : Array Value).all (·.oneCell') = true := by
  rw [Array.all_eq_true']
  intro u hu
  exact EntryR.one ⟨id, en, da, kd, fo, tx, ⟨ll, A, c⟩⟩ u (by simpa [EntryR.cells, Sl.val] using hu)
theorem entry_size7 : (Tryz.prog.info? 67).map (·.size) = some 7 := by kernel_rfl
set_option maxRecDepth 100000 in
set_option maxHeartbeats 4000000 in
theorem copied_any (id en da kd fo : Int) (tx : ByteArray) (ll : List LineR) (lA : Option Addr) (lc : Nat) (w : World) (hr : Rd w w.heap.size 3 lA ll.length (cellsOf LineR.cells ll)) (hn : ll.length ≤ 1000) :
    Calls Tryz.prog 42 #[.agg #[.int .i64 id, .int .i64 en, .int .i64 da, .int .i64 kd, .int .i64 fo, .string tx, .slice lA ll.length lc]] w (CopyPost id en da kd fo tx ll w) := by
  have HR := Lib.hid hr
  clear hr
  have hb : Below w.heap.size w ((w.alloc (.cells #[.int .i64 id, .int .i64 en, .int .i64 da, .int .i64 kd, .int .i64 fo, .string tx, .slice lA ll.length lc] 67)).alloc (.cells zeroEn 67)) := ((Below.refl _ _).alloc (Nat.le_refl _) _).alloc (by simp) _
  have HB := Lib.hid ((Blk.new w 67 #[.int .i64 id, .int .i64 en, .int .i64 da, .int .i64 kd, .int .i64 fo, .string tx, .slice lA ll.length lc]).alloc (.cells zeroEn 67))
  have HZ := Lib.hid (blk_new2 w (.cells #[.int .i64 id, .int .i64 en, .int .i64 da, .int .i64 kd, .int .i64 fo, .string tx, .slice lA ll.length lc] 67) 67 zeroEn)
  have hws : w.heap.size + 2 ≤ ((w.alloc (.cells #[.int .i64 id, .int .i64 en, .int .i64 da, .int .i64 kd, .int .i64 fo, .string tx, .slice lA ll.length lc] 67)).alloc (.cells zeroEn 67)).heap.size := by simp
  go_enter Tryz.func42, Tryz.ntmps42
  go_upto_region 1 with fail
  change Code.wp _ _ _ _ ((w.alloc (.cells #[.int .i64 id, .int .i64 en, .int .i64 da, .int .i64 kd, .int .i64 fo, .string tx, .slice lA ll.length lc] 67)).alloc (.cells zeroEn 67))
  generalize (w.alloc (.cells #[.int .i64 id, .int .i64 en, .int .i64 da, .int .i64 kd, .int .i64 fo, .string tx, .slice lA ll.length lc] 67)).alloc (.cells zeroEn 67) = W at *
  have k6 : W.cell? ⟨w.heap.size, 6, none⟩ = some (.slice lA ll.length lc) := HB.out.cell 6
  go_upto_region 2 with (go_at_call 69; refine (cloneLine_any ll lA lc _ (Rd.now HR.out hb) (by omega)).mono ?_; rintro e w5 ⟨A2, c2, rfl, ho5, hb9⟩; have HO5 := Lib.hid ho5; have hb5 := bel hb hb9; have HB5 := Lib.hid (HB.out.step hb9); have HZ5 := Lib.hid (HZ.out.step hb9); clear hb9 ho5; have f6 := HB5.out.frozen 6; have g6 : w5.cell? ⟨w.heap.size, 6, none⟩ = some (.slice lA ll.length lc) := HB5.out.cell 6)
  have HB6 : Hid (Blk (w5.setCell ⟨w.heap.size, 6, none⟩ (.slice A2 ll.length c2)) w.heap.size 67 #[.int .i64 id, .int .i64 en, .int .i64 da, .int .i64 kd, .int .i64 fo, .string tx, .slice A2 ll.length c2]) := Lib.hid (HB5.out.set_ 6 _)
  have HZ6 := Lib.hid (HZ5.out.far (p := ⟨w.heap.size, 6, none⟩) (by show w.heap.size + 1 ≠ w.heap.size; omega) (.slice A2 ll.length c2))
  have HO6 : Hid (OwnL LineR.cells W.heap.size 69 3 (w5.setCell ⟨w.heap.size, 6, none⟩ (.slice A2 ll.length c2)) ⟨ll, A2, c2⟩) := Lib.hid (ownsRow_setCell_below HO5.out (a := ⟨w.heap.size, 6, none⟩) (by show w.heap.size < _; omega) _)
  have hb6 := hb5.setCell (p := ⟨w.heap.size, 6, none⟩) (Nat.le_refl _) (.slice A2 ll.length c2)
  generalize w5.setCell ⟨w.heap.size, 6, none⟩ (.slice A2 ll.length c2) = w6 at *
  clear f6 g6 k6
  go_wp2_with (first
    | (refine wpList_load_blk 67 (.tmp 1) rfl w.heap.size rfl (by kernel_rfl) HB6.out Tryz.underlying67 entry_size7 ?_)
    | ((refine wpList_store_row rfl 67 (.tmp 2) (.tmp 7) rfl (w.heap.size + 1) #[.int .i64 id, .int .i64 en, .int .i64 da, .int .i64 kd, .int .i64 fo, .string tx, .slice A2 ll.length c2] rfl rfl 67 zeroEn HZ6.out entry_size7 rfl (entry_one _ _ _ _ _ _ _ _ _) ?_)))
  refine bodyPost_ret (v := .agg #[.int .i64 id, .int .i64 en, .int .i64 da, .int .i64 kd, .int .i64 fo, .string tx, .slice A2 ll.length c2]) (results_cell_row Tryz.results42 _ _ (w.heap.size + 1) 67 #[.int .i64 id, .int .i64 en, .int .i64 da, .int .i64 kd, .int .i64 fo, .string tx, .slice A2 ll.length c2] (0, 0) _ rfl (blk_row HZ6.out _) Tryz.underlying67 rfl entry_size7) rfl ?_
  exact ⟨A2, c2, rfl, (HO6.out.row (by omega) _).base_ (by omega), below_row hb6 (by omega)⟩
end Go.Proofs.YtnddoehhcpejjaaGreat
/- A region that draws its order and ends in a store: operations that read are taken first, if the store (operation number t) waits for them; blocks below B stay, but for that store. Over any program. -/
namespace Go.Proofs.YtnddoehhcpejjaaGreat
set_option linter.unusedVariables false
set_option linter.unusedSimpArgs false
open Go.RowKit

/-- a world in which all below B is as it was -/
structure LaterB (B : Nat) (w : World) where
  now : World
  below : Below B w now
instance instLaterB (B : Nat) (w : World) : Nonempty (LaterB B w) := ⟨⟨w, Below.refl _ _⟩⟩
theorem LaterB.cell {B : Nat} {w : World} (d : LaterB B w) {b o : Nat} {v : Value} (hb : b < B) (h : w.cell? ⟨b, o, none⟩ = some v) : d.now.cell? ⟨b, o, none⟩ = some v := (d.below.cell (p := ⟨b, o, none⟩) hb).trans h
def NearB (B : Nat) (W w : World) : Prop := ∃ d : LaterB B W, w = d.now
theorem NearB.of {B : Nat} {W w : World} (h : Below B W w) : NearB B W w := ⟨⟨w, h⟩, rfl⟩
theorem NearB.below {B : Nat} {W w : World} (h : NearB B W w) : Below B W w := by obtain ⟨d, rfl⟩ := h; exact d.below
def waitsB (ops : Array Oper) (t i : Nat) : Bool := match ops[t]? with
  | some o => o.after.any fun e => Region.binds .any e && e.on == i
  | none => true
section
variable {P : Program} {ops : Array Oper} {Q : Exit → Act → World → Prop} {S : World → Prop}
def wpAnyT (P : Program) (ops : Array Oper) (Q : Exit → Act → World → Prop) (S : World → Prop) (t : Nat) : Nat → Array Bool → Act → World → Prop
  | 0, listed, a, w => Region.ready .any ops listed = [] ∧ Q .normal a w
  | fuel + 1, listed, a, w =>
    (Region.ready .any ops listed = [] → Q .normal a w) ∧
    ∀ i ∈ Region.ready .any ops listed, wpOp P ops Q i (fun a' w' => (listed.getD t false = true ∨ i = t ∨ S w') ∧ wpAnyT P ops Q S t fuel (listed.setIfInBounds i true) a' w') a w
theorem wpAny_of_tail {t : Nat} : ∀ (fuel : Nat) (listed : Array Bool) (a : Act) (w : World), wpAnyT P ops Q S t fuel listed a w → wpAny P .any ops Q fuel listed a w
  | 0, _, _, _, h => h
  | fuel + 1, _, _, _, h => ⟨h.1, fun i hi => wpOp_mono (fun a' w' h' => wpAny_of_tail fuel _ a' w' h'.2) (h.2 i hi)⟩
theorem getD_false_ne {l : Array Bool} {i t : Nat} (h : i ≠ t) : (l.setIfInBounds i true).getD t false = l.getD t false := by
  simp only [Array.getD_eq_getD_getElem?]
  rw [Array.getElem?_setIfInBounds_ne h]
theorem wpAnyT_first {t i : Nat} {oi : Oper} {v : Value} (hit : i ≠ t) (hwait : waitsB ops t i = true) (hi : ops[i]? = some oi) (hsel : ∀ (j : Nat) (o : Oper) cs b, ops[j]? = some o → o.op ≠ .select cs b)
    (hQ : ∀ c a w, Q (.panic c) (a.put oi.dst v) w → Q (.panic c) a w) :
    ∀ (fuel : Nat) (listed : Array Bool) (a : Act) (w : World), listed.getD t false = false →
      (∀ j oj, ops[j]? = some oj → j ≠ i → listed.getD j true = false → (∀ e ∈ oj.after, Region.binds .any e = true → e.on ≠ i) → oi.apart ops oj = true) →
      i ∈ Region.ready .any ops listed → YieldsIf P ops S oi v a → S w →
      wpAnyT P ops Q S t fuel (listed.setIfInBounds i true) (a.put oi.dst v) w → wpAnyT P ops Q S t (fuel + 1) listed a w := by
  intro fuel
  induction fuel with
  | zero =>
    intro listed a w _ _ hr hy hS H
    refine ⟨fun h => (by rw [h] at hr; cases hr), fun j hj => ?_⟩
    by_cases hji : j = i
    · subst hji; exact hy.wpOp hi hS ⟨.inr (.inr hS), H⟩
    · have := ready_mono hj hji
      rw [H.1] at this
      cases this
  | succ fuel ih =>
    intro listed a w ht hfree hr hy hS H
    refine ⟨fun h => (by rw [h] at hr; cases hr), fun j hj => ?_⟩
    by_cases hji : j = i
    · subst hji; exact hy.wpOp hi hS ⟨.inr (.inr hS), H⟩
    · have h1 := H.2 j (ready_mono hj hji)
      obtain ⟨hjun, oj, hoj, hall⟩ := mem_ready.1 hj
      have hnot : ∀ e ∈ oj.after, Region.binds .any e = true → e.on ≠ i := fun e he hb heq => by
        have h1 := hall e he hb
        have h0 := (mem_ready.1 hr).1
        rw [heq] at h1
        rcases Nat.lt_or_ge i listed.size with h' | h'
        · simp [h'] at h0 h1; rw [h0] at h1; cases h1
        · simp [Array.getElem?_eq_none h'] at h1
      have hjt : j ≠ t := by
        rintro rfl
        unfold waitsB at hwait
        rw [hoj] at hwait
        simp only [Array.any_eq_true, Bool.and_eq_true, beq_iff_eq] at hwait
        obtain ⟨x, hx, hb, he⟩ := hwait
        exact hnot _ (Array.getElem_mem hx) hb he
      have ht1 : (listed.setIfInBounds i true).getD t false = false := by rw [getD_false_ne hit]; exact ht
      have h2 := wpOp_putIf hoj (hfree j oj hoj hji hjun hnot) (fun cs b => hsel i oi cs b hi) (fun cs b => hsel j oj cs b hoj) hQ hy h1
      have hfree' : ∀ k ok, ops[k]? = some ok → k ≠ i → (listed.setIfInBounds j true).getD k true = false →
          (∀ e ∈ ok.after, Region.binds .any e = true → e.on ≠ i) → oi.apart ops ok = true := fun k ok hk hki hun hno => by
        refine hfree k ok hk hki ?_ hno
        by_cases hjk : j = k
        · subst hjk; exact hjun
        · rw [getD_set_ne true hjk] at hun; exact hun
      refine wpOp_mono (fun a' w' h3 => ?_) h2
      have hS' : S w' := by
        rcases h3.2.1 with h | h | h
        · rw [ht1] at h; cases h
        · exact absurd h hjt
        · exact h
      refine ⟨.inr (.inr hS'), ih (listed.setIfInBounds j true) a' w' (by rw [getD_false_ne hjt]; exact ht) hfree' (ready_mono hr (Ne.symm hji)) h3.1 hS' ?_⟩
      rw [Array.setIfInBounds_comm _ _ hji]
      exact h3.2.2
theorem wpAnyT_done {t : Nat} {listed : Array Bool} {a : Act} {w : World} (hr : Region.ready .any ops listed = []) (h : Q .normal a w) : ∀ fuel, wpAnyT P ops Q S t fuel listed a w
  | 0 => ⟨hr, h⟩
  | _ + 1 => ⟨fun _ => h, by rw [hr]; simp⟩
end
section
variable {P : Program} {ops : Array Oper} {Q : Exit → Act → World → Prop} {B t : Nat} {W w : World} {i fuel : Nat} {o : Oper} {a : Act} {listed : Array Bool}
theorem relT_begin {id n : Nat} {l : List Oper} (B t : Nat) (W : World) (hm : P.follows .mixedOrders = true) (hn : l.length = n)
    (h : wpAnyT P l.toArray Q (fun w' => ∃ d : LaterB B W, w' = d.now) t n (Array.replicate n false) a w.drew) : (Code.region id l.toArray true).wp P Q a w := by
  subst hn
  exact wp_region_any hm (wpAny_of_tail _ _ _ _ (by simpa using h))
theorem relT_want {rest : List Oper} (hl : ops.toList.drop i = o :: rest) (hp : plainB o.op = true) (hs : Region.noSelect ops = true) (hf : Region.free .any ops listed i = true) (hr : (Region.ready .any ops listed).contains i = true)
    (hw : Region.wanted o (yielded ops a.tmps) = true) (hit : decide (i ≠ t) = true) (hwait : waitsB ops t i = true) (ht : listed.getD t false = false) (hQ : ∀ c a v w, Q (.panic c) (Act.put a o.dst v) w → Q (.panic c) a w) (hS : NearB B W w)
    (h : ∀ K : Act → Prop, (∀ a', wpAnyT P ops Q (fun w' => ∃ d : LaterB B W, w' = d.now) t fuel (listed.setIfInBounds i true) a' w → K a') → o.quiet P a (fun w' => ∃ d : LaterB B W, w' = d.now) K) :
    wpAnyT P ops Q (fun w' => ∃ d : LaterB B W, w' = d.now) t (fuel + 1) listed a w := by
  obtain ⟨v, h1, h2⟩ := h (fun a' => wpAnyT P ops Q (fun w' => ∃ d : LaterB B W, w' = d.now) t fuel (listed.setIfInBounds i true) a' w) (fun _ h => h)
  refine wpAnyT_first (v := v) (of_decide_eq_true hit) hwait (drop_at hl) (Region.noSelect_spec hs) (fun c a w h => hQ c a _ w h) fuel listed a w ht (Region.free_spec (drop_at hl) hf) (by simpa using hr) (.inl ⟨hw, fun w' hw' => ?_⟩) hS h2
  have h3 := h1 w' hw'
  unfold Oper.quietAt at h3
  generalize hx : (execOp a.eval o).run P w' = r at h3
  cases r with
  | ok n w2 =>
    obtain ⟨u, rfl⟩ := plain_value hp hx
    simp only [Oper.quietUpon] at h3
    rw [h3.1, h3.2]
  | halt x w2 => simp only [Oper.quietUpon] at h3
theorem relT_call {rest : List Oper} (hr : Region.ready .any ops listed = [i]) (hl : ops.toList.drop i = o :: rest) (hw : Region.wanted o (yielded ops a.tmps) = true)
    (h : ∀ K : Act → World → Prop, (∀ a' w', (listed.getD t false = true ∨ i = t ∨ NearB B W w') → wpAnyT P ops Q (fun w' => ∃ d : LaterB B W, w' = d.now) t fuel (listed.setIfInBounds i true) a' w' → K a' w') → o.wp P a w K Q) :
    wpAnyT P ops Q (fun w' => ∃ d : LaterB B W, w' = d.now) t (fuel + 1) listed a w := by
  refine ⟨fun h0 => absurd (hr ▸ h0) (by simp), fun j hj => ?_⟩
  rw [hr, List.mem_singleton] at hj
  subst hj
  unfold wpOp
  rw [drop_at hl]
  show if Region.wanted o (yielded ops a.tmps) = true then _ else _
  rw [if_pos hw]
  exact .inl (h _ fun a' w' hn hh => ⟨hn, hh⟩)
theorem relT_calls {is : List Nat} (hr : Region.ready .any ops listed = is) (hne : is ≠ []) (h : ∀ i ∈ is, ∃ o, ops[i]? = some o ∧ Region.wanted o (yielded ops a.tmps) = true ∧
      ∀ K : Act → World → Prop, (∀ a' w', (listed.getD t false = true ∨ i = t ∨ NearB B W w') → wpAnyT P ops Q (fun w' => ∃ d : LaterB B W, w' = d.now) t fuel (listed.setIfInBounds i true) a' w' → K a' w') → o.wp P a w K Q) :
    wpAnyT P ops Q (fun w' => ∃ d : LaterB B W, w' = d.now) t (fuel + 1) listed a w := by
  refine ⟨fun h0 => absurd (hr ▸ h0) hne, fun j hj => ?_⟩
  rw [hr] at hj
  obtain ⟨o, ho, hw, h⟩ := h j hj
  unfold wpOp
  rw [ho]
  show if Region.wanted o (yielded ops a.tmps) = true then _ else _
  rw [if_pos hw]
  exact .inl (h _ fun a' w' hn hh => ⟨hn, hh⟩)
end
end Go.Proofs.YtnddoehhcpejjaaGreat
/- Sums in a map of the call's own, at keys that are arrays or structs, turned by 'm[k] += x'. Over any program. -/
namespace Go.Proofs.YtnddoehhcpejjaaGreat
set_option linter.unusedVariables false
set_option linter.unusedSimpArgs false
open Go.RowKit Go.WideElems
open Go.Maps (Keyed)
open Go.WideMaps (KeyLaw)
open Go.ChangeMaps (setBlock)

/-- Block b is a map of at most n entries that says f of the keys. -/
def KSum (P : Program) (k e : TypeId) (w : World) (b n : Nat) (f : Value → Int) : Prop :=
  ∃ D : DataW Unit, w.ownsMap P k (plainElem P e) b n D ∧ Maps.IsMap D ∧ ∀ v l, keyOf P k v = some l → D.atKey l (.lit (.int .i64 0)) = .lit (.int .i64 (f v))
section
variable {P : Program} {k e t : TypeId} {w w' : World} {b n : Nat} {f g : Value → Int}
theorem KSum.made (w : World) : KSum P k e (w.alloc (.map #[] 0)) w.heap.size 0 (fun _ => 0) := ⟨.map [], World.ownsMap_made _ _ _ _, Maps.isMap_empty, fun _ _ _ => by simp [DataW.atKey]⟩
theorem KSum.lt (h : KSum P k e w b n f) : b < w.heap.size := by obtain ⟨D, h, _⟩ := h; exact h.lt
theorem KSum.kept {row : Option Nat} (h : KSum P k e w b n f) (hg : w.grownBy w' row) (hne : some b ≠ row) : KSum P k e w' b n f := by obtain ⟨D, h, r⟩ := h; exact ⟨D, h.kept hg hne, r⟩
theorem KSum.step (h : KSum P k e w b n f) (hb : Below w.heap.size w w') : KSum P k e w' b n f := h.kept (grown_below hb none) (by simp)
theorem KSum.alloc (h : KSum P k e w b n f) (o : Obj) : KSum P k e (w.alloc o) b n f := h.kept (World.grownBy_alloc w o none) (by simp)
theorem KSum.isMap (h : KSum P k e w b n f) : ∃ es cl, w.heap[b]? = some (.map es cl) := by
  obtain ⟨D, ⟨es, cl, hb, _⟩, _⟩ := h
  exact ⟨es, cl, hb⟩
theorem KSum.same (h : KSum P k e w b n f) (hb : w'.heap[b]? = w.heap[b]?) : KSum P k e w' b n f := by
  obtain ⟨D, ⟨es, cl, h1, h2⟩, r⟩ := h
  exact ⟨D, ⟨es, cl, hb.trans h1, h2⟩, r⟩
theorem KSum.more {m : Nat} (h : KSum P k e w b n f) (hm : n ≤ m) : KSum P k e w b m f := by
  obtain ⟨D, ⟨es, cl, h1, h2, h3, h4⟩, r⟩ := h
  exact ⟨D, ⟨es, cl, h1, h2, Nat.le_trans h3 hm, h4⟩, r⟩
/-- the look-up -/
theorem KSum.look (h : KSum P k e w b n f) (hk : Keyed P k) (he : P.underlying e = some (.int .i64)) (ht : P.underlying t = some (.map k e)) (hz : (zeroValue e).run P w = .ok (.int .i64 0) w)
    {v : Value} {l : Lit} (hl : keyOf P k v = some l) : (Instr.lookup t (.map (some b)) v false).run P w = .ok (.int .i64 (f v)) w ∧ (Lit.int .i64 (f v)).wf = true := by
  obtain ⟨D, h, _, hD⟩ := h
  obtain ⟨c, hrun, hat, hw⟩ := h.lookup_int hk ht he hz hl
  rw [hD v l hl] at hat
  injection hat with hat
  injection hat with _ hat
  subst hat
  exact ⟨hrun, hw⟩
theorem KSum.put {D : DataW Unit} {v : Value} {l : Lit} {x : Int} (hk : Keyed P k) (hm : Maps.IsMap D) (hD : ∀ v l, keyOf P k v = some l → D.atKey l (.lit (.int .i64 0)) = .lit (.int .i64 (f v))) (hl : keyOf P k v = some l)
    (hg : g v = x) (hgo : ∀ u lu, keyOf P k u = some lu → u ≠ v → g u = f u) (h2 : w'.ownsMap P k (plainElem P e) b (n + 1) (D.put l (.lit (.int .i64 x)))) : KSum P k e w' b (n + 1) g := by
  refine ⟨_, h2, hm.put _ _, fun u lu hu => ?_⟩
  by_cases hd : lu = l
  · subst hd
    obtain rfl := hk.inj hu hl
    rw [Maps.atKey_put_same hm (hk.key hl), hg]
  · rw [Maps.atKey_put_other hd, hD u lu hu, hgo u lu hu (fun e => hd (by rw [e, hl] at hu; injection hu with hu; exact hu.symm))]
/-- 'm[k] += x': the entry is found or made with what the look-up gives -/
theorem entry_update {es : Array MapEntry} {clock : Nat} {R : Value → Option (DataW Unit × List MemPlace)} (K : KeyLaw P k) (ht : P.underlying t = some (.map k e)) {z : Value} (hz : ∀ u : World, (zeroValue e).run P u = .ok z u) (hb : w.heap[b]? = some (.map es clock)) (F : Fit P k R es clock)
    {key : Value} {kl : Lit} (hkey : keyOf P k key = some kl) :
    ∃ (v0 : Value) (st : Nat) (wX : World), (Instr.mapEntry t (.map (some b)) key).run P w = .ok (.tuple #[v0, goInt st]) wX ∧ (Instr.mapUpdate t (.map (some b)) key v0).run P w = .ok () wX ∧ (Instr.lookup t (.map (some b)) key false).run P w = .ok v0 w := by
  rcases K.find w hkey es.toList F.keys with ⟨h1, h2⟩ | ⟨j, e0, h1, h2, h3⟩
  · refine ⟨z, clock, setBlock w b (.map (es.push ⟨key, z, clock⟩) (clock + 1)), ?_, ?_, ?_⟩
    rotate_left
    · simp [Instr.mapUpdate, run_underlying ht, MapKept.run_getObj_map hb, K.check w false hkey, h1, MapKept.run_setObj_map _ hb, Result.andThen, setBlock]
    · simp [Instr.lookup, run_underlying ht, MapKept.run_getObj_map hb, K.check w _ hkey, h1, hz, Result.andThen]
    · simp [Instr.mapEntry, run_underlying ht, MapKept.run_getObj_map hb, K.check w false hkey, h1, hz, MapKept.run_setObj_map _ hb, Result.andThen, setBlock]
  · have hj : es[j]? = some e0 := by simpa using h2
    have hm : es.modify j (fun e => { e with key := key }) = es.modify j (fun e => { e with key := key, val := e0.val }) := by
      apply Array.ext
      · simp
      · intro i i1 i2
        simp only [Array.getElem_modify]
        by_cases hji : j = i
        · subst hji
          have he0 : es[j]'(by simpa using i1) = e0 := by
            have := Array.getElem?_eq_some_iff.1 hj
            exact this.2
          simp [he0]
        · simp [hji]
    refine ⟨e0.val, e0.born, setBlock w b (.map (es.modify j fun e => { e with key := key, val := e0.val }) clock), ?_, ?_, ?_⟩
    rotate_left
    · simp [Instr.mapUpdate, run_underlying ht, MapKept.run_getObj_map hb, K.check w false hkey, h1, hj, h3, K.stays w hkey, MapKept.run_setObj_map _ hb, Result.andThen, setBlock]
    · simp [Instr.lookup, run_underlying ht, MapKept.run_getObj_map hb, K.check w _ hkey, h1, Result.andThen]
    · simp [Instr.mapEntry, run_underlying ht, MapKept.run_getObj_map hb, K.check w false hkey, h1, hj, h3, K.stays w hkey, hm, MapKept.run_setObj_map _ hb, Result.andThen, setBlock]
end
end Go.Proofs.YtnddoehhcpejjaaGreat
/- LibW's region that draws its order and ends in a store, over a property of worlds. Over any program. -/
namespace Go.Proofs.YtnddoehhcpejjaaGreat
set_option linter.unusedVariables false
set_option linter.unusedSimpArgs false
open Go.RowKit

/-- a world of which S holds -/
structure LaterS (S : World → Prop) where
  now : World
  is : S now
theorem LaterS.of {S : World → Prop} {w : World} (h : S w) : ∃ d : LaterS S, w = d.now := ⟨⟨w, h⟩, rfl⟩
theorem LaterS.un {S : World → Prop} {w : World} (h : ∃ d : LaterS S, w = d.now) : S w := by obtain ⟨d, rfl⟩ := h; exact d.is
section
variable {P : Program} {ops : Array Oper} {Q : Exit → Act → World → Prop} {t : Nat} {S : World → Prop} {w : World} {i fuel : Nat} {o : Oper} {a : Act} {listed : Array Bool}
theorem relS_begin {id n : Nat} {l : List Oper} (S : World → Prop) (t : Nat) (hm : P.follows .mixedOrders = true) (hn : l.length = n)
    (h : wpAnyT P l.toArray Q (fun w' => ∃ d : LaterS S, w' = d.now) t n (Array.replicate n false) a w.drew) : (Code.region id l.toArray true).wp P Q a w := by
  subst hn
  exact wp_region_any hm (wpAny_of_tail _ _ _ _ (by simpa using h))
theorem relS_want {rest : List Oper} (hl : ops.toList.drop i = o :: rest) (hp : plainB o.op = true) (hs : Region.noSelect ops = true) (hf : Region.free .any ops listed i = true) (hr : (Region.ready .any ops listed).contains i = true)
    (hw : Region.wanted o (yielded ops a.tmps) = true) (hit : decide (i ≠ t) = true) (hwait : waitsB ops t i = true) (ht : listed.getD t false = false) (hQ : ∀ c a v w, Q (.panic c) (Act.put a o.dst v) w → Q (.panic c) a w) (hS : (∃ d : LaterS S, w = d.now))
    (h : ∀ K : Act → Prop, (∀ a', wpAnyT P ops Q (fun w' => ∃ d : LaterS S, w' = d.now) t fuel (listed.setIfInBounds i true) a' w → K a') → o.quiet P a (fun w' => ∃ d : LaterS S, w' = d.now) K) :
    wpAnyT P ops Q (fun w' => ∃ d : LaterS S, w' = d.now) t (fuel + 1) listed a w := by
  obtain ⟨v, h1, h2⟩ := h (fun a' => wpAnyT P ops Q (fun w' => ∃ d : LaterS S, w' = d.now) t fuel (listed.setIfInBounds i true) a' w) (fun _ h => h)
  refine wpAnyT_first (v := v) (of_decide_eq_true hit) hwait (drop_at hl) (Region.noSelect_spec hs) (fun c a w h => hQ c a _ w h) fuel listed a w ht (Region.free_spec (drop_at hl) hf) (by simpa using hr) (.inl ⟨hw, fun w' hw' => ?_⟩) hS h2
  have h3 := h1 w' hw'
  unfold Oper.quietAt at h3
  generalize hx : (execOp a.eval o).run P w' = r at h3
  cases r with
  | ok n w2 =>
    obtain ⟨u, rfl⟩ := plain_value hp hx
    simp only [Oper.quietUpon] at h3
    rw [h3.1, h3.2]
  | halt x w2 => simp only [Oper.quietUpon] at h3
theorem relS_call {rest : List Oper} (hr : Region.ready .any ops listed = [i]) (hl : ops.toList.drop i = o :: rest) (hw : Region.wanted o (yielded ops a.tmps) = true)
    (h : ∀ K : Act → World → Prop, (∀ a' w', (listed.getD t false = true ∨ i = t ∨ (∃ d : LaterS S, w' = d.now)) → wpAnyT P ops Q (fun w' => ∃ d : LaterS S, w' = d.now) t fuel (listed.setIfInBounds i true) a' w' → K a' w') → o.wp P a w K Q) :
    wpAnyT P ops Q (fun w' => ∃ d : LaterS S, w' = d.now) t (fuel + 1) listed a w := by
  refine ⟨fun h0 => absurd (hr ▸ h0) (by simp), fun j hj => ?_⟩
  rw [hr, List.mem_singleton] at hj
  subst hj
  unfold wpOp
  rw [drop_at hl]
  show if Region.wanted o (yielded ops a.tmps) = true then _ else _
  rw [if_pos hw]
  exact .inl (h _ fun a' w' hn hh => ⟨hn, hh⟩)
theorem relS_calls {is : List Nat} (hr : Region.ready .any ops listed = is) (hne : is ≠ []) (h : ∀ i ∈ is, ∃ o, ops[i]? = some o ∧ Region.wanted o (yielded ops a.tmps) = true ∧
      ∀ K : Act → World → Prop, (∀ a' w', (listed.getD t false = true ∨ i = t ∨ (∃ d : LaterS S, w' = d.now)) → wpAnyT P ops Q (fun w' => ∃ d : LaterS S, w' = d.now) t fuel (listed.setIfInBounds i true) a' w' → K a' w') → o.wp P a w K Q) :
    wpAnyT P ops Q (fun w' => ∃ d : LaterS S, w' = d.now) t (fuel + 1) listed a w := by
  refine ⟨fun h0 => absurd (hr ▸ h0) hne, fun j hj => ?_⟩
  rw [hr] at hj
  obtain ⟨o, ho, hw, h⟩ := h j hj
  unfold wpOp
  rw [ho]
  show if Region.wanted o (yielded ops a.tmps) = true then _ else _
  rw [if_pos hw]
  exact .inl (h _ fun a' w' hn hh => ⟨hn, hh⟩)
end
end Go.Proofs.YtnddoehhcpejjaaGreat
