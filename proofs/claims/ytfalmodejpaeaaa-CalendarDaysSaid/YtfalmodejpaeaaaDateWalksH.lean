/- The walks of two and Text. -/
import Derived.Test.YtfalmodejpaeaaaDateWalksF
import Derived.Test.YtfalmodejpaeaaaDateText
import Derived.Laws.IdiomStrings
namespace Go.Proofs.Ytfalmodejpaeaaa
open Go.RowKit

/-- bytes as cells -/
def byteCells (l : List UInt8) : List Value := l.map fun c => Value.int .u8 (c.toNat : Int)
theorem byteCells_app (a b : List UInt8) : byteCells (a ++ b) = byteCells a ++ byteCells b := by unfold byteCells; simp
theorem byteCells_len (a : List UInt8) : (byteCells a).length = a.length := by unfold byteCells; simp
theorem byteCells_tx2 (k : Int) (h0 : 0 ≤ k) (h1 : k ≤ 99) : byteCells (Dt.tx2 k) = [.int .u8 (48 + k / 10), .int .u8 (48 + k % 10)] := by
  unfold byteCells Dt.tx2
  simp only [List.map]
  rw [Dt.chr_toNat _ (by omega) (by omega), Dt.chr_toNat _ (by omega) (by omega)]
theorem byte_info : (Try.prog.info? 5).map (fun i => (i.zero, i.size, i.bytes)) = some (some (.int .u8 0), 1, 1) := by kernel_rfl

def TwoPost (base n : Nat) (v : Value) (l : List UInt8) (w : World) (e : Ending) (w' : World) : Prop :=
  ∃ v', e = .returned v' ∧ w'.ownsRow base 5 1 v' n (byteCells l) ∧ w.grownBy w' v.ownBlock ∧ w.heap.size < w'.heap.size

set_option maxHeartbeats 1000000 in
theorem two_any (base n : Nat) (v : Value) (l : List UInt8) (k : Int) (w : World) (hown : w.ownsRow base 5 1 v n (byteCells l)) (hbase : base ≤ w.heap.size) (h0 : 0 ≤ k) (h1 : k ≤ 99) (hn : n ≤ 100) :
    Calls Try.prog 76 #[v, .int .i64 k] w (TwoPost base (n + 2) v (l ++ Dt.tx2 k) w) := by
  obtain ⟨i0, hi, hz0, hz1, hz2⟩ := info_parts byte_info
  have HC := Lib.hid (byteCells_tx2 k h0 h1)
  go_enter Try.func76, Try.ntmps76
  go_wp2_with (at_builtin; refine wpList_append_own _ rfl (.tmp 5) (.tmp 14) 63 rfl base 5 i0 (.int .u8 0) 1 1 Try.underlying63 hi hz0 hz1 hz2 rfl (by decide) v n (byteCells l) rfl (hown.alloc _) ⟨w.heap.size, 0, none⟩ 2 2 [.int .u8 (48 + k / 10), .int .u8 (48 + k % 10)] rfl rfl ?c1 ?c2 ?c3 ?c4 ?c5 ?_)
  case c1 => exact cells_new _ _ _ _ rfl
  case c2 => intro u hu; simp at hu; rcases hu with rfl | rfl <;> rfl
  case c3 => simp only [maxLen]; omega
  case c4 => omega
  case c5 => simp; omega
  intro v' w1 hown' hgrow _
  go_wp2_with fail
  go_ret
  refine ⟨v', rfl, by rw [byteCells_app, HC.out]; exact hown', ?_, ?_⟩
  · exact ⟨hgrow.os, hgrow.tape, hgrow.output, by have := hgrow.size; simp at this; omega, fun j hj hne => (hgrow.block j (by simp; omega) hne).trans (Below.heap_alloc _ _ _ hj)⟩
  · have := hgrow.size; simp at this; omega

/-- The text's bytes lie in the world as a string's do. -/
theorem own_string {w : World} {base : Nat} {v : Value} {l : List UInt8} (hown : w.ownsRow base 5 1 v l.length (byteCells l)) (hl : 0 < l.length) (W : World) (hW : ∀ a, W.cell? a = w.cell? a) :
    (convert 63 9 v).run Try.prog W = .ok (.string ⟨l.toArray⟩) W := by
  obtain ⟨g, cap, rfl, -, -, -⟩ := own_form hown hl
  refine run_convert_bytes_back W 63 9 5 ⟨g, 0, none⟩ cap l Try.underlying63 Try.underlying5 Try.underlying9 ?_
  intro j hj
  rw [hW]
  exact hown.cells (g := g) rfl j _ (by unfold byteCells; simp [hj])
def TextPost (l : List UInt8) (w : World) (e : Ending) (w' : World) : Prop := e = .returned (.string ⟨l.toArray⟩) ∧ Below w.heap.size w w'

set_option maxHeartbeats 2000000 in
theorem text_any (n : Int) (w : World) : Calls Try.prog 50 #[.int .i64 n] w (TextPost (Dt.txV n) w) := by
  cases hD : Dt.isD n
  · have HT : Hid (Dt.txV n = []) := Lib.hid (by unfold Dt.txV; rw [hD]; rfl)
    have HE : Hid (Dt.cvE n = 2) := Lib.hid (by unfold Dt.cvE; rw [hD]; rfl)
    clear hD
    have hb := Below.refl w.heap.size w
    go_enter Try.func50, Try.ntmps50
    go_wp2_with (go_at_call 57; refine (civil_any _ _).mono ?_; rw [HE.out]; rintro e w2 ⟨rfl, hb2⟩; replace hb := bel hb hb2; clear hb2)
    go_ret
    exact ⟨by rw [HT.out]; rfl, hb⟩
  · have HT : Hid (Dt.txV n = Dt.tx (Dt.cY n) (Dt.cM n) (Dt.cD n)) := Lib.hid (by unfold Dt.txV; rw [hD]; rfl)
    obtain ⟨c1, c2, c3, c4, c5, c6, c7⟩ := Dt.cY_bd n hD
    have HD := Lib.hid hD
    clear hD c6
    obtain ⟨i0, hi, hz0, hz1, hz2⟩ := info_parts byte_info
    have hb := Below.refl w.heap.size w
    go_enter Try.func50, Try.ntmps50
    go_wp2_with (go_at_call 57; refine (civil_is n _ HD).mono ?_; rintro e w2 ⟨rfl, hb2⟩; replace hb := bel hb hb2; clear hb2)
    have o0 := World.ownsRow_nil w2 w.heap.size 5 1
    refine (two_any w.heap.size 0 _ [] _ _ o0 hb.size (by omega) (by omega) (by omega)).mono ?_
    rintro e w3 ⟨v1, rfl, o1, g1, s1⟩
    have b1 := bel_own hb hb.size o0 g1
    go_wp2_with fail
    refine (two_any w.heap.size _ _ _ _ _ o1 b1.size (by omega) (by omega) (by omega)).mono ?_
    rintro e w4 ⟨v2, rfl, o2, g2, s2⟩
    have b2 := bel_own b1 b1.size o1 g2
    go_wp2_with (at_builtin; refine wpList_append_own _ rfl (.tmp 23) (.tmp 24) 63 rfl w.heap.size 5 i0 (.int .u8 0) 1 1 Try.underlying63 hi hz0 hz1 hz2 rfl (by decide) v2 _ _ rfl (o2.alloc _) ⟨w4.heap.size, 0, none⟩ 1 1 [.int .u8 45] rfl rfl ?c1 (one_u8 45) ?c3 ?c4 ?c5 ?_)
    case c1 => exact cells_new _ _ _ _ rfl
    case c3 => simp only [maxLen]; omega
    case c4 => omega
    case c5 => have := b2.size; simp; omega
    intro v3 w5 o3 g3 _
    have b3 := bel_own (b2.alloc b2.size _) (by have := b2.size; simp; omega) (o2.alloc _) g3
    go_wp2_with fail
    have o3' : w5.ownsRow w.heap.size 5 1 v3 (0 + 2 + 2 + 1) (byteCells (Dt.txY (Dt.cY n) ++ [45])) := by rw [byteCells_app _ [45]]; exact o3
    refine (two_any w.heap.size _ _ _ _ _ o3' b3.size (by omega) (by omega) (by omega)).mono ?_
    rintro e w6 ⟨v4, rfl, o4, g4, s4⟩
    have b4 := bel_own b3 b3.size o3' g4
    go_wp2_with (at_builtin; refine wpList_append_own _ rfl (.tmp 28) (.tmp 29) 63 rfl w.heap.size 5 i0 (.int .u8 0) 1 1 Try.underlying63 hi hz0 hz1 hz2 rfl (by decide) v4 _ _ rfl (o4.alloc _) ⟨w6.heap.size, 0, none⟩ 1 1 [.int .u8 45] rfl rfl ?d1 (one_u8 45) ?d3 ?d4 ?d5 ?_)
    case d1 => exact cells_new _ _ _ _ rfl
    case d3 => simp only [maxLen]; omega
    case d4 => omega
    case d5 => have := b4.size; simp; omega
    intro v5 w7 o5 g5 _
    have b5 := bel_own (b4.alloc b4.size _) (by have := b4.size; simp; omega) (o4.alloc _) g5
    go_wp2_with fail
    have o5' : w7.ownsRow w.heap.size 5 1 v5 (0 + 2 + 2 + 1 + 2 + 1) (byteCells (Dt.txY (Dt.cY n) ++ [45] ++ Dt.tx2 (Dt.cM n) ++ [45])) := by rw [byteCells_app _ [45]]; exact o5
    refine (two_any w.heap.size _ _ _ _ _ o5' b5.size (by omega) (by omega) (by omega)).mono ?_
    rintro e w8 ⟨v6, rfl, o6, g6, s6⟩
    have b6 := bel_own b5 b5.size o5' g6
    have hcv := fun W hW => own_string (l := Dt.tx (Dt.cY n) (Dt.cM n) (Dt.cD n)) o6 (by show 0 < 10; omega) W hW
    have hcv' := hcv w8 (fun _ => rfl)
    clear hcv
    go_wp2_with fail
    go_ret
    exact ⟨by rw [HT.out]; rfl, b6⟩
end Go.Proofs.Ytfalmodejpaeaaa
