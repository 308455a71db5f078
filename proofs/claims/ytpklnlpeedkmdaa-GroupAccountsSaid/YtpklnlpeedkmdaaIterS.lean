/- slices.Sorted(maps.Keys(m)) of a set of texts. -/
import Derived.Test.YtpklnlpeedkmdaaIter
import Derived.Test.YtpklnlpeedkmdaaLibS
namespace Go.Proofs.Ytpklnlpeedkmdaa
set_option linter.unusedVariables false
set_option linter.unusedSimpArgs false
open Go.RowKit Go.Maps Go.Sort Go.Shelf

theorem sortsS (m : Nat) : AnyZ.SortsIn Try.prog Try.sortedS_ren Fence.wide m :=
  ⟨fun blk off cap ss W hH hblk hsz => callsIn_wide.2 (AnyM.slices_Sort_string Try.sortS blk off cap ss W hH hblk hsz),
   fun p cap W => callsIn_wide.2 (AnyM.slices_Sort_string_none Try.sortS p cap W)⟩
theorem skeys_any (mb : Option Nat) (W : World) : Calls Try.prog 42 #[.map mb] W fun e w' => e = .returned (.func (.func 70) #[] #[.pointer (some ⟨W.heap.size, 0, none⟩)]) ∧ w' = W.alloc (.cells #[.map mb] 74) :=
  (callsIn_wide (n := 5)).1 (AnyZ.keys_in Try.keysS Fence.wide 5 trivial rfl mb W)
def SortedPost (T : TypeId) (S : List Txt) (w : World) (e : Ending) (w' : World) : Prop :=
  ∃ (v : Value) (ss : List Txt), e = .returned v ∧ ss.Nodup ∧ (∀ x, x ∈ ss ↔ x ∈ S) ∧ w'.ownsRow w.heap.size T 1 v (ss.mergeSort leB).length ((ss.mergeSort leB).map encStr) ∧ Below w.heap.size w w'
set_option maxHeartbeats 1000000 in
theorem ssorted_any {e : TypeId} (b n : Nat) (S : List Txt) (w : World) (h : StrSet Try.prog 9 e w b n S) (hn : n ≤ 1000000) :
    Calls Try.prog 41 #[.func (.func 70) #[] #[.pointer (some ⟨w.heap.size, 0, none⟩)]] (w.alloc (.cells #[.map (some b)] 74)) (SortedPost 9 S (w.alloc (.cells #[.map (some b)] 74))) := by
  obtain ⟨D0, hown, _, _, hh⟩ := h
  have hsz := hown.size_le
  have hbl := hown.lt
  have hseq : SeqGives Fence.wide 2 Try.prog 70 #[.pointer (some ⟨w.heap.size, 0, none⟩)] encStr (fun ss => ss.Perm (strKeys D0)) (Maps.size D0) (w.alloc (.cells #[.map (some b)] 74)) :=
    AnyZ.keys_gives (ρ := Try.keysS_ren) { Try.keysS with } Fence.wide _ trivial rfl (by omega) w.heap.size b n D0 _ (by simp) (by simp) (by
      obtain ⟨es, clock, hb, Ft, hs, hD⟩ := hown
      exact ⟨es, clock, (Below.heap_alloc _ _ b hbl).trans hb, Ft, hs, hD⟩)
  have hc := (callsIn_wide (n := 5)).1 (AnyZ.sorted_in Try.sortedS Fence.wide 5 trivial trivial trivial trivial rfl (by omega) (sortsS _) (enters_of Try.func69 (by kernel_rfl) rfl) 70 #[.pointer (some ⟨w.heap.size, 0, none⟩)] trivial (enters_of Try.func70 (by kernel_rfl) rfl) _ _ (by unfold maxLen; omega) (by omega) _ hseq)
  refine hc.mono ?_
  rintro e w' ⟨v, ss, rfl, hp, hrow, _, hb⟩
  obtain ⟨h1, h2⟩ := StrSet.keys hown Try.underlying9 hh hp
  exact ⟨v, ss, rfl, h1, h2, by rw [(List.mergeSort_perm ss leB).length_eq]; exact hrow, hb⟩
end Go.Proofs.Ytpklnlpeedkmdaa
