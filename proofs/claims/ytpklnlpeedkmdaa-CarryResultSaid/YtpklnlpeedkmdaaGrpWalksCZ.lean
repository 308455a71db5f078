/- Texts of this claim, put together. -/
import Derived.Test.YtpklnlpeedkmdaaGrpWalksBZ
import Derived.Laws.Cover1
import Derived.Sort.Walk0
/- The walks of the reference's with and Currencies, of 'same', of the law's own 'awake'. -/
namespace Go.Proofs.Ytpklnlpeedkmdaa
set_option linter.unusedVariables false
set_option linter.unusedSimpArgs false
open Go.RowKit

theorem one_str (s : ByteArray) : ∀ u ∈ [Value.string s], u.oneCell' = true := by
  intro u hu
  simp only [List.mem_cons, List.not_mem_nil, or_false] at hu
  subst hu
  rfl
theorem enc_bytes (t : Txt) : (⟨t.toArray⟩ : ByteArray).toList = t := by rw [ByteArray.toList_eq]
theorem bytes_enc (s : ByteArray) : Value.string s = encStr s.data.toList := by simp [encStr]
/-- where the texts of a list lie -/
theorem txt_at {w : World} {B : Nat} {A : Option Addr} {l : List Txt} (h : Rd w B 1 A l.length (l.map encStr)) {k : Nat} (hk : k < l.length) :
    ∃ (b o : Nat) (s : ByteArray), A = some ⟨b, o, none⟩ ∧ b < B ∧ w.cell? ⟨b, o + k, none⟩ = some (.string s) ∧ s.toList = l[k] ∧ s.data.toList = l[k] := by
  obtain ⟨b, o, e, hb, hc⟩ := h.2 (by omega)
  refine ⟨b, o, ⟨l[k].toArray⟩, e, hb, hc k _ (by rw [List.getElem?_map, List.getElem?_eq_getElem hk]; rfl), enc_bytes _, rfl⟩
theorem beq_is (a b : Txt) : (a == b) = decide (a = b) := by by_cases h : a = b <;> simp [h]
theorem less_is (a b : Txt) : Op.bytesLess a b = decide (¬ b ≤ a) := by
  rw [bytesLess_eq]
  rw [decide_eq_decide]
  exact List.not_le.symm
theorem own_snoc {w : World} {base : Nat} {e : TypeId} {v : Value} {out : List Txt} {s : ByteArray} (h : w.ownsRow base e 1 v (out.length + 1) (out.map encStr ++ [.string s])) : w.ownsRow base e 1 v (out ++ [s.data.toList]).length ((out ++ [s.data.toList]).map encStr) := by
  rw [List.map_append, List.length_append]
  have e : List.map encStr [s.data.toList] = [.string s] := by rw [bytes_enc s]; rfl
  rw [e]; exact h
def WithIn (S : Txt) (L out : List Txt) (k : Nat) (done : Bool) : Prop := out ++ withGo S (L.drop k) done = withGo S L false
theorem with_start (S : Txt) (L : List Txt) : WithIn S L [] 0 false := rfl
theorem with_step {S : Txt} {L out : List Txt} {k : Nat} {done : Bool} (h : WithIn S L out k done) (hk : k < L.length) :
    WithIn S L (out ++ (if S ≤ L[k] ∧ done = false then [S] else []) ++ (if L[k] = S then [] else [L[k]])) (k + 1) (done || decide (S ≤ L[k])) := by
  unfold WithIn at h ⊢
  rw [with_drop S L k hk] at h
  rw [← h]
  simp only [List.append_assoc]
theorem with_end {S : Txt} {L out : List Txt} {k : Nat} {done : Bool} (h : WithIn S L out k done) (hk : L.length ≤ k) : withL L S = out ++ (if done then [] else [S]) := by
  unfold WithIn at h
  rw [List.drop_of_length_le hk] at h
  unfold withL
  rw [← h]
  rfl
set_option maxRecDepth 100000 in
set_option maxHeartbeats 4000000 in
theorem with_any (L : List Txt) (A : Option Addr) (cap : Nat) (s : ByteArray) (w : World) (hr : Rd w w.heap.size 1 A L.length (L.map encStr)) (hn : L.length ≤ 1000) :
    Calls Try.prog 43 #[.slice A L.length cap, .string s] w (OwnStrs w.heap.size (withL L s.data.toList) w) := by
  have hb := Below.refl w.heap.size w
  have HR := Lib.hid hr
  obtain ⟨i0, hi, hz0, hz1, hz2⟩ := info_parts str_info
  clear hr
  go_enter Try.func43, Try.ntmps43
  go_wp2_with fail
  go_loopw [5, 6, 7] (fun v d t wr => ∃ (k : Nat) (out : List Txt) (done : Bool), k ≤ L.length ∧ out.length ≤ k + 1 ∧ (done = false → out.length ≤ k) ∧ WithIn s.data.toList L out k done ∧ d = .bool done ∧ t = .int .i64 k ∧ wr.ownsRow w.heap.size 9 1 v out.length (out.map encStr) ∧ Below w.heap.size w wr) (fun _ _ t _ => L.length - (intOf t).toNat)
  case atStart => exact ⟨0, [], false, by omega, by simp, by simp, with_start _ _, rfl, rfl, World.ownsRow_nil _ _ _ _, hb⟩
  case round =>
    clear hb
    obtain ⟨k, out, done, hk, hol, hod, hin, rfl, rfl, ho, hb⟩ := hrel
    have HIN := Lib.hid hin
    have HOD := Lib.hid hod
    have hz := hb.size
    clear hin hod
    by_cases hlt : k < L.length
    · obtain ⟨x, o, sk, hA, hbo, k0, e1, e2⟩ := txt_at HR.out hlt
      subst hA
      have f0 : wr.cell? ⟨x, o + k, none⟩ = some (.string sk) := (hb.cell (p := ⟨x, o + k, none⟩) hbo).trans k0
      have K0 := Lib.hid k0
      have HST := Lib.hid (with_step HIN.out hlt)
      have HLD := Lib.hid e2
      have HLE : Hid (Op.bytesLess sk.toList s.toList = decide (¬ s.data.toList ≤ L[k])) := Lib.hid (by rw [less_is, e1, ByteArray.toList_eq])
      have HEQ : Hid ((sk.toList == s.toList) = decide (L[k] = s.data.toList)) := Lib.hid (by rw [e1, ByteArray.toList_eq, beq_is])
      clear e1 e2 k0
      cases hless : Op.bytesLess sk.toList s.toList
      · have HL : Hid (s.data.toList ≤ L[k]) := Lib.hid (by have := HLE.out; rw [hless] at this; simpa using this.symm)
        cases done
        · have hod := HOD.out rfl
          rcases Bool.eq_false_or_eq_true (sk.toList == s.toList) with hneq | hneq
          · have HST2 : Hid (WithIn s.data.toList L (out ++ [s.data.toList]) (k + 1) true) := Lib.hid (by
              have h := HST.out
              have he : L[k] = s.data.toList := by have := HEQ.out; rw [hneq] at this; simpa using this.symm
              rw [if_pos ⟨HL.out, rfl⟩, if_pos he] at h
              simpa [HL.out] using h)
            go_wp2_with
              (at_builtin; refine wpList_append_own _ rfl (.tmp 24) (.tmp 26) 35 rfl w.heap.size 9 i0 (.string ⟨#[]⟩) 1 16 Try.underlying35 hi hz0 hz1 hz2 rfl (by decide) _ (out).length ((out).map encStr) rfl (ho.alloc _) ⟨wr.heap.size, 0, none⟩ 1 1 [.string s] rfl rfl (cells_new _ _ _ _ rfl) (one_str _) (by simp only [maxLen]; omega) (by omega) (by have := hb.size; simp; omega) ?_; intro v4 w4 ho4 hg4 _; have hb4 := bel_own (hb.alloc hb.size (.cells #[.string s] 9)) (by have := hb.size; simp; omega) (ho.alloc _) hg4; clear hg4; replace ho4 := own_snoc ho4; have f1 : w4.cell? ⟨x, o + k, none⟩ = some (.string sk) := (hb4.cell (p := ⟨x, o + k, none⟩) hbo).trans K0.out)
            go_roundw
            case rel => exact ⟨k + 1, out ++ [s.data.toList], true, by omega, by simp; omega, by simp, HST2.out, rfl, by go_num, ho4, hb4⟩
            case measure => simp [intOf]; omega
          · have HST2 : Hid (WithIn s.data.toList L (out ++ [s.data.toList] ++ [sk.data.toList]) (k + 1) true) := Lib.hid (by
              have h := HST.out
              have he : ¬ L[k] = s.data.toList := by have := HEQ.out; rw [hneq] at this; simpa using this.symm
              rw [if_pos ⟨HL.out, rfl⟩, if_neg he] at h
              rw [HLD.out]
              simpa [HL.out] using h)
            have hlen : (out ++ [s.data.toList]).length ≤ k + 1 := by rw [List.length_append]; simp; omega
            obtain ⟨out2, ho2⟩ : ∃ o, o = out ++ [s.data.toList] := ⟨_, rfl⟩
            have HO2 := Lib.hid ho2
            rw [← ho2] at hlen
            clear ho2
            go_wp2_with (first
              | (at_builtin; refine wpList_append_own _ rfl (.tmp 24) (.tmp 26) 35 rfl w.heap.size 9 i0 (.string ⟨#[]⟩) 1 16 Try.underlying35 hi hz0 hz1 hz2 rfl (by decide) _ (out).length ((out).map encStr) rfl (ho.alloc _) ⟨wr.heap.size, 0, none⟩ 1 1 [.string s] rfl rfl (cells_new _ _ _ _ rfl) (one_str _) (by simp only [maxLen]; omega) (by omega) (by have := hb.size; simp; omega) ?_; intro v4 w4 ho4 hg4 _; have hb4 := bel_own (hb.alloc hb.size (.cells #[.string s] 9)) (by have := hb.size; simp; omega) (ho.alloc _) hg4; clear hg4; replace ho4 := own_snoc ho4; rw [← HO2.out] at ho4; have f1 : w4.cell? ⟨x, o + k, none⟩ = some (.string sk) := (hb4.cell (p := ⟨x, o + k, none⟩) hbo).trans K0.out)
              | (at_builtin; refine wpList_append_own _ rfl (.tmp 34) (.tmp 39) 35 rfl w.heap.size 9 i0 (.string ⟨#[]⟩) 1 16 Try.underlying35 hi hz0 hz1 hz2 rfl (by decide) _ (out2).length ((out2).map encStr) rfl (ho4.alloc _) ⟨w4.heap.size, 0, none⟩ 1 1 [.string sk] rfl rfl (cells_new _ _ _ _ rfl) (one_str _) (by simp only [maxLen]; omega) (by omega) (by have := hb4.size; simp; omega) ?_; intro v5 w5 ho5 hg4 _; have hb5 := bel_own (hb4.alloc hb4.size (.cells #[.string sk] 9)) (by have := hb4.size; simp; omega) (ho4.alloc _) hg4; clear hg4; replace ho5 := own_snoc ho5))
            go_roundw
            case rel => exact ⟨k + 1, out2 ++ [sk.data.toList], true, by omega, by rw [List.length_append]; simp; omega, by simp, by rw [HO2.out]; exact HST2.out, rfl, by go_num, ho5, hb5⟩
            case measure => simp [intOf]; omega
        · rcases Bool.eq_false_or_eq_true (sk.toList == s.toList) with hneq | hneq
          · have HST2 : Hid (WithIn s.data.toList L out (k + 1) true) := Lib.hid (by
              have h := HST.out
              have he : L[k] = s.data.toList := by have := HEQ.out; rw [hneq] at this; simpa using this.symm
              rw [if_neg (by simp), if_pos he] at h
              simpa using h)
            go_wp2_with fail
            go_roundw
            case rel => exact ⟨k + 1, out, true, by omega, by omega, by simp, HST2.out, rfl, by go_num, ho, hb⟩
            case measure => simp [intOf]; omega
          · have HST2 : Hid (WithIn s.data.toList L (out ++ [sk.data.toList]) (k + 1) true) := Lib.hid (by
              have h := HST.out
              have he : ¬ L[k] = s.data.toList := by have := HEQ.out; rw [hneq] at this; simpa using this.symm
              rw [if_neg (by simp), if_neg he] at h
              rw [HLD.out]
              simpa using h)
            go_wp2_with
              (at_builtin; refine wpList_append_own _ rfl (.tmp 34) (.tmp 39) 35 rfl w.heap.size 9 i0 (.string ⟨#[]⟩) 1 16 Try.underlying35 hi hz0 hz1 hz2 rfl (by decide) _ (out).length ((out).map encStr) rfl (ho.alloc _) ⟨wr.heap.size, 0, none⟩ 1 1 [.string sk] rfl rfl (cells_new _ _ _ _ rfl) (one_str _) (by simp only [maxLen]; omega) (by omega) (by have := hb.size; simp; omega) ?_; intro v5 w5 ho5 hg4 _; have hb5 := bel_own (hb.alloc hb.size (.cells #[.string sk] 9)) (by have := hb.size; simp; omega) (ho.alloc _) hg4; clear hg4; replace ho5 := own_snoc ho5)
            go_roundw
            case rel => exact ⟨k + 1, out ++ [sk.data.toList], true, by omega, by rw [List.length_append]; simp; omega, by simp, HST2.out, rfl, by go_num, ho5, hb5⟩
            case measure => simp [intOf]; omega
      · have HL : Hid (¬ s.data.toList ≤ L[k]) := Lib.hid (by have := HLE.out; rw [hless] at this; simpa using this.symm)
        have HST2 : Hid (WithIn s.data.toList L (out ++ [sk.data.toList]) (k + 1) done) := Lib.hid (by
          have h := HST.out
          have he : ¬ L[k] = s.data.toList := fun e => HL.out (by rw [e]; exact txt_refl _)
          rw [if_neg (fun h => HL.out h.1), if_neg he, decide_eq_false HL.out, Bool.or_false] at h
          rw [HLD.out]
          simpa using h)
        rcases Bool.eq_false_or_eq_true (sk.toList == s.toList) with hneq | hneq
        · have he : L[k] = s.data.toList := by have := HEQ.out; rw [hneq] at this; simpa using this.symm
          exact absurd (by rw [he]; exact txt_refl _) HL.out
        · go_wp2_with
            (at_builtin; refine wpList_append_own _ rfl (.tmp 34) (.tmp 39) 35 rfl w.heap.size 9 i0 (.string ⟨#[]⟩) 1 16 Try.underlying35 hi hz0 hz1 hz2 rfl (by decide) _ (out).length ((out).map encStr) rfl (ho.alloc _) ⟨wr.heap.size, 0, none⟩ 1 1 [.string sk] rfl rfl (cells_new _ _ _ _ rfl) (one_str _) (by simp only [maxLen]; omega) (by omega) (by have := hb.size; simp; omega) ?_; intro v5 w5 ho5 hg4 _; have hb5 := bel_own (hb.alloc hb.size (.cells #[.string sk] 9)) (by have := hb.size; simp; omega) (ho.alloc _) hg4; clear hg4; replace ho5 := own_snoc ho5)
          go_roundw
          case rel => exact ⟨k + 1, out ++ [sk.data.toList], done, by omega, by rw [List.length_append]; simp; omega, fun e => by have := HOD.out e; rw [List.length_append]; simp; omega, HST2.out, rfl, by go_num, ho5, hb5⟩
          case measure => simp [intOf]; omega
    · have HE := Lib.hid (with_end HIN.out (by omega))
      cases done
      · have := HOD.out rfl
        go_wp2_with
          (at_builtin; refine wpList_append_own _ rfl (.tmp 43) (.tmp 45) 35 rfl w.heap.size 9 i0 (.string ⟨#[]⟩) 1 16 Try.underlying35 hi hz0 hz1 hz2 rfl (by decide) _ (out).length ((out).map encStr) rfl (ho.alloc _) ⟨wr.heap.size, 0, none⟩ 1 1 [.string s] rfl rfl (cells_new _ _ _ _ rfl) (one_str _) (by simp only [maxLen]; omega) (by omega) (by have := hb.size; simp; omega) ?_; intro v4 w4 ho4 hg4 _; have hb4 := bel_own (hb.alloc hb.size (.cells #[.string s] 9)) (by have := hb.size; simp; omega) (ho.alloc _) hg4; clear hg4; replace ho4 := own_snoc ho4)
        go_ret
        refine ⟨v4, rfl, ?_, hb4⟩
        rw [HE.out]
        simpa using ho4
      · go_wp2_with fail
        go_ret
        refine ⟨_, rfl, ?_, hb⟩
        rw [HE.out]
        simpa using ho
end Go.Proofs.Ytpklnlpeedkmdaa
