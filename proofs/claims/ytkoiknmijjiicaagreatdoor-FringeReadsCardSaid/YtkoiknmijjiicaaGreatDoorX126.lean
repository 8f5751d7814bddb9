/- Plain: the lines that strings.Lines yields are the pieces of base.Cut. No program in sight. -/
import Derived.Test.YtkoiknmijjiicaaGreatDoorX125
namespace Go.Proofs.YtkoiknmijjiicaaGreatDoor
set_option linter.unusedVariables false
set_option linter.unusedSimpArgs false
open Go.RowKit Go
def pieces (s : ByteArray) : List (List UInt8) := cutL 10 s.data.toList
/-- How many line ends a text has. -/
def endsN (s : ByteArray) : Nat := (pieces s).length - 1
theorem pieces_pos (s : ByteArray) : (pieces s).length = endsN s + 1 := by
  have := List.length_pos_iff.2 (cutL_ne 10 s.data.toList)
  unfold endsN pieces
  omega
/-- How many lines strings.Lines yields. -/
def linesN (s : ByteArray) : Nat := if (pieces s).getD (endsN s) [] = [] then endsN s else endsN s + 1
theorem rest_piece (s : ByteArray) : ∀ k, k ≤ endsN s → cutL 10 (rests s k).data.toList = (pieces s).drop k
  | 0, _ => rfl
  | k + 1, h => by
    have ih := rest_piece s k (by omega)
    have hl := pieces_pos s
    rcases index_cases (rests s k) with hix | ⟨i, hix, hil⟩
    · exfalso
      rw [cutL_miss _ _ hix] at ih
      have := congrArg List.length ih
      simp at this
      omega
    · have hE : lnE (rests s k) = i + 1 := by unfold lnE; rw [if_neg (by omega), hix]; omega
      have hd : (rests s (k + 1)).data.toList = (rests s k).data.toList.drop (i + 1) := by
        rw [rests, hE, Lib.extract_data, List.take_of_length_le]
        rw [List.length_drop, Lib.size_eq]
        exact Nat.le_refl _
      rw [cutL_hit _ _ i hix] at ih
      rw [hd, show (pieces s).drop (k + 1) = ((pieces s).drop k).drop 1 by rw [List.drop_drop], ← ih]
      rfl
theorem rest_last (s : ByteArray) : (rests s (endsN s)).data.toList = (pieces s).getD (endsN s) [] ∧ Lib.indexByte (rests s (endsN s)).data.toList 10 = -1 := by
  have ih := rest_piece s (endsN s) (Nat.le_refl _)
  have hl := pieces_pos s
  rcases index_cases (rests s (endsN s)) with hix | ⟨i, hix, hil⟩
  · refine ⟨?_, hix⟩
    rw [cutL_miss _ _ hix] at ih
    rw [List.getD_eq_getElem?_getD, show (pieces s)[endsN s]? = ((pieces s).drop (endsN s))[0]? by rw [List.getElem?_drop, Nat.add_zero], ← ih]
    rfl
  · exfalso
    rw [cutL_hit _ _ i hix] at ih
    have h1 := congrArg List.length ih
    rw [List.length_cons, List.length_drop, hl] at h1
    have := List.length_pos_iff.2 (cutL_ne 10 ((rests s (endsN s)).data.toList.drop (i + 1)))
    omega
/-- Line number k ahead of the last piece. -/
theorem line_full (s : ByteArray) (k : Nat) (h : k < endsN s) : (lineK s k).data.toList = (pieces s).getD k [] ++ [10] ∧ 0 < (rests s k).size := by
  have ih := rest_piece s k (by omega)
  have hl := pieces_pos s
  rcases index_cases (rests s k) with hix | ⟨i, hix, hil⟩
  · exfalso
    rw [cutL_miss _ _ hix] at ih
    have := congrArg List.length ih
    simp at this
    omega
  · refine ⟨?_, by omega⟩
    have hE : lnE (rests s k) = i + 1 := by unfold lnE; rw [if_neg (by omega), hix]; omega
    rw [cutL_hit _ _ i hix] at ih
    have h0 : (pieces s).getD k [] = (rests s k).data.toList.take i := by
      rw [List.getD_eq_getElem?_getD, show (pieces s)[k]? = ((pieces s).drop k)[0]? by rw [List.getElem?_drop, Nat.add_zero], ← ih]
      rfl
    rw [h0]
    unfold lineK
    rw [hE, Lib.extract_data, List.drop_zero, Nat.sub_zero, List.take_add_one, (Lib.indexByte_some hix).1]
    rfl
theorem line_last (s : ByteArray) : (lineK s (endsN s)).data.toList = (pieces s).getD (endsN s) [] ∧ (rests s (endsN s + 1)).size = 0 := by
  obtain ⟨h1, h2⟩ := rest_last s
  have hE : lnE (rests s (endsN s)) = (rests s (endsN s)).size := by unfold lnE; rw [if_pos (by omega)]
  refine ⟨?_, ?_⟩
  · unfold lineK
    rw [hE, ext_all, h1]
  · rw [rests, hE, ext_none]
    rfl
theorem linesN_end (s : ByteArray) : (rests s (linesN s)).size = 0 := by
  unfold linesN
  split
  · next h =>
    rw [Lib.size_eq, (rest_last s).1, h]
    rfl
  · exact (line_last s).2
theorem linesN_pos (s : ByteArray) (k : Nat) (h : k < linesN s) : 0 < (rests s k).size := by
  by_cases hk : k < endsN s
  · exact (line_full s k hk).2
  · unfold linesN at h
    split at h
    · omega
    · next hn =>
      obtain rfl : k = endsN s := by omega
      rw [Lib.size_eq, (rest_last s).1]
      exact List.length_pos_iff.2 hn
/-- What strings.CutSuffix makes of a line. -/
theorem line_cut (s : ByteArray) (k : Nat) (h : k < linesN s) : Lib.trimSuffix (lineK s k).data.toList [10] = (pieces s).getD k [] ∧ Lib.hasSuffix (lineK s k).data.toList [10] = decide (k < endsN s) := by
  by_cases hk : k < endsN s
  · rw [(line_full s k hk).1]
    have h1 : Lib.hasSuffix ((pieces s).getD k [] ++ [10]) [10] = true := by
      unfold Lib.hasSuffix
      exact List.isSuffixOf_iff_suffix.2 (List.suffix_append _ _)
    refine ⟨?_, by rw [h1]; simp [hk]⟩
    unfold Lib.trimSuffix
    rw [if_pos h1]
    simp
  · unfold linesN at h
    split at h
    · omega
    · obtain rfl : k = endsN s := by omega
      obtain ⟨h1, h2⟩ := rest_last s
      have h3 : Lib.hasSuffix (lineK s (endsN s)).data.toList [10] = false := by
        rw [(line_last s).1, ← h1]
        apply Bool.eq_false_iff.2
        intro hc
        unfold Lib.hasSuffix at hc
        obtain ⟨t, ht⟩ := List.isSuffixOf_iff_suffix.1 hc
        have := Lib.indexByte_none h2 t.length
        rw [← ht] at this
        simp at this
      refine ⟨?_, by rw [h3]; simp⟩
      unfold Lib.trimSuffix
      rw [h3]
      exact (line_last s).1
theorem pieces_cutW (s : ByteArray) : (cutW s 10).map (·.data.toList) = pieces s := cutW_list s 10 (by decide)
def textAt (L : List ByteArray) (k : Nat) : ByteArray := L.getD k ⟨#[]⟩
theorem textAt_piece (s : ByteArray) (k : Nat) : (textAt (cutW s 10) k).data.toList = (pieces s).getD k [] := by
  rw [← pieces_cutW]
  unfold textAt
  rw [List.getD_eq_getElem?_getD, List.getD_eq_getElem?_getD, List.getElem?_map]
  cases (cutW s 10)[k]? <;> rfl
/-- The text of line k, as the walk has it. -/
theorem line_text (s : ByteArray) (k : Nat) (h : k < linesN s) : (⟨(Lib.trimSuffix (lineK s k).data.toList [10]).toArray⟩ : ByteArray) = textAt (cutW s 10) k ∧ Lib.hasSuffix (lineK s k).data.toList [10] = decide (k < endsN s) := by
  obtain ⟨h1, h2⟩ := line_cut s k h
  refine ⟨?_, h2⟩
  apply ByteArray.ext
  apply Array.toList_inj.1
  rw [textAt_piece, h1]
theorem cutW_len (s : ByteArray) : (cutW s 10).length = endsN s + 1 := by rw [← pieces_pos, ← pieces_cutW, List.length_map]
theorem linesN_eq (s : ByteArray) : linesN s = if (textAt (cutW s 10) (endsN s)).size = 0 then endsN s else endsN s + 1 := by
  unfold linesN
  rw [← textAt_piece, Lib.size_eq]
  simp only [List.length_eq_zero_iff]
end Go.Proofs.YtkoiknmijjiicaaGreatDoor
