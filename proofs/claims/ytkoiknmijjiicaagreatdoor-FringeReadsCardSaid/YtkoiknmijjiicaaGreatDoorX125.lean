/- Plain: texts cut at a byte: base.Cut, strings.Split and strings.Lines agree. No program in sight. -/
import Derived.Test.YtkoiknmijjiicaaGreatDoorX124
import Derived.Test.YtkoiknmijjiicaaGreatDoorU124
import Derived.Test.YtkoiknmijjiicaaGreatDoorU120
import Derived.Lib.SplitLaws
import Derived.Lib.IndexBytes
namespace Go.Proofs.YtkoiknmijjiicaaGreatDoor
set_option linter.unusedVariables false
set_option linter.unusedSimpArgs false
open Go.RowKit Go
/-- A list of bytes cut at a byte. -/
def cutL (c : UInt8) : List UInt8 → List (List UInt8)
  | [] => [[]]
  | x :: r => if x = c then [] :: cutL c r else match cutL c r with
    | [] => [[x]]
    | h :: t => (x :: h) :: t
theorem cutL_ne (c : UInt8) : ∀ l, cutL c l ≠ []
  | [] => by simp [cutL]
  | x :: r => by
    unfold cutL
    split
    · simp
    · split <;> simp
theorem cutL_snoc (c x : UInt8) : ∀ (l : List UInt8) (ps : List (List UInt8)) (q : List UInt8), cutL c l = ps ++ [q] → cutL c (l ++ [x]) = if x = c then ps ++ [q] ++ [[]] else ps ++ [q ++ [x]]
  | [], ps, q, h => by
    have h1 : ps = [] ∧ q = [] := by
      rcases ps with _ | ⟨p, ps⟩
      · simp [cutL] at h; exact ⟨rfl, h⟩
      · simp [cutL] at h
    obtain ⟨rfl, rfl⟩ := h1
    by_cases hx : x = c <;> simp [cutL, hx]
  | y :: r, ps, q, h => by
    rw [List.cons_append]
    unfold cutL at h ⊢
    by_cases hy : y = c
    · rw [if_pos hy] at h ⊢
      rcases ps with _ | ⟨p, ps⟩
      · exfalso
        simp at h
        exact cutL_ne c r h.2
      · simp only [List.cons_append, List.cons.injEq] at h
        obtain ⟨rfl, h⟩ := h
        rw [cutL_snoc c x r ps q h]
        split <;> simp
    · rw [if_neg hy] at h ⊢
      obtain ⟨ps', q', hr⟩ : ∃ ps' q', cutL c r = ps' ++ [q'] := ⟨_, _, (List.dropLast_concat_getLast (cutL_ne c r)).symm⟩
      rw [cutL_snoc c x r ps' q' hr]
      rw [hr] at h
      rcases ps' with _ | ⟨p, ps'⟩
      · simp only [List.nil_append] at h
        rcases ps with _ | ⟨p', ps⟩
        · simp at h
          subst h
          by_cases hx : x = c <;> simp [hx]
        · simp at h
      · simp only [List.cons_append] at h
        rcases ps with _ | ⟨p', ps⟩
        · simp at h
        · simp only [List.cons_append, List.cons.injEq] at h
          obtain ⟨rfl, h⟩ := h
          have := List.append_inj' h rfl
          obtain ⟨rfl, h2⟩ := this
          simp at h2
          subst h2
          by_cases hx : x = c <;> simp [hx]
theorem cutL_miss (c : UInt8) : ∀ (l : List UInt8), Lib.indexByte l c = -1 → cutL c l = [l]
  | [], _ => rfl
  | x :: r, h => by
    unfold Lib.indexByte at h
    split at h
    · cases h
    · next hx =>
      have hx' : ¬ x = c := fun e => hx (by simp [e])
      split at h
      · next hr =>
        unfold cutL
        rw [if_neg hx', cutL_miss c r (by simpa using hr)]
      · next hr =>
        have := Lib.indexByte_ge r c
        omega
theorem cutL_hit (c : UInt8) : ∀ (l : List UInt8) (i : Nat), Lib.indexByte l c = i → cutL c l = l.take i :: cutL c (l.drop (i + 1))
  | [], i, h => by unfold Lib.indexByte at h; omega
  | x :: r, i, h => by
    unfold Lib.indexByte at h
    split at h
    · next hx =>
      have hx' : x = c := by simpa using hx
      have : i = 0 := by omega
      subst this
      unfold cutL
      rw [if_pos hx']
      simp
      cases r <;> rfl
    · next hx =>
      have hx' : ¬ x = c := fun e => hx (by simp [e])
      split at h
      · omega
      · next hr =>
        obtain ⟨j, rfl⟩ : ∃ j, i = j + 1 := ⟨i - 1, by have := Lib.indexByte_ge r c; have : Lib.indexByte r c ≠ -1 := fun e => hr (by simp [e]); omega⟩
        have hj : Lib.indexByte r c = (j : Int) := by omega
        have := cutL_hit c r j hj
        rw [cutL, if_neg hx', this]
        simp
/-- strings.Split at a byte. -/
theorem splitK_cut (c : UInt8) : ∀ (k : Nat) (l : List UInt8), l.count c ≤ k → Lib.splitK [c] 0 k l = cutL c l
  | 0, l, h => by
    have : Lib.indexByte l c = -1 := by
      apply Classical.byContradiction
      intro hn
      have h0 := Lib.indexByte_ge l c
      obtain ⟨i, hi⟩ : ∃ i : Nat, Lib.indexByte l c = i := ⟨(Lib.indexByte l c).toNat, by omega⟩
      have h1 := (Lib.indexByte_some hi).1
      have := List.count_pos_iff.2 (List.mem_of_getElem? h1)
      omega
    rw [cutL_miss c l this]
    rfl
  | k + 1, l, h => by
    unfold Lib.splitK
    rw [Lib.index_one]
    by_cases hi : Lib.indexByte l c = -1
    · rw [if_pos (by rw [hi]; rfl), cutL_miss c l hi]
    · have h0 := Lib.indexByte_ge l c
      obtain ⟨i, hi'⟩ : ∃ i : Nat, Lib.indexByte l c = i := ⟨(Lib.indexByte l c).toNat, by omega⟩
      rw [if_neg (by simpa using hi), hi', cutL_hit c l i hi']
      have e : ((i : Int).toNat + 0) = i := by omega
      have e2 : (i : Int).toNat + [c].length = i + 1 := by simp
      rw [e, e2]
      congr 1
      refine splitK_cut c k _ ?_
      have h1 := (Lib.indexByte_some hi').1
      have h2 := (List.getElem?_eq_some_iff.1 h1)
      obtain ⟨h3, h4⟩ := h2
      have h5 : l = l.take i ++ (c :: l.drop (i + 1)) := by
        conv => lhs; rw [← List.take_append_drop i l, List.drop_eq_getElem_cons h3, h4]
      have h6 : l.count c = (l.take i).count c + ((l.drop (i + 1)).count c + 1) := by
        conv => lhs; rw [h5, List.count_append, List.count_cons_self]
      omega
theorem bytes_inj {a b : List ByteArray} (h : a.map (·.data.toList) = b.map (·.data.toList)) : a = b := by
  refine (List.map_inj_right ?_).1 h
  intro x y e
  apply ByteArray.ext
  apply Array.toList_inj.1
  exact e
theorem split_cut (B : ByteArray) (c : UInt8) : (Lib.splitB ⟨#[c]⟩ 0 (Lib.countB B ⟨#[c]⟩) B).map (·.data.toList) = cutL c B.data.toList := by
  rw [Lib.splitB_data]
  refine splitK_cut c _ _ ?_
  show _ ≤ Lib.count B.data.toList [c]
  rw [Lib.count_one]
  exact Nat.le_refl _
/-- base.Cut. -/
theorem cutSt_list (B : ByteArray) (c : Nat) (hc : c < 256) : ∀ i, i ≤ B.size → cutL (UInt8.ofNat c) (B.data.toList.take i) = (cutSt B c i).1.map (·.data.toList) ++ [(B.data.toList.drop (cutSt B c i).2).take (i - (cutSt B c i).2)]
  | 0, _ => by simp [cutSt, cutL]
  | i + 1, h => by
    have ih := cutSt_list B c hc i (by omega)
    obtain ⟨hp, -⟩ := cutSt_le B c i
    have hz : i < B.data.toList.length := by rw [← Lib.size_eq]; omega
    have hx : B.data.toList[i]? = some (B.data.toList[i]) := List.getElem?_eq_getElem hz
    have hb := byteAt_list B hx
    rw [List.take_add_one, hx, Option.toList_some, cutL_snoc _ _ _ _ _ ih]
    have hiff : B.data.toList[i] = UInt8.ofNat c ↔ byteAt B i = c := by
      rw [hb]
      constructor
      · intro e; rw [e]; exact UInt8.toNat_ofNat_of_lt' hc
      · intro e; rw [← e]; simp
    have HS : cutSt B c (i + 1) = if byteAt B i = c then ((cutSt B c i).1 ++ [B.extract (cutSt B c i).2 i], i + 1) else cutSt B c i := rfl
    rw [HS]
    by_cases he : byteAt B i = c
    · rw [if_pos he, if_pos (hiff.2 he)]
      simp only [List.map_append, List.map_cons, List.map_nil, Lib.extract_data, Nat.sub_self, List.take_zero]
    · rw [if_neg he, if_neg (fun e => he (hiff.1 e))]
      congr 2
      rw [show i + 1 - (cutSt B c i).2 = (i - (cutSt B c i).2) + 1 by omega, List.take_add_one, List.getElem?_drop, show (cutSt B c i).2 + (i - (cutSt B c i).2) = i by omega, hx, Option.toList_some]
theorem cutW_list (B : ByteArray) (c : Nat) (hc : c < 256) : (cutW B c).map (·.data.toList) = cutL (UInt8.ofNat c) B.data.toList := by
  have h := cutSt_list B c hc B.size (Nat.le_refl _)
  rw [show B.data.toList.take B.size = B.data.toList by rw [Lib.size_eq, List.take_length]] at h
  rw [h]
  unfold cutW
  rw [List.map_append, List.map_cons, List.map_nil, Lib.extract_data]
theorem split_cutW (B : ByteArray) : Lib.splitB ⟨#[32]⟩ 0 (Lib.countB B ⟨#[32]⟩) B = cutW B 32 := by
  apply bytes_inj
  rw [split_cut, cutW_list B 32 (by decide)]
  rfl
end Go.Proofs.YtkoiknmijjiicaaGreatDoor
