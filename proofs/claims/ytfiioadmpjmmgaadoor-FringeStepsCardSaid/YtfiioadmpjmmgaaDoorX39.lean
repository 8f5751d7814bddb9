/- Chapter 4: the steps of a map as a list; the step that occurs most often. No program but for what a map holds. -/
import Derived.Test.YtfiioadmpjmmgaaDoorX9
import Derived.Maps.RangeWalk
import Derived.Maps.OwnOps
namespace Go.Proofs.YtfiioadmpjmmgaaDoor
set_option linter.unusedVariables false
set_option linter.unusedSimpArgs false
open Go.RowKit Ntt Go.Maps
def okS (z : Nat → Nat → Int) (R C : Nat) (d : Bool) (r c : Nat) : Bool := (decide (toR r d < R) && decide (toC c d < C)) && (nvB (z r c) && nvB (z (toR r d) (toC c d)))
def stS (z : Nat → Nat → Int) (d : Bool) (r c : Nat) : Int := wrP (z (toR r d) (toC c d) - z r c)
/-- The steps of a row's first pixels, and those of the first rows. -/
def rowS (z : Nat → Nat → Int) (R C : Nat) (d : Bool) (r : Nat) : Nat → List Int
  | 0 => []
  | k + 1 => rowS z R C d r k ++ (if okS z R C d r k then [stS z d r k] else [])
def allS (z : Nat → Nat → Int) (R C : Nat) (d : Bool) (cols : Nat) : Nat → List Int
  | 0 => []
  | k + 1 => allS z R C d cols k ++ rowS z R C d k cols
theorem rowS_len (z : Nat → Nat → Int) (R C : Nat) (d : Bool) (r : Nat) : ∀ k, (rowS z R C d r k).length ≤ k
  | 0 => Nat.le_refl _
  | k + 1 => by
    have := rowS_len z R C d r k
    rw [rowS, List.length_append]
    split <;> simp <;> omega
theorem allS_len (z : Nat → Nat → Int) (R C : Nat) (d : Bool) (cols : Nat) : ∀ k, (allS z R C d cols k).length ≤ k * cols
  | 0 => by simp [allS]
  | k + 1 => by
    have h1 := allS_len z R C d cols k
    have h2 := rowS_len z R C d k cols
    rw [allS, List.length_append, Nat.add_mul]
    omega
/-- The rows and columns that the program goes over. -/
def rowsN (R : Nat) (d : Bool) : Nat := if d then R - 1 else R
def colsN (C : Nat) (d : Bool) : Nat := if d then C else C - 1
theorem rowS_cut (z : Nat → Nat → Int) {R C : Nat} (d : Bool) (r : Nat) (hC : 0 < C) : rowS z R C d r (colsN C d) = rowS z R C d r C := by
  cases d
  · obtain ⟨c, rfl⟩ : ∃ c, C = c + 1 := ⟨C - 1, by omega⟩
    show rowS z R (c + 1) false r (c + 1 - 1) = rowS z R (c + 1) false r (c + 1)
    rw [Nat.add_sub_cancel, rowS.eq_2]
    have : okS z R (c + 1) false r c = false := by unfold okS toC; simp
    rw [this]
    simp
  · rfl
theorem rowS_void (z : Nat → Nat → Int) {R C : Nat} (d : Bool) {r : Nat} (h : ¬ toR r d < R) : ∀ k, rowS z R C d r k = []
  | 0 => rfl
  | k + 1 => by
    rw [rowS, rowS_void z d h k]
    have : okS z R C d r k = false := by unfold okS; rw [decide_eq_false h]; rfl
    rw [this]
    rfl
theorem allS_cols (z : Nat → Nat → Int) {R C : Nat} (d : Bool) (hC : 0 < C) : ∀ k, allS z R C d (colsN C d) k = allS z R C d C k
  | 0 => rfl
  | k + 1 => by rw [allS, allS, allS_cols z d hC k, rowS_cut z d k hC]
theorem allS_cut (z : Nat → Nat → Int) {R C : Nat} (d : Bool) (hR : 0 < R) (hC : 0 < C) : allS z R C d (colsN C d) (rowsN R d) = allS z R C d C R := by
  rw [allS_cols z d hC]
  cases d
  · rfl
  · obtain ⟨r, rfl⟩ : ∃ r, R = r + 1 := ⟨R - 1, by omega⟩
    show allS z (r + 1) C true C (r + 1 - 1) = allS z (r + 1) C true C (r + 1)
    rw [Nat.add_sub_cancel, allS.eq_2, rowS_void z true (by unfold toR; simp)]
    simp
/-- A number is not better than another one. -/
def optB (l : List Int) (b n : Int) : Prop := l.count n < l.count b ∨ (l.count n = l.count b ∧ b ≤ n)
theorem optB_refl (l : List Int) (b : Int) : optB l b b := .inr ⟨rfl, Int.le_refl _⟩
theorem optB_trans {l : List Int} {a b c : Int} (h1 : optB l a b) (h2 : optB l b c) : optB l a c := by unfold optB at *; omega
def betB (l : List Int) (n b : Int) : Bool := decide (l.count b < l.count n) || (decide (l.count n = l.count b) && decide (n < b))
theorem betB_opt {l : List Int} {n b : Int} (h : betB l n b = true) : optB l n b := by
  unfold betB at h
  simp only [Bool.or_eq_true, Bool.and_eq_true, decide_eq_true_eq] at h
  unfold optB
  omega
theorem betB_not {l : List Int} {n b : Int} (h : betB l n b = false) : optB l b n := by
  unfold betB at h
  simp only [Bool.or_eq_false_iff, Bool.and_eq_false_iff, decide_eq_false_iff_not] at h
  unfold optB
  omega
/-- The best number of a list. -/
def IsBest (l : List Int) (b : Int) : Prop := b ∈ l ∧ ∀ n ∈ l, optB l b n
theorem IsBest.unique {l : List Int} {a b : Int} (ha : IsBest l a) (hb : IsBest l b) : a = b := by
  have h1 := ha.2 b hb.1
  have h2 := hb.2 a ha.1
  unfold optB at h1 h2
  omega
def stepB (l : List Int) (s : Int × Nat) (n : Int) : Int × Nat := if s.2 < l.count n ∨ (l.count n = s.2 ∧ n < s.1) then (n, l.count n) else s
def foldB (l : List Int) (k : Nat) : Int × Nat := (l.take k).foldl (stepB l) (0, 0)
theorem foldB_zero (l : List Int) : foldB l 0 = (0, 0) := rfl
theorem foldB_succ (l : List Int) {k : Nat} (hk : k < l.length) : foldB l (k + 1) = stepB l (foldB l k) (intAt l k) := by
  unfold foldB
  rw [List.take_add_one, List.foldl_append]
  have : l[k]? = some (intAt l k) := by unfold intAt; simp [hk]
  rw [this]
  rfl
theorem intAt_mem {l : List Int} {k : Nat} (hk : k < l.length) : intAt l k ∈ l := by
  unfold intAt
  rw [List.getElem?_eq_getElem hk]
  exact List.getElem_mem hk
theorem foldB_inv (l : List Int) : ∀ k, k ≤ l.length → (k = 0 → foldB l k = (0, 0)) ∧ (0 < k → (foldB l k).1 ∈ l ∧ (foldB l k).2 = l.count (foldB l k).1 ∧ ∀ j, j < k → optB l (foldB l k).1 (intAt l j))
  | 0, _ => ⟨fun _ => rfl, fun h => absurd h (by decide)⟩
  | k + 1, hk => by
    refine ⟨fun h => absurd h (by omega), fun _ => ?_⟩
    obtain ⟨h0, h1⟩ := foldB_inv l k (by omega)
    have hm := intAt_mem (l := l) (k := k) (by omega)
    have hc : 0 < l.count (intAt l k) := List.count_pos_iff.2 hm
    rw [foldB_succ l (by omega)]
    unfold stepB
    by_cases hz : k = 0
    · subst hz
      rw [h0 rfl, if_pos (.inl hc)]
      refine ⟨hm, rfl, fun j hj => ?_⟩
      obtain rfl : j = 0 := by omega
      exact optB_refl _ _
    · obtain ⟨h2, h3, h4⟩ := h1 (by omega)
      split
      · rename_i h
        refine ⟨hm, rfl, fun j hj => ?_⟩
        have ho : optB l (intAt l k) (foldB l k).1 := by unfold optB; omega
        rcases Nat.lt_succ_iff_lt_or_eq.1 hj with hj' | rfl
        · exact optB_trans ho (h4 j hj')
        · exact optB_refl _ _
      · rename_i h
        refine ⟨h2, h3, fun j hj => ?_⟩
        rcases Nat.lt_succ_iff_lt_or_eq.1 hj with hj' | rfl
        · exact h4 j hj'
        · unfold optB; omega
theorem foldB_best {l : List Int} (h : l ≠ []) : IsBest l (foldB l l.length).1 ∧ 0 < (foldB l l.length).2 := by
  have hp : 0 < l.length := List.length_pos_iff.2 h
  obtain ⟨h1, h2, h3⟩ := (foldB_inv l l.length (Nat.le_refl _)).2 hp
  refine ⟨⟨h1, fun n hn => ?_⟩, by rw [h2]; exact List.count_pos_iff.2 h1⟩
  obtain ⟨j, hj, rfl⟩ := List.getElem_of_mem hn
  have := h3 j hj
  unfold intAt at this
  rwa [List.getElem?_eq_getElem hj] at this
/-- What a map of counts holds. -/
def CntD {H : Type} (D : DataW H) (l : List Int) : Prop := IsMap D ∧ ∀ n : Int, D.atKey (.int .i64 n) (.lit (.int .i64 0)) = .lit (.int .i64 (l.count n)) ∧ has D (.int .i64 n) = decide (n ∈ l)
theorem cntD_nil {H : Type} : CntD (H := H) (.map []) [] := ⟨isMap_empty, fun n => ⟨by simp [DataW.atKey], by simp [has]⟩⟩
theorem cntD_step {H : Type} {D : DataW H} {l : List Int} (h : CntD D l) (n : Int) : CntD (D.put (.int .i64 n) (.lit (.int .i64 ((l.count n : Int) + 1)))) (l ++ [n]) := by
  obtain ⟨hm, h⟩ := h
  refine ⟨?_, fun k => ?_⟩
  · obtain ⟨es, rfl⟩ := hm
    exact ⟨_, rfl⟩
  · by_cases hk : k = n
    · subst hk
      refine ⟨?_, ?_⟩
      · rw [atKey_put_same hm (by trivial)]
        simp [List.count_append]
      · rw [has_put_same hm (by trivial)]
        simp
    · have hne : (Lit.int .i64 k) ≠ Lit.int .i64 n := fun e => hk (by cases e; rfl)
      refine ⟨?_, ?_⟩
      · rw [atKey_put_other hne, (h k).1]
        have : (l ++ [n]).count k = l.count k := by rw [List.count_append]; simp [List.count_cons, Ne.symm hk]
        rw [this]
      · rw [has_put_other hne, (h k).2]
        simp [hk]
theorem CntD.at {H : Type} {D : DataW H} {l : List Int} (h : CntD D l) {n c : Int} (e : D.atKey (.int .i64 n) (.lit (.int .i64 0)) = .lit (.int .i64 c)) : c = l.count n := by
  rw [(h.2 n).1] at e
  cases e
  rfl
end Go.Proofs.YtfiioadmpjmmgaaDoor
