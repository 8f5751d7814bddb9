/- Simple polygons: the program's check in words of points; a polygon that passes it has an area. -/
import Derived.Test.YthnfepfbkmafaaaJ3
namespace Go.Proofs.Ythnfepfbkmafaaa.Geo
theorem ptAt_ne {ps : List Plc} (hc : ∀ k, k < ps.length → cornerErr ps k = 0) {j k : Nat} (hj : j < ps.length) (hk : k < ps.length) (hn : j ≠ k) : ptAt ps j ≠ ptAt ps k := by
  intro e
  unfold ptAt at e
  simp only [Pt.mk.injEq] at e
  exact corner_ne hc hj hk hn e
theorem next_prev {n k : Nat} (h : k < n) : nextN n (prevN n k) = k := by unfold nextN prevN; split <;> split <;> omega
theorem prev_next {n k : Nat} (h : k < n) : prevN n (nextN n k) = k := by unfold nextN prevN; split <;> split <;> omega
theorem prev_lt' {n k : Nat} (h : k < n) : prevN n k < n := by unfold prevN; split <;> omega
theorem foldAt_no {ps : List Plc} {i : Nat} : foldAt ps i = false ↔ NoFold (ptAt ps i) (ptAt ps (nextN ps.length i)) (ptAt ps (prevN ps.length i)) := by
  rw [fold_no]; rfl
theorem OkB.symm {s t : Pt × Pt} (h : OkB s t) : OkB t s := by
  unfold OkB at *
  rcases h with ⟨h1, h2⟩ | ⟨h1, h2⟩ | ⟨h1, h⟩ | ⟨h1, h⟩ | ⟨h1, h⟩ | ⟨h1, h⟩ | h
  · exact Or.inl ⟨h1.symm, h2.symm⟩
  · exact Or.inr (Or.inl ⟨h2.symm, h1.symm⟩)
  · exact Or.inr (Or.inr (Or.inl ⟨h1.symm, by rw [← h1]; exact h.symm⟩))
  · exact Or.inr (Or.inr (Or.inr (Or.inr (Or.inl ⟨h1.symm, by rw [← h1]; exact h.symm⟩))))
  · exact Or.inr (Or.inr (Or.inr (Or.inl ⟨h1.symm, by rw [← h1]; exact h.symm⟩)))
  · exact Or.inr (Or.inr (Or.inr (Or.inr (Or.inr (Or.inl ⟨h1.symm, by rw [← h1]; exact h.symm⟩)))))
  · exact Or.inr (Or.inr (Or.inr (Or.inr (Or.inr (Or.inr (by rw [meet_meets, meets_comm, ← meet_meets]; exact h))))))
/-- The program's check in words of points: to. -/
theorem ok_of_check {ps : List Plc} (hn : 3 ≤ ps.length) (hr : ¬ RClash ps) : ∀ s, s ∈ ring (ptsOf ps) → ∀ t, t ∈ ring (ptsOf ps) → OkB s t := by
  have key : ∀ i k, i < k → k < ps.length → OkB (ptAt ps i, ptAt ps (nextN ps.length i)) (ptAt ps k, ptAt ps (nextN ps.length k)) := by
    intro i k hik hk
    by_cases h1 : k = i + 1
    · subst h1
      have e1 : nextN ps.length i = i + 1 := by unfold nextN; rw [if_pos hk]
      refine Or.inr (Or.inr (Or.inr (Or.inr (Or.inl ⟨by rw [e1], ?_⟩))))
      dsimp only
      rw [e1]
      have hf : foldAt ps (i + 1) = false := by
        refine Classical.byContradiction fun h => hr ⟨i + 1, hk, Or.inl (by simpa using h)⟩
      rw [foldAt_no] at hf
      have e2 : prevN ps.length (i + 1) = i := by unfold prevN; rw [if_neg (by omega)]; omega
      rw [e2] at hf
      exact hf.symm
    · by_cases h2 : nextN ps.length k = i
      · refine Or.inr (Or.inr (Or.inr (Or.inl ⟨by rw [h2], ?_⟩)))
        dsimp only
        have hf : foldAt ps i = false := by
          refine Classical.byContradiction fun h => hr ⟨i, by omega, Or.inl (by simpa using h)⟩
        rw [foldAt_no] at hf
        have e2 : prevN ps.length i = k := by rw [← h2, prev_next hk]
        rw [e2] at hf
        exact hf
      · refine Or.inr (Or.inr (Or.inr (Or.inr (Or.inr (Or.inr ?_)))))
        rw [sdOf_at, sdOf_at]
        refine Classical.byContradiction fun h => hr ⟨i, by omega, Or.inr ⟨k, by omega, hk, h2, by simpa using h⟩⟩
  intro s hs t ht
  obtain ⟨i, hi, rfl⟩ := (ring_idx (by omega)).1 hs
  obtain ⟨k, hk, rfl⟩ := (ring_idx (by omega)).1 ht
  rcases Nat.lt_trichotomy i k with h | h | h
  · exact key i k h hk
  · subst h; exact Or.inl ⟨rfl, rfl⟩
  · exact (key k i h hi).symm
/-- And from. -/
theorem check_of_ok {ps : List Plc} (hn : 3 ≤ ps.length) (hc : ∀ k, k < ps.length → cornerErr ps k = 0) (h : ∀ s, s ∈ ring (ptsOf ps) → ∀ t, t ∈ ring (ptsOf ps) → OkB s t) : ¬ RClash ps := by
  have at_ : ∀ i k, i < ps.length → k < ps.length → OkB (ptAt ps i, ptAt ps (nextN ps.length i)) (ptAt ps k, ptAt ps (nextN ps.length k)) := fun i k hi hk => h _ ((ring_idx (by omega)).2 ⟨i, hi, rfl⟩) _ ((ring_idx (by omega)).2 ⟨k, hk, rfl⟩)
  have ne : ∀ {i k}, i < ps.length → k < ps.length → ptAt ps i = ptAt ps k → i = k := fun hi hk e => Classical.byContradiction fun hh => ptAt_ne hc hi hk hh e
  rintro ⟨i, hi, hf | ⟨k, h1, h2, h3, hm⟩⟩
  · have hp := prev_lt' hi
    have hx := next_lt hi
    rcases at_ _ _ hp hi with ⟨e, -⟩ | ⟨e, -⟩ | ⟨e, -⟩ | ⟨e, -⟩ | ⟨e, hh⟩ | ⟨e, -⟩ | hh
    · have := ne hp hi e; unfold prevN at this; split at this <;> omega
    · have := ne hp hx e; unfold prevN nextN at this; split at this <;> split at this <;> omega
    · have := ne hp hi e; unfold prevN at this; split at this <;> omega
    · have := ne hp hx e; unfold prevN nextN at this; split at this <;> split at this <;> omega
    · dsimp only at hh e
      rw [e] at hh
      have := foldAt_no.2 hh.symm
      rw [hf] at this
      cases this
    · rw [next_prev hi] at e
      have := ne hi hx e
      unfold nextN at this; split at this <;> omega
    · rw [sdOf_at, sdOf_at, meet_meets] at hh
      unfold meetsP at hh
      rw [Bool.or_eq_false_iff, Bool.or_eq_false_iff] at hh
      have h5 := hh.1.1
      rw [← Bool.not_eq_true] at h5
      refine h5 ?_
      rw [← on_has, side1, side1, next_prev hi]
      unfold onP crossP
      simp only [inR, Bool.and_eq_true, decide_eq_true_eq]
      refine ⟨by grind, ⟨by omega, by omega⟩, by omega, by omega⟩
  · have hx := next_lt hi
    have hy := next_lt h2
    rcases at_ i k hi h2 with ⟨e, -⟩ | ⟨e, -⟩ | ⟨e, -⟩ | ⟨e, -⟩ | ⟨e, -⟩ | ⟨e, -⟩ | hh
    · have := ne hi h2 e; omega
    · exact h3 (ne hi hy e).symm
    · have := ne hi h2 e; omega
    · exact h3 (ne hi hy e).symm
    · have := ne hx h2 e; unfold nextN at this; split at this <;> omega
    · have := ne hx hy e
      have q1 := prev_next hi
      rw [this, prev_next h2] at q1
      omega
    · rw [sdOf_at, sdOf_at, hm] at hh
      cases hh
/-- A polygon that passes the check is simple. -/
theorem good_of_check {ps : List Plc} (h : checkPolygonP ps = 0) : Good (ptsOf ps) ∧ 3 ≤ (ptsOf ps).length := by
  obtain ⟨hn, -, hc, hcl⟩ := checkPolygonP_ok h
  have hr : ¬ RClash ps := fun h => hcl ((clash_iff hn hc).2 h)
  refine ⟨⟨?_, fun s hs t ht => ?_⟩, by rw [pts_len]; exact hn⟩
  · unfold List.Nodup
    rw [List.pairwise_iff_getElem]
    intro i j hi hj hij e
    have hi' := hi
    have hj' := hj
    rw [pts_len] at hi' hj'
    have k1 := pts_get hi'
    have k2 := pts_get hj'
    rw [List.getElem?_eq_getElem hi] at k1
    rw [List.getElem?_eq_getElem hj, ← e] at k2
    exact ptAt_ne hc hi' hj' (by omega) (Option.some.inj (k1.symm.trans k2))
  · have hne : s.1 ≠ s.2 := by
      obtain ⟨i, hi, rfl⟩ := (ring_idx (by omega)).1 hs
      exact ptAt_ne hc hi (next_lt hi) (by unfold nextN; split <;> omega)
    rcases ok_of_check hn hr s hs t ht with h | h | h | h | h | h | h
    · exact Or.inl h
    · exact Or.inr (Or.inl h)
    · exact Or.inr (Or.inr (Or.inl h))
    · exact Or.inr (Or.inr (Or.inr (Or.inl h)))
    · exact Or.inr (Or.inr (Or.inr (Or.inr (Or.inl h))))
    · exact Or.inr (Or.inr (Or.inr (Or.inr (Or.inr (Or.inl h)))))
    · refine Or.inr (Or.inr (Or.inr (Or.inr (Or.inr (Or.inr fun i j k l C => ?_)))))
      have := meet_of_com hne C
      rw [h] at this
      cases this
/-- A sum over the first sides. -/
theorem tot_range (f : Nat → Pt × Pt) : ∀ n, tot ((List.range (n + 1)).map f) = tot ((List.range n).map f) + k0 (f n) := by
  intro n
  rw [List.range_succ, List.map_append, tot_app]
  simp [tot]
theorem areaSum_part {ps : List Plc} : ∀ m, m < ps.length → areaSum ps m = tot ((List.range m).map fun k => (ptAt ps k, ptAt ps (nextN ps.length k))) - ((plcAt ps 0).x * ((plcAt ps m).y - (plcAt ps 0).y) - (plcAt ps 0).y * ((plcAt ps m).x - (plcAt ps 0).x))
  | 0, _ => by simp [areaSum, tot]
  | m + 1, h => by
    rw [tot_range, areaSum, areaSum_part m (by omega)]
    unfold areaTerm k0
    rw [side1, show nextN ps.length m = m + 1 by unfold nextN; rw [if_pos h]]
    unfold ptAt
    dsimp only
    grind
theorem areaSum_tot {ps : List Plc} (h : 1 ≤ ps.length) : areaSum ps ps.length = tot (ring (ptsOf ps)) := by
  rw [ring_range h]
  obtain ⟨m, hm⟩ : ∃ m, ps.length = m + 1 := ⟨ps.length - 1, by omega⟩
  have hx : nextN (m + 1) m = 0 := by unfold nextN; rw [if_neg (by omega)]
  have hp := areaSum_part (ps := ps) m (by omega)
  have ht : areaTerm ps m = k0 (ptAt ps m, ptAt ps 0) + ((plcAt ps 0).x * ((plcAt ps m).y - (plcAt ps 0).y) - (plcAt ps 0).y * ((plcAt ps m).x - (plcAt ps 0).x)) := by
    unfold areaTerm k0
    rw [side1, hm, hx]
    unfold ptAt
    dsimp only
    grind
  rw [hm] at hp ⊢
  rw [tot_range, areaSum, hp, ht, hx]
  omega
/-- The area of a polygon that passes the check is not 0. -/
theorem area_pos {ps : List Plc} (h : checkPolygonP ps = 0) : 0 < (areaOfP ps).1 := by
  obtain ⟨G, h3⟩ := good_of_check h
  have := area_ne G h3
  rw [← areaSum_tot (by rw [pts_len] at h3; omega)] at this
  unfold areaOfP
  rw [if_pos h]
  dsimp only
  omega
end Go.Proofs.Ythnfepfbkmafaaa.Geo
