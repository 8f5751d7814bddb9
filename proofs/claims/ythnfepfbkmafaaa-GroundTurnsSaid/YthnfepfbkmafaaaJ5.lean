/- Simple polygons: told from another corner on, the other way round. -/
import Derived.Test.YthnfepfbkmafaaaJ4
namespace Go.Proofs.Ythnfepfbkmafaaa.Geo
set_option linter.unusedVariables false
/-- The polygon told from another corner on, the other way round. -/
def turnIx (n f i : Nat) : Nat := if i ≤ f then f - i else f + n - i
def otherOf (ps : List Plc) (f : Nat) : List Plc := (List.range ps.length).map fun i => plcAt ps (turnIx ps.length f i)
theorem other_len (ps : List Plc) (f : Nat) : (otherOf ps f).length = ps.length := by unfold otherOf; simp
theorem other_at {ps : List Plc} {f k : Nat} (hk : k < ps.length) : plcAt (otherOf ps f) k = plcAt ps (turnIx ps.length f k) := by
  unfold otherOf
  rw [plcAt, List.getElem?_map, List.getElem?_range hk]
  rfl
theorem turnIx_lt {n f i : Nat} (hf : f < n) (hi : i < n) : turnIx n f i < n := by unfold turnIx; split <;> omega
theorem turnIx_inj {n f i j : Nat} (hf : f < n) (hi : i < n) (hj : j < n) (h : turnIx n f i = turnIx n f j) : i = j := by unfold turnIx at h; split at h <;> split at h <;> omega
theorem other_pts {ps : List Plc} {f : Nat} (hf : f < ps.length) : ptsOf (otherOf ps f) = ((ptsOf ps).drop (f + 1) ++ (ptsOf ps).take (f + 1)).reverse := by
  refine List.ext_getElem? fun i => ?_
  have hl : ((ptsOf ps).drop (f + 1) ++ (ptsOf ps).take (f + 1)).length = ps.length := by
    rw [List.length_append, List.length_drop, List.length_take, pts_len]; omega
  by_cases hi : i < ps.length
  · rw [pts_get (by rw [other_len]; exact hi), List.getElem?_reverse (by rw [hl]; exact hi), hl]
    unfold ptAt
    rw [other_at hi]
    have hd : ((ptsOf ps).drop (f + 1)).length = ps.length - (f + 1) := by rw [List.length_drop, pts_len]
    unfold turnIx
    by_cases hif : i ≤ f
    · rw [if_pos hif, List.getElem?_append_right (by rw [hd]; omega), hd, List.getElem?_take_of_lt (by omega), show ps.length - 1 - i - (ps.length - (f + 1)) = f - i by omega, pts_get (by omega)]
      rfl
    · rw [if_neg hif, List.getElem?_append_left (by rw [hd]; omega), List.getElem?_drop, show f + 1 + (ps.length - 1 - i) = f + ps.length - i by omega, pts_get (by omega)]
      rfl
  · rw [List.getElem?_eq_none (by rw [pts_len, other_len]; omega), List.getElem?_eq_none (by rw [List.length_reverse, hl]; omega)]
def swp (s : Pt × Pt) : Pt × Pt := (s.2, s.1)
theorem path_rev : ∀ L : List Pt, path L.reverse = ((path L).map swp).reverse
  | [] => rfl
  | [_] => rfl
  | a :: b :: t => by
    have ih := path_rev (b :: t)
    rw [List.reverse_cons] at ih
    rw [List.reverse_cons, List.reverse_cons, List.append_assoc, show [b] ++ [a] = [b, a] from rfl, path_last, ih, path, List.map_cons, List.reverse_cons]
    rfl
theorem ring_rev_mem {l : List Pt} {s : Pt × Pt} : s ∈ ring l.reverse ↔ swp s ∈ ring l := by
  cases l with
  | nil => simp [ring]
  | cons a t =>
    rw [List.reverse_cons, ring_rot_mem, List.singleton_append, ring, ring]
    have := path_rev (a :: (t ++ [a]))
    rw [List.reverse_cons, List.reverse_append] at this
    rw [show a :: (t.reverse ++ [a]) = [a].reverse ++ t.reverse ++ [a] by simp, this, List.mem_reverse, List.mem_map]
    constructor
    · rintro ⟨u, hu, rfl⟩; exact hu
    · intro h; exact ⟨swp s, h, rfl⟩
theorem tot_rev : ∀ L : List (Pt × Pt), tot (L.map swp).reverse = - tot L
  | [] => rfl
  | s :: t => by
    rw [List.map_cons, List.reverse_cons, tot_app, tot_rev t]
    simp only [tot]
    unfold k0 swp
    dsimp only
    grind
theorem ring_rev_tot (l : List Pt) : tot (ring l.reverse) = - tot (ring l) := by
  cases l with
  | nil => rfl
  | cons a t =>
    rw [List.reverse_cons, ring_rot_tot, List.singleton_append, ring, ring]
    have := path_rev (a :: (t ++ [a]))
    rw [List.reverse_cons, List.reverse_append] at this
    rw [show a :: (t.reverse ++ [a]) = [a].reverse ++ t.reverse ++ [a] by simp, this, tot_rev]
/-- The parity of the sides that a ray crosses. -/
def oddL (x y : Int) : List (Pt × Pt) → Bool
  | [] => false
  | s :: t => flipP (sdOf s) x y ^^ oddL x y t
theorem odd_app (x y : Int) (b : List (Pt × Pt)) : ∀ a, oddL x y (a ++ b) = (oddL x y a ^^ oddL x y b)
  | [] => by simp [oddL]
  | s :: t => by simp only [List.cons_append, oddL, odd_app x y b t, Bool.xor_assoc]
theorem ring_rot_odd (x y : Int) : ∀ A B : List Pt, oddL x y (ring (A ++ B)) = oddL x y (ring (B ++ A))
  | [], B => by simp
  | A, [] => by simp
  | a :: A, b :: B => by rw [ring_app, ring_app, odd_app, odd_app, Bool.xor_comm]
theorem odd_rev {x y : Int} : ∀ {L : List (Pt × Pt)}, (∀ s, s ∈ L → flipP (sdOf (swp s)) x y = flipP (sdOf s) x y) → oddL x y (L.map swp).reverse = oddL x y L
  | [], _ => rfl
  | s :: t, h => by
    rw [List.map_cons, List.reverse_cons, odd_app, odd_rev (fun u hu => h u (List.mem_cons_of_mem _ hu))]
    simp only [oddL, h s (by simp), Bool.xor_false]
    rw [Bool.xor_comm]
theorem ring_rev_odd {x y : Int} {l : List Pt} (h : ∀ s, s ∈ ring l → flipP (sdOf (swp s)) x y = flipP (sdOf s) x y) : oddL x y (ring l.reverse) = oddL x y (ring l) := by
  cases l with
  | nil => rfl
  | cons a t =>
    rw [List.reverse_cons, ring_rot_odd, List.singleton_append, ring]
    have := path_rev (a :: (t ++ [a]))
    rw [List.reverse_cons, List.reverse_append] at this
    rw [show a :: (t.reverse ++ [a]) = [a].reverse ++ t.reverse ++ [a] by simp, this]
    exact odd_rev h
theorem par_odd (ps : List Plc) (x y : Int) : ∀ m, parB (sideAt ps 1) x y m = oddL x y ((List.range m).map fun k => (ptAt ps k, ptAt ps (nextN ps.length k)))
  | 0 => rfl
  | m + 1 => by
    rw [List.range_succ, List.map_append, odd_app, ← par_odd ps x y m, parB]
    simp only [List.map_cons, List.map_nil, oddL, Bool.xor_false, sdOf_at]
    cases flipP (sideAt ps 1 m) x y <;> cases parB (sideAt ps 1) x y m <;> rfl
theorem cross_swp (s : Pt × Pt) (x y : Int) : crossP (sdOf (swp s)) x y = - crossP (sdOf s) x y := by unfold crossP sdOf swp; dsimp only; grind
theorem sgnP_neg (n : Int) : sgnP (-n) = - sgnP n := by unfold sgnP; split <;> split <;> (try split) <;> (try split) <;> omega
theorem has_swp (s : Pt × Pt) (x y : Int) : hasP (sdOf (swp s)) x y = hasP (sdOf s) x y := by
  unfold hasP turnP
  rw [cross_swp, sgnP_neg]
  have : dotP (sdOf (swp s)) x y = dotP (sdOf s) x y := by unfold dotP sdOf swp; dsimp only; grind
  rw [this]
  congr 1
  simp only [decide_eq_decide]
  omega
theorem turn_swp (s : Pt × Pt) (x y : Int) : turnP (sdOf (swp s)) x y = - turnP (sdOf s) x y := by unfold turnP; rw [cross_swp, sgnP_neg]
theorem flip_swp {s : Pt × Pt} {x y : Int} (h : hasP (sdOf s) x y = false) : flipP (sdOf (swp s)) x y = flipP (sdOf s) x y := by
  have key : ∀ {c : Int}, ((sdOf s).y1 ≤ y ∧ y < (sdOf s).y2) ∨ (y < (sdOf s).y1 ∧ (sdOf s).y2 ≤ y) → crossP (sdOf s) x y = c → c ≠ 0 := fun hq e => by rw [← e]; exact cross_ne h hq.symm
  have k := @key (crossP (sdOf s) x y)
  have e := cross_swp s x y
  unfold flipP
  rw [e]
  have e1 : (sdOf (swp s)).y1 = (sdOf s).y2 := rfl
  have e2 : (sdOf (swp s)).y2 = (sdOf s).y1 := rfl
  rw [e1, e2]
  generalize crossP (sdOf s) x y = c at *
  by_cases h1 : y < (sdOf s).y1 <;> by_cases h2 : y < (sdOf s).y2
  · simp [h1, h2]
  · have hc := k (Or.inr ⟨h1, by omega⟩) rfl
    have h3 : ¬ (sdOf s).y1 < (sdOf s).y2 := by omega
    have h4 : (sdOf s).y2 < (sdOf s).y1 := by omega
    by_cases h5 : 0 < c
    · have : ¬ 0 < -c := by omega
      simp [h1, h2, h3, h4, h5]; omega
    · have : 0 < -c := by omega
      simp [h1, h2, h3, h4, h5]; omega
  · have hc := k (Or.inl ⟨by omega, h2⟩) rfl
    have h3 : (sdOf s).y1 < (sdOf s).y2 := by omega
    have h4 : ¬ (sdOf s).y2 < (sdOf s).y1 := by omega
    by_cases h5 : 0 < c
    · have : ¬ 0 < -c := by omega
      simp [h1, h2, h3, h4, h5]; omega
    · have : 0 < -c := by omega
      simp [h1, h2, h3, h4, h5]; omega
  · simp [h1, h2]
theorem meet_swp (s t : Pt × Pt) : meetR (sdOf (swp s)) (sdOf t) = meetR (sdOf s) (sdOf t) := by
  rw [meet_meets, meet_meets]
  unfold meetsP
  rw [has_swp, has_swp, turn_swp, turn_swp]
  have e1 : (sdOf (swp s)).x1 = (sdOf s).x2 := rfl
  have e2 : (sdOf (swp s)).y1 = (sdOf s).y2 := rfl
  have e3 : (sdOf (swp s)).x2 = (sdOf s).x1 := rfl
  have e4 : (sdOf (swp s)).y2 = (sdOf s).y1 := rfl
  rw [e1, e2, e3, e4]
  have d1 : decide (-turnP (sdOf s) (sdOf t).x1 (sdOf t).y1 ≠ -turnP (sdOf s) (sdOf t).x2 (sdOf t).y2) = decide (turnP (sdOf s) (sdOf t).x1 (sdOf t).y1 ≠ turnP (sdOf s) (sdOf t).x2 (sdOf t).y2) := by
    simp only [decide_eq_decide]; omega
  have d2 : decide (turnP (sdOf t) (sdOf s).x2 (sdOf s).y2 ≠ turnP (sdOf t) (sdOf s).x1 (sdOf s).y1) = decide (turnP (sdOf t) (sdOf s).x1 (sdOf s).y1 ≠ turnP (sdOf t) (sdOf s).x2 (sdOf s).y2) := by
    simp only [decide_eq_decide]; exact ⟨fun h e => h e.symm, fun h e => h e.symm⟩
  rw [d1, d2, Bool.or_comm (x := hasP (sdOf t) (sdOf s).x2 (sdOf s).y2)]
theorem OkB.swap {s t : Pt × Pt} (h : OkB (swp s) t) : OkB s t := by
  unfold OkB at *
  rw [meet_swp] at h
  unfold swp at h
  dsimp only at h
  rcases h with ⟨h1, h2⟩ | ⟨h1, h2⟩ | h | h | h | h | h
  · exact Or.inr (Or.inl ⟨h2, h1⟩)
  · exact Or.inl ⟨h2, h1⟩
  · exact Or.inr (Or.inr (Or.inr (Or.inr (Or.inl h))))
  · exact Or.inr (Or.inr (Or.inr (Or.inr (Or.inr (Or.inl h)))))
  · exact Or.inr (Or.inr (Or.inl h))
  · exact Or.inr (Or.inr (Or.inr (Or.inl h)))
  · exact Or.inr (Or.inr (Or.inr (Or.inr (Or.inr (Or.inr h)))))
theorem other_mem {ps : List Plc} {f : Nat} (hf : f < ps.length) {s : Pt × Pt} : s ∈ ring (ptsOf (otherOf ps f)) ↔ swp s ∈ ring (ptsOf ps) := by
  rw [other_pts hf, ring_rev_mem, ring_rot_mem, List.take_append_drop]
theorem placeB_of {ps : List Plc} {k : Nat} (h : cornerErr ps k = 0) : placeB (plcAt ps k).x (plcAt ps k).y (plcAt ps k).z = true := by
  unfold cornerErr at h
  split at h
  · assumption
  · exact absurd h (by decide)
/-- Told from another corner on, the other way round, it passes the check too. -/
theorem other_check {ps : List Plc} {f : Nat} (hf : f < ps.length) (h : checkPolygonP ps = 0) : checkPolygonP (otherOf ps f) = 0 := by
  obtain ⟨hn, hn2, hc, hcl⟩ := checkPolygonP_ok h
  have hr : ¬ RClash ps := fun h => hcl ((clash_iff hn hc).2 h)
  have hc' : ∀ k, k < (otherOf ps f).length → cornerErr (otherOf ps f) k = 0 := by
    intro k hk
    rw [other_len] at hk
    unfold cornerErr
    rw [other_at hk, if_pos (placeB_of (hc _ (turnIx_lt hf hk))), if_neg]
    unfold seenB
    rw [List.any_eq_true]
    rintro ⟨j, hj, hj2⟩
    rw [List.mem_range] at hj
    rw [other_at hk, other_at (by omega)] at hj2
    simp only [Bool.and_eq_true, decide_eq_true_eq] at hj2
    exact corner_ne hc (turnIx_lt hf (by omega)) (turnIx_lt hf hk) (fun e => by have := turnIx_inj hf (by omega) hk e; omega) hj2
  have hr' : ¬ RClash (otherOf ps f) := by
    refine check_of_ok (by rw [other_len]; exact hn) hc' fun s hs t ht => ?_
    rw [other_mem hf] at hs ht
    exact (ok_of_check hn hr _ hs _ ht).swap.symm.swap.symm
  unfold checkPolygonP
  rw [if_neg (by rw [other_len]; omega), if_neg (by rw [other_len]; omega), if_pos (scan_zero _ _ fun j _ hj => hc' j (by omega)), if_neg]
  exact fun hh => hr' ((clash_iff (by rw [other_len]; exact hn) hc').1 hh)
theorem other_area {ps : List Plc} {f : Nat} (hf : f < ps.length) (h : checkPolygonP ps = 0) : (areaOfP (otherOf ps f)).1 = (areaOfP ps).1 := by
  have h1 := areaSum_tot (ps := ps) (by omega)
  have h2 := areaSum_tot (ps := otherOf ps f) (by rw [other_len]; omega)
  rw [other_pts hf, ring_rev_tot, ring_rot_tot, List.take_append_drop, ← h1] at h2
  unfold areaOfP
  rw [if_pos h, if_pos (other_check hf h), h2]
  dsimp only
  omega
theorem insB_eq {ps : List Plc} (h : 1 ≤ ps.length) (x y : Int) : insB (sideAt ps 1) ps.length x y = open Classical in if ∃ s, s ∈ ring (ptsOf ps) ∧ hasP (sdOf s) x y = true then true else oddL x y (ring (ptsOf ps)) := by
  unfold insB
  rw [ring_range h, ← par_odd]
  have : (∃ k, k < ps.length ∧ hasP (sideAt ps 1 k) x y = true) ↔ ∃ s, s ∈ (List.range ps.length).map (fun k => (ptAt ps k, ptAt ps (nextN ps.length k))) ∧ hasP (sdOf s) x y = true := by
    constructor
    · rintro ⟨k, hk, hh⟩
      exact ⟨_, List.mem_map.2 ⟨k, List.mem_range.2 hk, rfl⟩, by rw [sdOf_at]; exact hh⟩
    · rintro ⟨s, hs, hh⟩
      obtain ⟨k, hk, rfl⟩ := List.mem_map.1 hs
      exact ⟨k, List.mem_range.1 hk, by rw [← sdOf_at]; exact hh⟩
  by_cases hp : ∃ k, k < ps.length ∧ hasP (sideAt ps 1 k) x y = true
  · rw [if_pos hp, if_pos (this.1 hp)]
  · rw [if_neg hp, if_neg (fun hh => hp (this.2 hh))]
theorem other_inside {ps : List Plc} {f : Nat} (hf : f < ps.length) (x y : Int) : insB (sideAt (otherOf ps f) 1) (otherOf ps f).length x y = insB (sideAt ps 1) ps.length x y := by
  rw [insB_eq (ps := otherOf ps f) (by rw [other_len]; omega), insB_eq (ps := ps) (by omega)]
  have hx : (∃ s, s ∈ ring (ptsOf (otherOf ps f)) ∧ hasP (sdOf s) x y = true) ↔ ∃ s, s ∈ ring (ptsOf ps) ∧ hasP (sdOf s) x y = true := by
    constructor
    · rintro ⟨s, hs, hh⟩
      exact ⟨swp s, (other_mem hf).1 hs, by rw [has_swp]; exact hh⟩
    · rintro ⟨s, hs, hh⟩
      exact ⟨swp s, (other_mem hf).2 hs, by rw [has_swp]; exact hh⟩
  by_cases hp : ∃ s, s ∈ ring (ptsOf ps) ∧ hasP (sdOf s) x y = true
  · rw [if_pos hp, if_pos (hx.2 hp)]
  · rw [if_neg hp, if_neg (fun hh => hp (hx.1 hh)), other_pts hf, ring_rev_odd, ring_rot_odd, List.take_append_drop]
    intro s hs
    rw [ring_rot_mem, List.take_append_drop] at hs
    refine flip_swp ?_
    rw [Bool.eq_false_iff]
    exact fun hh => hp ⟨s, hs, hh⟩
/-- A corner is inside, and the middle of a side. -/
theorem corner_in {ps : List Plc} {k : Nat} (hk : k < ps.length) : insB (sideAt ps 1) ps.length (plcAt ps k).x (plcAt ps k).y = true := by
  refine insB_has hk ?_
  rw [side1]
  unfold hasP turnP crossP dotP
  simp [sgnP]
theorem middle_in {ps : List Plc} {k : Nat} {x y : Int} (hk : k < ps.length) (hx : 2 * x = (plcAt ps k).x + (plcAt ps (nextN ps.length k)).x) (hy : 2 * y = (plcAt ps k).y + (plcAt ps (nextN ps.length k)).y) : insB (sideAt ps 1) ps.length x y = true := by
  refine insB_has hk ?_
  rw [side1]
  generalize plcAt ps k = p at *
  generalize plcAt ps (nextN ps.length k) = q at *
  have hc : crossP ⟨p.x, p.y, q.x, q.y⟩ x y = 0 := by
    have : q.x = 2 * x - p.x := by omega
    have : q.y = 2 * y - p.y := by omega
    unfold crossP; dsimp only; grind
  have hd : dotP ⟨p.x, p.y, q.x, q.y⟩ x y ≤ 0 := by
    have e1 : q.x - x = -(p.x - x) := by omega
    have e2 : q.y - y = -(p.y - y) := by omega
    unfold dotP
    dsimp only
    rw [e1, e2, Int.mul_neg, Int.mul_neg]
    have := sq_nonneg' (p.x - x)
    have := sq_nonneg' (p.y - y)
    omega
  unfold hasP turnP
  rw [sgnP_zero.2 hc]
  simpa using hd
end Go.Proofs.Ythnfepfbkmafaaa.Geo
