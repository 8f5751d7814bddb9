/- Chapter 4, plain: a flat map has no residues. -/
import Derived.Test.YtfiioadmpjmmgaaGreatDoorX74
namespace Go.Proofs.YtfiioadmpjmmgaaGreatDoor
set_option linter.unusedVariables false
set_option linter.unusedSimpArgs false
open Go.RowKit Ntt
theorem resAll_nil {wh : Nat → Nat → Bool} {T : Nat → Nat → Int} {C R : Nat} (h : ∀ r c, r < R → c < C → T r c = 0) : resAll wh T C R = [] := by
  rw [List.eq_nil_iff_forall_not_mem]
  intro x hx
  obtain ⟨h1, h2, h3, h4⟩ := resAll_mem hx
  exact h4 (by rw [h3]; exact h _ _ h1 h2)
/-- The steps of the first k pixels of the first r rows are small. -/
def stepOk (z : Nat → Nat → Int) (R C r c : Nat) : Prop := (c + 1 < C → -2047 ≤ z r (c + 1) - z r c ∧ z r (c + 1) - z r c ≤ 2047) ∧ (r + 1 < R → -2047 ≤ z (r + 1) c - z r c ∧ z (r + 1) c - z r c ≤ 2047)
theorem flat_res {R C : Nat} {zs : List Int} (h : ∀ r c, r < R → c < C → stepOk (zAt C (intAt zs)) R C r c) : resM R C zs = [] := by
  unfold resM
  refine resAll_nil fun r c hr hc => ?_
  unfold turnP
  rw [plq_flat ((h r c (by omega) (by omega)).1 (by omega)) ((h (r + 1) c (by omega) (by omega)).1 (by omega)) ((h r c (by omega) (by omega)).2 (by omega)) ((h r (c + 1) (by omega) (by omega)).2 (by omega))]
  rfl
theorem plq_congr {z z' : Nat → Nat → Int} {r c : Nat} (h1 : z r c = z' r c) (h2 : z r (c + 1) = z' r (c + 1)) (h3 : z (r + 1) c = z' (r + 1) c) (h4 : z (r + 1) (c + 1) = z' (r + 1) (c + 1)) : plqP z r c = plqP z' r c := by
  rw [plqP_eq, plqP_eq]
  unfold sR sD
  rw [h1, h2, h3, h4]
theorem wrapL_len (zs : List Int) : (wrapL zs).length = zs.length := by simp [wrapL]
theorem wrapL_at {zs : List Int} {i : Nat} (h : i < zs.length) (hv : intAt zs i ≠ 1000000000000) : intAt (wrapL zs) i = wrP (intAt zs i) := by
  unfold wrapL
  rw [intAt_range _ h, if_neg hv]
theorem flat_wrap {R C : Nat} {zs : List Int} (hm : MapOk R C zs) (hv : ∀ i, i < zs.length → intAt zs i ≠ 1000000000000) (h : ∀ r c, r < R → c < C → stepOk (zAt C (intAt zs)) R C r c) : resM R C (wrapL zs) = [] := by
  unfold resM
  refine resAll_nil fun r c hr hc => ?_
  have e : ∀ r c, r < R → c < C → zAt C (intAt (wrapL zs)) r c = wrP (zAt C (intAt zs) r c) := fun r c hr hc => by
    have hi := hm.idx hr hc
    exact wrapL_at hi (hv _ hi)
  unfold turnP
  rw [plq_congr (z' := fun r c => wrP (zAt C (intAt zs) r c)) (e r c (by omega) (by omega)) (e r (c + 1) (by omega) (by omega)) (e (r + 1) c (by omega) (by omega)) (e (r + 1) (c + 1) (by omega) (by omega)), plq_wrap,
    plq_flat ((h r c (by omega) (by omega)).1 (by omega)) ((h (r + 1) c (by omega) (by omega)).1 (by omega)) ((h r c (by omega) (by omega)).2 (by omega)) ((h r (c + 1) (by omega) (by omega)).2 (by omega))]
  rfl
theorem wrap_ok {R C : Nat} {zs : List Int} (hm : MapOk R C zs) : MapOk R C (wrapL zs) :=
  ⟨by rw [wrapL_len]; exact hm.len, hm.r1, hm.r2, hm.c1, hm.c2, fun k hk => by
    rw [wrapL_len] at hk
    unfold wrapL
    rw [intAt_range _ hk]
    split
    · decide
    · exact wrP_ok _⟩
theorem mod_nv {x : Mdl} {ds : List Nat} {C i : Nat} (h : largeM x ds C = false) (hi : i < (modL x ds C).length) : intAt (modL x ds C) i ≠ 1000000000000 ∧ -100000000 ≤ intAt (modL x ds C) i ∧ intAt (modL x ds C) i ≤ 100000000 := by
  unfold largeM at h
  rw [List.any_eq_false] at h
  have h1 : (modL x ds C)[i]? = some (intAt (modL x ds C) i) := by unfold intAt; simp [hi]
  have h2 := h _ (List.mem_of_getElem? h1)
  have h3 := inE_iff.1 (show inE (-100000000) 100000000 (intAt (modL x ds C) i) = true by simpa [inM] using h2)
  omega
theorem own_zero {zs : List Int} {i : Nat} (hi : i < zs.length) (hv : intAt zs i ≠ 1000000000000) : intAt (combL zs zs (-1)) i = 0 := by
  rw [combL_at hi]
  unfold combF
  rw [if_neg (fun h => h.elim hv hv)]
  rw [show intAt zs i + -1 * intAt zs i = 0 by omega]
  rfl
end Go.Proofs.YtfiioadmpjmmgaaGreatDoor
