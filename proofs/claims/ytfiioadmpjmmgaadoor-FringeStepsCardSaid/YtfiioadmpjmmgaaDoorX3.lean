/- Chapter 4: pixels, steps. -/
import Derived.Test.YtfiioadmpjmmgaaDoorX2
namespace Go.Proofs.YtfiioadmpjmmgaaDoor
set_option linter.unusedVariables false
set_option linter.unusedSimpArgs false
open Go.RowKit Ntt
/-- A map without errors, of R rows and C columns. -/
structure MapOk (R C : Nat) (zs : List Int) : Prop where
  len : zs.length = R * C
  r1 : 1 ≤ R
  r2 : R ≤ 64
  c1 : 1 ≤ C
  c2 : C ≤ 64
  ok : ∀ k, k < zs.length → phOk (intAt zs k) = true
theorem MapOk.size {R C : Nat} {zs : List Int} (h : MapOk R C zs) : zs.length ≤ 4096 := by rw [h.len]; exact Nat.mul_le_mul h.r2 h.c2
theorem MapOk.idx {R C : Nat} {zs : List Int} (h : MapOk R C zs) {r c : Nat} (hr : r < R) (hc : c < C) : r * C + c < zs.length := by
  rw [h.len]
  have h1 : (r + 1) * C ≤ R * C := Nat.mul_le_mul_right _ hr
  rw [Nat.add_mul, Nat.one_mul] at h1
  omega
theorem phOk_bd {p : Int} (h : phOk p = true) : -1000000000000 ≤ p ∧ p ≤ 1000000000000 := by
  unfold phOk inE at h
  simp only [Bool.or_eq_true, Bool.and_eq_true, decide_eq_true_eq] at h
  omega
theorem MapOk.bd {R C : Nat} {zs : List Int} (h : MapOk R C zs) (k : Nat) : -1000000000000 ≤ intAt zs k ∧ intAt zs k ≤ 1000000000000 := by
  by_cases hk : k < zs.length
  · exact phOk_bd (h.ok k hk)
  · have : intAt zs k = 0 := by unfold intAt; rw [List.getElem?_eq_none (by omega)]; rfl
    omega
theorem sizeE_ok {l s n : Int} (h : sizeE l s n = 0) : (1 ≤ l ∧ l ≤ 64) ∧ (1 ≤ s ∧ s ≤ 64) ∧ n = l * s := by
  unfold sizeE at h
  split at h
  · rename_i h1
    simp only [Bool.and_eq_true] at h1
    split at h
    · rename_i h2
      exact ⟨inE_iff.1 h1.1, inE_iff.1 h1.2, h2⟩
    · exact absurd h (by decide)
  · exact absurd h (by decide)
theorem mapE_zero {R C : Int} {zs : List Int} (h : (mapE R C zs).2 = 0) : ∃ R' C' : Nat, R = R' ∧ C = C' ∧ MapOk R' C' zs := by
  unfold mapE at h
  split at h
  · rename_i hs
    obtain ⟨⟨a1, a2⟩, ⟨b1, b2⟩, hn⟩ := sizeE_ok hs
    obtain ⟨R', rfl⟩ := Int.eq_ofNat_of_zero_le (show 0 ≤ R by omega)
    obtain ⟨C', rfl⟩ := Int.eq_ofNat_of_zero_le (show 0 ≤ C by omega)
    refine ⟨R', C', rfl, rfl, by exact_mod_cast hn, by omega, by omega, by omega, by omega, fun k hk => ?_⟩
    have := firstE_zero h k hk
    unfold mapG at this
    cases hp : phOk (intAt zs k)
    · rw [hp] at this; exact absurd this (by decide)
    · rfl
  · rename_i hs
    exact absurd h hs
theorem MapOk.err {R C : Nat} {zs : List Int} (h : MapOk R C zs) : mapE R C zs = (0, 0) := by
  have hs : sizeE R C zs.length = 0 := by
    have h1 := h.r1
    have h2 := h.r2
    have h3 := h.c1
    have h4 := h.c2
    unfold sizeE inE
    rw [if_pos (by simp; omega), if_pos (by rw [h.len, Int.natCast_mul])]
  unfold mapE
  rw [if_pos hs]
  exact firstE_ok fun j hj => by unfold mapG; rw [h.ok j hj]; rfl
/-- The pixel that is void. -/
def nvB (p : Int) : Bool := decide (p ≠ 1000000000000)
theorem idx_cast {r C c i : Nat} (h : r * C + c = i) : (r : Int) * (C : Int) + (c : Int) = (i : Int) := by rw [← h, Int.natCast_add, Int.natCast_mul]
set_option maxHeartbeats 1000000 in
theorem fAt (R C r c : Nat) (zs : List Int) (v : Value) (w : World) (hm : MapOk R C zs) (hv : IntsV w v zs) (hr : r < R) (hc : c < C) {p : Int} (hp : zAt C (intAt zs) r c = p) :
    Calls Tryd.prog 89 #[.agg #[.int .i64 R, .int .i64 C, v], .int .i64 r, .int .i64 c] w fun e w' => e = .returned (.int .i64 p) ∧ Below w.heap.size w w' := by
  have hi := hm.idx hr hc
  have hsz := hm.size
  obtain ⟨i, hi2⟩ : ∃ i, r * C + c = i := ⟨_, rfl⟩
  have hx := idx_cast hi2
  unfold zAt at hp
  rw [hi2] at hi hp
  obtain ⟨-, a, cap, rfl, h4⟩ := hv
  obtain ⟨b, off, rfl, hbw, hce⟩ := h4 (by omega)
  have ci := hce i hi
  rw [hp] at ci
  have h1 := hm.c2
  have h2 := hm.r2
  have hq : 0 ≤ (r : Int) * C ∧ (r : Int) * C ≤ 4096 := ⟨Int.mul_nonneg (by omega) (by omega), by omega⟩
  obtain ⟨q1, q2⟩ := hq
  clear h4 hce hm hp hi2
  generalize zs.length = n at *
  have hi1 : (i : Int) < (n : Int) := by omega
  go_enter Tryd.func89, Tryd.ntmps89
  go_wp2
  go_ret
  exact ⟨rfl, (by (repeat' (first | with_reducible exact Below.refl _ _ | (with_reducible refine below_later_of ?_ ?_ _) | (with_reducible refine Below.alloc ?_ ?_ _) | (with_reducible refine Below.setCell ?_ ?_ _) | (with_reducible refine Below.drew ?_) | (simp; done) | (simp; omega) | omega)))⟩
def pixB (R C : Nat) (r c : Int) : Bool := inE 0 ((R : Int) - 1) r && inE 0 ((C : Int) - 1) c
set_option maxHeartbeats 1000000 in
theorem fHas (R C : Nat) (r c : Int) (v : Value) (zs : List Int) (w : World) (h1 : R ≤ 64) (h2 : C ≤ 64) (hv : IntsV w v zs) {q : Bool} (hq : pixB R C r c = q) :
    Calls Tryd.prog 57 #[.agg #[.int .i64 R, .int .i64 C, v], .int .i64 r, .int .i64 c] w fun e w' => e = .returned (.bool q) ∧ Below w.heap.size w w' := by
  obtain ⟨-, a, cap, rfl, -⟩ := hv
  unfold pixB at hq
  obtain ⟨q1, hq1⟩ : ∃ q1, inE 0 ((R : Int) - 1) r = q1 := ⟨_, rfl⟩
  obtain ⟨q2, hq2⟩ : ∃ q2, inE 0 ((C : Int) - 1) c = q2 := ⟨_, rfl⟩
  rw [hq1, hq2] at hq
  subst hq
  have H1 := Lib.hid hq1
  have H2 := Lib.hid hq2
  clear hq1 hq2
  cases q1
  · go_enter Tryd.func57, Tryd.ntmps57
    go_wp2_with (first | (go_at_call 51; (with_reducible refine (fWithin _ _ _ _ H1.out).mono ?_); rintro e w' ⟨rfl, rfl⟩))
    go_ret
    exact ⟨rfl, (by (repeat' (first | with_reducible exact Below.refl _ _ | (with_reducible refine below_later_of ?_ ?_ _) | (with_reducible refine Below.alloc ?_ ?_ _) | (with_reducible refine Below.setCell ?_ ?_ _) | (with_reducible refine Below.drew ?_) | (simp; done) | (simp; omega) | omega)))⟩
  · go_enter Tryd.func57, Tryd.ntmps57
    go_wp2_with (first | (go_at_call 51; (with_reducible refine (fWithin _ _ _ _ H1.out).mono ?_); rintro e w' ⟨rfl, rfl⟩) | (go_at_call 51; (with_reducible refine (fWithin _ _ _ _ H2.out).mono ?_); rintro e w' ⟨rfl, rfl⟩))
    go_ret
    exact ⟨by simp, (by (repeat' (first | with_reducible exact Below.refl _ _ | (with_reducible refine below_later_of ?_ ?_ _) | (with_reducible refine Below.alloc ?_ ?_ _) | (with_reducible refine Below.setCell ?_ ?_ _) | (with_reducible refine Below.drew ?_) | (simp; done) | (simp; omega) | omega)))⟩
/-- The pixel that a step goes to. -/
def toR (r : Nat) (d : Bool) : Nat := if d then r + 1 else r
def toC (c : Nat) (d : Bool) : Nat := if d then c else c + 1
set_option maxHeartbeats 1000000 in
theorem fStep (R C r c : Nat) (d : Bool) (zs : List Int) (v : Value) (w : World) (hm : MapOk R C zs) (hv : IntsV w v zs) (hr : toR r d < R) (hc : toC c d < C) {p q : Int} (hp : zAt C (intAt zs) r c = p) (hq : zAt C (intAt zs) (toR r d) (toC c d) = q) :
    Calls Tryd.prog 60 #[.agg #[.int .i64 R, .int .i64 C, v], .int .i64 r, .int .i64 c, .bool d] w fun e w' => e = .returned (.tuple #[.int .i64 (wrP (q - p)), .bool (nvB p && nvB q)]) ∧ Below w.heap.size w w' := by
  have hr0 : r < R := by unfold toR at hr; split at hr <;> omega
  have hc0 : c < C := by unfold toC at hc; split at hc <;> omega
  have b1 := hm.bd (r * C + c)
  have b2 := hm.bd (toR r d * C + toC c d)
  have c2 := hm.c2
  have r2 := hm.r2
  unfold zAt at hp hq
  rw [hp] at b1
  rw [hq] at b2
  have HA1 := Lib.hid (show ∀ W, Below w.heap.size w W → _ from fun W hW => fAt R C r c zs v W hm (hv.below hW) hr0 hc0 hp)
  have HA2 := Lib.hid (show ∀ W, Below w.heap.size w W → _ from fun W hW => fAt R C (toR r d) (toC c d) zs v W hm (hv.below hW) hr hc hq)
  have HWR := Lib.hid (fun W => fWrap (q - p) W (by omega) (by omega) (v := wrP (q - p)) rfl)
  obtain ⟨-, a, cap, rfl, -⟩ := hv
  obtain ⟨b3, b4⟩ := b1
  obtain ⟨b5, b6⟩ := b2
  clear hm hp hq
  generalize wrP (q - p) = n at HWR ⊢
  cases d
  · simp only [toR, toC, Bool.false_eq_true, if_false] at HA2 hr hc
    have e2 : ((c + 1 : Nat) : Int) = (c : Int) + 1 := by omega
    rw [e2] at HA2
    by_cases h1 : p = 1000000000000
    · have d1 : (p != 1000000000000) = false := by simpa using h1
      have HF := Lib.hid (show false = (nvB p && nvB q) by unfold nvB; simp [h1])
      generalize (nvB p && nvB q) = f at HF ⊢
      clear h1
      go_enter Tryd.func60, Tryd.ntmps60
      go_wp2_with (first | (go_at_call 89; (with_reducible refine (HA1.out _ (by (repeat' (first | with_reducible exact Below.refl _ _ | (with_reducible refine below_later_of ?_ ?_ _) | (with_reducible refine Below.alloc ?_ ?_ _) | (with_reducible refine Below.setCell ?_ ?_ _) | (with_reducible refine Below.drew ?_) | (simp; done) | (simp; omega) | omega)))).mono ?_); rintro e w' ⟨rfl, hb⟩; obtain ⟨p1, rfl⟩ := later_of_below hb; clear hb) | (go_at_call 89; (with_reducible refine (HA2.out _ (by (repeat' (first | with_reducible exact Below.refl _ _ | (with_reducible refine below_later_of ?_ ?_ _) | (with_reducible refine Below.alloc ?_ ?_ _) | (with_reducible refine Below.setCell ?_ ?_ _) | (with_reducible refine Below.drew ?_) | (simp; done) | (simp; omega) | omega)))).mono ?_); rintro e w' ⟨rfl, hb⟩; obtain ⟨p2, rfl⟩ := later_of_below hb; clear hb) | (go_at_call 90; (with_reducible refine (HWR.out _).mono ?_); rintro e w' ⟨rfl, rfl⟩))
      go_ret2
      exact ⟨by rw [HF.out]; rfl, (by (repeat' (first | with_reducible exact Below.refl _ _ | (with_reducible refine below_later_of ?_ ?_ _) | (with_reducible refine Below.alloc ?_ ?_ _) | (with_reducible refine Below.setCell ?_ ?_ _) | (with_reducible refine Below.drew ?_) | (simp; done) | (simp; omega) | omega)))⟩
    · have d1 : (p != 1000000000000) = true := by simpa using h1
      have HF := Lib.hid (show (q != 1000000000000) = (nvB p && nvB q) by unfold nvB; rw [decide_eq_true h1, Bool.true_and, decide_not]; rfl)
      generalize (nvB p && nvB q) = f at HF ⊢
      clear h1
      go_enter Tryd.func60, Tryd.ntmps60
      go_wp2_with (first | (go_at_call 89; (with_reducible refine (HA1.out _ (by (repeat' (first | with_reducible exact Below.refl _ _ | (with_reducible refine below_later_of ?_ ?_ _) | (with_reducible refine Below.alloc ?_ ?_ _) | (with_reducible refine Below.setCell ?_ ?_ _) | (with_reducible refine Below.drew ?_) | (simp; done) | (simp; omega) | omega)))).mono ?_); rintro e w' ⟨rfl, hb⟩; obtain ⟨p1, rfl⟩ := later_of_below hb; clear hb) | (go_at_call 89; (with_reducible refine (HA2.out _ (by (repeat' (first | with_reducible exact Below.refl _ _ | (with_reducible refine below_later_of ?_ ?_ _) | (with_reducible refine Below.alloc ?_ ?_ _) | (with_reducible refine Below.setCell ?_ ?_ _) | (with_reducible refine Below.drew ?_) | (simp; done) | (simp; omega) | omega)))).mono ?_); rintro e w' ⟨rfl, hb⟩; obtain ⟨p2, rfl⟩ := later_of_below hb; clear hb) | (go_at_call 90; (with_reducible refine (HWR.out _).mono ?_); rintro e w' ⟨rfl, rfl⟩))
      go_ret2
      exact ⟨by rw [HF.out]; rfl, (by (repeat' (first | with_reducible exact Below.refl _ _ | (with_reducible refine below_later_of ?_ ?_ _) | (with_reducible refine Below.alloc ?_ ?_ _) | (with_reducible refine Below.setCell ?_ ?_ _) | (with_reducible refine Below.drew ?_) | (simp; done) | (simp; omega) | omega)))⟩
  · simp only [toR, toC, if_true] at HA2 hr hc
    have e2 : ((r + 1 : Nat) : Int) = (r : Int) + 1 := by omega
    rw [e2] at HA2
    by_cases h1 : p = 1000000000000
    · have d1 : (p != 1000000000000) = false := by simpa using h1
      have HF := Lib.hid (show false = (nvB p && nvB q) by unfold nvB; simp [h1])
      generalize (nvB p && nvB q) = f at HF ⊢
      clear h1
      go_enter Tryd.func60, Tryd.ntmps60
      go_wp2_with (first | (go_at_call 89; (with_reducible refine (HA1.out _ (by (repeat' (first | with_reducible exact Below.refl _ _ | (with_reducible refine below_later_of ?_ ?_ _) | (with_reducible refine Below.alloc ?_ ?_ _) | (with_reducible refine Below.setCell ?_ ?_ _) | (with_reducible refine Below.drew ?_) | (simp; done) | (simp; omega) | omega)))).mono ?_); rintro e w' ⟨rfl, hb⟩; obtain ⟨p1, rfl⟩ := later_of_below hb; clear hb) | (go_at_call 89; (with_reducible refine (HA2.out _ (by (repeat' (first | with_reducible exact Below.refl _ _ | (with_reducible refine below_later_of ?_ ?_ _) | (with_reducible refine Below.alloc ?_ ?_ _) | (with_reducible refine Below.setCell ?_ ?_ _) | (with_reducible refine Below.drew ?_) | (simp; done) | (simp; omega) | omega)))).mono ?_); rintro e w' ⟨rfl, hb⟩; obtain ⟨p2, rfl⟩ := later_of_below hb; clear hb) | (go_at_call 90; (with_reducible refine (HWR.out _).mono ?_); rintro e w' ⟨rfl, rfl⟩))
      go_ret2
      exact ⟨by rw [HF.out]; rfl, (by (repeat' (first | with_reducible exact Below.refl _ _ | (with_reducible refine below_later_of ?_ ?_ _) | (with_reducible refine Below.alloc ?_ ?_ _) | (with_reducible refine Below.setCell ?_ ?_ _) | (with_reducible refine Below.drew ?_) | (simp; done) | (simp; omega) | omega)))⟩
    · have d1 : (p != 1000000000000) = true := by simpa using h1
      have HF := Lib.hid (show (q != 1000000000000) = (nvB p && nvB q) by unfold nvB; rw [decide_eq_true h1, Bool.true_and, decide_not]; rfl)
      generalize (nvB p && nvB q) = f at HF ⊢
      clear h1
      go_enter Tryd.func60, Tryd.ntmps60
      go_wp2_with (first | (go_at_call 89; (with_reducible refine (HA1.out _ (by (repeat' (first | with_reducible exact Below.refl _ _ | (with_reducible refine below_later_of ?_ ?_ _) | (with_reducible refine Below.alloc ?_ ?_ _) | (with_reducible refine Below.setCell ?_ ?_ _) | (with_reducible refine Below.drew ?_) | (simp; done) | (simp; omega) | omega)))).mono ?_); rintro e w' ⟨rfl, hb⟩; obtain ⟨p1, rfl⟩ := later_of_below hb; clear hb) | (go_at_call 89; (with_reducible refine (HA2.out _ (by (repeat' (first | with_reducible exact Below.refl _ _ | (with_reducible refine below_later_of ?_ ?_ _) | (with_reducible refine Below.alloc ?_ ?_ _) | (with_reducible refine Below.setCell ?_ ?_ _) | (with_reducible refine Below.drew ?_) | (simp; done) | (simp; omega) | omega)))).mono ?_); rintro e w' ⟨rfl, hb⟩; obtain ⟨p2, rfl⟩ := later_of_below hb; clear hb) | (go_at_call 90; (with_reducible refine (HWR.out _).mono ?_); rintro e w' ⟨rfl, rfl⟩))
      go_ret2
      exact ⟨by rw [HF.out]; rfl, (by (repeat' (first | with_reducible exact Below.refl _ _ | (with_reducible refine below_later_of ?_ ?_ _) | (with_reducible refine Below.alloc ?_ ?_ _) | (with_reducible refine Below.setCell ?_ ?_ _) | (with_reducible refine Below.drew ?_) | (simp; done) | (simp; omega) | omega)))⟩
end Go.Proofs.YtfiioadmpjmmgaaDoor
