import Derived.Test.YtkoiknmijjiicaaGreatDoorXA
/- Chapter 4: TurnsAround, of the program and of the reference; the reference's Residues. -/
namespace Go.Proofs.YtkoiknmijjiicaaGreatDoor
set_option linter.unusedVariables false
set_option linter.unusedSimpArgs false
open Go.RowKit Ntt
/-- A box lies in a map. -/
def boxB (R C : Nat) (r c h w : Int) : Bool := pixB R C r c && (inE 1 ((R : Int) - 1 - r) h && inE 1 ((C : Int) - 1 - c) w)
theorem boxB_nat {R C : Nat} {r c h w : Int} (hb : boxB R C r c h w = true) : ∃ r' c' h' w' : Nat, r = r' ∧ c = c' ∧ h = h' ∧ w = w' ∧ r' + h' < R ∧ c' + w' < C ∧ 1 ≤ h' ∧ 1 ≤ w' := by
  unfold boxB at hb
  simp only [Bool.and_eq_true] at hb
  obtain ⟨h1, h2, h3⟩ := hb
  obtain ⟨r', c', rfl, rfl, h4, h5⟩ := pixB_nat h1
  obtain ⟨a1, a2⟩ := inE_iff.1 h2
  obtain ⟨b1, b2⟩ := inE_iff.1 h3
  obtain ⟨h', rfl⟩ := Int.eq_ofNat_of_zero_le (show 0 ≤ h by omega)
  obtain ⟨w', rfl⟩ := Int.eq_ofNat_of_zero_le (show 0 ≤ w by omega)
  exact ⟨r', c', h', w', rfl, rfl, rfl, rfl, by omega, by omega, by omega, by omega⟩
theorem boxB_alt {R C : Nat} {r c h w : Int} : boxB R C r c h w = (inE 1 ((R : Int) - 1) h && (inE 1 ((C : Int) - 1) w && (pixB R C r c && pixB R C (r + h) (c + w)))) := by
  rw [Bool.eq_iff_iff]
  unfold boxB pixB inE
  simp only [Bool.and_eq_true, decide_eq_true_eq]
  omega
/-! What a border says once a pixel of it is void. -/
theorem whWd_false {z : Nat → Nat → Int} {r0 c0 h k : Nat} (hk : whWd z r0 c0 h k = false) : ∀ {n : Nat}, k ≤ n → whWd z r0 c0 h n = false
  | 0, h0 => by obtain rfl : k = 0 := by omega
                exact hk
  | n + 1, h0 => by
    rcases Nat.lt_or_ge n k with h1 | h1
    · obtain rfl : k = n + 1 := by omega
      exact hk
    · rw [whWd, whWd_false hk h1]; rfl
theorem whHi_false {z : Nat → Nat → Int} {r0 c0 w k : Nat} {b : Bool} (hk : whHi z r0 c0 w b k = false) : ∀ {n : Nat}, k ≤ n → whHi z r0 c0 w b n = false
  | 0, h0 => by obtain rfl : k = 0 := by omega
                exact hk
  | n + 1, h0 => by
    rcases Nat.lt_or_ge n k with h1 | h1
    · obtain rfl : k = n + 1 := by omega
      exact hk
    · rw [whHi, whHi_false hk h1]; rfl
/-- The turns around a box, and the error. -/
def taV (z : Nat → Nat → Int) (r c h w : Nat) : Int := if wholeP z r c h w then (aroundP z r c h w).tdiv 4096 else 0
def taE (z : Nat → Nat → Int) (r c h w : Nat) : Int := if wholeP z r c h w then 0 else 31
/-- What the reference's TurnsAround knows. -/
structure RtSt (w : World) (R C : Nat) (u : Value) (b0 b1 b2 b3 : Int) (wr : World) : Prop where
  m0 : wr.cell? ⟨w.heap.size, 0, none⟩ = some (.int .i64 R)
  m1 : wr.cell? ⟨w.heap.size, 1, none⟩ = some (.int .i64 C)
  m2 : wr.cell? ⟨w.heap.size, 2, none⟩ = some u
  b0 : wr.cell? ⟨w.heap.size + 1, 0, none⟩ = some (.int .i64 b0)
  b1 : wr.cell? ⟨w.heap.size + 1, 1, none⟩ = some (.int .i64 b1)
  b2 : wr.cell? ⟨w.heap.size + 1, 2, none⟩ = some (.int .i64 b2)
  b3 : wr.cell? ⟨w.heap.size + 1, 3, none⟩ = some (.int .i64 b3)
  bel : Below w.heap.size w wr
  lt : w.heap.size + 1 < wr.heap.size
theorem RtSt.below {w wr W : World} {R C : Nat} {u : Value} {b0 b1 b2 b3 : Int} (h : RtSt w R C u b0 b1 b2 b3 wr) (hb : Below wr.heap.size wr W) : RtSt w R C u b0 b1 b2 b3 W := by
  have hlt := h.lt
  have hs := hb.size
  have e : ∀ k j, k ≤ 1 → W.cell? ⟨w.heap.size + k, j, none⟩ = wr.cell? ⟨w.heap.size + k, j, none⟩ := fun k j hk => hb.cell (p := ⟨w.heap.size + k, j, none⟩) (show w.heap.size + k < wr.heap.size by omega)
  exact ⟨(e 0 0 (by decide)).trans h.m0, (e 0 1 (by decide)).trans h.m1, (e 0 2 (by decide)).trans h.m2, (e 1 0 (by decide)).trans h.b0, (e 1 1 (by decide)).trans h.b1, (e 1 2 (by decide)).trans h.b2, (e 1 3 (by decide)).trans h.b3, h.bel.trans (hb.mono (by omega)), by omega⟩
theorem any_worldA {G : World → Prop} {w : World} (F : World → Prop) (hf : F w) (h : ∀ W, F W → G W) : G w := h w hf
theorem st_ok {p q : Int} (h : (nvB p && nvB q) = true) : stV p q = wrP (q - p) ∧ stE p q = 0 := by unfold stV stE; rw [if_pos h, if_pos h]; exact ⟨rfl, rfl⟩
theorem st_bad {p q : Int} (h : (nvB p && nvB q) = false) : stV p q = 0 ∧ stE p q = 31 := by unfold stV stE; rw [h]; exact ⟨rfl, rfl⟩
theorem stV_bd (p q : Int) : -2048 ≤ stV p q ∧ stV p q ≤ 2047 := by
  have := wrP_bd (q - p)
  unfold stV
  split <;> omega
end Go.Proofs.YtkoiknmijjiicaaGreatDoor

/- Chapter 4: the reference's Residues; the program's TurnsAround. -/
namespace Go.Proofs.YtkoiknmijjiicaaGreatDoor
set_option linter.unusedVariables false
set_option linter.unusedSimpArgs false
open Go.RowKit Ntt
end Go.Proofs.YtkoiknmijjiicaaGreatDoor
