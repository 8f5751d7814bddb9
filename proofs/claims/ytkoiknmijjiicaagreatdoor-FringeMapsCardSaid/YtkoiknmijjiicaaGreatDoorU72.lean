/- Chapter 1: the laws' arguments: a list of numbers. -/
import Derived.Test.YtkoiknmijjiicaaGreatDoorU64
import Derived.Test.YtkoiknmijjiicaaGreatDoorZG
import Derived.ChangeSlices
namespace Go.Proofs.YtkoiknmijjiicaaGreatDoor
set_option linter.unusedVariables false
set_option linter.unusedSimpArgs false
open Go.ChangeShapes Go.WideShapes Go.RowKit Go.Deep
/-- The value is a slice of these integers, however many there are. -/
def IntsX (w : World) (v : Value) (zs : List Int) : Prop :=
  (∃ a cap, v = .slice a zs.length cap ∧ (0 < zs.length → ∃ b off, a = some ⟨b, off, none⟩ ∧ b < w.heap.size ∧ ∀ k, k < zs.length → w.cell? ⟨b, off + k, none⟩ = some (.int .i64 (intAt zs k)))) ∧ ∀ z ∈ zs, -9223372036854775808 ≤ z ∧ z ≤ 9223372036854775807
theorem IntsX.ints {w : World} {v : Value} {zs : List Int} (h : IntsX w v zs) (hl : zs.length ≤ 1000000000) : IntsV w v zs := ⟨hl, h.1⟩
theorem IntsX.at {w : World} {v : Value} {zs : List Int} (h : IntsX w v zs) (k : Nat) : -9223372036854775808 ≤ intAt zs k ∧ intAt zs k ≤ 9223372036854775807 := by
  unfold intAt
  cases hk : zs[k]? with
  | none => decide
  | some z => exact h.2 z (List.mem_of_getElem? hk)
set_option maxRecDepth 100000 in
theorem open_il {H : Type} {enc : TypeId × Value → H} {w : World} {base : Nat} {spare : Nat → Bool} {held : Bool} {r : Reach} {b0 : Nat} {v : Value} {d : DataW H} {p : List MemPlace} (hv : Value.okWide Tryz.prog w r b0 42 v) (h : DataW.Trod enc Tryz.prog w base spare held 42 v d p) :
    ∃ zs : List Int, IntsX w v zs := by
  obtain ⟨a0, l0, c0, rfl⟩ := okWide_slice Tryz.underlying42 hv
  obtain ⟨fuel, hf⟩ := h
  rcases open_ints Tryz.underlying42 Tryz.underlying3 (by kernel_rfl) hf with ⟨h1, _⟩ | ⟨a, len, cap, zs, h1, _, hl, hm, hz, _, hx, hw⟩
  · simp [Value.cells] at h1
    obtain ⟨rfl, rfl, rfl⟩ := h1
    exact ⟨[], ⟨none, 0, rfl, fun h => absurd h (by decide)⟩, fun z hz => by simp at hz⟩
  · simp [Value.cells] at h1
    obtain ⟨rfl, rfl, rfl⟩ := h1
    have hle : l0 ≤ zs.length := by rw [hz]; split <;> omega
    have hlen : (zs.take l0).length = l0 := by rw [List.length_take]; omega
    have hat : ∀ k, k < l0 → intAt (zs.take l0) k = zs.getD k 0 := fun k hk => by
      unfold intAt
      rw [List.getElem?_take, if_pos hk]
      rfl
    refine ⟨zs.take l0, ⟨some a, c0, by rw [hlen], fun hp => ?_⟩, fun z hz => wf_i64 (hw z (List.mem_of_mem_take hz))⟩
    rw [hlen] at hp
    obtain ⟨b, off, rfl⟩ := spot_none (w := w) (v := .int .i64 (zs.getD 0 0)) (by have := hx 0 (by omega); simpa [Addr.add] using this)
    refine ⟨b, off, rfl, ?_, fun k hk => ?_⟩
    · have := hx 0 (by omega)
      exact block_lt_of_isSome (a := ⟨b, off, none⟩) (by simp [Addr.add] at this; rw [this]; rfl)
    · rw [hlen] at hk
      have h2 := hx k (by omega)
      have e : (⟨b, off, none⟩ : Addr).add k = ⟨b, off + k, none⟩ := by simp [Addr.add] <;> omega
      rw [e] at h2
      rw [h2, hat k hk]
end Go.Proofs.YtkoiknmijjiicaaGreatDoor
