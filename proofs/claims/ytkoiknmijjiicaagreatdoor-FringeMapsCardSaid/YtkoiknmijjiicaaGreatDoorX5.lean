/- Chapter 4: the laws' arguments: maps, boxes. -/
import Derived.Test.YtkoiknmijjiicaaGreatDoorU72
namespace Go.Proofs.YtkoiknmijjiicaaGreatDoor
set_option linter.unusedVariables false
set_option linter.unusedSimpArgs false
open Go.ChangeShapes Go.WideShapes Go.RowKit Go.Deep
theorem cells_map : Tryz.prog.cellsOf 44 = 3 := by kernel_rfl
theorem leafs_map : leafs Tryz.prog 8 44 = some [3, 3, 42] := by kernel_rfl
theorem cells_fbox : Tryz.prog.cellsOf 144 = 4 := by kernel_rfl
theorem leafs_fbox : leafs Tryz.prog 8 144 = some [3, 3, 3, 3] := by kernel_rfl
section
variable {H : Type} {enc : TypeId × Value → H} {w : World} {base : Nat} {spare : Nat → Bool} {held : Bool} {r : Reach} {b0 : Nat} {v : Value} {d : DataW H} {p : List MemPlace}
theorem CellOk.il {v : Value} (h : CellOk enc Tryz.prog w base spare held 42 v) : ∃ zs : List Int, IntsX w v zs := by
  obtain ⟨fuel, x, hf⟩ := h
  rcases open_ints Tryz.underlying42 Tryz.underlying3 (by kernel_rfl) hf with ⟨h1, _⟩ | ⟨a, len, cap, zs, h1, _, hl, hm, hz, _, hx, hw⟩
  · simp at h1
    exact ⟨[], ⟨none, 0, h1, fun h => absurd h (by decide)⟩, fun z hz => by simp at hz⟩
  · simp at h1
    subst h1
    have hle : len ≤ zs.length := by rw [hz]; split <;> omega
    have hlen : (zs.take len).length = len := by rw [List.length_take]; omega
    have hat : ∀ k, k < len → intAt (zs.take len) k = zs.getD k 0 := fun k hk => by
      unfold intAt
      rw [List.getElem?_take, if_pos hk]
      rfl
    refine ⟨zs.take len, ⟨some a, cap, by rw [hlen], fun hp => ?_⟩, fun z hz => wf_i64 (hw z (List.mem_of_mem_take hz))⟩
    rw [hlen] at hp
    obtain ⟨b, off, rfl⟩ := spot_none (w := w) (v := .int .i64 (zs.getD 0 0)) (by have := hx 0 (by omega); simpa [Addr.add] using this)
    refine ⟨b, off, rfl, ?_, fun k hk => ?_⟩
    · have := hx 0 (by omega)
      exact block_lt_of_isSome (a := ⟨b, off, none⟩) (by simp [Addr.add] at this; rw [this]; rfl)
    · rw [hlen] at hk
      have h2 := hx k (by omega)
      have e : (⟨b, off, none⟩ : Addr).add k = ⟨b, off + k, none⟩ := by simp [Addr.add] <;> omega
      rw [e] at h2
      rw [h2, hat k hk]
set_option maxRecDepth 100000 in
theorem open_map (hv : Value.okWide Tryz.prog w r b0 44 v) (h : DataW.Trod enc Tryz.prog w base spare held 44 v d p) :
    ∃ (R C : Int) (u : Value) (zs : List Int), v = .agg #[.int .i64 R, .int .i64 C, u] ∧ IntsX w u zs := by
  obtain ⟨cs, hn, rfl, ok⟩ := cells_of Tryz.underlying44 cells_map leafs_map hv h
  match cs, hn with
  | [c0, c1, c2], _ =>
    obtain ⟨a0, rfl, h0⟩ := (ok 0 _ _ rfl rfl).int Tryz.underlying3
    obtain ⟨a1, rfl, h1⟩ := (ok 1 _ _ rfl rfl).int Tryz.underlying3
    obtain ⟨zs, hz⟩ := (ok 2 _ _ rfl rfl).il
    exact ⟨a0, a1, c2, zs, rfl, hz⟩
set_option maxRecDepth 100000 in
theorem open_fbox (hv : Value.okWide Tryz.prog w r b0 144 v) (h : DataW.Trod enc Tryz.prog w base spare held 144 v d p) :
    ∃ (R C H W : Int), v = .agg #[.int .i64 R, .int .i64 C, .int .i64 H, .int .i64 W] ∧ ((-9223372036854775808 ≤ R ∧ R ≤ 9223372036854775807) ∧ (-9223372036854775808 ≤ C ∧ C ≤ 9223372036854775807)) ∧ (-9223372036854775808 ≤ H ∧ H ≤ 9223372036854775807) ∧ (-9223372036854775808 ≤ W ∧ W ≤ 9223372036854775807) := by
  obtain ⟨cs, hn, rfl, ok⟩ := cells_of Tryz.underlying144 cells_fbox leafs_fbox hv h
  match cs, hn with
  | [c0, c1, c2, c3], _ =>
    obtain ⟨a0, rfl, h0⟩ := (ok 0 _ _ rfl rfl).int Tryz.underlying3
    obtain ⟨a1, rfl, h1⟩ := (ok 1 _ _ rfl rfl).int Tryz.underlying3
    obtain ⟨a2, rfl, h2⟩ := (ok 2 _ _ rfl rfl).int Tryz.underlying3
    obtain ⟨a3, rfl, h3⟩ := (ok 3 _ _ rfl rfl).int Tryz.underlying3
    exact ⟨a0, a1, a2, a3, rfl, ⟨wf_i64 h0, wf_i64 h1⟩, wf_i64 h2, wf_i64 h3⟩
end
end Go.Proofs.YtkoiknmijjiicaaGreatDoor
