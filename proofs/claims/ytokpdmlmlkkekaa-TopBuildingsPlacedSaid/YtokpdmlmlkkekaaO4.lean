/- The arguments of the laws: reliefs. -/
import Derived.Test.YtokpdmlmlkkekaaZO
import Derived.Test.YtokpdmlmlkkekaaZS
namespace Go.Proofs.Ytokpdmlmlkkekaa
set_option linter.unusedVariables false
open Go.ChangeShapes Go.WideShapes Go.RowKit Go.Deep
theorem cells_relief : Try.prog.cellsOf 59 = 6 := by kernel_rfl
theorem leafs_relief : leafs Try.prog 8 59 = some [3, 3, 3, 3, 3, 55] := by kernel_rfl
theorem cells_f32 : Try.prog.cellsOf 75 = 1 := by kernel_rfl
section
variable {H : Type} {enc : TypeId × Value → H} {P : Program} {w : World} {base : Nat} {spare : Nat → Bool} {held : Bool} {r : Reach} {b0 : Nat} {v : Value} {d : DataW H} {p : List MemPlace}
theorem trod_float {t : TypeId} {k : FloatKind} {fuel : Nat} {x : DataW H × List MemPlace} (ht : P.underlying t = some (.float k)) (h : DataW.trod enc P w base spare held fuel t [v] = some x) : ∃ b, v = .float k b := by
  cases fuel with
  | zero => simp [DataW.trod] at h
  | succ n =>
    simp only [DataW.trod, ht] at h
    cases v <;> simp at h
    rename_i k' b
    obtain ⟨⟨rfl, _⟩, _⟩ := h
    exact ⟨b, rfl⟩
theorem spot_none {w : World} {a : Addr} {v : Value} (h : w.cell? a = some v) : ∃ b off, a = ⟨b, off, none⟩ := by
  obtain ⟨b, off, spot⟩ := a
  cases spot with
  | none => exact ⟨b, off, rfl⟩
  | some q =>
    unfold World.cell? at h
    split at h
    · simp at h
    · cases h
theorem CellOk.floats {v : Value} (h : CellOk enc Try.prog w base spare held 55 v) : ∃ (a : Option Addr) (ds : List Nat) (cap : Nat), v = .slice a ds.length cap ∧ SrcAt w a ds ∧ (a = none → cap = 0) := by
  obtain ⟨fuel, x, h⟩ := h
  rcases open_slice1 Try.underlying55 cells_f32 h with ⟨h1, _⟩ | ⟨a, len, cap, m, n, V, D, Pl, h1, _, hl, hm, hmm, _, hx⟩
  · simp at h1
    exact ⟨none, [], 0, h1, fun hp => by simp at hp, fun _ => rfl⟩
  · simp at h1
    subst h1
    have hle : len ≤ m := by rw [hmm]; split <;> omega
    have hf : ∀ i, i < len → ∃ b, V i = .float .f32 b := fun i hi => trod_float Try.underlying75 (hx i (by omega)).2
    refine ⟨some a, (List.range len).map (fun i => match V i with | .float _ b => b | _ => 0), cap, by simp, fun hp => ?_, fun h => by cases h⟩
    simp at hp
    obtain ⟨b, off, rfl⟩ := spot_none (w := w) (v := V 0) (by have := (hx 0 (by omega)).1; simpa [Addr.add] using this)
    refine ⟨b, off, rfl, ?_, fun k hk => ?_⟩
    · have := (hx 0 (by omega)).1
      exact block_lt_of_isSome (a := ⟨b, off, none⟩) (by simp [Addr.add] at this; rw [this]; rfl)
    · simp at hk
      have h2 := (hx k (by omega)).1
      obtain ⟨c, hc⟩ := hf k hk
      have e : (⟨b, off, none⟩ : Addr).add k = ⟨b, off + k, none⟩ := by simp [Addr.add] <;> omega
      rw [e] at h2
      rw [h2]
      unfold bitAt
      simp [hk, hc]
set_option maxRecDepth 100000 in
theorem open_relief (hv : Value.okWide Try.prog w r b0 59 v) (h : DataW.Trod enc Try.prog w base spare held 59 v d p) :
    ∃ (r : Rel) (a : Option Addr) (cap : Nat), v = .agg #[.int .i64 r.x, .int .i64 r.y, .int .i64 r.cell, .int .i64 r.rows, .int .i64 r.cols, .slice a r.ds.length cap] ∧ SrcAt w a r.ds ∧ (a = none → cap = 0) ∧ I64 r.x ∧ I64 r.y ∧ I64 r.cell ∧ I64 r.rows ∧ I64 r.cols := by
  obtain ⟨cs, hn, rfl, ok⟩ := cells_of Try.underlying59 cells_relief leafs_relief hv h
  match cs, hn with
  | [c0, c1, c2, c3, c4, c5], _ =>
    obtain ⟨a0, rfl, h0⟩ := (ok 0 _ _ rfl rfl).int Try.underlying3
    obtain ⟨a1, rfl, h1⟩ := (ok 1 _ _ rfl rfl).int Try.underlying3
    obtain ⟨a2, rfl, h2⟩ := (ok 2 _ _ rfl rfl).int Try.underlying3
    obtain ⟨a3, rfl, h3⟩ := (ok 3 _ _ rfl rfl).int Try.underlying3
    obtain ⟨a4, rfl, h4⟩ := (ok 4 _ _ rfl rfl).int Try.underlying3
    obtain ⟨a, ds, cap, rfl, hs, hn⟩ := (ok 5 _ _ rfl rfl).floats
    exact ⟨⟨a0, a1, a2, a3, a4, ds⟩, a, cap, rfl, hs, hn, i64_wf h0, i64_wf h1, i64_wf h2, i64_wf h3, i64_wf h4⟩
end
end Go.Proofs.Ytokpdmlmlkkekaa
