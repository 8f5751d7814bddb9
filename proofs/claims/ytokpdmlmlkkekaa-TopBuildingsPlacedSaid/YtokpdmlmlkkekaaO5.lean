/- The arguments of the laws: lists of places. -/
import Derived.Test.YtokpdmlmlkkekaaZO
import Derived.Test.YtokpdmlmlkkekaaY9
namespace Go.Proofs.Ytokpdmlmlkkekaa
set_option linter.unusedVariables false
open Go.ChangeShapes Go.WideShapes Go.RowKit Go.Deep
section
variable {H : Type} {enc : TypeId × Value → H} {w : World} {base : Nat} {spare : Nat → Bool} {held : Bool} {r : Reach} {b0 : Nat} {v : Value} {d : DataW H} {p : List MemPlace}
theorem add_off (b off k : Nat) : (⟨b, off, none⟩ : Addr).add k = ⟨b, off + k, none⟩ := by simp [Addr.add] <;> omega
/-- What lies at an address as a place. -/
def PlcAt (w : World) (a : Addr) (q : Plc) : Prop := w.cell? (a.add 0) = some (.int .i64 q.x) ∧ w.cell? (a.add 1) = some (.int .i64 q.y) ∧ w.cell? (a.add 2) = some (.int .i64 q.z) ∧ (Lit.int .i64 q.x).wf = true ∧ (Lit.int .i64 q.y).wf = true
theorem plc_of {a : Addr} {n : Nat} {cs : List Value} {x : DataW H × List MemPlace} (hc : w.cells? base a 3 = some cs) (h : DataW.trod enc Try.prog w base spare held n 23 cs = some x) : ∃ q, PlcAt w a q := by
  obtain ⟨_, hlen, hat⟩ := World.cells?_some hc
  have ok := leafs_ok 8 23 _ n cs x leafs_place h
  match cs, hlen with
  | [c0, c1, c2], _ =>
    obtain ⟨a0, rfl, w0⟩ := (ok 0 _ _ rfl rfl).int Try.underlying3
    obtain ⟨a1, rfl, w1⟩ := (ok 1 _ _ rfl rfl).int Try.underlying3
    obtain ⟨a2, rfl, w2⟩ := (ok 2 _ _ rfl rfl).int Try.underlying3
    exact ⟨⟨a0, a1, a2⟩, hat 0 (by omega), hat 1 (by omega), hat 2 (by omega), w0, w1⟩
set_option maxRecDepth 100000 in
theorem open_places (hv : Value.okWide Try.prog w r b0 85 v) (h : DataW.Trod enc Try.prog w base spare held 85 v d p) :
    ∃ (ps : List Plc) (a : Option Addr) (cap : Nat), v = .slice a ps.length cap ∧ PlSrc w a ps ∧ Wf2 ps ∧ (a = none → cap = 0) := by
  obtain ⟨a0, l0, c0, rfl⟩ := okWide_slice Try.underlying85 hv
  obtain ⟨fuel, hf⟩ := h
  rcases open_slice Try.underlying85 hf with ⟨h1, _⟩ | ⟨a, len, cap, m, n, D, Pl, h1, _, hl, hm, hmm, _, hx⟩
  · simp [Value.cells] at h1
    obtain ⟨rfl, rfl, rfl⟩ := h1
    exact ⟨[], none, 0, rfl, fun hp => by simp at hp, fun k hk => by simp at hk, fun _ => rfl⟩
  · simp [Value.cells] at h1
    obtain ⟨rfl, rfl, rfl⟩ := h1
    have hle : l0 ≤ m := by rw [hmm]; split <;> omega
    have hex : ∀ i, i < l0 → ∃ q, PlcAt w (a.add (i * 3)) q := fun i hi => by
      obtain ⟨cs, h2, h3⟩ := hx i (by omega)
      rw [cells_place] at h2
      exact plc_of h2 h3
    have hV : ∃ V : Nat → Plc, ∀ i, i < l0 → PlcAt w (a.add (i * 3)) (V i) :=
      ⟨fun i => if h : i < l0 then (hex i h).choose else plc0, fun i hi => by simp only [hi, dite_true]; exact (hex i hi).choose_spec⟩
    obtain ⟨V, hV⟩ := hV
    have hpa : ∀ k, k < l0 → plcAt ((List.range l0).map V) k = V k := fun k hk => by unfold plcAt; simp [hk]
    refine ⟨(List.range l0).map V, some a, c0, by simp, fun hp => ?_, fun k hk => ?_, fun h => by cases h⟩
    · simp at hp
      obtain ⟨b, off, rfl⟩ : ∃ b off, a = ⟨b, off, none⟩ := by
        have h0 := (hV 0 (by omega)).1
        obtain ⟨b, off, spot⟩ := a
        cases spot with
        | none => exact ⟨b, off, rfl⟩
        | some q =>
          unfold World.cell? at h0
          split at h0
          · simp [Addr.add] at *
          · cases h0
      refine ⟨b, off, rfl, ?_, fun k hk => ?_⟩
      · have h0 := (hV 0 (by omega)).1
        exact block_lt_of_isSome (a := ⟨b, off, none⟩) (by simp [Addr.add] at h0; rw [h0]; rfl)
      · simp at hk
        rw [hpa k hk]
        obtain ⟨e1, e2, e3, _, _⟩ := hV k hk
        have f : ∀ j, ((⟨b, off, none⟩ : Addr).add (k * 3)).add j = ⟨b, off + k * 3 + j, none⟩ := fun j => by rw [add_off, add_off]
        rw [f] at e1 e2 e3
        exact ⟨e1, e2, e3⟩
    · simp at hk
      rw [hpa k hk]
      obtain ⟨_, _, _, e4, e5⟩ := hV k hk
      exact ⟨e4, e5⟩
end
end Go.Proofs.Ytokpdmlmlkkekaa
