/- Chapter 1: the laws' arguments: scenes. -/
import Derived.Test.YtkoiknmijjiicaaGreatDoorO1
import Derived.Test.YtkoiknmijjiicaaGreatDoorZK
import Derived.Test.YtkoiknmijjiicaaGreatDoorRows
import Derived.KernelRfl
namespace Go.Proofs.YtkoiknmijjiicaaGreatDoor
set_option linter.unusedVariables false
set_option linter.unusedSimpArgs false
open Go.ChangeShapes Go.WideShapes Go.RowKit Go.Deep
theorem own : ownKnob Tryz.prog.godebug = none := by kernel_rfl
theorem laidOut : laidOutB Tryz.prog = true := by kernel_rfl
theorem cells_f32 : Tryz.prog.cellsOf 72 = 1 := by kernel_rfl
theorem cells_scn : Tryz.prog.cellsOf 24 = 4 := by kernel_rfl
theorem leafs_scn : leafs Tryz.prog 8 24 = some [3, 3, 22, 22] := by kernel_rfl
section
variable {H : Type} {enc : TypeId × Value → H} {P : Program} {w : World} {base : Nat} {spare : Nat → Bool} {held : Bool} {r : Reach} {b0 : Nat} {v : Value} {d : DataW H} {p : List MemPlace}
theorem cells_of {P : Program} {t : TypeId} {fs : Array Field} {n : Nat} {ls : List TypeId} (hu : P.underlying t = some (.struct fs)) (hn : P.cellsOf t = n) (hl : leafs P 8 t = some ls) (hv : Value.okWide P w r b0 t v) (h : DataW.Trod enc P w base spare held t v d p) :
    ∃ cs : List Value, cs.length = n ∧ v = .agg cs.toArray ∧ AllOk enc P w base spare held ls cs := by
  obtain ⟨cs, rfl, hs⟩ := okWide_struct hu hv
  obtain ⟨l⟩ := cs
  obtain ⟨fuel, hf⟩ := h
  exact ⟨l, by rw [← hn]; exact hs, rfl, leafs_ok 8 t ls fuel _ _ hl (by simpa [Value.cells] using hf)⟩
theorem trod_float {t : TypeId} {k : FloatKind} {fuel : Nat} {x : DataW H × List MemPlace} (ht : P.underlying t = some (.float k)) (h : DataW.trod enc P w base spare held fuel t [v] = some x) : ∃ b, v = .float k b := by
  cases fuel with
  | zero => simp [DataW.trod] at h
  | succ n =>
    simp only [DataW.trod, ht] at h
    cases v <;> simp at h
    rename_i k' b
    obtain ⟨⟨rfl, _⟩, _⟩ := h
    exact ⟨b, rfl⟩
theorem spot_none {w : World} {a : Addr} {v : Value} (h : w.cell? a = some v) : ∃ b off, a = ⟨b, off, none⟩ := by
  obtain ⟨b, off, spot⟩ := a
  cases spot with
  | none => exact ⟨b, off, rfl⟩
  | some q =>
    unfold World.cell? at h
    split at h
    · simp at h
    · cases h
theorem CellOk.parts {v : Value} (h : CellOk enc Tryz.prog w base spare held 22 v) : ∃ (a : Option Addr) (m cap : Nat) (p : Nat → Nat), v = .slice a m cap ∧ SrcP w a m p := by
  obtain ⟨fuel, x, h⟩ := h
  rcases open_slice1 Tryz.underlying22 cells_f32 h with ⟨h1, _⟩ | ⟨a, len, cap, m, n, V, D, Pl, h1, _, hl, hm, hmm, _, hx⟩
  · simp at h1
    exact ⟨none, 0, 0, fun _ => 0, h1, fun hp => absurd hp (Nat.not_lt_zero _)⟩
  · simp at h1
    subst h1
    have hle : len ≤ m := by rw [hmm]; split <;> omega
    have hf : ∀ i, i < len → ∃ b, V i = .float .f32 b := fun i hi => trod_float Tryz.underlying72 (hx i (by omega)).2
    refine ⟨some a, len, cap, fun i => match V i with | .float _ b => b | _ => 0, rfl, fun hp => ?_⟩
    obtain ⟨b, off, rfl⟩ := spot_none (w := w) (v := V 0) (by have := (hx 0 (by omega)).1; simpa [Addr.add] using this)
    refine ⟨b, off, rfl, ?_, fun k hk => ?_⟩
    · have := (hx 0 (by omega)).1
      exact block_lt_of_isSome (a := ⟨b, off, none⟩) (by simp [Addr.add] at this; rw [this]; rfl)
    · have h2 := (hx k (by omega)).1
      obtain ⟨c, hc⟩ := hf k hk
      have e : (⟨b, off, none⟩ : Addr).add k = ⟨b, off + k, none⟩ := by simp [Addr.add] <;> omega
      rw [e] at h2
      rw [h2]
      simp [hc]
set_option maxRecDepth 100000 in
theorem open_scn (hv : Value.okWide Tryz.prog w r b0 24 v) (h : DataW.Trod enc Tryz.prog w base spare held 24 v d p) :
    ∃ x : Scn, v = .agg #[.int .i64 x.L, .int .i64 x.S, .slice x.pa x.m x.pc, .slice x.ca x.mc x.cc] ∧ x.At w := by
  obtain ⟨cs, hn, rfl, ok⟩ := cells_of Tryz.underlying24 cells_scn leafs_scn hv h
  match cs, hn with
  | [c0, c1, c2, c3], _ =>
    obtain ⟨a0, rfl, h0⟩ := (ok 0 _ _ rfl rfl).int Tryz.underlying3
    obtain ⟨a1, rfl, h1⟩ := (ok 1 _ _ rfl rfl).int Tryz.underlying3
    obtain ⟨pa, m, pc, p, rfl, hp⟩ := (ok 2 _ _ rfl rfl).parts
    obtain ⟨ca, mc, cc, q, rfl, hq⟩ := (ok 3 _ _ rfl rfl).parts
    exact ⟨⟨a0, a1, pa, m, pc, p, ca, mc, cc, q⟩, rfl, hp, hq⟩
end
end Go.Proofs.YtkoiknmijjiicaaGreatDoor
