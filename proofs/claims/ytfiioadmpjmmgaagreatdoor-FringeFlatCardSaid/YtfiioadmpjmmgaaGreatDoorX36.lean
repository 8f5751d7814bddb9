/- Chapter 4: the laws' arguments: float maps. -/
import Derived.Test.YtfiioadmpjmmgaaGreatDoorXF
import Derived.Test.YtfiioadmpjmmgaaGreatDoorU56
namespace Go.Proofs.YtfiioadmpjmmgaaGreatDoor
set_option linter.unusedVariables false
set_option linter.unusedSimpArgs false
open Go.ChangeShapes Go.WideShapes Go.RowKit Go.Deep
theorem cells_fmap : Tryz.prog.cellsOf 63 = 3 := by kernel_rfl
theorem leafs_fmap : leafs Tryz.prog 8 63 = some [3, 3, 58] := by kernel_rfl
theorem flX_of {w : World} {a : Option Addr} {n c : Nat} {q : Nat → Nat} (h : SrcP w a n q) : FlX w (.slice a n c) ((List.range n).map q) := by
  have hl : ((List.range n).map q).length = n := by simp
  refine ⟨a, c, by rw [hl], fun hp => ?_⟩
  rw [hl] at hp
  obtain ⟨b, off, h1, h2, h3⟩ := h hp
  refine ⟨b, off, h1, h2, fun k hk => ?_⟩
  rw [hl] at hk
  have e : flAt ((List.range n).map q) k = q k := by unfold flAt; simp [hk]
  rw [e]
  exact h3 k hk
set_option maxRecDepth 100000 in
theorem open_fmap {H : Type} {enc : TypeId × Value → H} {w : World} {base : Nat} {spare : Nat → Bool} {held : Bool} {r : Reach} {b0 : Nat} {v : Value} {d : DataW H} {p : List MemPlace} (hv : Value.okWide Tryz.prog w r b0 63 v) (h : DataW.Trod enc Tryz.prog w base spare held 63 v d p) :
    ∃ (R C : Int) (u : Value) (ds : List Nat), v = .agg #[.int .i64 R, .int .i64 C, u] ∧ FlX w u ds := by
  obtain ⟨cs, hn, rfl, ok⟩ := cells_of Tryz.underlying63 cells_fmap leafs_fmap hv h
  match cs, hn with
  | [c0, c1, c2], _ =>
    obtain ⟨a0, rfl, h0⟩ := (ok 0 _ _ rfl rfl).int Tryz.underlying3
    obtain ⟨a1, rfl, h1⟩ := (ok 1 _ _ rfl rfl).int Tryz.underlying3
    obtain ⟨a, n, c, q, rfl, hs⟩ := (ok 2 _ _ rfl rfl).parts
    exact ⟨a0, a1, _, _, rfl, flX_of hs⟩
end Go.Proofs.YtfiioadmpjmmgaaGreatDoor
