/- Chapter 4: the laws' arguments: three maps. -/
import Derived.Test.YtfiioadmpjmmgaaGreatDoorX5
namespace Go.Proofs.YtfiioadmpjmmgaaGreatDoor
set_option linter.unusedVariables false
set_option linter.unusedSimpArgs false
open Go.ChangeShapes Go.WideShapes Go.RowKit Ntt
theorem cells_m3 : Tryz.prog.cellsOf 49 = 9 := by kernel_rfl
theorem leafs_m3 : leafs Tryz.prog 8 49 = some [3, 3, 22, 3, 3, 22, 3, 3, 22] := by kernel_rfl
section
variable {H : Type} {enc : TypeId × Value → H} {w : World} {base : Nat} {spare : Nat → Bool} {held : Bool} {r : Reach} {b0 : Nat} {v : Value} {d : DataW H} {p : List MemPlace}
theorem cells_of_arr {P : Program} {t e : TypeId} {m n : Nat} {ls : List TypeId} (hu : P.underlying t = some (.array m e)) (hn : P.cellsOf t = n) (hl : leafs P 8 t = some ls) (hv : Value.okWide P w r b0 t v) (h : DataW.Trod enc P w base spare held t v d p) :
    ∃ cs : List Value, cs.length = n ∧ v = .agg cs.toArray ∧ AllOk enc P w base spare held ls cs := by
  simp only [Value.okWide, hu] at hv
  obtain ⟨cs, rfl, hs, -⟩ := hv
  obtain ⟨l⟩ := cs
  obtain ⟨fuel, hf⟩ := h
  exact ⟨l, by rw [← hn]; exact hs, rfl, leafs_ok 8 t ls fuel _ _ hl (by simpa [Value.cells] using hf)⟩
set_option maxRecDepth 100000 in
theorem open_m3 (hv : Value.okWide Tryz.prog w r b0 49 v) (h : DataW.Trod enc Tryz.prog w base spare held 49 v d p) :
    ∃ (R C : Int) (u : Value) (zs : List Int) (R' C' : Int) (u' : Value) (ys : List Int) (R'' C'' : Int) (u'' : Value) (us : List Int), v = .agg #[.int .i64 R, .int .i64 C, u, .int .i64 R', .int .i64 C', u', .int .i64 R'', .int .i64 C'', u''] ∧ IntsX w u zs ∧ IntsX w u' ys ∧ IntsX w u'' us := by
  obtain ⟨cs, hn, rfl, ok⟩ := cells_of_arr Tryz.underlying49 cells_m3 leafs_m3 hv h
  match cs, hn with
  | [c0, c1, c2, c3, c4, c5, c6, c7, c8], _ =>
    obtain ⟨a0, rfl, _⟩ := (ok 0 _ _ rfl rfl).int Tryz.underlying3
    obtain ⟨a1, rfl, _⟩ := (ok 1 _ _ rfl rfl).int Tryz.underlying3
    obtain ⟨zs, hx⟩ := CellOk.il (ok 2 _ _ rfl rfl)
    obtain ⟨a3, rfl, _⟩ := (ok 3 _ _ rfl rfl).int Tryz.underlying3
    obtain ⟨a4, rfl, _⟩ := (ok 4 _ _ rfl rfl).int Tryz.underlying3
    obtain ⟨ys, hy⟩ := CellOk.il (ok 5 _ _ rfl rfl)
    obtain ⟨a6, rfl, _⟩ := (ok 6 _ _ rfl rfl).int Tryz.underlying3
    obtain ⟨a7, rfl, _⟩ := (ok 7 _ _ rfl rfl).int Tryz.underlying3
    obtain ⟨us, hz⟩ := CellOk.il (ok 8 _ _ rfl rfl)
    exact ⟨a0, a1, c2, zs, a3, a4, c5, ys, a6, a7, c8, us, rfl, hx, hy, hz⟩
end
end Go.Proofs.YtfiioadmpjmmgaaGreatDoor
