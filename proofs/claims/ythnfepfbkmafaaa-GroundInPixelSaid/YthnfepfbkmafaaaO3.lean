/- The arguments of the laws: queries, raises, arrays. -/
import Derived.Test.YthnfepfbkmafaaaO2
import Derived.WideKeyArr2
namespace Go.Proofs.Ythnfepfbkmafaaa
set_option linter.unusedVariables false
open Go.ChangeShapes Go.WideShapes Go.RowKit
theorem cells_query : Try.prog.cellsOf 106 = 7 := by kernel_rfl
theorem leafs_query : leafs Try.prog 8 106 = some [3, 3, 3, 3, 3, 3, 3] := by kernel_rfl
theorem cells_raise : Try.prog.cellsOf 74 = 3 := by kernel_rfl
theorem leafs_raise : leafs Try.prog 8 74 = some [3, 3, 3] := by kernel_rfl
theorem leafs_a2 : leafs Try.prog 8 44 = some [3, 3] := by kernel_rfl
theorem leafs_a4 : leafs Try.prog 8 96 = some [3, 3, 3, 3] := by kernel_rfl
theorem key_a2 : WideMaps.ArrKey Try.prog 44 3 2 := ⟨Try.underlying44, by kernel_rfl, by kernel_rfl, by kernel_rfl⟩
theorem key_a4 : WideMaps.ArrKey Try.prog 96 3 4 := ⟨Try.underlying96, by kernel_rfl, by kernel_rfl, by kernel_rfl⟩
section
variable {H : Type} {enc : TypeId × Value → H} {w : World} {base : Nat} {spare : Nat → Bool} {held : Bool} {r : Reach} {b0 : Nat} {v : Value} {d : DataW H} {p : List MemPlace}
/-- A 64-bit number, as bounds. -/
def I64 (n : Int) : Prop := -9223372036854775808 ≤ n ∧ n ≤ 9223372036854775807
theorem i64_wf {n : Int} (h : (Lit.int .i64 n).wf = true) : I64 n := by
  have h2 := (by simpa [Lit.wf] using h : IntKind.i64.min ≤ n ∧ n ≤ IntKind.i64.max)
  exact h2
set_option maxRecDepth 100000 in
theorem open_query (hv : Value.okWide Try.prog w r b0 106 v) (h : DataW.Trod enc Try.prog w base spare held 106 v d p) :
    ∃ c0 c1 c2 c3 c4 c5 c6 : Int, v = .agg #[.int .i64 c0, .int .i64 c1, .int .i64 c2, .int .i64 c3, .int .i64 c4, .int .i64 c5, .int .i64 c6] ∧ I64 c4 ∧ I64 c5 ∧ I64 c6 := by
  obtain ⟨cs, hn, rfl, ok⟩ := cells_of Try.underlying106 cells_query leafs_query hv h
  match cs, hn with
  | [c0, c1, c2, c3, c4, c5, c6], _ =>
    obtain ⟨a0, rfl, _⟩ := (ok 0 _ _ rfl rfl).int Try.underlying3
    obtain ⟨a1, rfl, _⟩ := (ok 1 _ _ rfl rfl).int Try.underlying3
    obtain ⟨a2, rfl, _⟩ := (ok 2 _ _ rfl rfl).int Try.underlying3
    obtain ⟨a3, rfl, _⟩ := (ok 3 _ _ rfl rfl).int Try.underlying3
    obtain ⟨a4, rfl, h4⟩ := (ok 4 _ _ rfl rfl).int Try.underlying3
    obtain ⟨a5, rfl, h5⟩ := (ok 5 _ _ rfl rfl).int Try.underlying3
    obtain ⟨a6, rfl, h6⟩ := (ok 6 _ _ rfl rfl).int Try.underlying3
    exact ⟨a0, a1, a2, a3, a4, a5, a6, rfl, i64_wf h4, i64_wf h5, i64_wf h6⟩
set_option maxRecDepth 100000 in
theorem open_raise (hv : Value.okWide Try.prog w r b0 74 v) (h : DataW.Trod enc Try.prog w base spare held 74 v d p) :
    ∃ c0 c1 c2 : Int, v = .agg #[.int .i64 c0, .int .i64 c1, .int .i64 c2] ∧ I64 c0 ∧ I64 c1 ∧ I64 c2 := by
  obtain ⟨cs, hn, rfl, ok⟩ := cells_of Try.underlying74 cells_raise leafs_raise hv h
  match cs, hn with
  | [c0, c1, c2], _ =>
    obtain ⟨a0, rfl, h0⟩ := (ok 0 _ _ rfl rfl).int Try.underlying3
    obtain ⟨a1, rfl, h1⟩ := (ok 1 _ _ rfl rfl).int Try.underlying3
    obtain ⟨a2, rfl, h2⟩ := (ok 2 _ _ rfl rfl).int Try.underlying3
    exact ⟨a0, a1, a2, rfl, i64_wf h0, i64_wf h1, i64_wf h2⟩
theorem cells_arr {P : Program} {t e : TypeId} {n : Nat} {ls : List TypeId} (A : WideMaps.ArrKey P t e n) (hl : leafs P 8 t = some ls) (hv : Value.okWide P w r b0 t v) (h : DataW.Trod enc P w base spare held t v d p) :
    ∃ cs : List Value, cs.length = n ∧ v = .agg cs.toArray ∧ AllOk enc P w base spare held ls cs := by
  obtain ⟨cs, rfl, hs⟩ := WideMaps.okWide_arr A hv
  obtain ⟨l⟩ := cs
  obtain ⟨fuel, hf⟩ := h
  exact ⟨l, by simpa using hs, rfl, leafs_ok 8 t ls fuel _ _ hl (by simpa [Value.cells] using hf)⟩
set_option maxRecDepth 100000 in
theorem open_a2 (hv : Value.okWide Try.prog w r b0 44 v) (h : DataW.Trod enc Try.prog w base spare held 44 v d p) :
    ∃ c0 c1 : Int, v = .agg #[.int .i64 c0, .int .i64 c1] ∧ I64 c0 ∧ I64 c1 := by
  obtain ⟨cs, hn, rfl, ok⟩ := cells_arr key_a2 leafs_a2 hv h
  match cs, hn with
  | [c0, c1], _ =>
    obtain ⟨a0, rfl, h0⟩ := (ok 0 _ _ rfl rfl).int Try.underlying3
    obtain ⟨a1, rfl, h1⟩ := (ok 1 _ _ rfl rfl).int Try.underlying3
    exact ⟨a0, a1, rfl, i64_wf h0, i64_wf h1⟩
set_option maxRecDepth 100000 in
theorem open_a4 (hv : Value.okWide Try.prog w r b0 96 v) (h : DataW.Trod enc Try.prog w base spare held 96 v d p) :
    ∃ c0 c1 c2 c3 : Int, v = .agg #[.int .i64 c0, .int .i64 c1, .int .i64 c2, .int .i64 c3] ∧ I64 c0 ∧ I64 c1 ∧ I64 c2 ∧ I64 c3 := by
  obtain ⟨cs, hn, rfl, ok⟩ := cells_arr key_a4 leafs_a4 hv h
  match cs, hn with
  | [c0, c1, c2, c3], _ =>
    obtain ⟨a0, rfl, h0⟩ := (ok 0 _ _ rfl rfl).int Try.underlying3
    obtain ⟨a1, rfl, h1⟩ := (ok 1 _ _ rfl rfl).int Try.underlying3
    obtain ⟨a2, rfl, h2⟩ := (ok 2 _ _ rfl rfl).int Try.underlying3
    obtain ⟨a3, rfl, h3⟩ := (ok 3 _ _ rfl rfl).int Try.underlying3
    exact ⟨a0, a1, a2, a3, rfl, i64_wf h0, i64_wf h1, i64_wf h2, i64_wf h3⟩
set_option maxRecDepth 100000 in
theorem open_n (hv : Value.okWide Try.prog w r b0 3 v) (h : DataW.Trod enc Try.prog w base spare held 3 v d p) : ∃ n : Int, v = .int .i64 n ∧ I64 n := by
  obtain ⟨n, rfl⟩ := okWide_int Try.underlying3 hv
  obtain ⟨fuel, hf⟩ := h
  obtain ⟨m, hc, _, hw⟩ := DataW.trod_int Try.underlying3 hf
  simp [Value.cells] at hc
  subst hc
  exact ⟨n, rfl, i64_wf hw⟩
end
end Go.Proofs.Ythnfepfbkmafaaa
