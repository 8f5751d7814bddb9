/- Chapter 1: the laws' arguments: numbers. -/
import Derived.Test.YtkoiknmijjiicaaGreatDoorU39
import Derived.OpenShut
namespace Go.Proofs.YtkoiknmijjiicaaGreatDoor
set_option linter.unusedVariables false
set_option linter.unusedSimpArgs false
open Go.ChangeShapes Go.WideShapes Go.RowKit Go.Deep
theorem wf_i64 {n : Int} (h : (Lit.int .i64 n).wf = true) : -9223372036854775808 ≤ n ∧ n ≤ 9223372036854775807 := by
  unfold Lit.wf at h
  simp only [Bool.and_eq_true, decide_eq_true_eq] at h
  exact ⟨h.1, h.2⟩
set_option maxRecDepth 100000 in
theorem open_i64 {H : Type} {enc : TypeId × Value → H} {w : World} {base : Nat} {spare : Nat → Bool} {held : Bool} {r : Reach} {b0 : Nat} {v : Value} {d : DataW H} {p : List MemPlace} (hv : Value.okWide Tryz.prog w r b0 3 v) (h : DataW.Trod enc Tryz.prog w base spare held 3 v d p) :
    ∃ n : Int, v = .int .i64 n ∧ -9223372036854775808 ≤ n ∧ n ≤ 9223372036854775807 := by
  obtain ⟨n, h1, -, -, hw⟩ := open_int Tryz.underlying3 hv h
  exact ⟨n, h1, wf_i64 hw⟩
theorem okWide_float {P : Program} {w : World} {r : Reach} {b0 : Nat} {t : TypeId} {v : Value} {k : FloatKind} (ht : P.underlying t = some (.float k)) (h : Value.okWide P w r b0 t v) : ∃ b, v = .float k b := by
  simp only [Value.okWide, ht, Cell.okWide] at h
  cases v <;> simp_all [Cell.ok]
theorem trod_f64 {H : Type} {enc : TypeId × Value → H} {P : Program} {w : World} {base : Nat} {spare : Nat → Bool} {held : Bool} {t : TypeId} {fuel b : Nat} {x : DataW H × List MemPlace} (ht : P.underlying t = some (.float .f64)) (h : DataW.trod enc P w base spare held fuel t [.float .f64 b] = some x) : b < 2 ^ 64 := by
  cases fuel with
  | zero => simp [DataW.trod] at h
  | succ n =>
    unfold DataW.trod at h
    rw [ht] at h
    simp only at h
    split at h
    · rename_i hw
      have := hw.2
      unfold Lit.wf at this
      simpa using this
    · cases h
set_option maxRecDepth 100000 in
theorem open_f64 {H : Type} {enc : TypeId × Value → H} {w : World} {base : Nat} {spare : Nat → Bool} {held : Bool} {r : Reach} {b0 : Nat} {v : Value} {d : DataW H} {p : List MemPlace} (hv : Value.okWide Tryz.prog w r b0 178 v) (h : DataW.Trod enc Tryz.prog w base spare held 178 v d p) :
    ∃ b : Nat, v = .float .f64 b ∧ b < 2 ^ 64 := by
  obtain ⟨b, rfl⟩ := okWide_float Tryz.underlying178 hv
  obtain ⟨fuel, hf⟩ := h
  exact ⟨b, rfl, trod_f64 Tryz.underlying178 (by simpa [Value.cells] using hf)⟩
end Go.Proofs.YtkoiknmijjiicaaGreatDoor
