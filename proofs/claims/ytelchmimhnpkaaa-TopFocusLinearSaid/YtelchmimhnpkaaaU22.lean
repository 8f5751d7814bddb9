/- Chapter 1: the error of a size. -/
import Derived.Test.YtelchmimhnpkaaaU21
namespace Go.Proofs.Ytelchmimhnpkaaa
set_option linter.unusedVariables false
open Go.RowKit Ieee Ntt
def sizeE (l s n : Int) : Int := if inE 1 64 l && inE 1 64 s then (if n = l * s then 0 else 10) else 2
theorem inE_iff {lo hi n : Int} : inE lo hi n = true ↔ lo ≤ n ∧ n ≤ hi := by unfold inE; simp
set_option maxHeartbeats 1000000 in
theorem sizeErr_any (l s n : Int) (w : World) {e0 : Int} (he : sizeE l s n = e0) :
    Calls Try.prog 180 #[.int .i64 l, .int .i64 s, .int .i64 n] w fun e w' => e = .returned (.int .i64 e0) ∧ w = w' := by
  subst he
  rcases (show inE 1 64 l = false ∨ inE 1 64 l = true by cases inE 1 64 l <;> simp) with h1 | h1
  · have HF := Lib.hid (show sizeE l s n = 2 by unfold sizeE; rw [h1]; rfl)
    have H1 := Lib.hid h1
    clear h1
    go_enter Try.func180, Try.ntmps180
    go_wp2_with (first | (go_at_call 102; (with_reducible refine (within_e l _ _ _ H1.out).mono ?_); rintro e w' ⟨rfl, rfl⟩))
    go_ret
    exact ⟨ret_intE HF.out.symm, rfl⟩
  · rcases (show inE 1 64 s = false ∨ inE 1 64 s = true by cases inE 1 64 s <;> simp) with h2 | h2
    · have HF := Lib.hid (show sizeE l s n = 2 by unfold sizeE; rw [h1, h2]; rfl)
      have H1 := Lib.hid h1
      have H2 := Lib.hid h2
      clear h1 h2
      go_enter Try.func180, Try.ntmps180
      go_wp2_with (first | (go_at_call 102; (with_reducible refine (within_e l _ _ _ H1.out).mono ?_); rintro e w' ⟨rfl, rfl⟩) | (go_at_call 102; (with_reducible refine (within_e s _ _ _ H2.out).mono ?_); rintro e w' ⟨rfl, rfl⟩))
      go_ret
      exact ⟨ret_intE HF.out.symm, rfl⟩
    · obtain ⟨a1, a2⟩ := inE_iff.1 h1
      obtain ⟨b1, b2⟩ := inE_iff.1 h2
      obtain ⟨m1, m2⟩ : 0 ≤ l * s ∧ l * s ≤ 4096 := ⟨Int.mul_nonneg (by omega) (by omega), by
        have := Int.mul_le_mul a2 b2 (by omega) (by decide)
        omega⟩
      have H1 := Lib.hid h1
      have H2 := Lib.hid h2
      by_cases hn : n = l * s
      · have HF := Lib.hid (show sizeE l s n = 0 by unfold sizeE; rw [h1, h2, if_pos (show (true && true) = true from rfl), if_pos hn])
        have hb : (n != l * s) = false := by simpa using hn
        clear h1 h2 hn
        go_enter Try.func180, Try.ntmps180
        go_wp2_with (first | (go_at_call 102; (with_reducible refine (within_e l _ _ _ H1.out).mono ?_); rintro e w' ⟨rfl, rfl⟩) | (go_at_call 102; (with_reducible refine (within_e s _ _ _ H2.out).mono ?_); rintro e w' ⟨rfl, rfl⟩))
        go_ret
        exact ⟨ret_intE HF.out.symm, rfl⟩
      · have HF := Lib.hid (show sizeE l s n = 10 by unfold sizeE; rw [h1, h2, if_pos (show (true && true) = true from rfl), if_neg hn])
        have hb : (n != l * s) = true := by simpa using hn
        clear h1 h2 hn
        go_enter Try.func180, Try.ntmps180
        go_wp2_with (first | (go_at_call 102; (with_reducible refine (within_e l _ _ _ H1.out).mono ?_); rintro e w' ⟨rfl, rfl⟩) | (go_at_call 102; (with_reducible refine (within_e s _ _ _ H2.out).mono ?_); rintro e w' ⟨rfl, rfl⟩))
        go_ret
        exact ⟨ret_intE HF.out.symm, rfl⟩
end Go.Proofs.Ytelchmimhnpkaaa
