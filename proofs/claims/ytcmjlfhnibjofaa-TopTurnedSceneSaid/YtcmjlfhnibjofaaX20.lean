/- Chapter 4: the examples with which each statement begins. -/
import Derived.Test.YtcmjlfhnibjofaaXC
import Derived.Test.YtcmjlfhnibjofaaXA
import Derived.Test.YtcmjlfhnibjofaaXD
import Derived.Test.YtcmjlfhnibjofaaXE
import Derived.Test.YtcmjlfhnibjofaaZK
namespace Go.Proofs.Ytcmjlfhnibjofaa
set_option linter.unusedVariables false
set_option linter.unusedSimpArgs false
open Go.RowKit Ntt
def sqZ : List Int := [0, 1024, -1024, -2048]
theorem sqZ_ok : MapOk 2 2 sqZ := ⟨rfl, by decide, by decide, by decide, by decide, by
  have : ∀ k, k < 4 → phOk (intAt sqZ k) = true := by decide
  exact this⟩
theorem sqZ_res : resM 2 2 sqZ = [⟨0, 0, 1⟩] := by rfl
def prZ : List Int := [5, 1000000000000]
theorem prZ_ok : MapOk 1 2 prZ := ⟨rfl, by decide, by decide, by decide, by decide, by
  have : ∀ k, k < 2 → phOk (intAt prZ k) = true := by decide
  exact this⟩
theorem prZ_text : printZ 1 2 prZ = [112, 104, 97, 115, 101, 115, 32, 49, 32, 50, 10, 53, 32, 42, 10] := by decide +kernel
def xw1 : List Nat := [1065353216, 0, 0, 1065353216]
def xw2 : List Nat := [1065353216, 0, 1065353216, 0]
def xw3 : List (Nat × Nat) := [(4607182418800017408, 0), (0, 4607182418800017408)]
def xwF : Nat → Nat × Nat := smp (fun k => xw1.getD k 0)
def xwG : Nat → Nat × Nat := smp (fun k => xw2.getD k 0)
theorem xw_err : pairE 1 2 2 xwF 1 2 2 xwG = 0 := by decide +kernel
theorem xw_vals : ∀ i, i < 2 → nmF (intfF (xB xwF) (yB xwF) (xB xwG) (yB xwG)) i = xw3.getD i (0, 0) := by decide +kernel
theorem sq_xw : sqR 800 5 = 550000 ∧ sqE 800 5 = 0 := by decide +kernel
theorem sumV_ownF {W : World} {B n c : Nat} {a : Option Addr} {f : Nat → Nat × Nat} (h : OwnS W B n f a) (hn : n ≤ 100000) : SumV W (.slice a n c) n f :=
  ⟨hn, a, c, rfl, fun hp => by obtain ⟨g, h1, -, h3, h4⟩ := h hp; exact ⟨g, 0, h1, h3, h4⟩⟩
set_option maxHeartbeats 1000000 in
theorem lSquare (w : World) : Calls Try.prog 70 #[] w fun e w' => ∃ b, e = .returned (.agg #[.int .i64 2, .int .i64 2, .slice (some ⟨b, 0, none⟩) 4 4]) ∧ IntsV w' (.slice (some ⟨b, 0, none⟩) 4 4) sqZ ∧ Below w.heap.size w w' := by
  go_enter Try.func70, Try.ntmps70
  go_wp2
  refine bodyPost_ret ?_ rfl ⟨w.heap.size + 1, rfl, ?_, (by (repeat' (first | with_reducible exact Below.refl _ _ | (with_reducible refine below_later_of ?_ ?_ _) | (with_reducible refine Below.alloc ?_ ?_ _) | (with_reducible refine Below.setCell ?_ ?_ _) | (with_reducible refine Below.drew ?_) | (simp; done) | (simp; omega) | omega)))⟩
  · first | (simp [results, Try.results70, go_sem]; done) | simp [results, Try.results70, go_sem, ↓IntWalk.iteOmega]
  · refine ⟨by decide, _, 4, rfl, fun _ => ⟨w.heap.size + 1, 0, rfl, by simp, fun k hk => ?_⟩⟩
    have hk4 : k < 4 := hk
    rcases (show k = 0 ∨ k = 1 ∨ k = 2 ∨ k = 3 by omega) with rfl | rfl | rfl | rfl <;> simp [go_sem, sqZ, intAt]
theorem residues_xw (b : Nat) (w : World) (hv : IntsV w (.slice (some ⟨b, 0, none⟩) 4 4) sqZ) : Calls Try.prog 21 #[.agg #[.int .i64 2, .int .i64 2, .slice (some ⟨b, 0, none⟩) 4 4]] w fun e w' => ∃ u, e = .returned (.tuple #[u, .int .i64 0]) ∧ RsV w' u [⟨0, 0, 1⟩] ∧ Below w.heap.size w w' := by
  have := fResidues_ok 2 2 sqZ _ w sqZ_ok hv
  rw [sqZ_res] at this
  exact this
theorem interfere_xw (g1 c1 g2 c2 : Nat) (w : World) (h1 : g1 < w.heap.size) (h2 : g2 < w.heap.size) (s1 : SamplesAt w g1 0 2 xwF) (s2 : SamplesAt w g2 0 2 xwG) :
    Calls Try.prog 30 #[.agg #[.int .i64 1, .int .i64 2, .slice (some ⟨g1, 0, none⟩) 2 c1], .agg #[.int .i64 1, .int .i64 2, .slice (some ⟨g2, 0, none⟩) 2 c2]] w fun e w' => ∃ a c, e = .returned (.tuple #[.agg #[.int .i64 1, .int .i64 2, .slice a 2 c], .int .i64 0]) ∧ SumV w' (.slice a 2 c) 2 (nmF (intfF (xB xwF) (yB xwF) (xB xwG) (yB xwG))) ∧ Below w.heap.size w w' := by
  refine (interfere_ok 1 2 2 c1 xwF _ 2 c2 xwG _ w (by decide) (by decide) (fun _ => ⟨g1, 0, rfl, h1, s1⟩) (fun _ => ⟨g2, 0, rfl, h2, s2⟩) xw_err).mono ?_
  rintro e w' ⟨a, c, rfl, ho, -, hb⟩
  exact ⟨a, c, rfl, sumV_ownF ho (by decide), hb⟩
end Go.Proofs.Ytcmjlfhnibjofaa
