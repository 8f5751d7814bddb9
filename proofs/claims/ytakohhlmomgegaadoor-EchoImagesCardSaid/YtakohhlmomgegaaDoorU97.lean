/- Chapter 1: Shifted of a right image. -/
import Derived.Test.YtakohhlmomgegaaDoorU96
import Derived.Test.YtakohhlmomgegaaDoorU80
namespace Go.Proofs.YtakohhlmomgegaaDoor
set_option linter.unusedVariables false
set_option linter.unusedSimpArgs false
open Go.RowKit Ntt
set_option maxHeartbeats 2000000 in
theorem shifted_ok (L S : Nat) (b off n cap : Nat) (f : Nat → Nat × Nat) (p q : Int) (w : World) (hL1 : 1 ≤ L) (hL : L ≤ 64) (hS1 : 1 ≤ S) (hS : S ≤ 64) (hn : n = L * S) (hbw : b < w.heap.size) (hf : SamplesAt w b off n f) (hg : ∀ k, k < n → gE f 2047 k = 0) (hp : inE (-64) 64 p = true) (hq : inE (-64) 64 q = true) :
    Calls Tryd.prog 65 #[.agg #[.int .i64 L, .int .i64 S, .slice (some ⟨b, off, none⟩) n cap], .agg #[.int .i64 p, .int .i64 q]] w fun e w' =>
      ∃ a c, e = .returned (.tuple #[.agg #[.int .i64 L, .int .i64 S, .slice a n c], .int .i64 0]) ∧ OwnC w' w.heap.size n (shB f L S p q) a ∧ n ≤ c ∧ Below w.heap.size w w' := by
  have hl : n ≤ 4096 := by
    rw [hn]
    exact Nat.mul_le_mul hL hS
  have hz : (imgE L S n f).2 = 0 := by
    unfold imgE
    rw [if_pos (by unfold sizeE inE; rw [if_pos (by simp; omega), if_pos (by rw [hn, Int.natCast_mul])]), firstE_ok hg]
  have HIM := Lib.hid (show ∀ W, Below w.heap.size w W → _ from fun W hW => imageErr_any L S n cap f (some ⟨b, off, none⟩) W (by omega) (DataAt.below (fun _ => ⟨b, off, rfl, hbw, hf⟩) hW) hz)
  have HIO := Lib.hid (show ∀ W, Below w.heap.size w W → w.heap.size + 1 < W.heap.size → W.cell? ⟨w.heap.size, 0, none⟩ = some (.int .i64 L) → W.cell? ⟨w.heap.size, 1, none⟩ = some (.int .i64 S) → W.cell? ⟨w.heap.size, 2, none⟩ = some (.slice (some ⟨b, off, none⟩) n cap) → W.cell? ⟨w.heap.size + 1, 0, none⟩ = some (.int .i64 p) → W.cell? ⟨w.heap.size + 1, 1, none⟩ = some (.int .i64 q) →
      Calls Tryd.prog 108 #[.int .i64 L, .int .i64 S, .func (.func 118) #[] #[.pointer (some ⟨w.heap.size + 1, 0, none⟩), .pointer (some ⟨w.heap.size, 0, none⟩)]] W fun e w' => ∃ a c, e = .returned (.agg #[.int .i64 L, .int .i64 S, .slice a n c]) ∧ OwnC w' W.heap.size n (shB f L S p q) a ∧ n ≤ c ∧ Below W.heap.size W w' from
    fun W hW hs x0 x1 x2 y0 y1 => imageOf_shift L S w.heap.size (w.heap.size + 1) b off n cap p q f W hL1 hL hS1 hS hn (by omega) hs (by omega) ⟨x0, x1, x2⟩ y0 y1 (hf.below hbw hW) (inE_iff.1 hp) (inE_iff.1 hq) (smallS_of (by decide) hg))
  have H1 := Lib.hid hp
  have H2 := Lib.hid hq
  clear hf hg hz hp hq hn
  go_enter Tryd.func65, Tryd.ntmps65
  go_wp2_with (first | (go_at_call 78; (with_reducible refine (HIM.out _ (by (repeat' (first | with_reducible exact Below.refl _ _ | (with_reducible refine below_later_of ?_ ?_ _) | (with_reducible refine Below.alloc ?_ ?_ _) | (with_reducible refine Below.setCell ?_ ?_ _) | (with_reducible refine Below.drew ?_) | (simp; done) | (simp; omega) | omega)))).mono ?_); rintro e w' ⟨rfl, hb⟩; obtain ⟨pq, rfl⟩ := later_of_below hb; clear hb) | (go_at_call 99; (with_reducible refine (within_e _ _ _ _ H1.out).mono ?_); rintro e w' ⟨rfl, rfl⟩) | (go_at_call 99; (with_reducible refine (within_e _ _ _ _ H2.out).mono ?_); rintro e w' ⟨rfl, rfl⟩) | (go_at_call 108; (with_reducible refine (HIO.out _ (by (repeat' (first | with_reducible exact Below.refl _ _ | (with_reducible refine below_later_of ?_ ?_ _) | (with_reducible refine Below.alloc ?_ ?_ _) | (with_reducible refine Below.setCell ?_ ?_ _) | (with_reducible refine Below.drew ?_) | (simp; done) | (simp; omega) | omega))) (by simp <;> omega) (by (first | (simp [go_sem]; done) | simp [go_sem, ↓IntWalk.iteOmega])) (by (first | (simp [go_sem]; done) | simp [go_sem, ↓IntWalk.iteOmega])) (by (first | (simp [go_sem]; done) | simp [go_sem, ↓IntWalk.iteOmega])) (by (first | (simp [go_sem]; done) | simp [go_sem, ↓IntWalk.iteOmega])) (by (first | (simp [go_sem]; done) | simp [go_sem, ↓IntWalk.iteOmega]))).mono ?_); rintro e w' ⟨a', c', rfl, ho, hc, hb⟩; have HOW := Lib.hid ho; clear ho; obtain ⟨p2, rfl⟩ := later_of_below hb; clear hb))
  refine bodyPost_ret ?_ rfl ⟨a', c', rfl, OwnC.mono (OwnC.set (OwnC.set (OwnC.set HOW.out ?_ _) ?_ _) ?_ _) ?_, hc, (by (repeat' (first | with_reducible exact Below.refl _ _ | (with_reducible refine below_later_of ?_ ?_ _) | (with_reducible refine Below.alloc ?_ ?_ _) | (with_reducible refine Below.setCell ?_ ?_ _) | (with_reducible refine Below.drew ?_) | (simp; done) | (simp; omega) | omega)))⟩
  · first | (simp [results, Tryd.results65, go_sem]; done) | simp [results, Tryd.results65, go_sem, ↓IntWalk.iteOmega]
  all_goals first | omega | (simp <;> omega)
end Go.Proofs.YtakohhlmomgegaaDoor
