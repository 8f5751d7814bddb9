/- Chapter 1: the numbers that Compress names: its closure. -/
import Derived.Test.YtelchmimhnpkaaaU18
namespace Go.Proofs.Ytelchmimhnpkaaa
set_option linter.unusedVariables false
open Go.RowKit Ieee
/-- Block B holds an image: its lines, its samples, where its data lie. -/
def ImgBlk (W : World) (B : Nat) (lines samples : Int) (a : Option Addr) (n cap : Nat) : Prop :=
  W.cell? ⟨B, 0, none⟩ = some (.int .i64 lines) ∧ W.cell? ⟨B, 1, none⟩ = some (.int .i64 samples) ∧ W.cell? ⟨B, 2, none⟩ = some (.slice a n cap)
theorem ImgBlk.below {W W' : World} {B C n cap : Nat} {lines samples : Int} {a : Option Addr} (h : ImgBlk W B lines samples a n cap) (hB : B < C) (hw : Below C W W') : ImgBlk W' B lines samples a n cap :=
  ⟨(hw.cell hB).trans h.1, (hw.cell hB).trans h.2.1, (hw.cell hB).trans h.2.2⟩
set_option maxHeartbeats 1000000 in
theorem compress1 (B b off n cap : Nat) (lines samples : Int) (f : Nat → Nat × Nat) (l s k i : Nat) (re im : Nat) (w : World) (hi : ImgBlk w B lines samples (some ⟨b, off, none⟩) n cap) (hf : SamplesAt w b off n f)
    (h1 : 1 ≤ samples) (h2 : samples ≤ 64) (hl : l ≤ 64) (hs : s ≤ 64) (hk : k ≤ 64) (hx : (l : Int) * samples + s + k = (i : Int)) (hn : i < n) (hw : cConvBits .f32 (f i).1 (f i).2 .f64 = some (re, im)) :
    Calls Try.prog 61 #[.int .i64 l, .int .i64 s, .int .i64 k, .pointer (some ⟨B, 0, none⟩)] w fun e w' => e = .returned (.complex .f64 re im) ∧ w = w' := by
  obtain ⟨c0, c1, c2⟩ := hi
  have ci := hf i hn
  have cv := fun w => run_wide hw w
  have hp : 0 ≤ (l : Int) * samples ∧ (l : Int) * samples ≤ 4096 := by
    refine ⟨Int.mul_nonneg (Int.natCast_nonneg l) (by omega), ?_⟩
    have := Int.mul_le_mul (show (l : Int) ≤ 64 by omega) h2 (by omega) (by decide)
    omega
  obtain ⟨p1, p2⟩ := hp
  clear hf hw
  go_enter Try.func61, Try.ntmps61
  go_wp2
  go_ret
  exact ⟨rfl, rfl⟩
end Go.Proofs.Ytelchmimhnpkaaa
