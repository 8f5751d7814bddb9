/- Chapter 1: images that are made sample by sample: imageOf with the closure of Added; Added. -/
import Derived.Test.YtelchmimhnpkaaaU43
import Derived.Test.YtelchmimhnpkaaaU33
namespace Go.Proofs.Ytelchmimhnpkaaa
set_option linter.unusedVariables false
open Go.RowKit Ntt
theorem num_nearest {n : Int} (h : n.natAbs < 16777216) : FNum Ieee.single (floatOfInt .f32 n) n := fnum_int good_single h
theorem conv_f32 (n : Int) (w : World) : (convert 3 111 (.int .i64 n)).run Try.prog w = .ok (.float .f32 (floatOfInt .f32 n)) w :=
  run_convert_int_float w 3 111 .i64 .f32 n (by kernel_rfl) Try.underlying111
set_option maxHeartbeats 400000 in
theorem parts_any (a b : Nat) (x y : Int) (w : World) (hx : FlI .f32 111 a x) (hy : FlI .f32 111 b y) :
    Calls Try.prog 69 #[.complex .f32 a b] w fun e w' => e = .returned (.tuple #[.int .i64 x, .int .i64 y]) ∧ w = w' := by
  unfold FlI at hx hy
  go_enter Try.func69, Try.ntmps69
  go_wp2
  go_ret2
  exact ⟨rfl, rfl⟩
/-- The sample of two whole parts. -/
def smpI (x y : Int) : Nat × Nat := (floatOfInt .f32 x, floatOfInt .f32 y)
/-- The samples of a sum of two images. -/
def addB (f g : Nat → Nat × Nat) (i : Nat) : Nat × Nat := smpI (xB f i + xB g i) (yB f i + yB g i)
theorem smpI_parts {x y : Int} (hx : x.natAbs < 16777216) (hy : y.natAbs < 16777216) : intB (smpI x y).1 = x ∧ intB (smpI x y).2 = y := ⟨(intB_of (num_nearest hx)).2, (intB_of (num_nearest hy)).2⟩
theorem addB_parts {f g : Nat → Nat × Nat} {n i : Nat} (hf : SmallS n f (xB f) (yB f) 2047) (hg : SmallS n g (xB g) (yB g) 2047) (hi : i < n) : xB (addB f g) i = xB f i + xB g i ∧ yB (addB f g) i = yB f i + yB g i := by
  obtain ⟨-, h1, h2⟩ := hf i hi
  obtain ⟨-, h3, h4⟩ := hg i hi
  exact smpI_parts (by omega) (by omega)
set_option maxHeartbeats 1000000 in
theorem added1 (A B b off n cap c coff ccap : Nat) (lines samples lines' samples' : Int) (f g : Nat → Nat × Nat) (l s i : Nat) (w : World) (hA : ImgBlk w A lines samples (some ⟨b, off, none⟩) n cap) (hB : ImgBlk w B lines' samples' (some ⟨c, coff, none⟩) n ccap) (hf : SamplesAt w b off n f) (hg : SamplesAt w c coff n g)
    (h1 : 1 ≤ samples) (h2 : samples ≤ 64) (hl : l ≤ 64) (hs : s ≤ 64) (hx : (l : Int) * samples + s = (i : Int)) (hn : i < n) (hsf : SmallS n f (xB f) (yB f) 2047) (hsg : SmallS n g (xB g) (yB g) 2047) :
    Calls Try.prog 68 #[.int .i64 l, .int .i64 s, .pointer (some ⟨A, 0, none⟩), .pointer (some ⟨B, 0, none⟩)] w fun e w' => e = .returned (.tuple #[.int .i64 (xB f i + xB g i), .int .i64 (yB f i + yB g i)]) ∧ w = w' := by
  obtain ⟨a0, a1, a2⟩ := hA
  obtain ⟨b0, b1, b2⟩ := hB
  have ci := hf i hn
  have di := hg i hn
  obtain ⟨⟨p1, p2, p3, p4⟩, ⟨p5, p6⟩, p7, p8⟩ := hsf i hn
  obtain ⟨⟨q1, q2, q3, q4⟩, ⟨q5, q6⟩, q7, q8⟩ := hsg i hn
  have HP1 := Lib.hid (fun w => parts_any (f i).1 (f i).2 _ _ w (flI_single p1 (by omega) (by omega)) (flI_single p2 (by omega) (by omega)))
  have HP2 := Lib.hid (fun w => parts_any (g i).1 (g i).2 _ _ w (flI_single q1 (by omega) (by omega)) (flI_single q2 (by omega) (by omega)))
  have hp : 0 ≤ (l : Int) * samples ∧ (l : Int) * samples ≤ 4096 := by
    refine ⟨Int.mul_nonneg (Int.natCast_nonneg l) (by omega), ?_⟩
    have := Int.mul_le_mul (show (l : Int) ≤ 64 by omega) h2 (by omega) (by decide)
    omega
  obtain ⟨r1, r2⟩ := hp
  generalize xB f i = x1 at p5 p6 HP1 ⊢
  generalize yB f i = y1 at p7 p8 HP1 ⊢
  generalize xB g i = x2 at q5 q6 HP2 ⊢
  generalize yB g i = y2 at q7 q8 HP2 ⊢
  clear hf hg hsf hsg p1 p2 p3 p4 q1 q2 q3 q4
  go_enter Try.func68, Try.ntmps68
  go_wp2_with (first | (go_at_call 69; (with_reducible refine (HP1.out _).mono ?_); rintro e w' ⟨rfl, rfl⟩) | (go_at_call 69; (with_reducible refine (HP2.out _).mono ?_); rintro e w' ⟨rfl, rfl⟩))
  go_ret2
  exact ⟨rfl, rfl⟩
end Go.Proofs.Ytelchmimhnpkaaa
