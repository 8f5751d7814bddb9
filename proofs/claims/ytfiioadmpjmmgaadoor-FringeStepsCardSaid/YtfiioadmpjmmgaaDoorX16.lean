/- Chapter 4: pairs of an image, and their products. -/
import Derived.Test.YtfiioadmpjmmgaaDoorX14
import Derived.Deep.CutRange
namespace Go.Proofs.YtfiioadmpjmmgaaDoor
set_option linter.unusedVariables false
set_option linter.unusedSimpArgs false
open Go.RowKit Ieee Ntt
theorem idx_cast4 {r C c i : Nat} (h : r * C + c = i) : (r : Int) * (C : Int) + (c : Int) = (i : Int) := by rw [← h, Int.natCast_add, Int.natCast_mul]
theorem flD {b : Nat} {n : Int} (h : FNum Ieee.double b n) (h1 : -9000000000000000000 ≤ n) (h2 : n ≤ 9000000000000000000) : FlI .f64 41 b n := fun w => by
  refine run_convert_float_int (P := Tryd.prog) w 41 3 .f64 .i64 b n (by kernel_rfl) Tryd.underlying3 ?_
  have : (FloatKind.f64.decode b).toInt .zero = some n := fnum_toInt h
  unfold floatToIntVal
  rw [this]
  dsimp only
  rw [if_pos]
  show (-9223372036854775808 : Int) ≤ _ ∧ _ ≤ (9223372036854775807 : Int)
  omega
set_option maxHeartbeats 1000000 in
theorem fPairOf (a b : Nat) (x y : Int) (w : World) (hx : FlI .f64 41 a x) (hy : FlI .f64 41 b y) :
    Calls Tryd.prog 83 #[.complex .f64 a b] w fun e w' => e = .returned (.agg #[.int .i64 x, .int .i64 y]) ∧ Below w.heap.size w w' := by
  unfold FlI at hx hy
  go_enter Tryd.func83, Tryd.ntmps83
  go_wp2
  refine bodyPost_ret ?_ rfl ⟨rfl, (by (repeat' (first | with_reducible exact Below.refl _ _ | (with_reducible refine below_later_of ?_ ?_ _) | (with_reducible refine Below.alloc ?_ ?_ _) | (with_reducible refine Below.setCell ?_ ?_ _) | (with_reducible refine Below.drew ?_) | (simp; done) | (simp; omega) | omega)))⟩
  first | (simp [results, Tryd.results83, go_sem]; done) | simp [results, Tryd.results83, go_sem, ↓IntWalk.iteOmega]
set_option maxHeartbeats 1000000 in
theorem fTimes (x y u v : Int) (w : World) (hx : -1000000000 ≤ x ∧ x ≤ 1000000000) (hy : -1000000000 ≤ y ∧ y ≤ 1000000000) (hu : -1000000000 ≤ u ∧ u ≤ 1000000000) (hv : -1000000000 ≤ v ∧ v ≤ 1000000000) :
    Calls Tryd.prog 81 #[.agg #[.int .i64 x, .int .i64 y], .agg #[.int .i64 u, .int .i64 v]] w fun e w' => e = .returned (.agg #[.int .i64 (x * u + y * v), .int .i64 (y * u - x * v)]) ∧ Below w.heap.size w w' := by
  have m1 := mul_bd2 (x := x) (y := u) (A := 1000000000) (B := 1000000000) hx hu
  have m2 := mul_bd2 (x := y) (y := v) (A := 1000000000) (B := 1000000000) hy hv
  have m3 := mul_bd2 (x := y) (y := u) (A := 1000000000) (B := 1000000000) hy hu
  have m4 := mul_bd2 (x := x) (y := v) (A := 1000000000) (B := 1000000000) hx hv
  simp only [Int.reduceMul] at m1 m2 m3 m4
  obtain ⟨p1, p2⟩ := m1
  obtain ⟨p3, p4⟩ := m2
  obtain ⟨p5, p6⟩ := m3
  obtain ⟨p7, p8⟩ := m4
  go_enter Tryd.func81, Tryd.ntmps81
  go_wp2
  refine bodyPost_ret ?_ rfl ⟨rfl, (by (repeat' (first | with_reducible exact Below.refl _ _ | (with_reducible refine below_later_of ?_ ?_ _) | (with_reducible refine Below.alloc ?_ ?_ _) | (with_reducible refine Below.setCell ?_ ?_ _) | (with_reducible refine Below.drew ?_) | (simp; done) | (simp; omega) | omega)))⟩
  first | (simp [results, Tryd.results81, go_sem]; done) | simp [results, Tryd.results81, go_sem, ↓IntWalk.iteOmega]
set_option maxHeartbeats 2000000 in
theorem samples1 (A b off n cap : Nat) (lines samples : Int) (f : Nat → Nat × Nat) (X Y : Nat → Int) (l s i : Nat) (w : World) (hA : ImgBlk w A lines samples (some ⟨b, off, none⟩) n cap) (hf : SamplesAt w b off n f)
    (h1 : 1 ≤ samples) (h2 : samples ≤ 64) (hl : l ≤ 64) (hs : s ≤ 64) (hx : (l : Int) * samples + s = (i : Int)) (hn : i < n) (hAw : A < w.heap.size) (hbw : b < w.heap.size) (hX : SmallS n f X Y 2047) :
    Calls Tryd.prog 82 #[.int .i64 l, .int .i64 s, .pointer (some ⟨A, 0, none⟩)] w fun e w' => e = .returned (.agg #[.int .i64 (X i), .int .i64 (Y i)]) ∧ Below w.heap.size w w' := by
  obtain ⟨a0, a1, a2⟩ := hA
  have ci := hf i hn
  obtain ⟨sn, ⟨p5, p6⟩, p7, p8⟩ := hX i hn
  obtain ⟨za, zb, hcv, hcn⟩ := wide_c sn
  have cw := fun w => run_wide hcv w
  have HPO := Lib.hid (fun w => fPairOf za zb (X i) (Y i) w (flD hcn.re (by omega) (by omega)) (flD hcn.im (by omega) (by omega)))
  have hp : 0 ≤ (l : Int) * samples ∧ (l : Int) * samples ≤ 4096 := by
    refine ⟨Int.mul_nonneg (Int.natCast_nonneg l) (by omega), ?_⟩
    have := Int.mul_le_mul (show (l : Int) ≤ 64 by omega) h2 (by omega) (by decide)
    omega
  obtain ⟨r1, r2⟩ := hp
  generalize X i = x at *
  generalize Y i = y at *
  have hi0 : (0 : Int) ≤ (i : Int) := by omega
  have hi1 : (i : Int) < (n : Int) := by omega
  clear hf hX sn hcv hcn
  go_enter Tryd.func82, Tryd.ntmps82
  go_wp2_with (first | (go_at_call 83; (with_reducible refine (HPO.out _).mono ?_); rintro e w' ⟨rfl, hb⟩; obtain ⟨p1, rfl⟩ := later_of_below hb; clear hb))
  refine bodyPost_ret ?_ rfl ⟨rfl, (by (repeat' (first | with_reducible exact Below.refl _ _ | (with_reducible refine below_later_of ?_ ?_ _) | (with_reducible refine Below.alloc ?_ ?_ _) | (with_reducible refine Below.setCell ?_ ?_ _) | (with_reducible refine Below.drew ?_) | (simp; done) | (simp; omega) | omega)))⟩
  first | (simp [results, Tryd.results82, go_sem]; done) | simp [results, Tryd.results82, go_sem, ↓IntWalk.iteOmega]
def partsF (X Y : Nat → Int) (i : Nat) : Int × Int := (X i, Y i)
set_option maxHeartbeats 2000000 in
theorem fSamplesOf (L S n cap : Nat) (b off : Nat) (f : Nat → Nat × Nat) (X Y : Nat → Int) (w : World) (hn : n = L * S) (hL1 : 1 ≤ L) (hL : L ≤ 64) (hS1 : 1 ≤ S) (hS : S ≤ 64) (hbw : b < w.heap.size) (hf : SamplesAt w b off n f) (hX : SmallS n f X Y 2047) :
    Calls Tryd.prog 45 #[.agg #[.int .i64 L, .int .i64 S, .slice (some ⟨b, off, none⟩) n cap]] w (GrPost L S n (partsF X Y) w) := by
  have HMA := Lib.hid (show ∀ W, Below w.heap.size w W → W.cell? ⟨w.heap.size, 0, none⟩ = some (.int .i64 L) → W.cell? ⟨w.heap.size, 1, none⟩ = some (.int .i64 S) → W.cell? ⟨w.heap.size, 2, none⟩ = some (.slice (some ⟨b, off, none⟩) n cap) → Calls Tryd.prog 79 #[.int .i64 L, .int .i64 S, .func (.func 82) #[] #[.pointer (some ⟨w.heap.size, 0, none⟩)]] W (GrPost L S n (partsF X Y) W) from fun W hW c0 c1 c2 => by
    have hlt : w.heap.size < W.heap.size := World.block_lt_of_cell? _ _ c0
    have := mapped_pr L S 82 #[.pointer (some ⟨w.heap.size, 0, none⟩)] (partsF X Y) W hL hS (enters_of Tryd.func82 (by kernel_rfl) rfl) (fun W2 hW2 l s hl hs => by
      have hs2 := hW2.size
      have hin : l * S + s < n := by
        have h1 : (l + 1) * S ≤ L * S := Nat.mul_le_mul_right _ hl
        rw [Nat.add_mul, Nat.one_mul] at h1
        omega
      exact samples1 w.heap.size b off n cap L S f X Y l s (l * S + s) W2 ⟨(hW2.cell hlt).trans c0, (hW2.cell hlt).trans c1, (hW2.cell hlt).trans c2⟩ ((hf.below hbw hW).below (by have := hW.size; omega) hW2) (by omega) (by omega) (by omega) (by omega) (by rw [Int.natCast_add, Int.natCast_mul]) hin (by omega) (by have := hW.size; omega) hX)
    rwa [← hn] at this)
  clear hf hX hn
  go_enter Tryd.func45, Tryd.ntmps45
  go_wp2_with (first | (go_at_call 79; (with_reducible refine (HMA.out _ (by (repeat' (first | with_reducible exact Below.refl _ _ | (with_reducible refine below_later_of ?_ ?_ _) | (with_reducible refine Below.alloc ?_ ?_ _) | (with_reducible refine Below.setCell ?_ ?_ _) | (with_reducible refine Below.drew ?_) | (simp; done) | (simp; omega) | omega))) (by (first | (simp [go_sem]; done) | simp [go_sem, ↓IntWalk.iteOmega])) (by (first | (simp [go_sem]; done) | simp [go_sem, ↓IntWalk.iteOmega])) (by (first | (simp [go_sem]; done) | simp [go_sem, ↓IntWalk.iteOmega]))).mono ?_); rintro e w' ⟨a', c', rfl, how, hcap, hb⟩; have HOW := Lib.hid how; have HCP := Lib.hid hcap; clear how hcap; have HB9 := Lib.hid hb; have hz9 := hb.size; obtain ⟨p1, rfl⟩ := later_of_below hb; clear hb))
  refine bodyPost_ret ?_ rfl ⟨a', c', rfl, OwnPr.mono (OwnPr.set (OwnPr.set (OwnPr.set HOW.out ?_ _) ?_ _) ?_ _) ?_, HCP.out, (by (repeat' (first | with_reducible exact Below.refl _ _ | (with_reducible refine below_later_of ?_ ?_ _) | (with_reducible refine Below.alloc ?_ ?_ _) | (with_reducible refine Below.setCell ?_ ?_ _) | (with_reducible refine Below.drew ?_) | (simp; done) | (simp; omega) | omega)))⟩
  · first | (simp [results, Tryd.results45, go_sem]; done) | simp [results, Tryd.results45, go_sem, ↓IntWalk.iteOmega]
  all_goals first | omega | (simp <;> omega)
/-- The product of a pair with the conjugate of another one. -/
def tmP (p q : Int × Int) : Int × Int := (p.1 * q.1 + p.2 * q.2, p.2 * q.1 - p.1 * q.2)
def prodF (F G : Nat → Int × Int) (i : Nat) : Int × Int := tmP (F i) (G i)
def SmallP (n : Nat) (F : Nat → Int × Int) (B : Int) : Prop := ∀ k, k < n → (-B ≤ (F k).1 ∧ (F k).1 ≤ B) ∧ -B ≤ (F k).2 ∧ (F k).2 ≤ B
set_option maxRecDepth 20000 in
set_option maxHeartbeats 2000000 in
theorem products1 (A B g h n ca cb : Nat) (lines lines' samples' : Int) (S : Nat) (F G : Nat → Int × Int) (l s i : Nat) (w : World) (hA : ImgBlk w A lines S (some ⟨g, 0, none⟩) n ca) (hB : ImgBlk w B lines' samples' (some ⟨h, 0, none⟩) n cb) (hg : g < w.heap.size) (hh : h < w.heap.size) (hAw : A < w.heap.size) (hBw : B < w.heap.size) (hF : PairsAt w g n F) (hG : PairsAt w h n G)
    (h1 : 1 ≤ S) (h2 : S ≤ 64) (hl : l ≤ 64) (hs : s ≤ 64) (hx : l * S + s = i) (hn : i < n) (sF : SmallP n F 1000000000) (sG : SmallP n G 1000000000) :
    Calls Tryd.prog 80 #[.int .i64 l, .int .i64 s, .pointer (some ⟨A, 0, none⟩), .pointer (some ⟨B, 0, none⟩)] w fun e w' => e = .returned (.agg #[.int .i64 (prodF F G i).1, .int .i64 (prodF F G i).2]) ∧ Below w.heap.size w w' := by
  obtain ⟨a0, a1, a2⟩ := hA
  obtain ⟨b0, b1, b2⟩ := hB
  obtain ⟨c1, c2⟩ := hF i hn
  obtain ⟨d1, d2⟩ := hG i hn
  obtain ⟨f1, f2⟩ := sF i hn
  obtain ⟨k1, k2⟩ := sG i hn
  have HTI := Lib.hid (fun w => fTimes (F i).1 (F i).2 (G i).1 (G i).2 w f1 f2 k1 k2)
  have HP1 := Lib.hid (show (prodF F G i).1 = (F i).1 * (G i).1 + (F i).2 * (G i).2 from rfl)
  have HP2 := Lib.hid (show (prodF F G i).2 = (F i).2 * (G i).1 - (F i).1 * (G i).2 from rfl)
  rw [HP1.out, HP2.out]
  generalize (F i).1 * (G i).1 + (F i).2 * (G i).2 = m1 at *
  generalize (F i).2 * (G i).1 - (F i).1 * (G i).2 = m2 at *
  generalize (F i).1 = x at *
  generalize (F i).2 = y at *
  generalize (G i).1 = u at *
  generalize (G i).2 = v at *
  have hidx := idx_cast4 hx
  have hp : 0 ≤ (l : Int) * (S : Int) ∧ (l : Int) * (S : Int) ≤ 4096 := by
    refine ⟨Int.mul_nonneg (Int.natCast_nonneg l) (by omega), ?_⟩
    have := Int.mul_le_mul (show (l : Int) ≤ 64 by omega) (show (S : Int) ≤ 64 by omega) (by omega) (by decide)
    omega
  obtain ⟨r1, r2⟩ := hp
  have hi0 : (0 : Int) ≤ (i : Int) := by omega
  have hi1 : (i : Int) < (n : Int) := by omega
  clear hF hG sF sG hx f1 f2 k1 k2 HP1 HP2
  go_enter Tryd.func80, Tryd.ntmps80
  go_wp2
  refine wp_region_calm_tail 21 (by kernel_rfl) (by kernel_rfl) ?_
  simp only [List.take_succ_cons, List.take_zero, List.drop_succ_cons, List.drop_zero]
  repeat (go_big_quiet_step ((go_at_call 81; exact calm_of (HTI.out _))))
  refine wpQuiet_nil ?_
  rintro _ ⟨pz, rfl⟩
  go_wp2
  refine bodyPost_ret ?_ rfl ⟨rfl, (by (repeat' (first | with_reducible exact Below.refl _ _ | (with_reducible refine below_later_of ?_ ?_ _) | (with_reducible refine Below.alloc ?_ ?_ _) | (with_reducible refine Below.setCell ?_ ?_ _) | (with_reducible refine Below.drew ?_) | (simp; done) | (simp; omega) | omega)))⟩
  first | (simp [results, Tryd.results80, go_sem]; done) | simp [results, Tryd.results80, go_sem, ↓IntWalk.iteOmega]
set_option maxHeartbeats 2000000 in
theorem fProducts (L S n ca cb : Nat) (g h : Nat) (F G : Nat → Int × Int) (w : World) (hn : n = L * S) (hL1 : 1 ≤ L) (hL : L ≤ 64) (hS1 : 1 ≤ S) (hS : S ≤ 64) (hg : g < w.heap.size) (hh : h < w.heap.size) (hF : PairsAt w g n F) (hG : PairsAt w h n G) (sF : SmallP n F 1000000000) (sG : SmallP n G 1000000000) :
    Calls Tryd.prog 44 #[.agg #[.int .i64 L, .int .i64 S, .slice (some ⟨g, 0, none⟩) n ca], .agg #[.int .i64 L, .int .i64 S, .slice (some ⟨h, 0, none⟩) n cb]] w (GrPost L S n (prodF F G) w) := by
  have HMA := Lib.hid (show ∀ W, Below w.heap.size w W → W.cell? ⟨w.heap.size, 0, none⟩ = some (.int .i64 L) → W.cell? ⟨w.heap.size, 1, none⟩ = some (.int .i64 S) → W.cell? ⟨w.heap.size, 2, none⟩ = some (.slice (some ⟨g, 0, none⟩) n ca) → W.cell? ⟨w.heap.size + 1, 0, none⟩ = some (.int .i64 L) → W.cell? ⟨w.heap.size + 1, 1, none⟩ = some (.int .i64 S) → W.cell? ⟨w.heap.size + 1, 2, none⟩ = some (.slice (some ⟨h, 0, none⟩) n cb) → Calls Tryd.prog 79 #[.int .i64 L, .int .i64 S, .func (.func 80) #[] #[.pointer (some ⟨w.heap.size, 0, none⟩), .pointer (some ⟨w.heap.size + 1, 0, none⟩)]] W (GrPost L S n (prodF F G) W) from fun W hW c0 c1 c2 d0 d1 d2 => by
    have hlt : w.heap.size < W.heap.size := World.block_lt_of_cell? _ _ c0
    have hlt2 : w.heap.size + 1 < W.heap.size := World.block_lt_of_cell? _ _ d0
    have := mapped_pr L S 80 #[.pointer (some ⟨w.heap.size, 0, none⟩), .pointer (some ⟨w.heap.size + 1, 0, none⟩)] (prodF F G) W hL hS (enters_of Tryd.func80 (by kernel_rfl) rfl) (fun W2 hW2 l s hl hs => by
      have hs2 := hW2.size
      have hs1 := hW.size
      have hin : l * S + s < n := by
        have h1 : (l + 1) * S ≤ L * S := Nat.mul_le_mul_right _ hl
        rw [Nat.add_mul, Nat.one_mul] at h1
        omega
      exact products1 w.heap.size (w.heap.size + 1) g h n ca cb L L S S F G l s (l * S + s) W2 ⟨(hW2.cell hlt).trans c0, (hW2.cell hlt).trans c1, (hW2.cell hlt).trans c2⟩ ⟨(hW2.cell hlt2).trans d0, (hW2.cell hlt2).trans d1, (hW2.cell hlt2).trans d2⟩ (by omega) (by omega) (by omega) (by omega) ((hF.below hg hW).below (by omega) hW2) ((hG.below hh hW).below (by omega) hW2) (by omega) (by omega) (by omega) (by omega) rfl hin sF sG)
    rwa [← hn] at this)
  clear hF hG hn sF sG
  go_enter Tryd.func44, Tryd.ntmps44
  go_wp2_with (first | (go_at_call 79; (with_reducible refine (HMA.out _ (by (repeat' (first | with_reducible exact Below.refl _ _ | (with_reducible refine below_later_of ?_ ?_ _) | (with_reducible refine Below.alloc ?_ ?_ _) | (with_reducible refine Below.setCell ?_ ?_ _) | (with_reducible refine Below.drew ?_) | (simp; done) | (simp; omega) | omega))) (by (first | (simp [go_sem]; done) | simp [go_sem, ↓IntWalk.iteOmega])) (by (first | (simp [go_sem]; done) | simp [go_sem, ↓IntWalk.iteOmega])) (by (first | (simp [go_sem]; done) | simp [go_sem, ↓IntWalk.iteOmega])) (by (first | (simp [go_sem]; done) | simp [go_sem, ↓IntWalk.iteOmega])) (by (first | (simp [go_sem]; done) | simp [go_sem, ↓IntWalk.iteOmega])) (by (first | (simp [go_sem]; done) | simp [go_sem, ↓IntWalk.iteOmega]))).mono ?_); rintro e w' ⟨a', c', rfl, how, hcap, hb⟩; have HOW := Lib.hid how; have HCP := Lib.hid hcap; clear how hcap; obtain ⟨p1, rfl⟩ := later_of_below hb; clear hb))
  refine bodyPost_ret ?_ rfl ⟨a', c', rfl, OwnPr.mono (OwnPr.set (OwnPr.set (OwnPr.set HOW.out ?_ _) ?_ _) ?_ _) ?_, HCP.out, (by (repeat' (first | with_reducible exact Below.refl _ _ | (with_reducible refine below_later_of ?_ ?_ _) | (with_reducible refine Below.alloc ?_ ?_ _) | (with_reducible refine Below.setCell ?_ ?_ _) | (with_reducible refine Below.drew ?_) | (simp; done) | (simp; omega) | omega)))⟩
  · first | (simp [results, Tryd.results44, go_sem]; done) | simp [results, Tryd.results44, go_sem, ↓IntWalk.iteOmega]
  all_goals first | omega | (simp <;> omega)
end Go.Proofs.YtfiioadmpjmmgaaDoor
