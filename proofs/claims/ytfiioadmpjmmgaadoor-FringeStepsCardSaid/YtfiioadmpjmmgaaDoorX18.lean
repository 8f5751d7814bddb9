/- Chapter 4: the errors of images; Interfere. -/
import Derived.Test.YtfiioadmpjmmgaaDoorX17
import Derived.Test.YtfiioadmpjmmgaaDoorZJ
import Derived.Deep.RegionHeld3
namespace Go.Proofs.YtfiioadmpjmmgaaDoor
set_option linter.unusedVariables false
set_option linter.unusedSimpArgs false
open Go.RowKit Ieee Ntt
set_option maxHeartbeats 1000000 in
theorem fFirst2 (x y : Int) (b : Nat) (w : World) {e0 : Int} (he : first2 x y = e0) (h0 : w.cell? ⟨b, 0, none⟩ = some (.int .i64 x)) (h1 : w.cell? ⟨b, 1, none⟩ = some (.int .i64 y)) :
    Calls Tryd.prog 65 #[.slice (some ⟨b, 0, none⟩) 2 2] w fun e w' => e = .returned (.int .i64 e0) ∧ w = w' := by
  subst he
  by_cases hx : x = 0
  · have dx : (x != 0) = false := by simpa using hx
    by_cases hy : y = 0
    · have dy : (y != 0) = false := by simpa using hy
      have HF := Lib.hid (show first2 x y = 0 by unfold first2; rw [if_pos hx]; exact hy)
      clear hx hy
      go_enter Tryd.func65, Tryd.ntmps65
      go_wp2
      refine wp_loop_rounds 3 ?_
      rw [rounds_succ]
      go_wp2
      rw [rounds_succ]
      go_wp2
      rw [rounds_succ]
      go_wp2
      go_ret
      exact ⟨by rw [HF.out]; rfl, rfl⟩
    · have dy : (y != 0) = true := by simpa using hy
      have HF := Lib.hid (show first2 x y = y by unfold first2; rw [if_pos hx])
      clear hx hy
      go_enter Tryd.func65, Tryd.ntmps65
      go_wp2
      refine wp_loop_rounds 3 ?_
      rw [rounds_succ]
      go_wp2
      rw [rounds_succ]
      go_wp2
      go_ret
      exact ⟨by rw [HF.out]; rfl, rfl⟩
  · have dx : (x != 0) = true := by simpa using hx
    have HF := Lib.hid (show first2 x y = x by unfold first2; rw [if_neg hx])
    clear hx
    go_enter Tryd.func65, Tryd.ntmps65
    go_wp2
    refine wp_loop_rounds 3 ?_
    rw [rounds_succ]
    go_wp2
    go_ret
    exact ⟨by rw [HF.out]; rfl, rfl⟩
set_option maxHeartbeats 1000000 in
theorem fImageErr (L S : Int) (n cap : Nat) (f : Nat → Nat × Nat) (a : Option Addr) (w : World) (hl : n ≤ 100000) (hd : DataAt w L S n f a) {e0 : Int} (he : (imgE L S n f).2 = e0) :
    Calls Tryd.prog 75 #[.agg #[.int .i64 L, .int .i64 S, .slice a n cap]] w fun e w' => e = .returned (.int .i64 e0) ∧ Below w.heap.size w w' := by
  have HI := Lib.hid (show ∀ W, Below w.heap.size w W → _ from fun W hW => checkImage_any L S n cap f a W hl (hd.below hW) (i0 := (imgE L S n f).1) (e0 := e0) (by rw [← he]))
  clear hd he
  generalize (imgE L S n f).1 = i0 at HI
  go_enter Tryd.func75, Tryd.ntmps75
  go_wp2_with (first | (go_at_call 96; (with_reducible refine (HI.out _ (by (repeat' (first | with_reducible exact Below.refl _ _ | (with_reducible refine below_later_of ?_ ?_ _) | (with_reducible refine Below.alloc ?_ ?_ _) | (with_reducible refine Below.setCell ?_ ?_ _) | (with_reducible refine Below.drew ?_) | (simp; done) | (simp; omega) | omega)))).mono ?_); rintro e w' ⟨rfl, hb⟩; obtain ⟨pp, rfl⟩ := later_of_below hb; clear hb))
  go_ret
  exact ⟨rfl, (by (repeat' (first | with_reducible exact Below.refl _ _ | (with_reducible refine below_later_of ?_ ?_ _) | (with_reducible refine Below.alloc ?_ ?_ _) | (with_reducible refine Below.setCell ?_ ?_ _) | (with_reducible refine Below.drew ?_) | (simp; done) | (simp; omega) | omega)))⟩
/-- The error of two images together. -/
def pairE (L S : Int) (n : Nat) (f : Nat → Nat × Nat) (L' S' : Int) (n' : Nat) (f' : Nat → Nat × Nat) : Int :=
  if first2 (imgE L S n f).2 (imgE L' S' n' f').2 = 0 then (if L = L' ∧ S = S' then 0 else 13) else first2 (imgE L S n f).2 (imgE L' S' n' f').2
set_option maxRecDepth 20000 in
set_option maxHeartbeats 2000000 in
theorem fImagesErr (L S : Int) (n cap : Nat) (f : Nat → Nat × Nat) (a : Option Addr) (L' S' : Int) (n' cap' : Nat) (f' : Nat → Nat × Nat) (a' : Option Addr) (w : World) (hl : n ≤ 100000) (hl' : n' ≤ 100000) (hd : DataAt w L S n f a) (hd' : DataAt w L' S' n' f' a') {e0 : Int} (he : pairE L S n f L' S' n' f' = e0) :
    Calls Tryd.prog 42 #[.agg #[.int .i64 L, .int .i64 S, .slice a n cap], .agg #[.int .i64 L', .int .i64 S', .slice a' n' cap']] w fun e w' => e = .returned (.int .i64 e0) ∧ Below w.heap.size w w' := by
  have HE1 := Lib.hid (show ∀ W, Below w.heap.size w W → _ from fun W hW => fImageErr L S n cap f a W hl (hd.below hW) rfl)
  have HE2 := Lib.hid (show ∀ W, Below w.heap.size w W → _ from fun W hW => fImageErr L' S' n' cap' f' a' W hl' (hd'.below hW) rfl)
  unfold pairE at he
  generalize (imgE L S n f).2 = z1 at *
  generalize (imgE L' S' n' f').2 = z2 at *
  obtain ⟨z, hz⟩ : ∃ z, first2 z1 z2 = z := ⟨_, rfl⟩
  have HF := Lib.hid hz
  rw [hz] at he
  clear hd hd' hz
  by_cases h0 : z = 0
  · subst h0
    rw [if_pos rfl] at he
    by_cases h1 : L = L'
    · have d1 : (L != L') = false := by simpa using h1
      by_cases h2 : S = S'
      · have d2 : (S != S') = false := by simpa using h2
        rw [if_pos ⟨h1, h2⟩] at he
        subst he
        clear h1 h2
        go_enter Tryd.func42, Tryd.ntmps42
        go_wp2
        refine wp_region_calm_tail 4 (by kernel_rfl) (by kernel_rfl) ?_
        simp only [List.take_succ_cons, List.take_zero, List.drop_succ_cons, List.drop_zero]
        repeat (go_big_quiet_step (first | (go_at_call 75; with_reducible exact calm_of (HE1.out _ (by (repeat' (first | with_reducible exact Below.refl _ _ | (with_reducible refine below_later_of ?_ ?_ _) | (with_reducible refine Below.alloc ?_ ?_ _) | (with_reducible refine Below.setCell ?_ ?_ _) | (with_reducible refine Below.drew ?_) | (simp; done) | (simp; omega) | omega))))) | (go_at_call 75; with_reducible exact calm_of (HE2.out _ (by (repeat' (first | with_reducible exact Below.refl _ _ | (with_reducible refine below_later_of ?_ ?_ _) | (with_reducible refine Below.alloc ?_ ?_ _) | (with_reducible refine Below.setCell ?_ ?_ _) | (with_reducible refine Below.drew ?_) | (simp; done) | (simp; omega) | omega)))))))
        refine wpQuiet_nil ?_
        rintro _ ⟨pz, rfl⟩
        go_wp2_with (first | (go_at_call 65; refine (fFirst2 _ _ _ _ HF.out (by (first | (simp [go_sem]; done) | simp [go_sem, ↓IntWalk.iteOmega])) (by (first | (simp [go_sem]; done) | simp [go_sem, ↓IntWalk.iteOmega]))).mono ?_; rintro e w' ⟨rfl, rfl⟩))
        go_ret
        exact ⟨rfl, (by (repeat' (first | with_reducible exact Below.refl _ _ | (with_reducible refine below_later_of ?_ ?_ _) | (with_reducible refine Below.alloc ?_ ?_ _) | (with_reducible refine Below.setCell ?_ ?_ _) | (with_reducible refine Below.drew ?_) | (simp; done) | (simp; omega) | omega)))⟩
      · have d2 : (S != S') = true := by simpa using h2
        rw [if_neg (fun h => h2 h.2)] at he
        subst he
        clear h1 h2
        go_enter Tryd.func42, Tryd.ntmps42
        go_wp2
        refine wp_region_calm_tail 4 (by kernel_rfl) (by kernel_rfl) ?_
        simp only [List.take_succ_cons, List.take_zero, List.drop_succ_cons, List.drop_zero]
        repeat (go_big_quiet_step (first | (go_at_call 75; with_reducible exact calm_of (HE1.out _ (by (repeat' (first | with_reducible exact Below.refl _ _ | (with_reducible refine below_later_of ?_ ?_ _) | (with_reducible refine Below.alloc ?_ ?_ _) | (with_reducible refine Below.setCell ?_ ?_ _) | (with_reducible refine Below.drew ?_) | (simp; done) | (simp; omega) | omega))))) | (go_at_call 75; with_reducible exact calm_of (HE2.out _ (by (repeat' (first | with_reducible exact Below.refl _ _ | (with_reducible refine below_later_of ?_ ?_ _) | (with_reducible refine Below.alloc ?_ ?_ _) | (with_reducible refine Below.setCell ?_ ?_ _) | (with_reducible refine Below.drew ?_) | (simp; done) | (simp; omega) | omega)))))))
        refine wpQuiet_nil ?_
        rintro _ ⟨pz, rfl⟩
        go_wp2_with (first | (go_at_call 65; refine (fFirst2 _ _ _ _ HF.out (by (first | (simp [go_sem]; done) | simp [go_sem, ↓IntWalk.iteOmega])) (by (first | (simp [go_sem]; done) | simp [go_sem, ↓IntWalk.iteOmega]))).mono ?_; rintro e w' ⟨rfl, rfl⟩))
        go_ret
        exact ⟨rfl, (by (repeat' (first | with_reducible exact Below.refl _ _ | (with_reducible refine below_later_of ?_ ?_ _) | (with_reducible refine Below.alloc ?_ ?_ _) | (with_reducible refine Below.setCell ?_ ?_ _) | (with_reducible refine Below.drew ?_) | (simp; done) | (simp; omega) | omega)))⟩
    · have d1 : (L != L') = true := by simpa using h1
      rw [if_neg (fun h => h1 h.1)] at he
      subst he
      clear h1
      go_enter Tryd.func42, Tryd.ntmps42
      go_wp2
      refine wp_region_calm_tail 4 (by kernel_rfl) (by kernel_rfl) ?_
      simp only [List.take_succ_cons, List.take_zero, List.drop_succ_cons, List.drop_zero]
      repeat (go_big_quiet_step (first | (go_at_call 75; with_reducible exact calm_of (HE1.out _ (by (repeat' (first | with_reducible exact Below.refl _ _ | (with_reducible refine below_later_of ?_ ?_ _) | (with_reducible refine Below.alloc ?_ ?_ _) | (with_reducible refine Below.setCell ?_ ?_ _) | (with_reducible refine Below.drew ?_) | (simp; done) | (simp; omega) | omega))))) | (go_at_call 75; with_reducible exact calm_of (HE2.out _ (by (repeat' (first | with_reducible exact Below.refl _ _ | (with_reducible refine below_later_of ?_ ?_ _) | (with_reducible refine Below.alloc ?_ ?_ _) | (with_reducible refine Below.setCell ?_ ?_ _) | (with_reducible refine Below.drew ?_) | (simp; done) | (simp; omega) | omega)))))))
      refine wpQuiet_nil ?_
      rintro _ ⟨pz, rfl⟩
      go_wp2_with (first | (go_at_call 65; refine (fFirst2 _ _ _ _ HF.out (by (first | (simp [go_sem]; done) | simp [go_sem, ↓IntWalk.iteOmega])) (by (first | (simp [go_sem]; done) | simp [go_sem, ↓IntWalk.iteOmega]))).mono ?_; rintro e w' ⟨rfl, rfl⟩))
      go_ret
      exact ⟨rfl, (by (repeat' (first | with_reducible exact Below.refl _ _ | (with_reducible refine below_later_of ?_ ?_ _) | (with_reducible refine Below.alloc ?_ ?_ _) | (with_reducible refine Below.setCell ?_ ?_ _) | (with_reducible refine Below.drew ?_) | (simp; done) | (simp; omega) | omega)))⟩
  · rw [if_neg h0] at he
    subst he
    have hne : (z != 0) = true := by simpa using h0
    clear h0
    go_enter Tryd.func42, Tryd.ntmps42
    go_wp2
    refine wp_region_calm_tail 4 (by kernel_rfl) (by kernel_rfl) ?_
    simp only [List.take_succ_cons, List.take_zero, List.drop_succ_cons, List.drop_zero]
    repeat (go_big_quiet_step (first | (go_at_call 75; with_reducible exact calm_of (HE1.out _ (by (repeat' (first | with_reducible exact Below.refl _ _ | (with_reducible refine below_later_of ?_ ?_ _) | (with_reducible refine Below.alloc ?_ ?_ _) | (with_reducible refine Below.setCell ?_ ?_ _) | (with_reducible refine Below.drew ?_) | (simp; done) | (simp; omega) | omega))))) | (go_at_call 75; with_reducible exact calm_of (HE2.out _ (by (repeat' (first | with_reducible exact Below.refl _ _ | (with_reducible refine below_later_of ?_ ?_ _) | (with_reducible refine Below.alloc ?_ ?_ _) | (with_reducible refine Below.setCell ?_ ?_ _) | (with_reducible refine Below.drew ?_) | (simp; done) | (simp; omega) | omega)))))))
    refine wpQuiet_nil ?_
    rintro _ ⟨pz, rfl⟩
    go_wp2_with (first | (go_at_call 65; refine (fFirst2 _ _ _ _ HF.out (by (first | (simp [go_sem]; done) | simp [go_sem, ↓IntWalk.iteOmega])) (by (first | (simp [go_sem]; done) | simp [go_sem, ↓IntWalk.iteOmega]))).mono ?_; rintro e w' ⟨rfl, rfl⟩))
    go_ret
    exact ⟨rfl, (by (repeat' (first | with_reducible exact Below.refl _ _ | (with_reducible refine below_later_of ?_ ?_ _) | (with_reducible refine Below.alloc ?_ ?_ _) | (with_reducible refine Below.setCell ?_ ?_ _) | (with_reducible refine Below.drew ?_) | (simp; done) | (simp; omega) | omega)))⟩
set_option maxHeartbeats 1000000 in
theorem interfere_bad (L S : Int) (n cap : Nat) (f : Nat → Nat × Nat) (a : Option Addr) (L' S' : Int) (n' cap' : Nat) (f' : Nat → Nat × Nat) (a' : Option Addr) (w : World) (hl : n ≤ 100000) (hl' : n' ≤ 100000) (hd : DataAt w L S n f a) (hd' : DataAt w L' S' n' f' a') {e0 : Int} (he : pairE L S n f L' S' n' f' = e0) (h0 : e0 ≠ 0) :
    Calls Tryd.prog 11 #[.agg #[.int .i64 L, .int .i64 S, .slice a n cap], .agg #[.int .i64 L', .int .i64 S', .slice a' n' cap']] w fun e w' => e = .returned (.tuple #[.agg #[.int .i64 0, .int .i64 0, .slice none 0 0], .int .i64 e0]) ∧ Below w.heap.size w w' := by
  have HIE := Lib.hid (show ∀ W, Below w.heap.size w W → _ from fun W hW => fImagesErr L S n cap f a L' S' n' cap' f' a' W hl hl' (hd.below hW) (hd'.below hW) he)
  have hne : (e0 != 0) = true := by simpa using h0
  clear hd hd' he h0
  go_enter Tryd.func11, Tryd.ntmps11
  go_wp2_with (first | (go_at_call 42; (with_reducible refine (HIE.out _ (by (repeat' (first | with_reducible exact Below.refl _ _ | (with_reducible refine below_later_of ?_ ?_ _) | (with_reducible refine Below.alloc ?_ ?_ _) | (with_reducible refine Below.setCell ?_ ?_ _) | (with_reducible refine Below.drew ?_) | (simp; done) | (simp; omega) | omega)))).mono ?_); rintro e w' ⟨rfl, hb⟩; obtain ⟨pe, rfl⟩ := later_of_below hb; clear hb))
  refine bodyPost_ret ?_ rfl ⟨rfl, (by (repeat' (first | with_reducible exact Below.refl _ _ | (with_reducible refine below_later_of ?_ ?_ _) | (with_reducible refine Below.alloc ?_ ?_ _) | (with_reducible refine Below.setCell ?_ ?_ _) | (with_reducible refine Below.drew ?_) | (simp; done) | (simp; omega) | omega)))⟩
  first | (simp [results, Tryd.results11, go_sem]; done) | simp [results, Tryd.results11, go_sem, ↓IntWalk.iteOmega]
theorem sizeE_okU {l s n : Int} (h : sizeE l s n = 0) : (1 ≤ l ∧ l ≤ 64) ∧ (1 ≤ s ∧ s ≤ 64) ∧ n = l * s := by
  unfold sizeE at h
  split at h
  · rename_i h1
    simp only [Bool.and_eq_true] at h1
    split at h
    · rename_i h2
      exact ⟨inE_iff.1 h1.1, inE_iff.1 h1.2, h2⟩
    · exact absurd h (by decide)
  · exact absurd h (by decide)
theorem first2_z {x y : Int} (h : first2 x y = 0) : x = 0 ∧ y = 0 := by
  unfold first2 at h
  split at h
  · exact ⟨‹_›, h⟩
  · exact absurd h ‹_›
/-- Two images of one size without errors. -/
theorem pairE_zero {L S : Int} {n : Nat} {f : Nat → Nat × Nat} {L' S' : Int} {n' : Nat} {f' : Nat → Nat × Nat} (h : pairE L S n f L' S' n' f' = 0) : (imgE L S n f).2 = 0 ∧ (imgE L' S' n' f').2 = 0 ∧ L = L' ∧ S = S' := by
  unfold pairE at h
  split at h
  · rename_i h1
    obtain ⟨h2, h3⟩ := first2_z h1
    split at h
    · rename_i h4
      exact ⟨h2, h3, h4⟩
    · exact absurd h (by decide)
  · exact absurd h ‹_›
/-- The numbers of an interferogram. -/
def intfF (X Y U V : Nat → Int) : Nat → Int × Int := prodF (partsF X Y) (partsF U V)
theorem intfF_bd {X Y U V : Nat → Int} {k : Nat} (hx : (-2047 ≤ X k ∧ X k ≤ 2047) ∧ -2047 ≤ Y k ∧ Y k ≤ 2047) (hu : (-2047 ≤ U k ∧ U k ≤ 2047) ∧ -2047 ≤ V k ∧ V k ≤ 2047) : (-8380418 ≤ (intfF X Y U V k).1 ∧ (intfF X Y U V k).1 ≤ 8380418) ∧ -8380418 ≤ (intfF X Y U V k).2 ∧ (intfF X Y U V k).2 ≤ 8380418 := by
  obtain ⟨x1, y1⟩ := hx
  obtain ⟨u1, v1⟩ := hu
  have m1 := mul_bd2 x1 u1
  have m2 := mul_bd2 y1 v1
  have m3 := mul_bd2 y1 u1
  have m4 := mul_bd2 x1 v1
  simp only [Int.reduceMul] at m1 m2 m3 m4
  show (-8380418 ≤ X k * U k + Y k * V k ∧ X k * U k + Y k * V k ≤ 8380418) ∧ -8380418 ≤ Y k * U k - X k * V k ∧ Y k * U k - X k * V k ≤ 8380418
  omega
theorem ownPr_at {B n : Nat} {W W' : World} {F : Nat → Int × Int} {a : Option Addr} (h : OwnPr B W n F a) (h0 : 0 < n) (hb : Below W.heap.size W W') : ∃ g, a = some ⟨g, 0, none⟩ ∧ g < W'.heap.size ∧ PairsAt W' g n F := by
  obtain ⟨g, h1, -, h3, h4⟩ := h h0
  exact ⟨g, h1, by have := hb.size; omega, h4.below h3 hb⟩
theorem products_of {L S n : Nat} {F G : Nat → Int × Int} (hn : n = L * S) (h0 : 0 < n) (hL1 : 1 ≤ L) (hL : L ≤ 64) (hS1 : 1 ≤ S) (hS : S ≤ 64) (sF : SmallP n F 1000000000) (sG : SmallP n G 1000000000) (W : World) (a1 a2 : Option Addr) (c1 c2 : Nat) {B1 B2 : Nat} {Wa Wb : World} (h1 : OwnPr B1 Wa n F a1) (b1 : Below Wa.heap.size Wa W) (h2 : OwnPr B2 Wb n G a2) (b2 : Below Wb.heap.size Wb W) :
    Calls Tryd.prog 44 #[.agg #[.int .i64 L, .int .i64 S, .slice a1 n c1], .agg #[.int .i64 L, .int .i64 S, .slice a2 n c2]] W (GrPost L S n (prodF F G) W) := by
  obtain ⟨g1, rfl, hg1, hp1⟩ := ownPr_at h1 h0 b1
  obtain ⟨g2, rfl, hg2, hp2⟩ := ownPr_at h2 h0 b2
  exact fProducts L S n c1 c2 g1 g2 F G W hn hL1 hL hS1 hS hg1 hg2 hp1 hp2 sF sG
theorem field_of {L S n : Nat} {F : Nat → Int × Int} (h0 : 0 < n) (hn : n ≤ 5000) (hc : anyL n F = false) (W : World) (a : Option Addr) (c : Nat) {B : Nat} {Wa : World} (h1 : OwnPr B Wa n F a) (b1 : Below Wa.heap.size Wa W) :
    Calls Tryd.prog 43 #[.agg #[.int .i64 L, .int .i64 S, .slice a n c]] W (FdPost4 L S n (nmF F) W) := by
  obtain ⟨g1, rfl, hg1, hp1⟩ := ownPr_at h1 h0 b1
  exact fieldOf_ok L S n c g1 F W hn hg1 hp1 hc
set_option maxRecDepth 20000 in
set_option maxHeartbeats 8000000 in
theorem interfere_ok (L S : Nat) (n cap : Nat) (f : Nat → Nat × Nat) (a : Option Addr) (n' cap' : Nat) (f' : Nat → Nat × Nat) (a' : Option Addr) (w : World) (hl : n ≤ 100000) (hl' : n' ≤ 100000) (hd : DataAt w L S n f a) (hd' : DataAt w L S n' f' a') (he : pairE L S n f L S n' f' = 0) :
    Calls Tryd.prog 11 #[.agg #[.int .i64 L, .int .i64 S, .slice a n cap], .agg #[.int .i64 L, .int .i64 S, .slice a' n' cap']] w (FdPost4 L S n (nmF (intfF (xB f) (yB f) (xB f') (yB f'))) w) := by
  have HIE := Lib.hid (show ∀ W, Below w.heap.size w W → _ from fun W hW => fImagesErr L S n cap f a L S n' cap' f' a' W hl hl' (hd.below hW) (hd'.below hW) he)
  obtain ⟨e1, e2, -, -⟩ := pairE_zero he
  obtain ⟨s1, g1⟩ := imgE_zero e1
  obtain ⟨s2, g2⟩ := imgE_zero e2
  obtain ⟨⟨hL1, hL⟩, ⟨hS1, hS⟩, hn⟩ := sizeE_okU s1
  obtain ⟨-, -, hn'⟩ := sizeE_okU s2
  obtain rfl : n' = n := by omega
  have hnn : n' = L * S := by exact_mod_cast hn
  obtain ⟨b, off, rfl, hbw, hf⟩ := hd s1
  obtain ⟨b', off', rfl, hbw', hf'⟩ := hd' s2
  have hX : SmallS n' f (xB f) (yB f) 2047 := smallS_of (by decide) g1
  have hU : SmallS n' f' (xB f') (yB f') 2047 := smallS_of (by decide) g2
  have HLS := Lib.hid hnn
  have hL1 : 1 ≤ L := by omega
  have hL : L ≤ 64 := by omega
  have hS1 : 1 ≤ S := by omega
  have hS : S ≤ 64 := by omega
  have HN0 := Lib.hid (show 0 < n' by rw [hnn]; exact Nat.mul_pos (by omega) (by omega))
  have hn5 : n' ≤ 5000 := by have := Nat.mul_le_mul hL hS; omega
  have HM1 := Lib.hid (show SmallP n' (partsF (xB f) (yB f)) 1000000000 from fun k hk => by
    obtain ⟨-, h1, h2⟩ := hX k hk
    unfold partsF
    dsimp only
    omega)
  have HM2 := Lib.hid (show SmallP n' (partsF (xB f') (yB f')) 1000000000 from fun k hk => by
    obtain ⟨-, h1, h2⟩ := hU k hk
    unfold partsF
    dsimp only
    omega)
  have HAL := Lib.hid (show anyL n' (intfF (xB f) (yB f) (xB f') (yB f')) = false from small_anyL fun k hk => by
    have := intfF_bd (hX k hk).2 (hU k hk).2
    omega)
  have HSA := Lib.hid (show ∀ W, Below w.heap.size w W → _ from fun W hW => fSamplesOf L S n' cap b off f (xB f) (yB f) W hnn hL1 hL hS1 hS (by have := hW.size; omega) (hf.below hbw hW) hX)
  have HSB := Lib.hid (show ∀ W, Below w.heap.size w W → _ from fun W hW => fSamplesOf L S n' cap' b' off' f' (xB f') (yB f') W hnn hL1 hL hS1 hS (by have := hW.size; omega) (hf'.below hbw' hW) hU)
  have HPR := Lib.hid (products_of (L := L) (S := S) hnn HN0.out hL1 hL hS1 hS HM1.out HM2.out)
  have HFO := Lib.hid (field_of (L := L) (S := S) HN0.out hn5 HAL.out)
  rw [show prodF (partsF (xB f) (yB f)) (partsF (xB f') (yB f')) = intfF (xB f) (yB f) (xB f') (yB f') from rfl] at HPR
  generalize xB f = X at *
  generalize yB f = Y at *
  generalize xB f' = U at *
  generalize yB f' = V at *
  clear hd hd' he e1 e2 s1 s2 g1 g2 hn hn' hnn hf hf' hX hU
  generalize n' = n at *
  go_enter Tryd.func11, Tryd.ntmps11
  go_wp2_with (first | (go_at_call 42; (with_reducible refine (HIE.out _ (by (repeat' (first | with_reducible exact Below.refl _ _ | (with_reducible refine below_later_of ?_ ?_ _) | (with_reducible refine Below.alloc ?_ ?_ _) | (with_reducible refine Below.setCell ?_ ?_ _) | (with_reducible refine Below.drew ?_) | (simp; done) | (simp; omega) | omega)))).mono ?_); rintro e w' ⟨rfl, hb⟩; obtain ⟨pe, rfl⟩ := later_of_below hb; clear hb))
  refine any_worldF (fun w' => (w'.cell? ⟨w.heap.size, 0, none⟩ = some (.int .i64 L) ∧ w'.cell? ⟨w.heap.size, 1, none⟩ = some (.int .i64 S) ∧ w'.cell? ⟨w.heap.size, 2, none⟩ = some (.slice (some ⟨b, off, none⟩) n cap) ∧ w'.cell? ⟨w.heap.size + 1, 0, none⟩ = some (.int .i64 L) ∧ w'.cell? ⟨w.heap.size + 1, 1, none⟩ = some (.int .i64 S) ∧ w'.cell? ⟨w.heap.size + 1, 2, none⟩ = some (.slice (some ⟨b', off', none⟩) n cap')) ∧ Below w.heap.size w w' ∧ (w'.cell? ⟨w.heap.size + 2, 0, none⟩ = some (.int .i64 0) ∧ w'.cell? ⟨w.heap.size + 2, 1, none⟩ = some (.int .i64 0) ∧ w'.cell? ⟨w.heap.size + 2, 2, none⟩ = some (.slice none 0 0) ∧ w'.frozen? ⟨w.heap.size + 2, 0, none⟩ = false ∧ w'.frozen? ⟨w.heap.size + 2, 1, none⟩ = false ∧ w'.frozen? ⟨w.heap.size + 2, 2, none⟩ = false) ∧ w.heap.size + 2 < w'.heap.size) ⟨⟨(by (first | (simp [go_sem]; done) | simp [go_sem, ↓IntWalk.iteOmega])), (by (first | (simp [go_sem]; done) | simp [go_sem, ↓IntWalk.iteOmega])), (by (first | (simp [go_sem]; done) | simp [go_sem, ↓IntWalk.iteOmega])), (by (first | (simp [go_sem]; done) | simp [go_sem, ↓IntWalk.iteOmega])), (by (first | (simp [go_sem]; done) | simp [go_sem, ↓IntWalk.iteOmega])), (by (first | (simp [go_sem]; done) | simp [go_sem, ↓IntWalk.iteOmega]))⟩, (by (repeat' (first | with_reducible exact Below.refl _ _ | (with_reducible refine below_later_of ?_ ?_ _) | (with_reducible refine Below.alloc ?_ ?_ _) | (with_reducible refine Below.setCell ?_ ?_ _) | (with_reducible refine Below.drew ?_) | (simp; done) | (simp; omega) | omega))), ⟨(by (first | (simp [go_sem]; done) | simp [go_sem, ↓IntWalk.iteOmega])), (by (first | (simp [go_sem]; done) | simp [go_sem, ↓IntWalk.iteOmega])), (by (first | (simp [go_sem]; done) | simp [go_sem, ↓IntWalk.iteOmega])), (by (first | (simp [go_sem]; done) | simp [go_sem, ↓IntWalk.iteOmega])), (by (first | (simp [go_sem]; done) | simp [go_sem, ↓IntWalk.iteOmega])), (by (first | (simp [go_sem]; done) | simp [go_sem, ↓IntWalk.iteOmega]))⟩, by simp; omega⟩ ?_
  rintro W1 ⟨⟨k0, k1, k2, k3, k4, k5⟩, hb1, ⟨r0, r1, r2, f0, f1, f2⟩, hlt1⟩
  have HB1 := Lib.hid hb1
  have hs1 := hb1.size
  have HSA := Lib.hid (show ∀ W, Below W1.heap.size W1 W → _ from fun W hW => HSA.out W (HB1.out.trans (hW.mono hs1)))
  have HSB := Lib.hid (show ∀ W, Below W1.heap.size W1 W → _ from fun W hW => HSB.out W (HB1.out.trans (hW.mono hs1)))
  clear hb1
  go_wp2_with fail
  go_region_held3 (fun w' => w'.cell? ⟨w.heap.size, 0, none⟩ = some (.int .i64 L) ∧ w'.cell? ⟨w.heap.size, 1, none⟩ = some (.int .i64 S) ∧ w'.cell? ⟨w.heap.size, 2, none⟩ = some (.slice (some ⟨b, off, none⟩) n cap) ∧ w'.cell? ⟨w.heap.size + 1, 0, none⟩ = some (.int .i64 L) ∧ w'.cell? ⟨w.heap.size + 1, 1, none⟩ = some (.int .i64 S) ∧ w'.cell? ⟨w.heap.size + 1, 2, none⟩ = some (.slice (some ⟨b', off', none⟩) n cap')) (first | exact ⟨k0, k1, k2, k3, k4, k5⟩ | ((first | (simp [go_sem, k0, k1, k2, k3, k4, k5]; done) | simp [go_sem, k0, k1, k2, k3, k4, k5, ↓IntWalk.iteOmega]); done)) (first | (go_at_call 45; (with_reducible refine (HSA.out _ (by (repeat' (first | with_reducible exact Below.refl _ _ | (with_reducible refine below_later_of ?_ ?_ _) | (with_reducible refine Below.alloc ?_ ?_ _) | (with_reducible refine Below.setCell ?_ ?_ _) | (with_reducible refine Below.drew ?_) | (simp; done) | (simp; omega) | omega)))).mono ?_); rintro e w' ⟨a1, c1, rfl, ho, -, hb⟩; have HO1 := Lib.hid ho; clear ho; obtain ⟨p1, rfl⟩ := later_of_below hb; clear hb) | (go_at_call 45; (with_reducible refine (HSB.out _ (by (repeat' (first | with_reducible exact Below.refl _ _ | (with_reducible refine below_later_of ?_ ?_ _) | (with_reducible refine Below.alloc ?_ ?_ _) | (with_reducible refine Below.setCell ?_ ?_ _) | (with_reducible refine Below.drew ?_) | (simp; done) | (simp; omega) | omega)))).mono ?_); rintro e w' ⟨a2, c2, rfl, ho, -, hb⟩; have HO2 := Lib.hid ho; clear ho; obtain ⟨p2, rfl⟩ := later_of_below hb; clear hb) | (go_at_call 44; (with_reducible refine (HPR.out _ _ _ _ _ HO1.out (by (repeat' (first | with_reducible exact Below.refl _ _ | (with_reducible refine below_later_of ?_ ?_ _) | (with_reducible refine Below.alloc ?_ ?_ _) | (with_reducible refine Below.setCell ?_ ?_ _) | (with_reducible refine Below.drew ?_) | (simp; done) | (simp; omega) | omega))) HO2.out (by (repeat' (first | with_reducible exact Below.refl _ _ | (with_reducible refine below_later_of ?_ ?_ _) | (with_reducible refine Below.alloc ?_ ?_ _) | (with_reducible refine Below.setCell ?_ ?_ _) | (with_reducible refine Below.drew ?_) | (simp; done) | (simp; omega) | omega)))).mono ?_); rintro e w' ⟨a3, c3, rfl, ho, -, hb⟩; have HO3 := Lib.hid ho; clear ho; obtain ⟨p3, rfl⟩ := later_of_below hb; clear hb) | (go_at_call 43; (with_reducible refine (HFO.out _ _ _ HO3.out (by (repeat' (first | with_reducible exact Below.refl _ _ | (with_reducible refine below_later_of ?_ ?_ _) | (with_reducible refine Below.alloc ?_ ?_ _) | (with_reducible refine Below.setCell ?_ ?_ _) | (with_reducible refine Below.drew ?_) | (simp; done) | (simp; omega) | omega)))).mono ?_); rintro e w' ⟨a4, c4, rfl, ho, hcp, hb⟩; have HO4 := Lib.hid ho; have HC4 := Lib.hid hcp; clear ho hcp; obtain ⟨p4, rfl⟩ := later_of_below hb; clear hb))
  all_goals
    rename_i hheld
    clear hheld
    go_wp2
    refine bodyPost_ret ?_ rfl ⟨a4, c4, rfl, ?_, HC4.out, (by (repeat' (first | exact HB1.out | with_reducible exact Below.refl _ _ | (with_reducible refine below_later_of ?_ ?_ _) | (with_reducible refine Below.alloc ?_ ?_ _) | (with_reducible refine Below.setCell ?_ ?_ _) | (with_reducible refine Below.drew ?_) | (simp; done) | (simp; omega) | omega)))⟩
    · first | (simp [results, Tryd.results11, go_sem, r0, r1, r2]; done) | simp [results, Tryd.results11, go_sem, r0, r1, r2, ↓IntWalk.iteOmega]
    · refine OwnS.mono (OwnS.set (OwnS.set (OwnS.set HO4.out ?_ _) ?_ _) ?_ _) ?_ <;> simp <;> omega
end Go.Proofs.YtfiioadmpjmmgaaDoor
