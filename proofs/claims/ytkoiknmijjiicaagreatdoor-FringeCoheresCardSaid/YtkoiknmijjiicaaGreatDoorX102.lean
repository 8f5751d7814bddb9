/- Chapter 4: Coherence of the program. -/
import Derived.Test.YtkoiknmijjiicaaGreatDoorX101
import Derived.Test.YtkoiknmijjiicaaGreatDoorX98
import Derived.Test.YtkoiknmijjiicaaGreatDoorXO
import Derived.Deep.CutRange
import Derived.Deep.RegionHeld3
namespace Go.Proofs.YtkoiknmijjiicaaGreatDoor
set_option linter.unusedVariables false
set_option linter.unusedSimpArgs false
open Go.RowKit Ieee Ntt
/-- The coherence of all places. -/
def cohF (F G K : Nat → Int × Int) (L S half i : Nat) : Nat := cohV F G K L S half (i / S) (i % S)
theorem coh_map {L S n : Nat} {F G K : Nat → Int × Int} (hn : n = L * S) (h0 : 0 < n) (hL : L ≤ 64) (hS1 : 1 ≤ S) (hS : S ≤ 64) (half : Nat) (hh : half ≤ 4) (sF : SmallP n F 8400000) (sG : SmallP n G 2047) (sK : SmallP n K 2047) (W : World) (a1 a2 a3 : Option Addr) (c1 c2 c3 A X Y H : Nat) {B1 B2 B3 : Nat} {Wa Wb Wc : World}
    (h3 : OwnPr B3 Wc n F a3) (b3 : Below Wc.heap.size Wc W) (h1 : OwnPr B1 Wa n G a1) (b1 : Below Wa.heap.size Wa W) (h2 : OwnPr B2 Wb n K a2) (b2 : Below Wb.heap.size Wb W)
    (z0 : W.cell? ⟨A, 0, none⟩ = some (.int .i64 L)) (z1 : W.cell? ⟨A, 1, none⟩ = some (.int .i64 S)) (z2 : W.cell? ⟨A, 2, none⟩ = some (.slice a3 n c3)) (x0 : W.cell? ⟨X, 0, none⟩ = some (.int .i64 L)) (x1 : W.cell? ⟨X, 1, none⟩ = some (.int .i64 S)) (x2 : W.cell? ⟨X, 2, none⟩ = some (.slice a1 n c1)) (y0 : W.cell? ⟨Y, 0, none⟩ = some (.int .i64 L)) (y1 : W.cell? ⟨Y, 1, none⟩ = some (.int .i64 S)) (y2 : W.cell? ⟨Y, 2, none⟩ = some (.slice a2 n c2)) (qh : W.cell? ⟨H, 0, none⟩ = some (.int .i64 half)) :
    Calls Tryz.prog 39 #[.int .i64 L, .int .i64 S, .func (.func 40) #[] #[.pointer (some ⟨A, 0, none⟩), .pointer (some ⟨H, 0, none⟩), .pointer (some ⟨X, 0, none⟩), .pointer (some ⟨Y, 0, none⟩)]] W (GfPost L S n (cohF F G K L S half) W) := by
  obtain ⟨gz, rfl, hgz, hpz⟩ := ownPr_at h3 h0 b3
  obtain ⟨gx, rfl, hgx, hpx⟩ := ownPr_at h1 h0 b1
  obtain ⟨gy, rfl, hgy, hpy⟩ := ownPr_at h2 h0 b2
  have hA : A < W.heap.size := World.block_lt_of_cell? _ _ z0
  have hX : X < W.heap.size := World.block_lt_of_cell? _ _ x0
  have hY : Y < W.heap.size := World.block_lt_of_cell? _ _ y0
  have hH : H < W.heap.size := World.block_lt_of_cell? _ _ qh
  have := mapped_f L S 40 #[.pointer (some ⟨A, 0, none⟩), .pointer (some ⟨H, 0, none⟩), .pointer (some ⟨X, 0, none⟩), .pointer (some ⟨Y, 0, none⟩)] (cohF F G K L S half) W hL hS (enters_of Tryz.func40 (by kernel_rfl) rfl) (fun W2 hW2 l s hl hs => by
    have hz := hW2.size
    have := coh1 A X Y H L S gz gx gy n c3 c1 c2 l s half F G K W2 hn hL hS hl hs hh (by omega) (by omega) (by omega) (by omega) (by omega) (by omega) (by omega) ((hW2.cell (p := ⟨A, 0, none⟩) hA).trans z0) ((hW2.cell (p := ⟨A, 1, none⟩) hA).trans z1) ((hW2.cell (p := ⟨A, 2, none⟩) hA).trans z2) ((hW2.cell (p := ⟨X, 0, none⟩) hX).trans x0) ((hW2.cell (p := ⟨X, 1, none⟩) hX).trans x1) ((hW2.cell (p := ⟨X, 2, none⟩) hX).trans x2) ((hW2.cell (p := ⟨Y, 0, none⟩) hY).trans y0) ((hW2.cell (p := ⟨Y, 1, none⟩) hY).trans y1) ((hW2.cell (p := ⟨Y, 2, none⟩) hY).trans y2) ((hW2.cell (p := ⟨H, 0, none⟩) hH).trans qh) (hpz.below hgz hW2) (hpx.below hgx hW2) (hpy.below hgy hW2) sF sG sK
    have e1 : (l * S + s) / S = l := by rw [Nat.mul_comm, Nat.mul_add_div (by omega), Nat.div_eq_of_lt hs, Nat.add_zero]
    have e2 : (l * S + s) % S = s := by rw [Nat.mul_comm, Nat.mul_add_mod, Nat.mod_eq_of_lt hs]
    unfold cohF
    rw [e1, e2]
    exact this)
  rwa [← hn] at this
/-- The error of Coherence. -/
def cohE (L S : Int) (n : Nat) (f : Nat → Nat × Nat) (L' S' : Int) (n' : Nat) (f' : Nat → Nat × Nat) (half : Int) : Int := first2 (pairE L S n f L' S' n' f') (winE half)
set_option maxHeartbeats 2000000 in
theorem coherence_bad (L S : Int) (n cap : Nat) (f : Nat → Nat × Nat) (a : Option Addr) (L' S' : Int) (n' cap' : Nat) (f' : Nat → Nat × Nat) (a' : Option Addr) (half : Int) (w : World) (hl : n ≤ 100000) (hl' : n' ≤ 100000) (hd : DataAt w L S n f a) (hd' : DataAt w L' S' n' f' a') {e0 : Int} (he : cohE L S n f L' S' n' f' half = e0) (h0 : e0 ≠ 0) :
    Calls Tryz.prog 8 #[.agg #[.int .i64 L, .int .i64 S, .slice a n cap], .agg #[.int .i64 L', .int .i64 S', .slice a' n' cap'], .int .i64 half] w fun e w' => e = .returned (.tuple #[.agg #[.int .i64 0, .int .i64 0, .slice none 0 0], .int .i64 e0]) ∧ Below w.heap.size w w' := by
  have HE1 := Lib.hid (show ∀ W, Below w.heap.size w W → _ from fun W hW => fImagesErr L S n cap f a L' S' n' cap' f' a' W hl hl' (hd.below hW) (hd'.below hW) rfl)
  have HE2 := Lib.hid (fun w => fWindowErr half w rfl)
  have HF := Lib.hid (show first2 (pairE L S n f L' S' n' f') (winE half) = e0 from he)
  have hne : (e0 != 0) = true := by simpa using h0
  clear hd hd' he h0
  generalize pairE L S n f L' S' n' f' = z1 at *
  generalize winE half = z2 at *
  go_enter Tryz.func8, Tryz.ntmps8
  go_wp2
  refine wp_region_calm_tail 5 (by kernel_rfl) (by kernel_rfl) ?_
  simp only [List.take_succ_cons, List.take_zero, List.drop_succ_cons, List.drop_zero]
  repeat (go_big_quiet_step (first | (go_at_call 35; with_reducible exact calm_of (HE1.out _ (by (repeat' (first | with_reducible exact Below.refl _ _ | (with_reducible refine below_later_of ?_ ?_ _) | (with_reducible refine Below.alloc ?_ ?_ _) | (with_reducible refine Below.setCell ?_ ?_ _) | (with_reducible refine Below.drew ?_) | (simp; done) | (simp; omega) | omega))))) | (go_at_call 36; with_reducible exact calm_same (HE2.out _))))
  refine wpQuiet_nil ?_
  rintro _ ⟨pz, rfl⟩
  go_wp2_with (first | (go_at_call 34; refine (fFirst2 _ _ _ _ HF.out (by (first | (simp [go_sem]; done) | simp [go_sem, ↓IntWalk.iteOmega])) (by (first | (simp [go_sem]; done) | simp [go_sem, ↓IntWalk.iteOmega]))).mono ?_; rintro e w' ⟨rfl, rfl⟩))
  refine bodyPost_ret ?_ rfl ⟨rfl, (by (repeat' (first | with_reducible exact Below.refl _ _ | (with_reducible refine below_later_of ?_ ?_ _) | (with_reducible refine Below.alloc ?_ ?_ _) | (with_reducible refine Below.setCell ?_ ?_ _) | (with_reducible refine Below.drew ?_) | (simp; done) | (simp; omega) | omega)))⟩
  first | (simp [results, Tryz.results8, go_sem]; done) | simp [results, Tryz.results8, go_sem, ↓IntWalk.iteOmega]
theorem OwnFV.below {B : Nat} {w w' : World} {v : Value} {ds : List Nat} (h : OwnFV B w v ds) (hw : Below w.heap.size w w') : OwnFV B w' v ds := by
  obtain ⟨h1, a, cap, h2, h3⟩ := h
  refine ⟨h1, a, cap, h2, fun h0 => ?_⟩
  obtain ⟨b, off, h4, h5, h6, h7⟩ := h3 h0
  exact ⟨b, off, h4, h5, by have := hw.size; omega, fun k hk => (hw.cell (p := ⟨b, off + k, none⟩) h6).trans (h7 k hk)⟩
theorem kb_keep {w W W' : World} {L S b off n cap b' off' cap' : Nat} (h : W.cell? ⟨w.heap.size, 0, none⟩ = some (.int .i64 L) ∧ W.cell? ⟨w.heap.size, 1, none⟩ = some (.int .i64 S) ∧ W.cell? ⟨w.heap.size, 2, none⟩ = some (.slice (some ⟨b, off, none⟩) n cap) ∧ W.cell? ⟨w.heap.size + 1, 0, none⟩ = some (.int .i64 L) ∧ W.cell? ⟨w.heap.size + 1, 1, none⟩ = some (.int .i64 S) ∧ W.cell? ⟨w.heap.size + 1, 2, none⟩ = some (.slice (some ⟨b', off', none⟩) n cap')) (hlt : w.heap.size + 3 < W.heap.size) (hb : Below W.heap.size W W') :
    W'.cell? ⟨w.heap.size, 0, none⟩ = some (.int .i64 L) ∧ W'.cell? ⟨w.heap.size, 1, none⟩ = some (.int .i64 S) ∧ W'.cell? ⟨w.heap.size, 2, none⟩ = some (.slice (some ⟨b, off, none⟩) n cap) ∧ W'.cell? ⟨w.heap.size + 1, 0, none⟩ = some (.int .i64 L) ∧ W'.cell? ⟨w.heap.size + 1, 1, none⟩ = some (.int .i64 S) ∧ W'.cell? ⟨w.heap.size + 1, 2, none⟩ = some (.slice (some ⟨b', off', none⟩) n cap') := by
  obtain ⟨k0, k1, k2, k3, k4, k5⟩ := h
  have q : ∀ i j, i ≤ w.heap.size + 1 → W'.cell? ⟨i, j, none⟩ = W.cell? ⟨i, j, none⟩ := fun i j hi => hb.cell (p := ⟨i, j, none⟩) (show i < W.heap.size by omega)
  exact ⟨(q _ _ (by omega)).trans k0, (q _ _ (by omega)).trans k1, (q _ _ (by omega)).trans k2, (q _ _ (by omega)).trans k3, (q _ _ (by omega)).trans k4, (q _ _ (by omega)).trans k5⟩
theorem sz_alloc (W : World) (o : Obj) : (W.alloc o).heap.size = W.heap.size + 1 := by simp
theorem sz_set (W : World) (p : Addr) (v : Value) : (W.setCell p v).heap.size = W.heap.size := by simp
theorem sz_drew (W : World) : W.drew.heap.size = W.heap.size := rfl
/-- Pairs in a block between two bounds. -/
def OwnPr2 (B C : Nat) (W : World) (n : Nat) (F : Nat → Int × Int) (a : Option Addr) : Prop := 0 < n → ∃ g, a = some ⟨g, 0, none⟩ ∧ B ≤ g ∧ g < C ∧ PairsAt W g n F
theorem OwnPr2.of {B n : Nat} {W : World} {F : Nat → Int × Int} {a : Option Addr} (h : OwnPr B W n F a) : OwnPr2 B W.heap.size W n F a := h
theorem OwnPr2.own {B C n : Nat} {W : World} {F : Nat → Int × Int} {a : Option Addr} (h : OwnPr2 B C W n F a) (hC : C ≤ W.heap.size) : OwnPr 0 W n F a := fun h0 => by
  obtain ⟨g, h1, h2, h3, h4⟩ := h h0
  exact ⟨g, h1, Nat.zero_le _, by omega, h4⟩
theorem OwnPr2.set {B C n : Nat} {W : World} {F : Nat → Int × Int} {a : Option Addr} (h : OwnPr2 B C W n F a) {p : Addr} (hp : p.block < B ∨ C ≤ p.block) (v : Value) : OwnPr2 B C (W.setCell p v) n F a := fun h0 => by
  obtain ⟨g, h1, h2, h3, h4⟩ := h h0
  have q : ∀ j, (W.setCell p v).cell? ⟨g, j, none⟩ = W.cell? ⟨g, j, none⟩ := fun j => World.cell?_setCell_other _ _ _ _ (fun e => by have := congrArg Addr.block e; dsimp only at this; omega)
  exact ⟨g, h1, h2, h3, fun k hk => by rw [q, q]; exact h4 k hk⟩
theorem OwnPr2.grow {B C n : Nat} {W W' : World} {F : Nat → Int × Int} {a : Option Addr} (h : OwnPr2 B C W n F a) (hb : Below C W W') : OwnPr2 B C W' n F a := fun h0 => by
  obtain ⟨g, h1, h2, h3, h4⟩ := h h0
  exact ⟨g, h1, h2, h3, fun k hk => by
    obtain ⟨q1, q2⟩ := h4 k hk
    exact ⟨(hb.cell (p := ⟨g, k * 2, none⟩) h3).trans q1, (hb.cell (p := ⟨g, k * 2 + 1, none⟩) h3).trans q2⟩⟩
theorem OwnPr2.later {B C n : Nat} {W : World} {F : Nat → Int × Int} {a : Option Addr} (h : OwnPr2 B C W n F a) (hC : C ≤ W.heap.size) (p : Regrown) : OwnPr2 B C (later W p) n F a := h.grow ((below_later W p).mono hC)
theorem OwnPr2.alloc {B C n : Nat} {W : World} {F : Nat → Int × Int} {a : Option Addr} (h : OwnPr2 B C W n F a) (hC : C ≤ W.heap.size) (o : Obj) : OwnPr2 B C (W.alloc o) n F a := h.grow ((Below.refl _ _).alloc hC o)
def CoPost (L S n : Nat) (F : Nat → Nat) (w : World) (e : Ending) (w' : World) : Prop :=
  ∃ a c, e = .returned (.tuple #[.agg #[.int .i64 L, .int .i64 S, .slice a n c], .int .i64 0]) ∧ OwnFV w.heap.size w' (.slice a n c) ((List.range n).map F) ∧ Below w.heap.size w w'
end Go.Proofs.YtkoiknmijjiicaaGreatDoor
