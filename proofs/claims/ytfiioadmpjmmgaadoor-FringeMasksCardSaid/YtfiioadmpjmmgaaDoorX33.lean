/- Chapter 4: Masked. -/
import Derived.Test.YtfiioadmpjmmgaaDoorX32
import Derived.Test.YtfiioadmpjmmgaaDoorX18
import Derived.Test.YtfiioadmpjmmgaaDoorX3
import Derived.Deep.CutRange
import Derived.Deep.RegionHeld3
namespace Go.Proofs.YtfiioadmpjmmgaaDoor
set_option linter.unusedVariables false
set_option linter.unusedSimpArgs false
open Go.RowKit Ntt
/-- The error of Masked. -/
def maskE (R C : Int) (zs : List Int) (R' C' : Int) (ds : List Nat) (m : Int) : Int :=
  if first2 (mapE R C zs).2 (fmE R' C' ds).2 = 0 then (if R = R' ∧ C = C' then (if inE (-100000) 100000 m then 0 else 2) else 13) else first2 (mapE R C zs).2 (fmE R' C' ds).2
def maskV (zs : List Int) (ds : List Nat) (m : Int) (k : Nat) : Int := if intB (flAt ds k) < m then 1000000000000 else intAt zs k
def maskL (zs : List Int) (ds : List Nat) (m : Int) : List Int := (List.range zs.length).map (maskV zs ds m)
theorem maskE_zero {R C : Int} {zs : List Int} {R' C' : Int} {ds : List Nat} {m : Int} (h : maskE R C zs R' C' ds m = 0) : (mapE R C zs).2 = 0 ∧ (fmE R' C' ds).2 = 0 ∧ R = R' ∧ C = C' ∧ inE (-100000) 100000 m = true := by
  unfold maskE at h
  split at h
  · rename_i h1
    obtain ⟨h2, h3⟩ := first2_z h1
    split at h
    · rename_i h4
      split at h
      · rename_i h5
        exact ⟨h2, h3, h4.1, h4.2, h5⟩
      · exact absurd h (by decide)
    · exact absurd h (by decide)
  · exact absurd h ‹_›
theorem fmE_zero {R C : Int} {ds : List Nat} (h : (fmE R C ds).2 = 0) : sizeE R C ds.length = 0 ∧ ∀ k, k < ds.length → fc4 (flAt ds k) = 0 := by
  unfold fmE at h
  split at h
  · rename_i h1
    exact ⟨h1, firstE_zero h⟩
  · exact absurd h ‹_›
theorem conv_fc {b : Nat} (h : fc4 b = 0) (w : World) : (convert 87 3 (.float .f32 b)).run Tryd.prog w = .ok (.int .i64 (intB b)) w := by
  obtain ⟨h1, h2, h3⟩ := fc4_zero h
  refine run_convert_float_int (P := Tryd.prog) w 87 3 .f32 .i64 b _ (by kernel_rfl) Tryd.underlying3 ?_
  have : (FloatKind.f32.decode b).toInt .zero = some (intB b) := fnum_toInt h1
  unfold floatToIntVal
  rw [this]
  dsimp only
  rw [if_pos]
  show (-9223372036854775808 : Int) ≤ _ ∧ _ ≤ (9223372036854775807 : Int)
  omega
theorem ownIV_of {W : World} {B g n c : Nat} {f : Nat → Int} (h : OwnF W g n f) (hB : B ≤ g) (hn : n ≤ 1000000000) : OwnIV B W (.slice (some ⟨g, 0, none⟩) n c) ((List.range n).map f) := by
  have hl : ((List.range n).map f).length = n := by simp
  refine ⟨by omega, some ⟨g, 0, none⟩, c, by rw [hl], fun _ => ⟨g, 0, rfl, hB, h.1.1, fun k hk => ?_⟩⟩
  rw [hl] at hk
  rw [Nat.zero_add, h.1.2 k hk]
  unfold intAt
  simp [hk]
set_option maxRecDepth 20000 in
set_option maxHeartbeats 2000000 in
theorem masked_bad (R C : Int) (zs : List Int) (v : Value) (R' C' : Int) (ds : List Nat) (u : Value) (m : Int) (w : World) (hl : zs.length ≤ 100000) (hv : IntsV w v zs) (hu : FlV w u ds) {e0 : Int} (he : maskE R C zs R' C' ds m = e0) (hne : e0 ≠ 0) :
    Calls Tryd.prog 34 #[.agg #[.int .i64 R, .int .i64 C, v], .agg #[.int .i64 R', .int .i64 C', u], .int .i64 m] w fun e w' => e = .returned (.tuple #[.agg #[.int .i64 0, .int .i64 0, .slice none 0 0], .int .i64 e0]) ∧ Below w.heap.size w w' := by
  have HE1 := Lib.hid (show ∀ W, Below w.heap.size w W → _ from fun W hW => mapErr_any R C zs v W hl (hv.below hW) rfl)
  have HE2 := Lib.hid (show ∀ W, Below w.heap.size w W → _ from fun W hW => floatErr_any R' C' ds u W (hu.below hW) rfl)
  obtain ⟨-, a, cap, rfl, -⟩ := hv
  obtain ⟨-, a', cap', rfl, -⟩ := hu
  unfold maskE at he
  generalize (mapE R C zs).2 = z1 at *
  generalize (fmE R' C' ds).2 = z2 at *
  generalize zs.length = n at *
  generalize ds.length = n' at *
  obtain ⟨z, hz⟩ : ∃ z, first2 z1 z2 = z := ⟨_, rfl⟩
  have HF := Lib.hid hz
  rw [hz] at he
  clear hz hl
  by_cases h0 : z = 0
  · subst h0
    rw [if_pos rfl] at he
    by_cases h1 : R = R'
    · have d1 : (R != R') = false := by simpa using h1
      by_cases h2 : C = C'
      · have d2 : (C != C') = false := by simpa using h2
        rw [if_pos ⟨h1, h2⟩] at he
        rcases (show inE (-100000) 100000 m = false ∨ inE (-100000) 100000 m = true by cases inE (-100000) 100000 m <;> simp) with hw | hw
        · rw [hw, if_neg (by decide)] at he
          subst he
          have HW := Lib.hid hw
          clear h1 h2 hw hne
          go_enter Tryd.func34, Tryd.ntmps34
          go_wp2
          refine wp_region_calm_tail 4 (by kernel_rfl) (by kernel_rfl) ?_
          simp only [List.take_succ_cons, List.take_zero, List.drop_succ_cons, List.drop_zero]
          repeat (go_big_quiet_step (first | (go_at_call 54; with_reducible exact calm_of (HE1.out _ (by (repeat' (first | with_reducible exact Below.refl _ _ | (with_reducible refine below_later_of ?_ ?_ _) | (with_reducible refine Below.alloc ?_ ?_ _) | (with_reducible refine Below.setCell ?_ ?_ _) | (with_reducible refine Below.drew ?_) | (simp; done) | (simp; omega) | omega))))) | (go_at_call 66; with_reducible exact calm_of (HE2.out _ (by (repeat' (first | with_reducible exact Below.refl _ _ | (with_reducible refine below_later_of ?_ ?_ _) | (with_reducible refine Below.alloc ?_ ?_ _) | (with_reducible refine Below.setCell ?_ ?_ _) | (with_reducible refine Below.drew ?_) | (simp; done) | (simp; omega) | omega)))))))
          refine wpQuiet_nil ?_
          rintro _ ⟨pz, rfl⟩
          go_wp2_with (first | (go_at_call 65; refine (fFirst2 _ _ _ _ HF.out (by (first | (simp [go_sem]; done) | simp [go_sem, ↓IntWalk.iteOmega])) (by (first | (simp [go_sem]; done) | simp [go_sem, ↓IntWalk.iteOmega]))).mono ?_; rintro e w' ⟨rfl, rfl⟩) | (go_at_call 51; (with_reducible refine (fWithin _ _ _ _ HW.out).mono ?_); rintro e w' ⟨rfl, rfl⟩))
          refine bodyPost_ret ?_ rfl ⟨rfl, (by (repeat' (first | with_reducible exact Below.refl _ _ | (with_reducible refine below_later_of ?_ ?_ _) | (with_reducible refine Below.alloc ?_ ?_ _) | (with_reducible refine Below.setCell ?_ ?_ _) | (with_reducible refine Below.drew ?_) | (simp; done) | (simp; omega) | omega)))⟩
          first | (simp [results, Tryd.results34, go_sem]; done) | simp [results, Tryd.results34, go_sem, ↓IntWalk.iteOmega]
        · rw [hw, if_pos rfl] at he
          exact absurd he.symm hne
      · have d2 : (C != C') = true := by simpa using h2
        rw [if_neg (fun h => h2 h.2)] at he
        subst he
        clear h1 h2 hne
        go_enter Tryd.func34, Tryd.ntmps34
        go_wp2
        refine wp_region_calm_tail 4 (by kernel_rfl) (by kernel_rfl) ?_
        simp only [List.take_succ_cons, List.take_zero, List.drop_succ_cons, List.drop_zero]
        repeat (go_big_quiet_step (first | (go_at_call 54; with_reducible exact calm_of (HE1.out _ (by (repeat' (first | with_reducible exact Below.refl _ _ | (with_reducible refine below_later_of ?_ ?_ _) | (with_reducible refine Below.alloc ?_ ?_ _) | (with_reducible refine Below.setCell ?_ ?_ _) | (with_reducible refine Below.drew ?_) | (simp; done) | (simp; omega) | omega))))) | (go_at_call 66; with_reducible exact calm_of (HE2.out _ (by (repeat' (first | with_reducible exact Below.refl _ _ | (with_reducible refine below_later_of ?_ ?_ _) | (with_reducible refine Below.alloc ?_ ?_ _) | (with_reducible refine Below.setCell ?_ ?_ _) | (with_reducible refine Below.drew ?_) | (simp; done) | (simp; omega) | omega)))))))
        refine wpQuiet_nil ?_
        rintro _ ⟨pz, rfl⟩
        go_wp2_with (first | (go_at_call 65; refine (fFirst2 _ _ _ _ HF.out (by (first | (simp [go_sem]; done) | simp [go_sem, ↓IntWalk.iteOmega])) (by (first | (simp [go_sem]; done) | simp [go_sem, ↓IntWalk.iteOmega]))).mono ?_; rintro e w' ⟨rfl, rfl⟩) | (go_at_call 51; (with_reducible refine (fWithin _ _ _ _ HW.out).mono ?_); rintro e w' ⟨rfl, rfl⟩))
        refine bodyPost_ret ?_ rfl ⟨rfl, (by (repeat' (first | with_reducible exact Below.refl _ _ | (with_reducible refine below_later_of ?_ ?_ _) | (with_reducible refine Below.alloc ?_ ?_ _) | (with_reducible refine Below.setCell ?_ ?_ _) | (with_reducible refine Below.drew ?_) | (simp; done) | (simp; omega) | omega)))⟩
        first | (simp [results, Tryd.results34, go_sem]; done) | simp [results, Tryd.results34, go_sem, ↓IntWalk.iteOmega]
    · have d1 : (R != R') = true := by simpa using h1
      rw [if_neg (fun h => h1 h.1)] at he
      subst he
      clear h1 hne
      go_enter Tryd.func34, Tryd.ntmps34
      go_wp2
      refine wp_region_calm_tail 4 (by kernel_rfl) (by kernel_rfl) ?_
      simp only [List.take_succ_cons, List.take_zero, List.drop_succ_cons, List.drop_zero]
      repeat (go_big_quiet_step (first | (go_at_call 54; with_reducible exact calm_of (HE1.out _ (by (repeat' (first | with_reducible exact Below.refl _ _ | (with_reducible refine below_later_of ?_ ?_ _) | (with_reducible refine Below.alloc ?_ ?_ _) | (with_reducible refine Below.setCell ?_ ?_ _) | (with_reducible refine Below.drew ?_) | (simp; done) | (simp; omega) | omega))))) | (go_at_call 66; with_reducible exact calm_of (HE2.out _ (by (repeat' (first | with_reducible exact Below.refl _ _ | (with_reducible refine below_later_of ?_ ?_ _) | (with_reducible refine Below.alloc ?_ ?_ _) | (with_reducible refine Below.setCell ?_ ?_ _) | (with_reducible refine Below.drew ?_) | (simp; done) | (simp; omega) | omega)))))))
      refine wpQuiet_nil ?_
      rintro _ ⟨pz, rfl⟩
      go_wp2_with (first | (go_at_call 65; refine (fFirst2 _ _ _ _ HF.out (by (first | (simp [go_sem]; done) | simp [go_sem, ↓IntWalk.iteOmega])) (by (first | (simp [go_sem]; done) | simp [go_sem, ↓IntWalk.iteOmega]))).mono ?_; rintro e w' ⟨rfl, rfl⟩) | (go_at_call 51; (with_reducible refine (fWithin _ _ _ _ HW.out).mono ?_); rintro e w' ⟨rfl, rfl⟩))
      refine bodyPost_ret ?_ rfl ⟨rfl, (by (repeat' (first | with_reducible exact Below.refl _ _ | (with_reducible refine below_later_of ?_ ?_ _) | (with_reducible refine Below.alloc ?_ ?_ _) | (with_reducible refine Below.setCell ?_ ?_ _) | (with_reducible refine Below.drew ?_) | (simp; done) | (simp; omega) | omega)))⟩
      first | (simp [results, Tryd.results34, go_sem]; done) | simp [results, Tryd.results34, go_sem, ↓IntWalk.iteOmega]
  · rw [if_neg h0] at he
    subst he
    have hne : (z != 0) = true := by simpa using h0
    clear h0
    go_enter Tryd.func34, Tryd.ntmps34
    go_wp2
    refine wp_region_calm_tail 4 (by kernel_rfl) (by kernel_rfl) ?_
    simp only [List.take_succ_cons, List.take_zero, List.drop_succ_cons, List.drop_zero]
    repeat (go_big_quiet_step (first | (go_at_call 54; with_reducible exact calm_of (HE1.out _ (by (repeat' (first | with_reducible exact Below.refl _ _ | (with_reducible refine below_later_of ?_ ?_ _) | (with_reducible refine Below.alloc ?_ ?_ _) | (with_reducible refine Below.setCell ?_ ?_ _) | (with_reducible refine Below.drew ?_) | (simp; done) | (simp; omega) | omega))))) | (go_at_call 66; with_reducible exact calm_of (HE2.out _ (by (repeat' (first | with_reducible exact Below.refl _ _ | (with_reducible refine below_later_of ?_ ?_ _) | (with_reducible refine Below.alloc ?_ ?_ _) | (with_reducible refine Below.setCell ?_ ?_ _) | (with_reducible refine Below.drew ?_) | (simp; done) | (simp; omega) | omega)))))))
    refine wpQuiet_nil ?_
    rintro _ ⟨pz, rfl⟩
    go_wp2_with (first | (go_at_call 65; refine (fFirst2 _ _ _ _ HF.out (by (first | (simp [go_sem]; done) | simp [go_sem, ↓IntWalk.iteOmega])) (by (first | (simp [go_sem]; done) | simp [go_sem, ↓IntWalk.iteOmega]))).mono ?_; rintro e w' ⟨rfl, rfl⟩) | (go_at_call 51; (with_reducible refine (fWithin _ _ _ _ HW.out).mono ?_); rintro e w' ⟨rfl, rfl⟩))
    refine bodyPost_ret ?_ rfl ⟨rfl, (by (repeat' (first | with_reducible exact Below.refl _ _ | (with_reducible refine below_later_of ?_ ?_ _) | (with_reducible refine Below.alloc ?_ ?_ _) | (with_reducible refine Below.setCell ?_ ?_ _) | (with_reducible refine Below.drew ?_) | (simp; done) | (simp; omega) | omega)))⟩
    first | (simp [results, Tryd.results34, go_sem]; done) | simp [results, Tryd.results34, go_sem, ↓IntWalk.iteOmega]
/-- A map that is returned without an error. -/
def MaskPost (R C : Int) (n : Nat) (L : List Int) (w : World) (e : Ending) (w' : World) : Prop :=
  ∃ a c, e = .returned (.tuple #[.agg #[.int .i64 R, .int .i64 C, .slice a n c], .int .i64 0]) ∧ OwnIV w.heap.size w' (.slice a n c) L ∧ Below w.heap.size w w'
set_option maxRecDepth 20000 in
set_option maxHeartbeats 4000000 in
theorem masked_ok (R C : Int) (zs : List Int) (v : Value) (R' C' : Int) (ds : List Nat) (u : Value) (m : Int) (w : World) (hl : zs.length ≤ 100000) (hv : IntsV w v zs) (hu : FlV w u ds) (he : maskE R C zs R' C' ds m = 0) :
    Calls Tryd.prog 34 #[.agg #[.int .i64 R, .int .i64 C, v], .agg #[.int .i64 R', .int .i64 C', u], .int .i64 m] w (MaskPost R C zs.length (maskL zs ds m) w) := by
  obtain ⟨e1, e2, rfl, rfl, hw⟩ := maskE_zero he
  obtain ⟨f1, f2⟩ := fmE_zero e2
  obtain ⟨⟨r1, r2⟩, ⟨c1, c2⟩, hn⟩ := sizeE_okU f1
  have hnz : zs.length = ds.length := by
    unfold mapE at e1
    split at e1
    · rename_i h
      have := (sizeE_okU h).2.2
      omega
    · exact absurd e1 ‹_›
  have hpos : 0 < ds.length := by
    have : 1 * 1 ≤ R * C := Int.mul_le_mul r1 c1 (by omega) (by omega)
    omega
  have HE1 := Lib.hid (show ∀ W, Below w.heap.size w W → _ from fun W hW => mapErr_any R C zs v W hl (hv.below hW) e1)
  have HE2 := Lib.hid (show ∀ W, Below w.heap.size w W → _ from fun W hW => floatErr_any R C ds u W (hu.below hW) e2)
  have HF := Lib.hid (show first2 0 0 = 0 from rfl)
  have HW := Lib.hid hw
  obtain ⟨hl2, a, cap, rfl, h4⟩ := hv
  obtain ⟨hl3, a', cap', rfl, h5⟩ := hu
  obtain ⟨b, off, rfl, hbw, hc⟩ := h4 (by omega)
  obtain ⟨b', off', rfl, hbw', hc'⟩ := h5 hpos
  have HCL0 := Lib.hid (show ∀ W, Below w.heap.size w W → _ from fun W hW => clone_own zs b off cap W (by omega) (by omega) (by have := hW.size; omega) (fun k hk => (hW.cell (p := ⟨b, off + k, none⟩) hbw).trans (hc k hk)))
  have HCQ := Lib.hid hc'
  have HCV := Lib.hid f2
  have HNZ := Lib.hid hnz
  have HML := Lib.hid (show maskL zs ds m = (List.range zs.length).map (maskV zs ds m) from rfl)
  have HMV := Lib.hid (show ∀ k, maskV zs ds m k = if intB (flAt ds k) < m then 1000000000000 else intAt zs k from fun _ => rfl)
  generalize maskL zs ds m = L at *
  generalize maskV zs ds m = mv at *
  have hd1 : (R != R) = false := by simp
  have hd2 : (C != C) = false := by simp
  clear he e1 e2 f1 hn hw h4 h5 hc hc' f2 hnz r1 r2 c1 c2
  go_enter Tryd.func34, Tryd.ntmps34
  go_wp2
  refine wp_region_calm_tail 4 (by kernel_rfl) (by kernel_rfl) ?_
  simp only [List.take_succ_cons, List.take_zero, List.drop_succ_cons, List.drop_zero]
  repeat (go_big_quiet_step (first | (go_at_call 54; with_reducible exact calm_of (HE1.out _ (by (repeat' (first | with_reducible exact Below.refl _ _ | (with_reducible refine below_later_of ?_ ?_ _) | (with_reducible refine Below.alloc ?_ ?_ _) | (with_reducible refine Below.setCell ?_ ?_ _) | (with_reducible refine Below.drew ?_) | (simp; done) | (simp; omega) | omega))))) | (go_at_call 66; with_reducible exact calm_of (HE2.out _ (by (repeat' (first | with_reducible exact Below.refl _ _ | (with_reducible refine below_later_of ?_ ?_ _) | (with_reducible refine Below.alloc ?_ ?_ _) | (with_reducible refine Below.setCell ?_ ?_ _) | (with_reducible refine Below.drew ?_) | (simp; done) | (simp; omega) | omega)))))))
  refine wpQuiet_nil ?_
  rintro _ ⟨pz, rfl⟩
  go_wp2_with (first | (go_at_call 65; refine (fFirst2 _ _ _ _ HF.out (by (first | (simp [go_sem]; done) | simp [go_sem, ↓IntWalk.iteOmega])) (by (first | (simp [go_sem]; done) | simp [go_sem, ↓IntWalk.iteOmega]))).mono ?_; rintro e w' ⟨rfl, rfl⟩) | (go_at_call 51; (with_reducible refine (fWithin _ _ _ _ HW.out).mono ?_); rintro e w' ⟨rfl, rfl⟩))
  refine any_worldF (fun w' => (w'.cell? ⟨w.heap.size, 0, none⟩ = some (.int .i64 R) ∧ w'.cell? ⟨w.heap.size, 1, none⟩ = some (.int .i64 C) ∧ w'.cell? ⟨w.heap.size, 2, none⟩ = some (.slice (some ⟨b, off, none⟩) zs.length cap)) ∧ (w'.cell? ⟨w.heap.size + 1, 2, none⟩ = some (.slice (some ⟨b', off', none⟩) ds.length cap')) ∧ (w'.cell? ⟨w.heap.size + 2, 0, none⟩ = some (.int .i64 0) ∧ w'.cell? ⟨w.heap.size + 2, 1, none⟩ = some (.int .i64 0) ∧ w'.cell? ⟨w.heap.size + 2, 2, none⟩ = some (.slice none 0 0)) ∧ (w'.frozen? ⟨w.heap.size + 2, 0, none⟩ = false ∧ w'.frozen? ⟨w.heap.size + 2, 1, none⟩ = false ∧ w'.frozen? ⟨w.heap.size + 2, 2, none⟩ = false) ∧ Below w.heap.size w w' ∧ w.heap.size + 2 < w'.heap.size) ⟨⟨(by (first | (simp [go_sem]; done) | simp [go_sem, ↓IntWalk.iteOmega])), (by (first | (simp [go_sem]; done) | simp [go_sem, ↓IntWalk.iteOmega])), (by (first | (simp [go_sem]; done) | simp [go_sem, ↓IntWalk.iteOmega]))⟩, (by (first | (simp [go_sem]; done) | simp [go_sem, ↓IntWalk.iteOmega])), ⟨(by (first | (simp [go_sem]; done) | simp [go_sem, ↓IntWalk.iteOmega])), (by (first | (simp [go_sem]; done) | simp [go_sem, ↓IntWalk.iteOmega])), (by (first | (simp [go_sem]; done) | simp [go_sem, ↓IntWalk.iteOmega]))⟩, ⟨(by (first | (simp [go_sem]; done) | simp [go_sem, ↓IntWalk.iteOmega])), (by (first | (simp [go_sem]; done) | simp [go_sem, ↓IntWalk.iteOmega])), (by (first | (simp [go_sem]; done) | simp [go_sem, ↓IntWalk.iteOmega]))⟩, (by (repeat' (first | with_reducible exact Below.refl _ _ | (with_reducible refine below_later_of ?_ ?_ _) | (with_reducible refine Below.alloc ?_ ?_ _) | (with_reducible refine Below.setCell ?_ ?_ _) | (with_reducible refine Below.drew ?_) | (simp; done) | (simp; omega) | omega))), by simp; omega⟩ ?_
  rintro W1 ⟨⟨k0, k1, k2⟩, kq, ⟨d0, d1, d2⟩, ⟨g0, g1, g2⟩, hb1, hlt1⟩
  have HB1 := Lib.hid hb1
  have hs1 := hb1.size
  have HCL := Lib.hid (show ∀ W, Below W1.heap.size W1 W → _ from fun W hW => HCL0.out W (HB1.out.trans (hW.mono hs1)))
  clear hb1 HCL0 HE1 HE2 HF
  go_wp2_with fail
  go_cut [9] from 42 to 50 (fun X wx => ∃ B g c, X = .pointer (some ⟨B, 0, none⟩) ∧ (wx.cell? ⟨B, 0, none⟩ = some (.int .i64 R) ∧ wx.cell? ⟨B, 1, none⟩ = some (.int .i64 C) ∧ wx.cell? ⟨B, 2, none⟩ = some (.slice (some ⟨g, 0, none⟩) zs.length c)) ∧ OwnF wx g zs.length (intAt zs) ∧ W1.heap.size ≤ g ∧ W1.heap.size ≤ B ∧ B ≠ g ∧ B < wx.heap.size ∧ Below W1.heap.size W1 wx)
  case first =>
    go_region_held3 (fun w' => w'.cell? ⟨w.heap.size, 0, none⟩ = some (.int .i64 R) ∧ w'.cell? ⟨w.heap.size, 1, none⟩ = some (.int .i64 C) ∧ w'.cell? ⟨w.heap.size, 2, none⟩ = some (.slice (some ⟨b, off, none⟩) zs.length cap)) (first | exact ⟨k0, k1, k2⟩ | ((first | (simp [go_sem, k0, k1, k2]; done) | simp [go_sem, k0, k1, k2, ↓IntWalk.iteOmega]); done)) (first | (go_at_call 67; (with_reducible refine (HCL.out _ (by (repeat' (first | with_reducible exact Below.refl _ _ | (with_reducible refine below_later_of ?_ ?_ _) | (with_reducible refine Below.alloc ?_ ?_ _) | (with_reducible refine Below.setCell ?_ ?_ _) | (with_reducible refine Below.drew ?_) | (simp; done) | (simp; omega) | omega)))).mono ?_); rintro e w' ⟨g, c, rfl, hgb, ho, hb⟩; have HO := Lib.hid ho; clear ho; obtain ⟨pc, rfl⟩ := later_of_below hb; clear hb))
    all_goals
      rename_i hheld
      clear hheld
      go_wp2_with fail
      go_meet
      simp at hgb
      have hgl := HO.out.1.1
      simp at hgl
      refine ⟨_, g, c, rfl, ⟨(by (first | (simp [go_sem]; done) | simp [go_sem, ↓IntWalk.iteOmega])), (by (first | (simp [go_sem]; done) | simp [go_sem, ↓IntWalk.iteOmega])), (by (first | (simp [go_sem]; done) | simp [go_sem, ↓IntWalk.iteOmega]))⟩, ?_, by omega, by simp <;> omega, by simp <;> omega, by simp <;> omega, (by (repeat' (first | with_reducible exact Below.refl _ _ | (with_reducible refine below_later_of ?_ ?_ _) | (with_reducible refine Below.alloc ?_ ?_ _) | (with_reducible refine Below.setCell ?_ ?_ _) | (with_reducible refine Below.drew ?_) | (simp; done) | (simp; omega) | omega)))⟩
      first
        | (refine OwnF.below HO.out ?_; (repeat' (first | with_reducible exact Below.refl _ _ | (with_reducible refine below_later_of ?_ ?_ _) | (with_reducible refine Below.alloc ?_ ?_ _) | (with_reducible refine Below.setCell ?_ ?_ _) | (with_reducible refine Below.drew ?_) | (simp; done) | (simp; omega) | omega)); done)
        | (refine OwnF.off4 (OwnF.off4 (OwnF.off4 (OwnF.below HO.out ?_) ?_ _) ?_ _) ?_ _ <;> first | (repeat' (first | with_reducible exact Below.refl _ _ | (with_reducible refine below_later_of ?_ ?_ _) | (with_reducible refine Below.alloc ?_ ?_ _) | (with_reducible refine Below.setCell ?_ ?_ _) | (with_reducible refine Below.drew ?_) | (simp; done) | (simp; omega) | omega)); done | (simp <;> omega))
  case rest =>
    obtain ⟨B, g, c, rfl, ⟨o0, o1, o2⟩, hown, hg1, hB1, hBg, hB2, hb⟩ := hcut
    obtain ⟨W2, hW2⟩ : ∃ W2 : World, W2 = wc := ⟨_, rfl⟩
    subst hW2
    have hs2 := hb.size
    have HB2 := Lib.hid (HB1.out.trans (hb.mono hs1))
    have kq2 := (hb.cell (p := ⟨w.heap.size + 1, 2, none⟩) (by simp; omega)).trans kq
    have d0' := (hb.cell (p := ⟨w.heap.size + 2, 0, none⟩) (by simp; omega)).trans d0
    have d1' := (hb.cell (p := ⟨w.heap.size + 2, 1, none⟩) (by simp; omega)).trans d1
    have d2' := (hb.cell (p := ⟨w.heap.size + 2, 2, none⟩) (by simp; omega)).trans d2
    have g0' := (hb.frozen (p := ⟨w.heap.size + 2, 0, none⟩) (by simp; omega)).trans g0
    have g1' := (hb.frozen (p := ⟨w.heap.size + 2, 1, none⟩) (by simp; omega)).trans g1
    have g2' := (hb.frozen (p := ⟨w.heap.size + 2, 2, none⟩) (by simp; omega)).trans g2
    have HOW := Lib.hid hown
    have hgw := hown.1.1
    have hwp : w.heap.size + 1 < W2.heap.size := by omega
    clear k0 k1 k2 kq d0 d1 d2 g0 g1 g2 hown HCL
    obtain ⟨n, hn⟩ : ∃ n, ds.length = n := ⟨_, rfl⟩
    have HZN := Lib.hid (HNZ.out.trans hn)
    rw [HNZ.out] at HOW HML o2 hl hl2
    rw [hn] at HOW HML o2 hl hl2 kq2 hpos HCV HCQ
    clear hn HNZ hl3
    go_wp2
    go_loopw [53] (fun i wr => ∃ k : Nat, k ≤ n ∧ i = .int .i64 k ∧ OwnF wr g n (fun j => if j < k then mv j else intAt zs j) ∧ (wr.cell? ⟨B, 0, none⟩ = some (.int .i64 R) ∧ wr.cell? ⟨B, 1, none⟩ = some (.int .i64 C) ∧ wr.cell? ⟨B, 2, none⟩ = some (.slice (some ⟨g, 0, none⟩) n c)) ∧ Below W1.heap.size W2 wr) (fun i _ => n - (intOf i).toNat)
    case atStart => exact ⟨0, Nat.zero_le _, rfl, HOW.out.same (fun j _ => by simp), ⟨o0, o1, o2⟩, Below.refl _ _⟩
    case round =>
      obtain ⟨k, hk, rfl, ho, ⟨q0, q1, q2⟩, hbz⟩ := hrel
      have HO := Lib.hid ho
      have HBZ := Lib.hid hbz
      have hsz := hbz.size
      have hgz := ho.1.1
      have HX := Lib.hid (HB2.out.trans (hbz.mono hs1))
      by_cases hlt : k < n
      · have hdk : decide ((k : Int) < (n : Int)) = true := by simp; omega
        have hk0 : (0 : Int) ≤ (k : Int) := by omega
        have hk1 : (k : Int) < (n : Int) := by omega
        have ck := (HX.out.cell (p := ⟨b', off' + k, none⟩) hbw').trans (HCQ.out k hlt)
        have hcv := fun w => conv_fc (HCV.out k hlt) w
        have hbr : b' < wr.heap.size := by omega
        have gk := ho.1.2 k hlt
        have fk := ho.2 k hlt
        simp only [Nat.lt_irrefl, if_false] at gk
        have HV := Lib.hid (HMV.out k)
        clear ho hbz
        generalize flAt ds k = x at ck hcv HV
        generalize intB x = T at hcv HV
        by_cases hT : T < m
        · have hdT : decide (T < m) = true := by simpa using hT
          have HV2 := Lib.hid (show mv k = 1000000000000 by rw [HV.out, if_pos hT])
          clear HV hT
          go_wp2
          go_roundw
          case rel => exact ⟨k + 1, by omega, by go_num, HO.out.set hlt (fun j hj => by
            by_cases e : j = k
            · subst e; rw [if_pos (by omega), if_pos rfl, HV2.out]
            · rw [if_neg e]
              by_cases c : j < k
              · rw [if_pos c, if_pos (by omega)]
              · rw [if_neg c, if_neg (by omega)]), ⟨(World.cell?_setCell_other _ _ _ _ (fun e => hBg (congrArg Addr.block e).symm)).trans q0, (World.cell?_setCell_other _ _ _ _ (fun e => hBg (congrArg Addr.block e).symm)).trans q1, (World.cell?_setCell_other _ _ _ _ (fun e => hBg (congrArg Addr.block e).symm)).trans q2⟩, HBZ.out.trans (by (repeat' (first | with_reducible exact Below.refl _ _ | (with_reducible refine below_later_of ?_ ?_ _) | (with_reducible refine Below.alloc ?_ ?_ _) | (with_reducible refine Below.setCell ?_ ?_ _) | (with_reducible refine Below.drew ?_) | (simp; done) | (simp; omega) | omega)))⟩
          case measure => simp [intOf]; omega
        · have hdT : decide (T < m) = false := by simpa using hT
          have HV2 := Lib.hid (show mv k = intAt zs k by rw [HV.out, if_neg hT])
          clear HV hT
          go_wp2
          go_roundw
          case rel => exact ⟨k + 1, by omega, by go_num, HO.out.same (fun j hj => by
            by_cases e : j = k
            · subst e; rw [if_neg (by omega), if_pos (by omega), HV2.out]
            · by_cases c : j < k
              · rw [if_pos c, if_pos (by omega)]
              · rw [if_neg c, if_neg (by omega)]), ⟨q0, q1, q2⟩, HBZ.out⟩
          case measure => simp [intOf]; omega
      · obtain rfl : k = n := by omega
        have hdk : decide ((k : Int) < (k : Int)) = false := by simp
        have p0 := (hbz.cell (p := ⟨w.heap.size + 2, 0, none⟩) (by simp; omega)).trans d0'
        have p1 := (hbz.cell (p := ⟨w.heap.size + 2, 1, none⟩) (by simp; omega)).trans d1'
        have p2 := (hbz.cell (p := ⟨w.heap.size + 2, 2, none⟩) (by simp; omega)).trans d2'
        have r0 := (hbz.frozen (p := ⟨w.heap.size + 2, 0, none⟩) (by simp; omega)).trans g0'
        have r1 := (hbz.frozen (p := ⟨w.heap.size + 2, 1, none⟩) (by simp; omega)).trans g1'
        have r2 := (hbz.frozen (p := ⟨w.heap.size + 2, 2, none⟩) (by simp; omega)).trans g2'
        have HL := Lib.hid (show OwnF wr g k mv from HO.out.same (fun j hj => if_pos hj))
        clear ho hbz HO
        go_wp2
        refine bodyPost_ret ?_ rfl ⟨some ⟨g, 0, none⟩, c, rfl, ?_, ?_⟩
        · (first | (simp [results, Tryd.results34, go_sem, p0, p1, p2, HZN.out]; done) | simp [results, Tryd.results34, go_sem, p0, p1, p2, HZN.out, ↓IntWalk.iteOmega])
        · rw [HML.out, HZN.out]
          refine ownIV_of (OwnF.off4 (OwnF.off4 (OwnF.off4 HL.out ?_ _) ?_ _) ?_ _) ?_ ?_ <;> first | omega | (simp <;> omega)
        · exact HX.out.trans (by (repeat' (first | with_reducible exact Below.refl _ _ | (with_reducible refine below_later_of ?_ ?_ _) | (with_reducible refine Below.alloc ?_ ?_ _) | (with_reducible refine Below.setCell ?_ ?_ _) | (with_reducible refine Below.drew ?_) | (simp; done) | (simp; omega) | omega)))
end Go.Proofs.YtfiioadmpjmmgaaDoor
