/- Chapter 4: the law FringeTurns returns true. -/
import Derived.Test.YtfiioadmpjmmgaaDoorX23
namespace Go.Proofs.YtfiioadmpjmmgaaDoor
set_option linter.unusedVariables false
set_option linter.unusedSimpArgs false
open Go.RowKit Ntt
/-- A residue lies in a box. -/
def inBox (r0 c0 h w : Nat) (x : Res) : Bool := inE (r0 : Int) ((r0 : Int) + h - 1) x.r && inE (c0 : Int) ((c0 : Int) + w - 1) x.c
theorem whole_all {z : Nat → Nat → Int} {R C : Nat} (h : ∀ r c, r < R → c < C → nvB (z r c) = true) {r c : Nat} (hr : r < R - 1) (hc : c < C - 1) : whT z r c = true := by
  unfold whT wholeP
  simp only [whHi, whWd, okR, okD, Nat.add_zero, Bool.true_and]
  rw [h r c (by omega) (by omega), h r (c + 1) (by omega) (by omega), h (r + 1) c (by omega) (by omega), h (r + 1) (c + 1) (by omega) (by omega)]
  rfl
theorem resM_sum {R C : Nat} {zs : List Int} (hm : MapOk R C zs) (hv : ∀ k, k < zs.length → nvB (intAt zs k) = true) {r0 c0 h w : Nat} (hr : r0 + h < R) (hc : c0 + w < C) :
    resSum (inBox r0 c0 h w) (resM R C zs) = (aroundP (zAt C (intAt zs)) r0 c0 h w).tdiv 4096 := by
  have hwt : ∀ r c, r < R - 1 → c < C - 1 → whT (zAt C (intAt zs)) r c = true := fun r c hr hc => whole_all (z := zAt C (intAt zs)) (R := R) (C := C) (fun r c hr hc => hv _ (hm.idx hr hc)) hr hc
  have hs := resAll_sum (T := turnP (zAt C (intAt zs))) (C := C - 1) (inBox r0 c0 h w) (fun r c => (decide (r0 ≤ r) && decide (r < r0 + h)) && (decide (c0 ≤ c) && decide (c < c0 + w))) (fun r c t => by
    unfold inBox inE
    rw [Bool.eq_iff_iff]
    simp only [Bool.and_eq_true, decide_eq_true_eq]
    omega) (R - 1) hwt
  unfold resM
  rw [around_turns, hs]
  exact box_sum _ (by omega) (by omega)
theorem resSum_bd (f : Res → Bool) : ∀ l : List Res, (∀ x ∈ l, -1 ≤ x.t ∧ x.t ≤ 1) → -(l.length : Int) ≤ resSum f l ∧ resSum f l ≤ l.length
  | [], _ => by simp [resSum]
  | x :: l, h => by
    have h1 := resSum_bd f l (fun y hy => h y (List.mem_cons_of_mem _ hy))
    have h2 := h x (List.mem_cons_self ..)
    rw [resSum, List.length_cons]
    split <;> omega
theorem resM_turn {R C : Nat} {zs : List Int} {x : Res} (h : x ∈ resM R C zs) : x.r < R - 1 ∧ x.c < C - 1 ∧ (x.t = 1 ∨ x.t = -1) := by
  obtain ⟨h1, h2, h3, h4⟩ := resAll_mem h
  have := (turnP_of (z := zAt C (intAt zs)) (r := x.r) (c := x.c)).2
  rw [← h3] at this
  exact ⟨h1, h2, by omega⟩
set_option maxRecDepth 20000 in
set_option maxHeartbeats 8000000 in
theorem turns_light (R C : Int) (b0 b1 b2 b3 : Int) (zs : List Int) (v : Value) (w : World) (hx : IntsX w v zs) (hn : ¬ zs.length ≤ 150) (ht : Tab w) :
    Calls Tryd.prog 6 #[.agg #[.int .i64 R, .int .i64 C, v], .agg #[.int .i64 b0, .int .i64 b1, .int .i64 b2, .int .i64 b3]] w fun e w' => e = .returned (.bool true) ∧ Below w.heap.size w w' := by
  have HT := Lib.hid ht
  obtain ⟨⟨a, cap, rfl, -⟩, -⟩ := hx
  have HLI := Lib.hid (fun W => lLight R C zs.length cap a W (decide_eq_false hn))
  clear ht hn
  go_enter Tryd.func6, Tryd.ntmps6
  go_wp2_with (first | (go_at_call 9; (with_reducible refine (awake4 _ (HT.out.below (by (repeat' (first | with_reducible exact Below.refl _ _ | (with_reducible refine below_later_of ?_ ?_ _) | (with_reducible refine Below.alloc ?_ ?_ _) | (with_reducible refine Below.setCell ?_ ?_ _) | (with_reducible refine Below.drew ?_) | (simp; done) | (simp; omega) | omega))))).mono ?_); rintro e w' ⟨rfl, hb⟩; obtain ⟨pp, rfl⟩ := later_of_below hb; clear hb) | (go_at_call 19; (with_reducible refine (HLI.out _).mono ?_); rintro e w' ⟨rfl, hb⟩; obtain ⟨p0, rfl⟩ := later_of_below hb; clear hb))
  go_ret
  exact ⟨rfl, (by (repeat' (first | with_reducible exact Below.refl _ _ | (with_reducible refine below_later_of ?_ ?_ _) | (with_reducible refine Below.alloc ?_ ?_ _) | (with_reducible refine Below.setCell ?_ ?_ _) | (with_reducible refine Below.drew ?_) | (simp; done) | (simp; omega) | omega)))⟩
set_option maxRecDepth 20000 in
set_option maxHeartbeats 8000000 in
theorem turns_bad (R C : Int) (b0 b1 b2 b3 : Int) (zs : List Int) (v : Value) (w : World) (hv : IntsV w v zs) (hn : zs.length ≤ 150) (ht : Tab w) {i0 : Nat} {e0 : Int} (he : mapE R C zs = (i0, e0)) (h0 : e0 ≠ 0) :
    Calls Tryd.prog 6 #[.agg #[.int .i64 R, .int .i64 C, v], .agg #[.int .i64 b0, .int .i64 b1, .int .i64 b2, .int .i64 b3]] w fun e w' => e = .returned (.bool true) ∧ Below w.heap.size w w' := by
  have HT := Lib.hid ht
  have HCP := Lib.hid (show ∀ W, Below w.heap.size w W → _ from fun W hW => bCopyPhases R C zs v W (hv.below hW))
  have HRB := Lib.hid (show ∀ W u, IntsV W u zs → _ from fun W u h => fResidues_bad R C zs u W (by omega) h (e0 := e0) (by rw [he]) h0)
  have HTA := Lib.hid (show ∀ W u, IntsV W u zs → _ from fun W u h => fTurns_bad R C b0 b1 b2 b3 zs u W (by omega) h (e0 := e0) (by rw [he]) h0)
  obtain ⟨-, a, cap, rfl, -⟩ := hv
  have HLI := Lib.hid (fun W => lLight R C zs.length cap a W (decide_eq_true hn))
  have hne : (e0 != 0) = true := by simpa using h0
  clear ht hn he h0
  go_enter Tryd.func6, Tryd.ntmps6
  go_wp2_with (first | (go_at_call 9; (with_reducible refine (awake4 _ (HT.out.below (by (repeat' (first | with_reducible exact Below.refl _ _ | (with_reducible refine below_later_of ?_ ?_ _) | (with_reducible refine Below.alloc ?_ ?_ _) | (with_reducible refine Below.setCell ?_ ?_ _) | (with_reducible refine Below.drew ?_) | (simp; done) | (simp; omega) | omega))))).mono ?_); rintro e w' ⟨rfl, hb⟩; obtain ⟨pp, rfl⟩ := later_of_below hb; clear hb) | (go_at_call 19; (with_reducible refine (HLI.out _).mono ?_); rintro e w' ⟨rfl, hb⟩; obtain ⟨p0, rfl⟩ := later_of_below hb; clear hb))
  refine any_worldL (fun w' => (w'.cell? ⟨w.heap.size, 0, none⟩ = some (.int .i64 R) ∧ w'.cell? ⟨w.heap.size, 1, none⟩ = some (.int .i64 C) ∧ w'.cell? ⟨w.heap.size, 2, none⟩ = some (.slice a zs.length cap) ∧ w'.cell? ⟨w.heap.size + 1, 0, none⟩ = some (.int .i64 b0) ∧ w'.cell? ⟨w.heap.size + 1, 1, none⟩ = some (.int .i64 b1) ∧ w'.cell? ⟨w.heap.size + 1, 2, none⟩ = some (.int .i64 b2) ∧ w'.cell? ⟨w.heap.size + 1, 3, none⟩ = some (.int .i64 b3)) ∧ Below w.heap.size w w' ∧ w.heap.size + 1 < w'.heap.size) ⟨⟨(by (first | (simp [go_sem]; done) | simp [go_sem, ↓IntWalk.iteOmega])), (by (first | (simp [go_sem]; done) | simp [go_sem, ↓IntWalk.iteOmega])), (by (first | (simp [go_sem]; done) | simp [go_sem, ↓IntWalk.iteOmega])), (by (first | (simp [go_sem]; done) | simp [go_sem, ↓IntWalk.iteOmega])), (by (first | (simp [go_sem]; done) | simp [go_sem, ↓IntWalk.iteOmega])), (by (first | (simp [go_sem]; done) | simp [go_sem, ↓IntWalk.iteOmega])), (by (first | (simp [go_sem]; done) | simp [go_sem, ↓IntWalk.iteOmega]))⟩, (by (repeat' (first | with_reducible exact Below.refl _ _ | (with_reducible refine below_later_of ?_ ?_ _) | (with_reducible refine Below.alloc ?_ ?_ _) | (with_reducible refine Below.setCell ?_ ?_ _) | (with_reducible refine Below.drew ?_) | (simp; done) | (simp; omega) | omega))), by simp; omega⟩ ?_
  rintro W1 ⟨⟨k0, k1, k2, k3, k4, k5, k6⟩, hb1, hlt1⟩
  have HB1 := Lib.hid hb1
  have hs1 := hb1.size
  have HCP := Lib.hid (show ∀ W, Below W1.heap.size W1 W → _ from fun W hW => HCP.out W (HB1.out.trans (hW.mono hs1)))
  clear hb1
  go_wp2_with fail
  go_region_held3 (fun w' => w'.cell? ⟨w.heap.size, 0, none⟩ = some (.int .i64 R) ∧ w'.cell? ⟨w.heap.size, 1, none⟩ = some (.int .i64 C) ∧ w'.cell? ⟨w.heap.size, 2, none⟩ = some (.slice a zs.length cap) ∧ w'.cell? ⟨w.heap.size + 1, 0, none⟩ = some (.int .i64 b0) ∧ w'.cell? ⟨w.heap.size + 1, 1, none⟩ = some (.int .i64 b1) ∧ w'.cell? ⟨w.heap.size + 1, 2, none⟩ = some (.int .i64 b2) ∧ w'.cell? ⟨w.heap.size + 1, 3, none⟩ = some (.int .i64 b3)) (first | exact ⟨k0, k1, k2, k3, k4, k5, k6⟩ | ((first | (simp [go_sem, k0, k1, k2, k3, k4, k5, k6]; done) | simp [go_sem, k0, k1, k2, k3, k4, k5, k6, ↓IntWalk.iteOmega]); done)) (first | (go_at_call 21; (with_reducible refine (HCP.out _ (by (repeat' (first | with_reducible exact Below.refl _ _ | (with_reducible refine below_later_of ?_ ?_ _) | (with_reducible refine Below.alloc ?_ ?_ _) | (with_reducible refine Below.setCell ?_ ?_ _) | (with_reducible refine Below.drew ?_) | (simp; done) | (simp; omega) | omega)))).mono ?_); rintro e w' ⟨a1, c1, rfl, hv, hb⟩; have HV1 := Lib.hid hv.ints; clear hv; obtain ⟨p1, rfl⟩ := later_of_below hb; clear hb) | (go_at_call 22; (with_reducible refine (HTA.out _ _ (HV1.out.below (by (repeat' (first | with_reducible exact Below.refl _ _ | (with_reducible refine below_later_of ?_ ?_ _) | (with_reducible refine Below.alloc ?_ ?_ _) | (with_reducible refine Below.setCell ?_ ?_ _) | (with_reducible refine Below.drew ?_) | (simp; done) | (simp; omega) | omega))))).mono ?_); rintro e w' ⟨rfl, hb⟩; obtain ⟨p4, rfl⟩ := later_of_below hb; clear hb))
  all_goals
    rename_i hheld
    clear hheld
    go_wp2_with (first | (go_at_call 21; (with_reducible refine (HCP.out _ (by (repeat' (first | with_reducible exact Below.refl _ _ | (with_reducible refine below_later_of ?_ ?_ _) | (with_reducible refine Below.alloc ?_ ?_ _) | (with_reducible refine Below.setCell ?_ ?_ _) | (with_reducible refine Below.drew ?_) | (simp; done) | (simp; omega) | omega)))).mono ?_); rintro e w' ⟨a3, c3, rfl, hv, hb⟩; have HV3 := Lib.hid hv.ints; clear hv; obtain ⟨p3, rfl⟩ := later_of_below hb; clear hb) | (go_at_call 20; (with_reducible refine (HRB.out _ _ (HV3.out.below (by (repeat' (first | with_reducible exact Below.refl _ _ | (with_reducible refine below_later_of ?_ ?_ _) | (with_reducible refine Below.alloc ?_ ?_ _) | (with_reducible refine Below.setCell ?_ ?_ _) | (with_reducible refine Below.drew ?_) | (simp; done) | (simp; omega) | omega))))).mono ?_); rintro e w' ⟨rfl, hb⟩; obtain ⟨p2, rfl⟩ := later_of_below hb; clear hb))
    go_ret
    exact ⟨rfl, HB1.out.trans (below_mono_of hs1 (by (repeat' (first | with_reducible exact Below.refl _ _ | (with_reducible refine below_later_of ?_ ?_ _) | (with_reducible refine Below.alloc ?_ ?_ _) | (with_reducible refine Below.setCell ?_ ?_ _) | (with_reducible refine Below.drew ?_) | (simp; done) | (simp; omega) | omega))))⟩
set_option maxRecDepth 20000 in
set_option maxHeartbeats 8000000 in
theorem turns_none (R C : Nat) (b0 b1 b2 b3 : Int) (zs : List Int) (v : Value) (w : World) (hm : MapOk R C zs) (hv : IntsV w v zs) (hn : zs.length ≤ 150) (ht : Tab w) {e0 : Int} (h0 : e0 ≠ 0)
    (h1 : ∀ W u, IntsV W u zs → Calls Tryd.prog 22 #[.agg #[.int .i64 R, .int .i64 C, u], .agg #[.int .i64 b0, .int .i64 b1, .int .i64 b2, .int .i64 b3]] W fun r w' => r = .returned (.tuple #[.int .i64 0, .int .i64 e0]) ∧ Below W.heap.size W w') :
    Calls Tryd.prog 6 #[.agg #[.int .i64 R, .int .i64 C, v], .agg #[.int .i64 b0, .int .i64 b1, .int .i64 b2, .int .i64 b3]] w fun e w' => e = .returned (.bool true) ∧ Below w.heap.size w w' := by
  have HT := Lib.hid ht
  have HCP := Lib.hid (show ∀ W, Below w.heap.size w W → _ from fun W hW => bCopyPhases R C zs v W (hv.below hW))
  have HRS := Lib.hid (show ∀ W u, IntsV W u zs → _ from fun W u h => fResidues_ok R C zs u W hm h)
  have HTA := Lib.hid h1
  obtain ⟨-, a, cap, rfl, -⟩ := hv
  have HLI := Lib.hid (fun W => lLight R C zs.length cap a W (decide_eq_true hn))
  have hne : (e0 != 0) = true := by simpa using h0
  clear ht hn h0 h1 hm
  generalize resM R C zs = D at *
  go_enter Tryd.func6, Tryd.ntmps6
  go_wp2_with (first | (go_at_call 9; (with_reducible refine (awake4 _ (HT.out.below (by (repeat' (first | with_reducible exact Below.refl _ _ | (with_reducible refine below_later_of ?_ ?_ _) | (with_reducible refine Below.alloc ?_ ?_ _) | (with_reducible refine Below.setCell ?_ ?_ _) | (with_reducible refine Below.drew ?_) | (simp; done) | (simp; omega) | omega))))).mono ?_); rintro e w' ⟨rfl, hb⟩; obtain ⟨pp, rfl⟩ := later_of_below hb; clear hb) | (go_at_call 19; (with_reducible refine (HLI.out _).mono ?_); rintro e w' ⟨rfl, hb⟩; obtain ⟨p0, rfl⟩ := later_of_below hb; clear hb))
  refine any_worldL (fun w' => (w'.cell? ⟨w.heap.size, 0, none⟩ = some (.int .i64 R) ∧ w'.cell? ⟨w.heap.size, 1, none⟩ = some (.int .i64 C) ∧ w'.cell? ⟨w.heap.size, 2, none⟩ = some (.slice a zs.length cap) ∧ w'.cell? ⟨w.heap.size + 1, 0, none⟩ = some (.int .i64 b0) ∧ w'.cell? ⟨w.heap.size + 1, 1, none⟩ = some (.int .i64 b1) ∧ w'.cell? ⟨w.heap.size + 1, 2, none⟩ = some (.int .i64 b2) ∧ w'.cell? ⟨w.heap.size + 1, 3, none⟩ = some (.int .i64 b3)) ∧ Below w.heap.size w w' ∧ w.heap.size + 1 < w'.heap.size) ⟨⟨(by (first | (simp [go_sem]; done) | simp [go_sem, ↓IntWalk.iteOmega])), (by (first | (simp [go_sem]; done) | simp [go_sem, ↓IntWalk.iteOmega])), (by (first | (simp [go_sem]; done) | simp [go_sem, ↓IntWalk.iteOmega])), (by (first | (simp [go_sem]; done) | simp [go_sem, ↓IntWalk.iteOmega])), (by (first | (simp [go_sem]; done) | simp [go_sem, ↓IntWalk.iteOmega])), (by (first | (simp [go_sem]; done) | simp [go_sem, ↓IntWalk.iteOmega])), (by (first | (simp [go_sem]; done) | simp [go_sem, ↓IntWalk.iteOmega]))⟩, (by (repeat' (first | with_reducible exact Below.refl _ _ | (with_reducible refine below_later_of ?_ ?_ _) | (with_reducible refine Below.alloc ?_ ?_ _) | (with_reducible refine Below.setCell ?_ ?_ _) | (with_reducible refine Below.drew ?_) | (simp; done) | (simp; omega) | omega))), by simp; omega⟩ ?_
  rintro W1 ⟨⟨k0, k1, k2, k3, k4, k5, k6⟩, hb1, hlt1⟩
  have HB1 := Lib.hid hb1
  have hs1 := hb1.size
  have HCP := Lib.hid (show ∀ W, Below W1.heap.size W1 W → _ from fun W hW => HCP.out W (HB1.out.trans (hW.mono hs1)))
  clear hb1
  go_wp2_with fail
  go_region_held3 (fun w' => w'.cell? ⟨w.heap.size, 0, none⟩ = some (.int .i64 R) ∧ w'.cell? ⟨w.heap.size, 1, none⟩ = some (.int .i64 C) ∧ w'.cell? ⟨w.heap.size, 2, none⟩ = some (.slice a zs.length cap) ∧ w'.cell? ⟨w.heap.size + 1, 0, none⟩ = some (.int .i64 b0) ∧ w'.cell? ⟨w.heap.size + 1, 1, none⟩ = some (.int .i64 b1) ∧ w'.cell? ⟨w.heap.size + 1, 2, none⟩ = some (.int .i64 b2) ∧ w'.cell? ⟨w.heap.size + 1, 3, none⟩ = some (.int .i64 b3)) (first | exact ⟨k0, k1, k2, k3, k4, k5, k6⟩ | ((first | (simp [go_sem, k0, k1, k2, k3, k4, k5, k6]; done) | simp [go_sem, k0, k1, k2, k3, k4, k5, k6, ↓IntWalk.iteOmega]); done)) (first | (go_at_call 21; (with_reducible refine (HCP.out _ (by (repeat' (first | with_reducible exact Below.refl _ _ | (with_reducible refine below_later_of ?_ ?_ _) | (with_reducible refine Below.alloc ?_ ?_ _) | (with_reducible refine Below.setCell ?_ ?_ _) | (with_reducible refine Below.drew ?_) | (simp; done) | (simp; omega) | omega)))).mono ?_); rintro e w' ⟨a1, c1, rfl, hv, hb⟩; have HV1 := Lib.hid hv.ints; clear hv; obtain ⟨p1, rfl⟩ := later_of_below hb; clear hb) | (go_at_call 22; (with_reducible refine (HTA.out _ _ (HV1.out.below (by (repeat' (first | with_reducible exact Below.refl _ _ | (with_reducible refine below_later_of ?_ ?_ _) | (with_reducible refine Below.alloc ?_ ?_ _) | (with_reducible refine Below.setCell ?_ ?_ _) | (with_reducible refine Below.drew ?_) | (simp; done) | (simp; omega) | omega))))).mono ?_); rintro e w' ⟨rfl, hb⟩; obtain ⟨p4, rfl⟩ := later_of_below hb; clear hb))
  all_goals
    rename_i hheld
    clear hheld
    go_wp2_with (first | (go_at_call 21; (with_reducible refine (HCP.out _ (by (repeat' (first | with_reducible exact Below.refl _ _ | (with_reducible refine below_later_of ?_ ?_ _) | (with_reducible refine Below.alloc ?_ ?_ _) | (with_reducible refine Below.setCell ?_ ?_ _) | (with_reducible refine Below.drew ?_) | (simp; done) | (simp; omega) | omega)))).mono ?_); rintro e w' ⟨a3, c3, rfl, hv, hb⟩; have HV3 := Lib.hid hv.ints; clear hv; obtain ⟨p3, rfl⟩ := later_of_below hb; clear hb) | (go_at_call 20; (with_reducible refine (HRS.out _ _ (HV3.out.below (by (repeat' (first | with_reducible exact Below.refl _ _ | (with_reducible refine below_later_of ?_ ?_ _) | (with_reducible refine Below.alloc ?_ ?_ _) | (with_reducible refine Below.setCell ?_ ?_ _) | (with_reducible refine Below.drew ?_) | (simp; done) | (simp; omega) | omega))))).mono ?_); rintro e w' ⟨u2, rfl, hr, hb⟩; have HR2 := Lib.hid hr; clear hr; obtain ⟨p2, rfl⟩ := later_of_below hb; clear hb))
    go_ret
    exact ⟨rfl, HB1.out.trans (below_mono_of hs1 (by (repeat' (first | with_reducible exact Below.refl _ _ | (with_reducible refine below_later_of ?_ ?_ _) | (with_reducible refine Below.alloc ?_ ?_ _) | (with_reducible refine Below.setCell ?_ ?_ _) | (with_reducible refine Below.drew ?_) | (simp; done) | (simp; omega) | omega))))⟩
set_option maxRecDepth 20000 in
set_option maxHeartbeats 16000000 in
theorem turns_ok (R C r0 c0 h wd : Nat) (zs : List Int) (v : Value) (w : World) (hm : MapOk R C zs) (hv : IntsV w v zs) (hn : zs.length ≤ 150) (ht : Tab w) (hr : r0 + h < R) (hc : c0 + wd < C) (hh : 1 ≤ h) (hw : 1 ≤ wd) (hwh : wholeP (zAt C (intAt zs)) r0 c0 h wd = true) :
    Calls Tryd.prog 6 #[.agg #[.int .i64 R, .int .i64 C, v], .agg #[.int .i64 r0, .int .i64 c0, .int .i64 h, .int .i64 wd]] w fun e w' => e = .returned (.bool true) ∧ Below w.heap.size w w' := by
  have HT := Lib.hid ht
  have HCP := Lib.hid (show ∀ W, Below w.heap.size w W → _ from fun W hW => bCopyPhases R C zs v W (hv.below hW))
  have HRS := Lib.hid (show ∀ W u, IntsV W u zs → _ from fun W u h => fResidues_ok R C zs u W hm h)
  obtain ⟨n, hn0⟩ : ∃ n, (aroundP (zAt C (intAt zs)) r0 c0 h wd).tdiv 4096 = n := ⟨_, rfl⟩
  have HTA := Lib.hid (show ∀ W u, IntsV W u zs → Calls Tryd.prog 22 #[.agg #[.int .i64 R, .int .i64 C, u], .agg #[.int .i64 r0, .int .i64 c0, .int .i64 h, .int .i64 wd]] W fun r w' => r = .returned (.tuple #[.int .i64 n, .int .i64 0]) ∧ Below W.heap.size W w' from fun W u hu => by
    have := fTurns_in R C r0 c0 h wd zs u W hm hu hr hc hh hw
    unfold taV taE at this
    rw [hwh, hn0] at this
    exact this)
  have HSM := Lib.hid (fun hvv => (resM_sum (r0 := r0) (c0 := c0) (h := h) (w := wd) hm hvv hr hc).trans hn0)
  have HV := Lib.hid hv
  obtain ⟨-, a, cap, rfl, -⟩ := hv
  have HLI := Lib.hid (fun W => lLight R C zs.length cap a W (decide_eq_true hn))
  have HMEM := Lib.hid (show ∀ x ∈ resM R C zs, x.r < R - 1 ∧ x.c < C - 1 ∧ (x.t = 1 ∨ x.t = -1) from fun x hx => resM_turn hx)
  have HDL := Lib.hid (resM_len hm)
  have hR := hm.r2
  have hC := hm.c2
  clear ht hm hwh hn0
  generalize resM R C zs = D at *
  go_enter Tryd.func6, Tryd.ntmps6
  go_wp2_with (first | (go_at_call 9; (with_reducible refine (awake4 _ (HT.out.below (by (repeat' (first | with_reducible exact Below.refl _ _ | (with_reducible refine below_later_of ?_ ?_ _) | (with_reducible refine Below.alloc ?_ ?_ _) | (with_reducible refine Below.setCell ?_ ?_ _) | (with_reducible refine Below.drew ?_) | (simp; done) | (simp; omega) | omega))))).mono ?_); rintro e w' ⟨rfl, hb⟩; obtain ⟨pp, rfl⟩ := later_of_below hb; clear hb) | (go_at_call 19; (with_reducible refine (HLI.out _).mono ?_); rintro e w' ⟨rfl, hb⟩; obtain ⟨p0, rfl⟩ := later_of_below hb; clear hb))
  refine any_worldL (fun w' => (w'.cell? ⟨w.heap.size, 0, none⟩ = some (.int .i64 R) ∧ w'.cell? ⟨w.heap.size, 1, none⟩ = some (.int .i64 C) ∧ w'.cell? ⟨w.heap.size, 2, none⟩ = some (.slice a zs.length cap) ∧ w'.cell? ⟨w.heap.size + 1, 0, none⟩ = some (.int .i64 r0) ∧ w'.cell? ⟨w.heap.size + 1, 1, none⟩ = some (.int .i64 c0) ∧ w'.cell? ⟨w.heap.size + 1, 2, none⟩ = some (.int .i64 h) ∧ w'.cell? ⟨w.heap.size + 1, 3, none⟩ = some (.int .i64 wd)) ∧ Below w.heap.size w w' ∧ w.heap.size + 1 < w'.heap.size) ⟨⟨(by (first | (simp [go_sem]; done) | simp [go_sem, ↓IntWalk.iteOmega])), (by (first | (simp [go_sem]; done) | simp [go_sem, ↓IntWalk.iteOmega])), (by (first | (simp [go_sem]; done) | simp [go_sem, ↓IntWalk.iteOmega])), (by (first | (simp [go_sem]; done) | simp [go_sem, ↓IntWalk.iteOmega])), (by (first | (simp [go_sem]; done) | simp [go_sem, ↓IntWalk.iteOmega])), (by (first | (simp [go_sem]; done) | simp [go_sem, ↓IntWalk.iteOmega])), (by (first | (simp [go_sem]; done) | simp [go_sem, ↓IntWalk.iteOmega]))⟩, (by (repeat' (first | with_reducible exact Below.refl _ _ | (with_reducible refine below_later_of ?_ ?_ _) | (with_reducible refine Below.alloc ?_ ?_ _) | (with_reducible refine Below.setCell ?_ ?_ _) | (with_reducible refine Below.drew ?_) | (simp; done) | (simp; omega) | omega))), by simp; omega⟩ ?_
  rintro W1 ⟨⟨k0, k1, k2, k3, k4, k5, k6⟩, hb1, hlt1⟩
  have HB1 := Lib.hid hb1
  have hs1 := hb1.size
  have HCP := Lib.hid (show ∀ W, Below W1.heap.size W1 W → _ from fun W hW => HCP.out W (HB1.out.trans (hW.mono hs1)))
  clear hb1
  go_wp2_with fail
  go_region_held3 (fun w' => w'.cell? ⟨w.heap.size, 0, none⟩ = some (.int .i64 R) ∧ w'.cell? ⟨w.heap.size, 1, none⟩ = some (.int .i64 C) ∧ w'.cell? ⟨w.heap.size, 2, none⟩ = some (.slice a zs.length cap) ∧ w'.cell? ⟨w.heap.size + 1, 0, none⟩ = some (.int .i64 r0) ∧ w'.cell? ⟨w.heap.size + 1, 1, none⟩ = some (.int .i64 c0) ∧ w'.cell? ⟨w.heap.size + 1, 2, none⟩ = some (.int .i64 h) ∧ w'.cell? ⟨w.heap.size + 1, 3, none⟩ = some (.int .i64 wd)) (first | exact ⟨k0, k1, k2, k3, k4, k5, k6⟩ | ((first | (simp [go_sem, k0, k1, k2, k3, k4, k5, k6]; done) | simp [go_sem, k0, k1, k2, k3, k4, k5, k6, ↓IntWalk.iteOmega]); done)) (first | (go_at_call 21; (with_reducible refine (HCP.out _ (by (repeat' (first | with_reducible exact Below.refl _ _ | (with_reducible refine below_later_of ?_ ?_ _) | (with_reducible refine Below.alloc ?_ ?_ _) | (with_reducible refine Below.setCell ?_ ?_ _) | (with_reducible refine Below.drew ?_) | (simp; done) | (simp; omega) | omega)))).mono ?_); rintro e w' ⟨a1, c1, rfl, hv, hb⟩; have HV1 := Lib.hid hv.ints; clear hv; obtain ⟨p1, rfl⟩ := later_of_below hb; clear hb) | (go_at_call 22; (with_reducible refine (HTA.out _ _ (HV1.out.below (by (repeat' (first | with_reducible exact Below.refl _ _ | (with_reducible refine below_later_of ?_ ?_ _) | (with_reducible refine Below.alloc ?_ ?_ _) | (with_reducible refine Below.setCell ?_ ?_ _) | (with_reducible refine Below.drew ?_) | (simp; done) | (simp; omega) | omega))))).mono ?_); rintro e w' ⟨rfl, hb⟩; obtain ⟨p4, rfl⟩ := later_of_below hb; clear hb))
  all_goals
    rename_i hheld
    clear hheld
    go_wp2_with (first | (go_at_call 21; (with_reducible refine (HCP.out _ (by (repeat' (first | with_reducible exact Below.refl _ _ | (with_reducible refine below_later_of ?_ ?_ _) | (with_reducible refine Below.alloc ?_ ?_ _) | (with_reducible refine Below.setCell ?_ ?_ _) | (with_reducible refine Below.drew ?_) | (simp; done) | (simp; omega) | omega)))).mono ?_); rintro e w' ⟨a3, c3, rfl, hv, hb⟩; have HV3 := Lib.hid hv.ints; clear hv; obtain ⟨p3, rfl⟩ := later_of_below hb; clear hb) | (go_at_call 20; (with_reducible refine (HRS.out _ _ (HV3.out.below (by (repeat' (first | with_reducible exact Below.refl _ _ | (with_reducible refine below_later_of ?_ ?_ _) | (with_reducible refine Below.alloc ?_ ?_ _) | (with_reducible refine Below.setCell ?_ ?_ _) | (with_reducible refine Below.drew ?_) | (simp; done) | (simp; omega) | omega))))).mono ?_); rintro e w' ⟨u2, rfl, hr, hb⟩; have HR2 := Lib.hid hr; clear hr; obtain ⟨p2, rfl⟩ := later_of_below hb; clear hb))
    refine any_worldL (fun w' => (w'.cell? ⟨w.heap.size, 2, none⟩ = some (.slice a zs.length cap) ∧ w'.cell? ⟨w.heap.size + 1, 0, none⟩ = some (.int .i64 r0) ∧ w'.cell? ⟨w.heap.size + 1, 1, none⟩ = some (.int .i64 c0) ∧ w'.cell? ⟨w.heap.size + 1, 2, none⟩ = some (.int .i64 h) ∧ w'.cell? ⟨w.heap.size + 1, 3, none⟩ = some (.int .i64 wd)) ∧ Below w.heap.size w w' ∧ w.heap.size + 1 < w'.heap.size ∧ RsV w' u2 D) ⟨⟨(by (first | (simp [go_sem, k2, k3, k4, k5, k6]; done) | simp [go_sem, k2, k3, k4, k5, k6, ↓IntWalk.iteOmega])), (by (first | (simp [go_sem, k2, k3, k4, k5, k6]; done) | simp [go_sem, k2, k3, k4, k5, k6, ↓IntWalk.iteOmega])), (by (first | (simp [go_sem, k2, k3, k4, k5, k6]; done) | simp [go_sem, k2, k3, k4, k5, k6, ↓IntWalk.iteOmega])), (by (first | (simp [go_sem, k2, k3, k4, k5, k6]; done) | simp [go_sem, k2, k3, k4, k5, k6, ↓IntWalk.iteOmega])), (by (first | (simp [go_sem, k2, k3, k4, k5, k6]; done) | simp [go_sem, k2, k3, k4, k5, k6, ↓IntWalk.iteOmega]))⟩, HB1.out.trans (below_mono_of hs1 (by (repeat' (first | with_reducible exact Below.refl _ _ | (with_reducible refine below_later_of ?_ ?_ _) | (with_reducible refine Below.alloc ?_ ?_ _) | (with_reducible refine Below.setCell ?_ ?_ _) | (with_reducible refine Below.drew ?_) | (simp; done) | (simp; omega) | omega)))), by simp; omega, HR2.out⟩ ?_
    clear k0 k1 k2 k3 k4 k5 k6 HR2 HV1 HV3 HCP HRS HTA HLI HT
    rintro W2 ⟨⟨k2, k3, k4, k5, k6⟩, hb2, hlt2, hr2⟩
    have HB2 := Lib.hid hb2
    have HK := Lib.hid (And.intro k2 (And.intro k3 (And.intro k4 (And.intro k5 k6))))
    have HV2 := Lib.hid (HV.out.below hb2)
    clear hb2 k2 k3 k4 k5 k6
    have HR2 := Lib.hid hr2
    obtain ⟨-, ua, uc, rfl, -⟩ := hr2
    go_wp2
    go_loopw [9] (fun i wr => ∃ k : Nat, k ≤ zs.length ∧ i = .int .i64 k ∧ Below W2.heap.size W2 wr ∧ ∀ j, j < k → nvB (intAt zs j) = true) (fun i _ => zs.length - (intOf i).toNat)
    case atStart => exact ⟨0, Nat.zero_le _, rfl, Below.refl _ _, fun j hj => absurd hj (Nat.not_lt_zero _)⟩
    case round =>
      obtain ⟨k, hk, rfl, hbz, hz⟩ := hrel
      have HZ := Lib.hid hz
      have HX := Lib.hid hbz
      have hsz := hbz.size
      have x2 := (hbz.cell (p := ⟨w.heap.size, 2, none⟩) (show w.heap.size < W2.heap.size by omega)).trans HK.out.1
      by_cases hlt : k < zs.length
      · have hdk : decide ((k : Int) < (zs.length : Int)) = true := by simp; omega
        have hk0 : (0 : Int) ≤ (k : Int) := by omega
        have hk1 : (k : Int) < (zs.length : Int) := by omega
        obtain ⟨-, a9, cap9, he9, h9⟩ := HV2.out
        simp only [Value.slice.injEq, true_and] at he9
        obtain ⟨rfl, rfl⟩ := he9
        obtain ⟨b, off, rfl, hbw, hce⟩ := h9 (by omega)
        have ck := (hbz.cell (p := ⟨b, off + k, none⟩) hbw).trans (hce k hlt)
        clear hbz hz h9 hce
        by_cases hp : intAt zs k = 1000000000000
        · have hp1 : (intAt zs k == 1000000000000) = true := by simpa using hp
          clear hp
          generalize intAt zs k = p at *
          go_wp2
          go_ret
          exact ⟨rfl, HB2.out.trans (HX.out.mono HB2.out.size)⟩
        · have hp1 : (intAt zs k == 1000000000000) = false := by simpa using hp
          have HP := Lib.hid (show nvB (intAt zs k) = true by unfold nvB; simpa using hp)
          clear hp
          generalize hpp : intAt zs k = p at ck hp1
          clear hpp
          go_wp2
          go_roundw
          case rel => exact ⟨k + 1, by omega, by go_num, HX.out, fun j hj => by rcases Nat.lt_succ_iff_lt_or_eq.1 hj with h | rfl; exact HZ.out j h; exact HP.out⟩
          case measure => simp [intOf]; omega
      · obtain rfl : k = zs.length := by omega
        have hdk : decide ((zs.length : Int) < (zs.length : Int)) = false := by simp
        have HSE := Lib.hid (HSM.out hz)
        have x3 := (hbz.cell (p := ⟨w.heap.size + 1, 0, none⟩) hlt2).trans HK.out.2.1
        clear hbz hz HSM x3
        go_wp2
        go_loopw [10, 11] (fun s i wr2 => ∃ k : Nat, k ≤ D.length ∧ i = .int .i64 k ∧ s = .int .i64 (resSumN (inBox r0 c0 h wd) D k) ∧ Below W2.heap.size W2 wr2) (fun _ i _ => D.length - (intOf i).toNat)
        case atStart => exact ⟨0, Nat.zero_le _, rfl, rfl, HX.out⟩
        case round =>
          clear x2
          obtain ⟨k, hk, rfl, rfl, hbz⟩ := hrel
          have HX := Lib.hid hbz
          have hsz := hbz.size
          by_cases hlt : k < D.length
          · have hdk : decide ((k : Int) < (D.length : Int)) = true := by simp; omega
            have hk0 : (0 : Int) ≤ (k : Int) := by omega
            have hk1 : (k : Int) < (D.length : Int) := by omega
            obtain ⟨-, a9, cap9, he9, h9⟩ := HR2.out
            simp only [Value.slice.injEq, true_and] at he9
            obtain ⟨rfl, rfl⟩ := he9
            obtain ⟨b, rfl, hbw, hce⟩ := h9 (by omega)
            obtain ⟨x, hx⟩ : ∃ x, D[k]? = some x := ⟨_, List.getElem?_eq_getElem hlt⟩
            obtain ⟨e0, e1, e2⟩ := hce k x hx
            replace e0 := (hbz.cell (p := ⟨b, k * 3, none⟩) hbw).trans e0
            replace e1 := (hbz.cell (p := ⟨b, k * 3 + 1, none⟩) hbw).trans e1
            replace e2 := (hbz.cell (p := ⟨b, k * 3 + 2, none⟩) hbw).trans e2
            have y3 := (hbz.cell (p := ⟨w.heap.size + 1, 0, none⟩) hlt2).trans HK.out.2.1
            have y4 := (hbz.cell (p := ⟨w.heap.size + 1, 1, none⟩) hlt2).trans HK.out.2.2.1
            have y5 := (hbz.cell (p := ⟨w.heap.size + 1, 2, none⟩) hlt2).trans HK.out.2.2.2.1
            have y6 := (hbz.cell (p := ⟨w.heap.size + 1, 3, none⟩) hlt2).trans HK.out.2.2.2.2
            obtain ⟨hxr, hxc, hxt⟩ := HMEM.out x (List.mem_of_getElem? hx)
            have HSN0 := resSumN_succ (inBox r0 c0 h wd) D hx
            have hbd : -(k : Int) ≤ resSumN (inBox r0 c0 h wd) D k ∧ resSumN (inBox r0 c0 h wd) D k ≤ k := by
              have := resSum_bd (inBox r0 c0 h wd) (D.take k) (fun y hy => by
                obtain ⟨-, -, ht⟩ := HMEM.out y (List.mem_of_mem_take hy)
                omega)
              rw [List.length_take, Nat.min_eq_left (by omega)] at this
              exact this
            obtain ⟨hbd1, hbd2⟩ := hbd
            have hdl := HDL.out
            obtain ⟨q1, hq1⟩ : ∃ q1, inE (r0 : Int) ((r0 : Int) + h - 1) x.r = q1 := ⟨_, rfl⟩
            obtain ⟨q2, hq2⟩ : ∃ q2, inE (c0 : Int) ((c0 : Int) + wd - 1) x.c = q2 := ⟨_, rfl⟩
            have HW1 := Lib.hid (fun W => bWithin (x.r : Int) (r0 : Int) ((r0 : Int) + h - 1) W hq1)
            have HW2 := Lib.hid (fun W => bWithin (x.c : Int) (c0 : Int) ((c0 : Int) + wd - 1) W hq2)
            have hbx : inBox r0 c0 h wd x = (q1 && q2) := by unfold inBox; rw [hq1, hq2]
            rw [hbx] at HSN0
            have t1 : (x.t != 1) = true ∧ (x.t != -1) = false ∨ (x.t != 1) = false := by
              rcases hxt with h1 | h1 <;> rw [h1]
              · exact .inr rfl
              · exact .inl ⟨rfl, rfl⟩
            have htb : -1 ≤ x.t ∧ x.t ≤ 1 := by omega
            obtain ⟨htb1, htb2⟩ := htb
            have hbr : b < wr.heap.size := by omega
            generalize x.t = t at *
            generalize x.r = xr at *
            generalize x.c = xc at *
            generalize hss : resSumN (inBox r0 c0 h wd) D k = s at *
            clear hbz hce h9 hx hxt hq1 hq2 hbx hss
            rcases t1 with ⟨t1, t2⟩ | t1
            · cases q1
              · have HSN := Lib.hid (show resSumN (inBox r0 c0 h wd) D (k + 1) = s by rw [HSN0]; simp)
                clear HSN0
                go_wp2
                refine wp_region_calm (by kernel_rfl) (by kernel_rfl) ?_
                repeat (go_big_quiet_step (first | (go_at_call 27; with_reducible exact calm_same (HW1.out _)) | (go_at_call 27; with_reducible exact calm_same (HW2.out _))))
                refine wpQuiet_nil ?_
                rintro _ ⟨pw, rfl⟩
                go_wp2
                go_roundw
                case rel => exact ⟨k + 1, by omega, by go_num, by rw [HSN.out], HX.out.trans (below_mono_of hsz (by (repeat' (first | with_reducible exact Below.refl _ _ | (with_reducible refine below_later_of ?_ ?_ _) | (with_reducible refine Below.alloc ?_ ?_ _) | (with_reducible refine Below.setCell ?_ ?_ _) | (with_reducible refine Below.drew ?_) | (simp; done) | (simp; omega) | omega))))⟩
                case measure => simp [intOf]; omega
              · cases q2
                · have HSN := Lib.hid (show resSumN (inBox r0 c0 h wd) D (k + 1) = s by rw [HSN0]; simp)
                  clear HSN0
                  go_wp2
                  refine wp_region_calm (by kernel_rfl) (by kernel_rfl) ?_
                  repeat (go_big_quiet_step (first | (go_at_call 27; with_reducible exact calm_same (HW1.out _)) | (go_at_call 27; with_reducible exact calm_same (HW2.out _))))
                  refine wpQuiet_nil ?_
                  rintro _ ⟨pw, rfl⟩
                  go_wp2
                  go_roundw
                  case rel => exact ⟨k + 1, by omega, by go_num, by rw [HSN.out], HX.out.trans (below_mono_of hsz (by (repeat' (first | with_reducible exact Below.refl _ _ | (with_reducible refine below_later_of ?_ ?_ _) | (with_reducible refine Below.alloc ?_ ?_ _) | (with_reducible refine Below.setCell ?_ ?_ _) | (with_reducible refine Below.drew ?_) | (simp; done) | (simp; omega) | omega))))⟩
                  case measure => simp [intOf]; omega
                · have HSN := Lib.hid (show resSumN (inBox r0 c0 h wd) D (k + 1) = s + t by rw [HSN0]; simp)
                  clear HSN0
                  go_wp2
                  refine wp_region_calm (by kernel_rfl) (by kernel_rfl) ?_
                  repeat (go_big_quiet_step (first | (go_at_call 27; with_reducible exact calm_same (HW1.out _)) | (go_at_call 27; with_reducible exact calm_same (HW2.out _))))
                  refine wpQuiet_nil ?_
                  rintro _ ⟨pw, rfl⟩
                  go_wp2
                  go_roundw
                  case rel => exact ⟨k + 1, by omega, by go_num, by rw [HSN.out], HX.out.trans (below_mono_of hsz (by (repeat' (first | with_reducible exact Below.refl _ _ | (with_reducible refine below_later_of ?_ ?_ _) | (with_reducible refine Below.alloc ?_ ?_ _) | (with_reducible refine Below.setCell ?_ ?_ _) | (with_reducible refine Below.drew ?_) | (simp; done) | (simp; omega) | omega))))⟩
                  case measure => simp [intOf]; omega
            · cases q1
              · have HSN := Lib.hid (show resSumN (inBox r0 c0 h wd) D (k + 1) = s by rw [HSN0]; simp)
                clear HSN0
                go_wp2
                refine wp_region_calm (by kernel_rfl) (by kernel_rfl) ?_
                repeat (go_big_quiet_step (first | (go_at_call 27; with_reducible exact calm_same (HW1.out _)) | (go_at_call 27; with_reducible exact calm_same (HW2.out _))))
                refine wpQuiet_nil ?_
                rintro _ ⟨pw, rfl⟩
                go_wp2
                go_roundw
                case rel => exact ⟨k + 1, by omega, by go_num, by rw [HSN.out], HX.out.trans (below_mono_of hsz (by (repeat' (first | with_reducible exact Below.refl _ _ | (with_reducible refine below_later_of ?_ ?_ _) | (with_reducible refine Below.alloc ?_ ?_ _) | (with_reducible refine Below.setCell ?_ ?_ _) | (with_reducible refine Below.drew ?_) | (simp; done) | (simp; omega) | omega))))⟩
                case measure => simp [intOf]; omega
              · cases q2
                · have HSN := Lib.hid (show resSumN (inBox r0 c0 h wd) D (k + 1) = s by rw [HSN0]; simp)
                  clear HSN0
                  go_wp2
                  refine wp_region_calm (by kernel_rfl) (by kernel_rfl) ?_
                  repeat (go_big_quiet_step (first | (go_at_call 27; with_reducible exact calm_same (HW1.out _)) | (go_at_call 27; with_reducible exact calm_same (HW2.out _))))
                  refine wpQuiet_nil ?_
                  rintro _ ⟨pw, rfl⟩
                  go_wp2
                  go_roundw
                  case rel => exact ⟨k + 1, by omega, by go_num, by rw [HSN.out], HX.out.trans (below_mono_of hsz (by (repeat' (first | with_reducible exact Below.refl _ _ | (with_reducible refine below_later_of ?_ ?_ _) | (with_reducible refine Below.alloc ?_ ?_ _) | (with_reducible refine Below.setCell ?_ ?_ _) | (with_reducible refine Below.drew ?_) | (simp; done) | (simp; omega) | omega))))⟩
                  case measure => simp [intOf]; omega
                · have HSN := Lib.hid (show resSumN (inBox r0 c0 h wd) D (k + 1) = s + t by rw [HSN0]; simp)
                  clear HSN0
                  go_wp2
                  refine wp_region_calm (by kernel_rfl) (by kernel_rfl) ?_
                  repeat (go_big_quiet_step (first | (go_at_call 27; with_reducible exact calm_same (HW1.out _)) | (go_at_call 27; with_reducible exact calm_same (HW2.out _))))
                  refine wpQuiet_nil ?_
                  rintro _ ⟨pw, rfl⟩
                  go_wp2
                  go_roundw
                  case rel => exact ⟨k + 1, by omega, by go_num, by rw [HSN.out], HX.out.trans (below_mono_of hsz (by (repeat' (first | with_reducible exact Below.refl _ _ | (with_reducible refine below_later_of ?_ ?_ _) | (with_reducible refine Below.alloc ?_ ?_ _) | (with_reducible refine Below.setCell ?_ ?_ _) | (with_reducible refine Below.drew ?_) | (simp; done) | (simp; omega) | omega))))⟩
                  case measure => simp [intOf]; omega
          · obtain rfl : k = D.length := by omega
            have hdk : decide ((D.length : Int) < (D.length : Int)) = false := by simp
            have hse : resSumN (inBox r0 c0 h wd) D D.length = n := by unfold resSumN; rw [List.take_length]; exact HSE.out
            have hnn : (n == n) = true := beq_self_eq_true _
            rw [hse]
            clear hbz hse
            go_wp2
            go_ret
            exact ⟨rfl, HB2.out.trans (HX.out.mono HB2.out.size)⟩
theorem turns_any (R C : Int) (b0 b1 b2 b3 : Int) (zs : List Int) (v : Value) (w : World) (hx : IntsX w v zs) (ht : Tab w) :
    Calls Tryd.prog 6 #[.agg #[.int .i64 R, .int .i64 C, v], .agg #[.int .i64 b0, .int .i64 b1, .int .i64 b2, .int .i64 b3]] w fun e w' => e = .returned (.bool true) ∧ Below w.heap.size w w' := by
  by_cases hn : zs.length ≤ 150
  · have hv := hx.ints (by omega)
    by_cases h0 : (mapE R C zs).2 = 0
    · obtain ⟨R, C, rfl, rfl, hm⟩ := mapE_zero h0
      cases hb : boxB R C b0 b1 b2 b3
      · exact turns_none R C b0 b1 b2 b3 zs v w hm hv hn ht (e0 := 2) (by decide) (fun W u h => fTurns_out R C b0 b1 b2 b3 zs u W hm h hb)
      · obtain ⟨r, c, h, wd, rfl, rfl, rfl, rfl, h1, h2, h3, h4⟩ := boxB_nat hb
        cases hwh : wholeP (zAt C (intAt zs)) r c h wd
        · refine turns_none R C r c h wd zs v w hm hv hn ht (e0 := 31) (by decide) (fun W u hu => ?_)
          have := fTurns_in R C r c h wd zs u W hm hu h1 h2 h3 h4
          unfold taV taE at this
          rw [hwh] at this
          exact this
        · exact turns_ok R C r c h wd zs v w hm hv hn ht h1 h2 h3 h4 hwh
    · exact turns_bad R C b0 b1 b2 b3 zs v w hv hn ht rfl h0
  · exact turns_light R C b0 b1 b2 b3 zs v w hx hn ht
end Go.Proofs.YtfiioadmpjmmgaaDoor
