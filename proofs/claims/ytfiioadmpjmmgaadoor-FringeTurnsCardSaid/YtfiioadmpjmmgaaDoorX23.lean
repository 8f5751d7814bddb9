/- Chapter 4: the law FringeResidues returns true. -/
import Derived.Test.YtfiioadmpjmmgaaDoorX20
import Derived.Test.YtfiioadmpjmmgaaDoorU72
import Derived.Deep.CutRange
import Derived.Deep.RegionHeld3
namespace Go.Proofs.YtfiioadmpjmmgaaDoor
set_option linter.unusedVariables false
set_option linter.unusedSimpArgs false
open Go.RowKit Ntt
theorem any_worldL {G : World → Prop} {w : World} (F : World → Prop) (hf : F w) (h : ∀ W, F W → G W) : G w := h w hf
set_option maxRecDepth 20000 in
set_option maxHeartbeats 8000000 in
theorem residues_light (R C : Int) (b0 b1 b2 b3 : Int) (zs : List Int) (v : Value) (w : World) (hx : IntsX w v zs) (hn : ¬ zs.length ≤ 150) (ht : Tab w) :
    Calls Tryd.prog 5 #[.agg #[.int .i64 R, .int .i64 C, v], .agg #[.int .i64 b0, .int .i64 b1, .int .i64 b2, .int .i64 b3]] w fun e w' => e = .returned (.bool true) ∧ Below w.heap.size w w' := by
  have HT := Lib.hid ht
  obtain ⟨⟨a, cap, rfl, -⟩, -⟩ := hx
  have HLI := Lib.hid (fun W => lLight R C zs.length cap a W (decide_eq_false hn))
  clear ht hn
  go_enter Tryd.func5, Tryd.ntmps5
  go_wp2_with (first | (go_at_call 9; (with_reducible refine (awake4 _ (HT.out.below (by (repeat' (first | with_reducible exact Below.refl _ _ | (with_reducible refine below_later_of ?_ ?_ _) | (with_reducible refine Below.alloc ?_ ?_ _) | (with_reducible refine Below.setCell ?_ ?_ _) | (with_reducible refine Below.drew ?_) | (simp; done) | (simp; omega) | omega))))).mono ?_); rintro e w' ⟨rfl, hb⟩; obtain ⟨pp, rfl⟩ := later_of_below hb; clear hb) | (go_at_call 19; (with_reducible refine (HLI.out _).mono ?_); rintro e w' ⟨rfl, hb⟩; obtain ⟨p0, rfl⟩ := later_of_below hb; clear hb))
  go_ret
  exact ⟨rfl, (by (repeat' (first | with_reducible exact Below.refl _ _ | (with_reducible refine below_later_of ?_ ?_ _) | (with_reducible refine Below.alloc ?_ ?_ _) | (with_reducible refine Below.setCell ?_ ?_ _) | (with_reducible refine Below.drew ?_) | (simp; done) | (simp; omega) | omega)))⟩
set_option maxRecDepth 20000 in
set_option maxHeartbeats 8000000 in
theorem residues_bad (R C : Int) (b0 b1 b2 b3 : Int) (zs : List Int) (v : Value) (w : World) (hv : IntsV w v zs) (hn : zs.length ≤ 150) (ht : Tab w) {i0 : Nat} {e0 : Int} (he : mapE R C zs = (i0, e0)) (h0 : e0 ≠ 0) :
    Calls Tryd.prog 5 #[.agg #[.int .i64 R, .int .i64 C, v], .agg #[.int .i64 b0, .int .i64 b1, .int .i64 b2, .int .i64 b3]] w fun e w' => e = .returned (.bool true) ∧ Below w.heap.size w w' := by
  have HT := Lib.hid ht
  have HCP := Lib.hid (show ∀ W, Below w.heap.size w W → _ from fun W hW => bCopyPhases R C zs v W (hv.below hW))
  have HRB := Lib.hid (show ∀ W u, IntsV W u zs → _ from fun W u h => fResidues_bad R C zs u W (by omega) h (e0 := e0) (by rw [he]) h0)
  have HTA := Lib.hid (show ∀ W u, IntsV W u zs → _ from fun W u h => fTurns_bad R C b0 b1 b2 b3 zs u W (by omega) h (e0 := e0) (by rw [he]) h0)
  have HCM := Lib.hid (show ∀ W, Below w.heap.size w W → _ from fun W hW => rCheckMap R C zs v W (by omega) (hv.below hW) he)
  obtain ⟨-, a, cap, rfl, -⟩ := hv
  have HLI := Lib.hid (fun W => lLight R C zs.length cap a W (decide_eq_true hn))
  have hne : (e0 != 0) = true := by simpa using h0
  have hee : (e0 == e0) = true := beq_self_eq_true _
  clear ht hn he h0
  go_enter Tryd.func5, Tryd.ntmps5
  go_wp2_with (first | (go_at_call 9; (with_reducible refine (awake4 _ (HT.out.below (by (repeat' (first | with_reducible exact Below.refl _ _ | (with_reducible refine below_later_of ?_ ?_ _) | (with_reducible refine Below.alloc ?_ ?_ _) | (with_reducible refine Below.setCell ?_ ?_ _) | (with_reducible refine Below.drew ?_) | (simp; done) | (simp; omega) | omega))))).mono ?_); rintro e w' ⟨rfl, hb⟩; obtain ⟨pp, rfl⟩ := later_of_below hb; clear hb) | (go_at_call 19; (with_reducible refine (HLI.out _).mono ?_); rintro e w' ⟨rfl, hb⟩; obtain ⟨p0, rfl⟩ := later_of_below hb; clear hb) | (go_at_call 21; (with_reducible refine (HCP.out _ (by (repeat' (first | with_reducible exact Below.refl _ _ | (with_reducible refine below_later_of ?_ ?_ _) | (with_reducible refine Below.alloc ?_ ?_ _) | (with_reducible refine Below.setCell ?_ ?_ _) | (with_reducible refine Below.drew ?_) | (simp; done) | (simp; omega) | omega)))).mono ?_); rintro e w' ⟨a1, c1, rfl, hv, hb⟩; have HV1 := Lib.hid hv.ints; clear hv; obtain ⟨p1, rfl⟩ := later_of_below hb; clear hb) | (go_at_call 20; (with_reducible refine (HRB.out _ _ (HV1.out.below (by (repeat' (first | with_reducible exact Below.refl _ _ | (with_reducible refine below_later_of ?_ ?_ _) | (with_reducible refine Below.alloc ?_ ?_ _) | (with_reducible refine Below.setCell ?_ ?_ _) | (with_reducible refine Below.drew ?_) | (simp; done) | (simp; omega) | omega))))).mono ?_); rintro e w' ⟨rfl, hb⟩; obtain ⟨p2, rfl⟩ := later_of_below hb; clear hb))
  refine any_worldL (fun w' => (w'.cell? ⟨w.heap.size, 0, none⟩ = some (.int .i64 R) ∧ w'.cell? ⟨w.heap.size, 1, none⟩ = some (.int .i64 C) ∧ w'.cell? ⟨w.heap.size, 2, none⟩ = some (.slice a zs.length cap) ∧ w'.cell? ⟨w.heap.size + 1, 0, none⟩ = some (.int .i64 b0) ∧ w'.cell? ⟨w.heap.size + 1, 1, none⟩ = some (.int .i64 b1) ∧ w'.cell? ⟨w.heap.size + 1, 2, none⟩ = some (.int .i64 b2) ∧ w'.cell? ⟨w.heap.size + 1, 3, none⟩ = some (.int .i64 b3)) ∧ Below w.heap.size w w' ∧ w.heap.size + 1 < w'.heap.size) ⟨⟨(by (first | (simp [go_sem]; done) | simp [go_sem, ↓IntWalk.iteOmega])), (by (first | (simp [go_sem]; done) | simp [go_sem, ↓IntWalk.iteOmega])), (by (first | (simp [go_sem]; done) | simp [go_sem, ↓IntWalk.iteOmega])), (by (first | (simp [go_sem]; done) | simp [go_sem, ↓IntWalk.iteOmega])), (by (first | (simp [go_sem]; done) | simp [go_sem, ↓IntWalk.iteOmega])), (by (first | (simp [go_sem]; done) | simp [go_sem, ↓IntWalk.iteOmega])), (by (first | (simp [go_sem]; done) | simp [go_sem, ↓IntWalk.iteOmega]))⟩, (by (repeat' (first | with_reducible exact Below.refl _ _ | (with_reducible refine below_later_of ?_ ?_ _) | (with_reducible refine Below.alloc ?_ ?_ _) | (with_reducible refine Below.setCell ?_ ?_ _) | (with_reducible refine Below.drew ?_) | (simp; done) | (simp; omega) | omega))), by simp; omega⟩ ?_
  rintro W1 ⟨⟨k0, k1, k2, k3, k4, k5, k6⟩, hb1, hlt1⟩
  have HB1 := Lib.hid hb1
  have hs1 := hb1.size
  have HCP2 := Lib.hid (show ∀ W, Below W1.heap.size W1 W → _ from fun W hW => HCP.out W (HB1.out.trans (hW.mono hs1)))
  have HCM := Lib.hid (show ∀ W, Below W1.heap.size W1 W → _ from fun W hW => HCM.out W (HB1.out.trans (hW.mono hs1)))
  clear hb1
  go_wp2_with fail
  go_region_held3 (fun w' => w'.cell? ⟨w.heap.size, 0, none⟩ = some (.int .i64 R) ∧ w'.cell? ⟨w.heap.size, 1, none⟩ = some (.int .i64 C) ∧ w'.cell? ⟨w.heap.size, 2, none⟩ = some (.slice a zs.length cap) ∧ w'.cell? ⟨w.heap.size + 1, 0, none⟩ = some (.int .i64 b0) ∧ w'.cell? ⟨w.heap.size + 1, 1, none⟩ = some (.int .i64 b1) ∧ w'.cell? ⟨w.heap.size + 1, 2, none⟩ = some (.int .i64 b2) ∧ w'.cell? ⟨w.heap.size + 1, 3, none⟩ = some (.int .i64 b3)) (first | exact ⟨k0, k1, k2, k3, k4, k5, k6⟩ | ((first | (simp [go_sem, k0, k1, k2, k3, k4, k5, k6]; done) | simp [go_sem, k0, k1, k2, k3, k4, k5, k6, ↓IntWalk.iteOmega]); done)) (first | (go_at_call 21; (with_reducible refine (HCP2.out _ (by (repeat' (first | with_reducible exact Below.refl _ _ | (with_reducible refine below_later_of ?_ ?_ _) | (with_reducible refine Below.alloc ?_ ?_ _) | (with_reducible refine Below.setCell ?_ ?_ _) | (with_reducible refine Below.drew ?_) | (simp; done) | (simp; omega) | omega)))).mono ?_); rintro e w' ⟨a3, c3, rfl, hv, hb⟩; have HV3 := Lib.hid hv.ints; clear hv; obtain ⟨p3, rfl⟩ := later_of_below hb; clear hb) | (go_at_call 22; (with_reducible refine (HTA.out _ _ (HV3.out.below (by (repeat' (first | with_reducible exact Below.refl _ _ | (with_reducible refine below_later_of ?_ ?_ _) | (with_reducible refine Below.alloc ?_ ?_ _) | (with_reducible refine Below.setCell ?_ ?_ _) | (with_reducible refine Below.drew ?_) | (simp; done) | (simp; omega) | omega))))).mono ?_); rintro e w' ⟨rfl, hb⟩; obtain ⟨p4, rfl⟩ := later_of_below hb; clear hb))
  all_goals
    rename_i hheld
    clear hheld
    go_wp2_with (first | (go_at_call 23; (with_reducible refine (HCM.out _ (by (repeat' (first | with_reducible exact Below.refl _ _ | (with_reducible refine below_later_of ?_ ?_ _) | (with_reducible refine Below.alloc ?_ ?_ _) | (with_reducible refine Below.setCell ?_ ?_ _) | (with_reducible refine Below.drew ?_) | (simp; done) | (simp; omega) | omega)))).mono ?_); rintro e w' ⟨rfl, hb⟩; obtain ⟨p5, rfl⟩ := later_of_below hb; clear hb))
    go_ret
    exact ⟨rfl, HB1.out.trans (below_mono_of hs1 (by (repeat' (first | with_reducible exact Below.refl _ _ | (with_reducible refine below_later_of ?_ ?_ _) | (with_reducible refine Below.alloc ?_ ?_ _) | (with_reducible refine Below.setCell ?_ ?_ _) | (with_reducible refine Below.drew ?_) | (simp; done) | (simp; omega) | omega))))⟩
set_option maxRecDepth 20000 in
set_option maxHeartbeats 8000000 in
theorem residues_ok (R C : Nat) (b0 b1 b2 b3 : Int) (zs : List Int) (v : Value) (w : World) (hm : MapOk R C zs) (hv : IntsV w v zs) (hn : zs.length ≤ 150) (ht : Tab w) {n e : Int}
    (h1 : ∀ W u, IntsV W u zs → Calls Tryd.prog 22 #[.agg #[.int .i64 R, .int .i64 C, u], .agg #[.int .i64 b0, .int .i64 b1, .int .i64 b2, .int .i64 b3]] W fun r w' => r = .returned (.tuple #[.int .i64 n, .int .i64 e]) ∧ Below W.heap.size W w')
    (h2 : ∀ W u, IntsV W u zs → Calls Tryd.prog 24 #[.agg #[.int .i64 R, .int .i64 C, u], .agg #[.int .i64 b0, .int .i64 b1, .int .i64 b2, .int .i64 b3]] W fun r w' => r = .returned (.tuple #[.int .i64 n, .int .i64 e]) ∧ Below W.heap.size W w') :
    Calls Tryd.prog 5 #[.agg #[.int .i64 R, .int .i64 C, v], .agg #[.int .i64 b0, .int .i64 b1, .int .i64 b2, .int .i64 b3]] w fun e w' => e = .returned (.bool true) ∧ Below w.heap.size w w' := by
  have HT := Lib.hid ht
  have HCP := Lib.hid (show ∀ W, Below w.heap.size w W → _ from fun W hW => bCopyPhases R C zs v W (hv.below hW))
  have HRS := Lib.hid (show ∀ W u, IntsV W u zs → _ from fun W u h => fResidues_ok R C zs u W hm h)
  have HTA := Lib.hid h1
  have HRT0 := Lib.hid (show ∀ W, Below w.heap.size w W → _ from fun W hW => h2 W v (hv.below hW))
  have HCM := Lib.hid (show ∀ W, Below w.heap.size w W → _ from fun W hW => rCheckMap R C zs v W (by omega) (hv.below hW) hm.err)
  have HRR := Lib.hid (show ∀ W, Below w.heap.size w W → _ from fun W hW => rResidues R C zs v W hm (hv.below hW))
  obtain ⟨-, a, cap, rfl, -⟩ := hv
  have HLI := Lib.hid (fun W => lLight R C zs.length cap a W (decide_eq_true hn))
  have d1 : (n == n) = true := beq_self_eq_true _
  have d2 : (e == e) = true := beq_self_eq_true _
  clear ht hn h1 h2 hm
  generalize resM R C zs = D at *
  go_enter Tryd.func5, Tryd.ntmps5
  go_wp2_with (first | (go_at_call 9; (with_reducible refine (awake4 _ (HT.out.below (by (repeat' (first | with_reducible exact Below.refl _ _ | (with_reducible refine below_later_of ?_ ?_ _) | (with_reducible refine Below.alloc ?_ ?_ _) | (with_reducible refine Below.setCell ?_ ?_ _) | (with_reducible refine Below.drew ?_) | (simp; done) | (simp; omega) | omega))))).mono ?_); rintro e w' ⟨rfl, hb⟩; obtain ⟨pp, rfl⟩ := later_of_below hb; clear hb) | (go_at_call 19; (with_reducible refine (HLI.out _).mono ?_); rintro e w' ⟨rfl, hb⟩; obtain ⟨p0, rfl⟩ := later_of_below hb; clear hb) | (go_at_call 21; (with_reducible refine (HCP.out _ (by (repeat' (first | with_reducible exact Below.refl _ _ | (with_reducible refine below_later_of ?_ ?_ _) | (with_reducible refine Below.alloc ?_ ?_ _) | (with_reducible refine Below.setCell ?_ ?_ _) | (with_reducible refine Below.drew ?_) | (simp; done) | (simp; omega) | omega)))).mono ?_); rintro e w' ⟨a1, c1, rfl, hv, hb⟩; have HV1 := Lib.hid hv.ints; clear hv; obtain ⟨p1, rfl⟩ := later_of_below hb; clear hb) | (go_at_call 20; (with_reducible refine (HRS.out _ _ (HV1.out.below (by (repeat' (first | with_reducible exact Below.refl _ _ | (with_reducible refine below_later_of ?_ ?_ _) | (with_reducible refine Below.alloc ?_ ?_ _) | (with_reducible refine Below.setCell ?_ ?_ _) | (with_reducible refine Below.drew ?_) | (simp; done) | (simp; omega) | omega))))).mono ?_); rintro e w' ⟨u2, rfl, hr, hb⟩; have HR2 := Lib.hid hr; clear hr; obtain ⟨p2, rfl⟩ := later_of_below hb; clear hb))
  refine any_worldL (fun w' => (w'.cell? ⟨w.heap.size, 0, none⟩ = some (.int .i64 R) ∧ w'.cell? ⟨w.heap.size, 1, none⟩ = some (.int .i64 C) ∧ w'.cell? ⟨w.heap.size, 2, none⟩ = some (.slice a zs.length cap) ∧ w'.cell? ⟨w.heap.size + 1, 0, none⟩ = some (.int .i64 b0) ∧ w'.cell? ⟨w.heap.size + 1, 1, none⟩ = some (.int .i64 b1) ∧ w'.cell? ⟨w.heap.size + 1, 2, none⟩ = some (.int .i64 b2) ∧ w'.cell? ⟨w.heap.size + 1, 3, none⟩ = some (.int .i64 b3)) ∧ Below w.heap.size w w' ∧ w.heap.size + 1 < w'.heap.size ∧ RsV w' u2 D) ⟨⟨(by (first | (simp [go_sem]; done) | simp [go_sem, ↓IntWalk.iteOmega])), (by (first | (simp [go_sem]; done) | simp [go_sem, ↓IntWalk.iteOmega])), (by (first | (simp [go_sem]; done) | simp [go_sem, ↓IntWalk.iteOmega])), (by (first | (simp [go_sem]; done) | simp [go_sem, ↓IntWalk.iteOmega])), (by (first | (simp [go_sem]; done) | simp [go_sem, ↓IntWalk.iteOmega])), (by (first | (simp [go_sem]; done) | simp [go_sem, ↓IntWalk.iteOmega])), (by (first | (simp [go_sem]; done) | simp [go_sem, ↓IntWalk.iteOmega]))⟩, (by (repeat' (first | with_reducible exact Below.refl _ _ | (with_reducible refine below_later_of ?_ ?_ _) | (with_reducible refine Below.alloc ?_ ?_ _) | (with_reducible refine Below.setCell ?_ ?_ _) | (with_reducible refine Below.drew ?_) | (simp; done) | (simp; omega) | omega))), by simp; omega, HR2.out⟩ ?_
  clear HR2
  rintro W1 ⟨⟨k0, k1, k2, k3, k4, k5, k6⟩, hb1, hlt1, hr2⟩
  have HB1 := Lib.hid hb1
  have HR2 := Lib.hid hr2
  have hs1 := hb1.size
  clear hr2
  have HCP2 := Lib.hid (show ∀ W, Below W1.heap.size W1 W → _ from fun W hW => HCP.out W (HB1.out.trans (hW.mono hs1)))
  have HCM := Lib.hid (show ∀ W, Below W1.heap.size W1 W → _ from fun W hW => HCM.out W (HB1.out.trans (hW.mono hs1)))
  have HRT := Lib.hid (show ∀ W, Below W1.heap.size W1 W → _ from fun W hW => HRT0.out W (HB1.out.trans (hW.mono hs1)))
  have HRR := Lib.hid (show ∀ W, Below W1.heap.size W1 W → _ from fun W hW => HRR.out W (HB1.out.trans (hW.mono hs1)))
  clear hb1
  go_wp2_with fail
  go_region_held3 (fun w' => w'.cell? ⟨w.heap.size, 0, none⟩ = some (.int .i64 R) ∧ w'.cell? ⟨w.heap.size, 1, none⟩ = some (.int .i64 C) ∧ w'.cell? ⟨w.heap.size, 2, none⟩ = some (.slice a zs.length cap) ∧ w'.cell? ⟨w.heap.size + 1, 0, none⟩ = some (.int .i64 b0) ∧ w'.cell? ⟨w.heap.size + 1, 1, none⟩ = some (.int .i64 b1) ∧ w'.cell? ⟨w.heap.size + 1, 2, none⟩ = some (.int .i64 b2) ∧ w'.cell? ⟨w.heap.size + 1, 3, none⟩ = some (.int .i64 b3)) (first | exact ⟨k0, k1, k2, k3, k4, k5, k6⟩ | ((first | (simp [go_sem, k0, k1, k2, k3, k4, k5, k6]; done) | simp [go_sem, k0, k1, k2, k3, k4, k5, k6, ↓IntWalk.iteOmega]); done)) (first | (go_at_call 21; (with_reducible refine (HCP2.out _ (by (repeat' (first | with_reducible exact Below.refl _ _ | (with_reducible refine below_later_of ?_ ?_ _) | (with_reducible refine Below.alloc ?_ ?_ _) | (with_reducible refine Below.setCell ?_ ?_ _) | (with_reducible refine Below.drew ?_) | (simp; done) | (simp; omega) | omega)))).mono ?_); rintro e w' ⟨a3, c3, rfl, hv, hb⟩; have HV3 := Lib.hid hv.ints; clear hv; obtain ⟨p3, rfl⟩ := later_of_below hb; clear hb) | (go_at_call 22; (with_reducible refine (HTA.out _ _ (HV3.out.below (by (repeat' (first | with_reducible exact Below.refl _ _ | (with_reducible refine below_later_of ?_ ?_ _) | (with_reducible refine Below.alloc ?_ ?_ _) | (with_reducible refine Below.setCell ?_ ?_ _) | (with_reducible refine Below.drew ?_) | (simp; done) | (simp; omega) | omega))))).mono ?_); rintro e w' ⟨rfl, hb⟩; obtain ⟨p4, rfl⟩ := later_of_below hb; clear hb))
  all_goals
    rename_i hheld
    clear hheld
    go_wp2_with (first | (go_at_call 23; (with_reducible refine (HCM.out _ (by (repeat' (first | with_reducible exact Below.refl _ _ | (with_reducible refine below_later_of ?_ ?_ _) | (with_reducible refine Below.alloc ?_ ?_ _) | (with_reducible refine Below.setCell ?_ ?_ _) | (with_reducible refine Below.drew ?_) | (simp; done) | (simp; omega) | omega)))).mono ?_); rintro e w' ⟨rfl, hb⟩; obtain ⟨p5, rfl⟩ := later_of_below hb; clear hb) | (go_at_call 24; (with_reducible refine (HRT.out _ (by (repeat' (first | with_reducible exact Below.refl _ _ | (with_reducible refine below_later_of ?_ ?_ _) | (with_reducible refine Below.alloc ?_ ?_ _) | (with_reducible refine Below.setCell ?_ ?_ _) | (with_reducible refine Below.drew ?_) | (simp; done) | (simp; omega) | omega)))).mono ?_); rintro e w' ⟨rfl, hb⟩; obtain ⟨p6, rfl⟩ := later_of_below hb; clear hb) | (go_at_call 26; (with_reducible refine (HRR.out _ (by (repeat' (first | with_reducible exact Below.refl _ _ | (with_reducible refine below_later_of ?_ ?_ _) | (with_reducible refine Below.alloc ?_ ?_ _) | (with_reducible refine Below.setCell ?_ ?_ _) | (with_reducible refine Below.drew ?_) | (simp; done) | (simp; omega) | omega)))).mono ?_); rintro e w' ⟨u7, rfl, hr, hb⟩; have HR7 := Lib.hid hr; clear hr; obtain ⟨p7, rfl⟩ := later_of_below hb; clear hb) | (go_at_call 25; (with_reducible refine (lSameRes _ _ _ _ (HR2.out.below (by (repeat' (first | with_reducible exact Below.refl _ _ | (with_reducible refine below_later_of ?_ ?_ _) | (with_reducible refine Below.alloc ?_ ?_ _) | (with_reducible refine Below.setCell ?_ ?_ _) | (with_reducible refine Below.drew ?_) | (simp; done) | (simp; omega) | omega)))) (HR7.out.below (by (repeat' (first | with_reducible exact Below.refl _ _ | (with_reducible refine below_later_of ?_ ?_ _) | (with_reducible refine Below.alloc ?_ ?_ _) | (with_reducible refine Below.setCell ?_ ?_ _) | (with_reducible refine Below.drew ?_) | (simp; done) | (simp; omega) | omega))))).mono ?_); rintro e w' ⟨rfl, hb⟩; obtain ⟨p8, rfl⟩ := later_of_below hb; clear hb))
    go_ret
    exact ⟨rfl, HB1.out.trans (below_mono_of hs1 (by (repeat' (first | with_reducible exact Below.refl _ _ | (with_reducible refine below_later_of ?_ ?_ _) | (with_reducible refine Below.alloc ?_ ?_ _) | (with_reducible refine Below.setCell ?_ ?_ _) | (with_reducible refine Below.drew ?_) | (simp; done) | (simp; omega) | omega))))⟩
theorem residues_any (R C : Int) (b0 b1 b2 b3 : Int) (zs : List Int) (v : Value) (w : World) (hx : IntsX w v zs) (ht : Tab w) :
    Calls Tryd.prog 5 #[.agg #[.int .i64 R, .int .i64 C, v], .agg #[.int .i64 b0, .int .i64 b1, .int .i64 b2, .int .i64 b3]] w fun e w' => e = .returned (.bool true) ∧ Below w.heap.size w w' := by
  by_cases hn : zs.length ≤ 150
  · have hv := hx.ints (by omega)
    by_cases h0 : (mapE R C zs).2 = 0
    · obtain ⟨R, C, rfl, rfl, hm⟩ := mapE_zero h0
      cases hb : boxB R C b0 b1 b2 b3
      · refine residues_ok R C b0 b1 b2 b3 zs v w hm hv hn ht (n := 0) (e := 2) (fun W u h => fTurns_out R C b0 b1 b2 b3 zs u W hm h hb) (fun W u h => ?_)
        obtain ⟨-, a, cap, rfl, -⟩ := h
        exact rTurns_out R C b0 b1 b2 b3 zs.length cap a W hm.r2 hm.c2 hb
      · obtain ⟨r, c, h, wd, rfl, rfl, rfl, rfl, h1, h2, h3, h4⟩ := boxB_nat hb
        exact residues_ok R C r c h wd zs v w hm hv hn ht (fun W u hu => fTurns_in R C r c h wd zs u W hm hu h1 h2 h3 h4) (fun W u hu => rTurns_in R C r c h wd zs u W hm hu h1 h2 h3 h4)
    · exact residues_bad R C b0 b1 b2 b3 zs v w hv hn ht rfl h0
  · exact residues_light R C b0 b1 b2 b3 zs v w hx hn ht
end Go.Proofs.YtfiioadmpjmmgaaDoor
