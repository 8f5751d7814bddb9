/- Chapter 4: the law FringeSteps returns true. -/
import Derived.Test.YtfiioadmpjmmgaaDoorX42
import Derived.Test.YtfiioadmpjmmgaaDoorX40
import Derived.Test.YtfiioadmpjmmgaaDoorX38
import Derived.Test.YtfiioadmpjmmgaaDoorX20
import Derived.Test.YtfiioadmpjmmgaaDoorX5
import Derived.Deep.CutRange
import Derived.Deep.RegionHeld3
namespace Go.Proofs.YtfiioadmpjmmgaaDoor
set_option linter.unusedVariables false
set_option linter.unusedSimpArgs false
open Go.RowKit Ntt
theorem steps_same (R C : Nat) (r c : Int) (d : Bool) (zs : List Int) (hm : MapOk R C zs) : ∃ sv se : Int,
    (∀ W v, IntsV W v zs → Calls Tryd.prog 28 #[.agg #[.int .i64 R, .int .i64 C, v], .agg #[.int .i64 r, .int .i64 c], .bool d] W fun e w' => e = .returned (.tuple #[.int .i64 sv, .int .i64 se]) ∧ Below W.heap.size W w') ∧
    (∀ W v, IntsV W v zs → Calls Tryd.prog 30 #[.agg #[.int .i64 R, .int .i64 C, v], .int .i64 r, .int .i64 c, .bool d] W fun e w' => e = .returned (.tuple #[.int .i64 sv, .int .i64 se]) ∧ Below W.heap.size W w') := by
  rcases (show pixB R C r c = false ∨ pixB R C r c = true by cases pixB R C r c <;> simp) with h | h
  · exact ⟨0, 2, fun W v hv => sAt_out R C r c d zs v W hm hv h, fun W v hv => by
      obtain ⟨-, a, cap, rfl, -⟩ := hv
      exact rStep_out R C r c d _ cap a W hm.r2 hm.c2 h⟩
  · obtain ⟨r', c', rfl, rfl, h1, h2⟩ := pixB_nat h
    by_cases h3 : toR r' d < R ∧ toC c' d < C
    · exact ⟨_, _, fun W v hv => sAt_in R C r' c' d zs v W hm hv h3.1 h3.2 rfl rfl, fun W v hv => rStep_in R C r' c' d r' c' zs v W hm hv h3.1 h3.2 rfl rfl rfl rfl⟩
    · exact ⟨0, 2, fun W v hv => sAt_edge R C r' c' d zs v W hm hv h1 h2 h3, fun W v hv => by
        obtain ⟨-, a, cap, rfl, -⟩ := hv
        exact rStep_edge R C r' c' d _ cap a W hm.r2 hm.c2 h1 h2 h3⟩
set_option maxRecDepth 20000 in
set_option maxHeartbeats 8000000 in
theorem steps_any (R C : Int) (zs : List Int) (v : Value) (r c : Int) (d : Bool) (w : World) (hx : IntsX w v zs) (ht : Tab w) :
    Calls Tryd.prog 7 #[.agg #[.int .i64 R, .int .i64 C, v], .agg #[.int .i64 r, .int .i64 c], .bool d] w fun e w' => e = .returned (.bool true) ∧ Below w.heap.size w w' := by
  have HT := Lib.hid ht
  clear ht
  by_cases hn : zs.length ≤ 150
  · have hv := hx.ints (by omega)
    obtain ⟨⟨a, cap, rfl, -⟩, -⟩ := hx
    have HLI := Lib.hid (fun w => lLight R C zs.length cap a w (decide_eq_true hn))
    obtain ⟨i1, z1, hz1⟩ : ∃ i1 z1, mapE R C zs = (i1, z1) := ⟨_, _, rfl⟩
    have HCP0 := Lib.hid (show ∀ W, Below w.heap.size w W → _ from fun W hW => bCopyPhases R C zs _ W (hv.below hW))
    have HRM0 := Lib.hid (show ∀ W, Below w.heap.size w W → _ from fun W hW => rCheckMap R C zs _ W (by omega) (hv.below hW) hz1)
    by_cases h1 : z1 = 0
    · subst h1
      obtain ⟨R, C, rfl, rfl, hm⟩ := mapE_zero (show (mapE R C zs).2 = 0 by rw [hz1])
      obtain ⟨sv, se, hsa, hrs⟩ := steps_same R C r c d zs hm
      have HSA := Lib.hid hsa
      have HRS0 := Lib.hid (show ∀ W, Below w.heap.size w W → _ from fun W hW => hrs W _ (hv.below hW))
      obtain ⟨L, hL⟩ : ∃ L, allS (zAt C (intAt zs)) R C d C R = L := ⟨_, rfl⟩
      have hL2 : allS (zAt C (intAt zs)) R C d (colsN C d) (rowsN R d) = L := by rw [allS_cut _ d (by have := hm.r1; omega) (by have := hm.c1; omega), hL]
      obtain ⟨kb, ke, hk⟩ : ∃ kb ke, comP L = (kb, ke) := ⟨_, _, rfl⟩
      have HCS := Lib.hid (show ∀ W x, IntsV W x zs → _ from fun W x hxx => common_ok R C d zs x W hm hxx (b0 := kb) (e0 := ke) (by rw [hL2]; exact hk))
      have HRC0 := Lib.hid (show ∀ W, Below w.heap.size w W → _ from fun W hW => rCommon R C d zs _ W hm (hv.below hW) hL)
      have hr3 : (kb = 0 ∧ ke = 12 ∧ (foldB L L.length).1 = 0 ∧ decide (0 < (foldB L L.length).2) = false) ∨ (ke = 0 ∧ (foldB L L.length).1 = kb ∧ decide (0 < (foldB L L.length).2) = true) := by
        by_cases hl : L = []
        · subst hl
          obtain ⟨rfl, rfl⟩ := Prod.mk.inj (show (0, 12) = (kb, ke) from hk)
          exact .inl ⟨rfl, rfl, rfl, rfl⟩
        · have e : comP L = ((foldB L L.length).1, 0) := by unfold comP; rw [if_neg hl]
          obtain ⟨rfl, rfl⟩ := Prod.mk.inj (e.symm.trans hk)
          exact .inr ⟨rfl, rfl, decide_eq_true (foldB_best hl).2⟩
      generalize (foldB L L.length).1 = fb at HRC0 hr3
      generalize decide (0 < (foldB L L.length).2) = fo at HRC0 hr3
      clear hv hsa hrs hz1 hm hL hL2 hk
      rcases hr3 with ⟨rfl, rfl, rfl, rfl⟩ | ⟨rfl, rfl, rfl⟩
      · skip
        go_enter Tryd.func7, Tryd.ntmps7
        go_wp2_with (first | (go_at_call 9; (with_reducible refine (awake4 _ (HT.out.below (by (repeat' (first | with_reducible exact Below.refl _ _ | (with_reducible refine below_later_of ?_ ?_ _) | (with_reducible refine Below.alloc ?_ ?_ _) | (with_reducible refine Below.setCell ?_ ?_ _) | (with_reducible refine Below.drew ?_) | (simp; done) | (simp; omega) | omega))))).mono ?_); rintro e w' ⟨rfl, hb⟩; obtain ⟨pp, rfl⟩ := later_of_below hb; clear hb) | (go_at_call 19; (with_reducible refine (HLI.out _).mono ?_); rintro e w' ⟨rfl, hb⟩; obtain ⟨p0, rfl⟩ := later_of_below hb; clear hb))
        refine any_worldF (fun w' => (w'.cell? ⟨w.heap.size, 0, none⟩ = some (.int .i64 R) ∧ w'.cell? ⟨w.heap.size, 1, none⟩ = some (.int .i64 C) ∧ w'.cell? ⟨w.heap.size, 2, none⟩ = some (.slice a zs.length cap) ∧ w'.cell? ⟨w.heap.size + 1, 0, none⟩ = some (.int .i64 r) ∧ w'.cell? ⟨w.heap.size + 1, 1, none⟩ = some (.int .i64 c)) ∧ Below w.heap.size w w' ∧ w.heap.size + 1 < w'.heap.size) ⟨⟨(by (first | (simp [go_sem]; done) | simp [go_sem, ↓IntWalk.iteOmega])), (by (first | (simp [go_sem]; done) | simp [go_sem, ↓IntWalk.iteOmega])), (by (first | (simp [go_sem]; done) | simp [go_sem, ↓IntWalk.iteOmega])), (by (first | (simp [go_sem]; done) | simp [go_sem, ↓IntWalk.iteOmega])), (by (first | (simp [go_sem]; done) | simp [go_sem, ↓IntWalk.iteOmega]))⟩, (by (repeat' (first | with_reducible exact Below.refl _ _ | (with_reducible refine below_later_of ?_ ?_ _) | (with_reducible refine Below.alloc ?_ ?_ _) | (with_reducible refine Below.setCell ?_ ?_ _) | (with_reducible refine Below.drew ?_) | (simp; done) | (simp; omega) | omega))), by simp; omega⟩ ?_
        rintro W1 ⟨⟨k0, k1, k2, k3, k4⟩, hb1, hlt1⟩
        have HB1 := Lib.hid hb1
        have hs1 := hb1.size
        have HCP := Lib.hid (show ∀ W, Below W1.heap.size W1 W → _ from fun W hW => HCP0.out W (HB1.out.trans (hW.mono hs1)))
        clear hb1
        go_wp2_with fail
        go_cut [7, 8] from 22 to 29 (fun X Y wx => X = .int .i64 sv ∧ Y = .int .i64 se ∧ Below W1.heap.size W1 wx)
        case first =>
          go_region_held3 (fun w' => w'.cell? ⟨w.heap.size, 0, none⟩ = some (.int .i64 R) ∧ w'.cell? ⟨w.heap.size, 1, none⟩ = some (.int .i64 C) ∧ w'.cell? ⟨w.heap.size, 2, none⟩ = some (.slice a zs.length cap) ∧ w'.cell? ⟨w.heap.size + 1, 0, none⟩ = some (.int .i64 r) ∧ w'.cell? ⟨w.heap.size + 1, 1, none⟩ = some (.int .i64 c)) (first | exact ⟨k0, k1, k2, k3, k4⟩ | ((first | (simp [go_sem, k0, k1, k2, k3, k4]; done) | simp [go_sem, k0, k1, k2, k3, k4, ↓IntWalk.iteOmega]); done)) (first | (go_at_call 21; (with_reducible refine (HCP.out _ (by (repeat' (first | with_reducible exact Below.refl _ _ | (with_reducible refine below_later_of ?_ ?_ _) | (with_reducible refine Below.alloc ?_ ?_ _) | (with_reducible refine Below.setCell ?_ ?_ _) | (with_reducible refine Below.drew ?_) | (simp; done) | (simp; omega) | omega)))).mono ?_); rintro e w' ⟨a1, c1, rfl, hv, hb⟩; have HV1 := Lib.hid hv.ints; clear hv; obtain ⟨p1, rfl⟩ := later_of_below hb; clear hb) | (go_at_call 28; (with_reducible refine (HSA.out _ _ (HV1.out.below (by (repeat' (first | with_reducible exact Below.refl _ _ | (with_reducible refine below_later_of ?_ ?_ _) | (with_reducible refine Below.alloc ?_ ?_ _) | (with_reducible refine Below.setCell ?_ ?_ _) | (with_reducible refine Below.drew ?_) | (simp; done) | (simp; omega) | omega))))).mono ?_); rintro e w' ⟨rfl, hb⟩; obtain ⟨p2, rfl⟩ := later_of_below hb; clear hb))
          all_goals
            rename_i hheld
            clear hheld
            go_wp2_with fail
            go_meet
            exact ⟨rfl, rfl, (by (repeat' (first | with_reducible exact Below.refl _ _ | (with_reducible refine below_later_of ?_ ?_ _) | (with_reducible refine Below.alloc ?_ ?_ _) | (with_reducible refine Below.setCell ?_ ?_ _) | (with_reducible refine Below.drew ?_) | (simp; done) | (simp; omega) | omega)))⟩
        case rest =>
          obtain ⟨rfl, rfl, hb⟩ := hcut
          obtain ⟨W3, hW3⟩ : ∃ W3 : World, W3 = wc := ⟨_, rfl⟩
          subst hW3
          have hs3 := hb.size
          have HB3 := Lib.hid (HB1.out.trans (hb.mono hs1))
          have m0 := (hb.cell (p := ⟨w.heap.size, 0, none⟩) (by simp; omega)).trans k0
          have m1 := (hb.cell (p := ⟨w.heap.size, 1, none⟩) (by simp; omega)).trans k1
          have m2 := (hb.cell (p := ⟨w.heap.size, 2, none⟩) (by simp; omega)).trans k2
          have m3 := (hb.cell (p := ⟨w.heap.size + 1, 0, none⟩) (by simp; omega)).trans k3
          have m4 := (hb.cell (p := ⟨w.heap.size + 1, 1, none⟩) (by simp; omega)).trans k4
          have hw3 : w.heap.size + 1 < W3.heap.size := by omega
          have HCP := Lib.hid (show ∀ W, Below W3.heap.size W3 W → _ from fun W hW => HCP0.out W (HB3.out.trans (hW.mono HB3.out.size)))
          have HRM := Lib.hid (show ∀ W, Below W3.heap.size W3 W → _ from fun W hW => HRM0.out W (HB3.out.trans (hW.mono HB3.out.size)))
          clear k0 k1 k2 k3 k4 hb HCP0 HRM0
          have HRS := Lib.hid (show ∀ W, Below W3.heap.size W3 W → _ from fun W hW => HRS0.out W (HB3.out.trans (hW.mono HB3.out.size)))
          have HRC := Lib.hid (show ∀ W, Below W3.heap.size W3 W → _ from fun W hW => HRC0.out W (HB3.out.trans (hW.mono HB3.out.size)))
          clear HRS0 HRC0
          go_wp2_with (first | (go_at_call 21; (with_reducible refine (HCP.out _ (by (repeat' (first | with_reducible exact Below.refl _ _ | (with_reducible refine below_later_of ?_ ?_ _) | (with_reducible refine Below.alloc ?_ ?_ _) | (with_reducible refine Below.setCell ?_ ?_ _) | (with_reducible refine Below.drew ?_) | (simp; done) | (simp; omega) | omega)))).mono ?_); rintro e w' ⟨a3, c3, rfl, hv, hb⟩; have HV3 := Lib.hid hv.ints; clear hv; obtain ⟨p3, rfl⟩ := later_of_below hb; clear hb) | (go_at_call 29; (with_reducible refine (HCS.out _ _ (HV3.out.below (by (repeat' (first | with_reducible exact Below.refl _ _ | (with_reducible refine below_later_of ?_ ?_ _) | (with_reducible refine Below.alloc ?_ ?_ _) | (with_reducible refine Below.setCell ?_ ?_ _) | (with_reducible refine Below.drew ?_) | (simp; done) | (simp; omega) | omega))))).mono ?_); rintro e w' ⟨rfl, hb⟩; obtain ⟨p4, rfl⟩ := later_of_below hb; clear hb) | (go_at_call 23; (with_reducible refine (HRM.out _ (by (repeat' (first | with_reducible exact Below.refl _ _ | (with_reducible refine below_later_of ?_ ?_ _) | (with_reducible refine Below.alloc ?_ ?_ _) | (with_reducible refine Below.setCell ?_ ?_ _) | (with_reducible refine Below.drew ?_) | (simp; done) | (simp; omega) | omega)))).mono ?_); rintro e w' ⟨rfl, hb⟩; obtain ⟨p5, rfl⟩ := later_of_below hb; clear hb) | (go_at_call 30; (with_reducible refine (HRS.out _ (by (repeat' (first | with_reducible exact Below.refl _ _ | (with_reducible refine below_later_of ?_ ?_ _) | (with_reducible refine Below.alloc ?_ ?_ _) | (with_reducible refine Below.setCell ?_ ?_ _) | (with_reducible refine Below.drew ?_) | (simp; done) | (simp; omega) | omega)))).mono ?_); rintro e w' ⟨rfl, hb⟩; obtain ⟨p6, rfl⟩ := later_of_below hb; clear hb) | (go_at_call 31; (with_reducible refine (HRC.out _ (by (repeat' (first | with_reducible exact Below.refl _ _ | (with_reducible refine below_later_of ?_ ?_ _) | (with_reducible refine Below.alloc ?_ ?_ _) | (with_reducible refine Below.setCell ?_ ?_ _) | (with_reducible refine Below.drew ?_) | (simp; done) | (simp; omega) | omega)))).mono ?_); rintro e w' ⟨rfl, hb⟩; obtain ⟨p7, rfl⟩ := later_of_below hb; clear hb))
          go_ret
          exact ⟨ret_bool (by simp), HB3.out.trans (below_mono_of HB3.out.size (by (repeat' (first | with_reducible exact Below.refl _ _ | (with_reducible refine below_later_of ?_ ?_ _) | (with_reducible refine Below.alloc ?_ ?_ _) | (with_reducible refine Below.setCell ?_ ?_ _) | (with_reducible refine Below.drew ?_) | (simp; done) | (simp; omega) | omega))))⟩
      · skip
        go_enter Tryd.func7, Tryd.ntmps7
        go_wp2_with (first | (go_at_call 9; (with_reducible refine (awake4 _ (HT.out.below (by (repeat' (first | with_reducible exact Below.refl _ _ | (with_reducible refine below_later_of ?_ ?_ _) | (with_reducible refine Below.alloc ?_ ?_ _) | (with_reducible refine Below.setCell ?_ ?_ _) | (with_reducible refine Below.drew ?_) | (simp; done) | (simp; omega) | omega))))).mono ?_); rintro e w' ⟨rfl, hb⟩; obtain ⟨pp, rfl⟩ := later_of_below hb; clear hb) | (go_at_call 19; (with_reducible refine (HLI.out _).mono ?_); rintro e w' ⟨rfl, hb⟩; obtain ⟨p0, rfl⟩ := later_of_below hb; clear hb))
        refine any_worldF (fun w' => (w'.cell? ⟨w.heap.size, 0, none⟩ = some (.int .i64 R) ∧ w'.cell? ⟨w.heap.size, 1, none⟩ = some (.int .i64 C) ∧ w'.cell? ⟨w.heap.size, 2, none⟩ = some (.slice a zs.length cap) ∧ w'.cell? ⟨w.heap.size + 1, 0, none⟩ = some (.int .i64 r) ∧ w'.cell? ⟨w.heap.size + 1, 1, none⟩ = some (.int .i64 c)) ∧ Below w.heap.size w w' ∧ w.heap.size + 1 < w'.heap.size) ⟨⟨(by (first | (simp [go_sem]; done) | simp [go_sem, ↓IntWalk.iteOmega])), (by (first | (simp [go_sem]; done) | simp [go_sem, ↓IntWalk.iteOmega])), (by (first | (simp [go_sem]; done) | simp [go_sem, ↓IntWalk.iteOmega])), (by (first | (simp [go_sem]; done) | simp [go_sem, ↓IntWalk.iteOmega])), (by (first | (simp [go_sem]; done) | simp [go_sem, ↓IntWalk.iteOmega]))⟩, (by (repeat' (first | with_reducible exact Below.refl _ _ | (with_reducible refine below_later_of ?_ ?_ _) | (with_reducible refine Below.alloc ?_ ?_ _) | (with_reducible refine Below.setCell ?_ ?_ _) | (with_reducible refine Below.drew ?_) | (simp; done) | (simp; omega) | omega))), by simp; omega⟩ ?_
        rintro W1 ⟨⟨k0, k1, k2, k3, k4⟩, hb1, hlt1⟩
        have HB1 := Lib.hid hb1
        have hs1 := hb1.size
        have HCP := Lib.hid (show ∀ W, Below W1.heap.size W1 W → _ from fun W hW => HCP0.out W (HB1.out.trans (hW.mono hs1)))
        clear hb1
        go_wp2_with fail
        go_cut [7, 8] from 22 to 29 (fun X Y wx => X = .int .i64 sv ∧ Y = .int .i64 se ∧ Below W1.heap.size W1 wx)
        case first =>
          go_region_held3 (fun w' => w'.cell? ⟨w.heap.size, 0, none⟩ = some (.int .i64 R) ∧ w'.cell? ⟨w.heap.size, 1, none⟩ = some (.int .i64 C) ∧ w'.cell? ⟨w.heap.size, 2, none⟩ = some (.slice a zs.length cap) ∧ w'.cell? ⟨w.heap.size + 1, 0, none⟩ = some (.int .i64 r) ∧ w'.cell? ⟨w.heap.size + 1, 1, none⟩ = some (.int .i64 c)) (first | exact ⟨k0, k1, k2, k3, k4⟩ | ((first | (simp [go_sem, k0, k1, k2, k3, k4]; done) | simp [go_sem, k0, k1, k2, k3, k4, ↓IntWalk.iteOmega]); done)) (first | (go_at_call 21; (with_reducible refine (HCP.out _ (by (repeat' (first | with_reducible exact Below.refl _ _ | (with_reducible refine below_later_of ?_ ?_ _) | (with_reducible refine Below.alloc ?_ ?_ _) | (with_reducible refine Below.setCell ?_ ?_ _) | (with_reducible refine Below.drew ?_) | (simp; done) | (simp; omega) | omega)))).mono ?_); rintro e w' ⟨a1, c1, rfl, hv, hb⟩; have HV1 := Lib.hid hv.ints; clear hv; obtain ⟨p1, rfl⟩ := later_of_below hb; clear hb) | (go_at_call 28; (with_reducible refine (HSA.out _ _ (HV1.out.below (by (repeat' (first | with_reducible exact Below.refl _ _ | (with_reducible refine below_later_of ?_ ?_ _) | (with_reducible refine Below.alloc ?_ ?_ _) | (with_reducible refine Below.setCell ?_ ?_ _) | (with_reducible refine Below.drew ?_) | (simp; done) | (simp; omega) | omega))))).mono ?_); rintro e w' ⟨rfl, hb⟩; obtain ⟨p2, rfl⟩ := later_of_below hb; clear hb))
          all_goals
            rename_i hheld
            clear hheld
            go_wp2_with fail
            go_meet
            exact ⟨rfl, rfl, (by (repeat' (first | with_reducible exact Below.refl _ _ | (with_reducible refine below_later_of ?_ ?_ _) | (with_reducible refine Below.alloc ?_ ?_ _) | (with_reducible refine Below.setCell ?_ ?_ _) | (with_reducible refine Below.drew ?_) | (simp; done) | (simp; omega) | omega)))⟩
        case rest =>
          obtain ⟨rfl, rfl, hb⟩ := hcut
          obtain ⟨W3, hW3⟩ : ∃ W3 : World, W3 = wc := ⟨_, rfl⟩
          subst hW3
          have hs3 := hb.size
          have HB3 := Lib.hid (HB1.out.trans (hb.mono hs1))
          have m0 := (hb.cell (p := ⟨w.heap.size, 0, none⟩) (by simp; omega)).trans k0
          have m1 := (hb.cell (p := ⟨w.heap.size, 1, none⟩) (by simp; omega)).trans k1
          have m2 := (hb.cell (p := ⟨w.heap.size, 2, none⟩) (by simp; omega)).trans k2
          have m3 := (hb.cell (p := ⟨w.heap.size + 1, 0, none⟩) (by simp; omega)).trans k3
          have m4 := (hb.cell (p := ⟨w.heap.size + 1, 1, none⟩) (by simp; omega)).trans k4
          have hw3 : w.heap.size + 1 < W3.heap.size := by omega
          have HCP := Lib.hid (show ∀ W, Below W3.heap.size W3 W → _ from fun W hW => HCP0.out W (HB3.out.trans (hW.mono HB3.out.size)))
          have HRM := Lib.hid (show ∀ W, Below W3.heap.size W3 W → _ from fun W hW => HRM0.out W (HB3.out.trans (hW.mono HB3.out.size)))
          clear k0 k1 k2 k3 k4 hb HCP0 HRM0
          have HRS := Lib.hid (show ∀ W, Below W3.heap.size W3 W → _ from fun W hW => HRS0.out W (HB3.out.trans (hW.mono HB3.out.size)))
          have HRC := Lib.hid (show ∀ W, Below W3.heap.size W3 W → _ from fun W hW => HRC0.out W (HB3.out.trans (hW.mono HB3.out.size)))
          clear HRS0 HRC0
          go_wp2_with (first | (go_at_call 21; (with_reducible refine (HCP.out _ (by (repeat' (first | with_reducible exact Below.refl _ _ | (with_reducible refine below_later_of ?_ ?_ _) | (with_reducible refine Below.alloc ?_ ?_ _) | (with_reducible refine Below.setCell ?_ ?_ _) | (with_reducible refine Below.drew ?_) | (simp; done) | (simp; omega) | omega)))).mono ?_); rintro e w' ⟨a3, c3, rfl, hv, hb⟩; have HV3 := Lib.hid hv.ints; clear hv; obtain ⟨p3, rfl⟩ := later_of_below hb; clear hb) | (go_at_call 29; (with_reducible refine (HCS.out _ _ (HV3.out.below (by (repeat' (first | with_reducible exact Below.refl _ _ | (with_reducible refine below_later_of ?_ ?_ _) | (with_reducible refine Below.alloc ?_ ?_ _) | (with_reducible refine Below.setCell ?_ ?_ _) | (with_reducible refine Below.drew ?_) | (simp; done) | (simp; omega) | omega))))).mono ?_); rintro e w' ⟨rfl, hb⟩; obtain ⟨p4, rfl⟩ := later_of_below hb; clear hb) | (go_at_call 23; (with_reducible refine (HRM.out _ (by (repeat' (first | with_reducible exact Below.refl _ _ | (with_reducible refine below_later_of ?_ ?_ _) | (with_reducible refine Below.alloc ?_ ?_ _) | (with_reducible refine Below.setCell ?_ ?_ _) | (with_reducible refine Below.drew ?_) | (simp; done) | (simp; omega) | omega)))).mono ?_); rintro e w' ⟨rfl, hb⟩; obtain ⟨p5, rfl⟩ := later_of_below hb; clear hb) | (go_at_call 30; (with_reducible refine (HRS.out _ (by (repeat' (first | with_reducible exact Below.refl _ _ | (with_reducible refine below_later_of ?_ ?_ _) | (with_reducible refine Below.alloc ?_ ?_ _) | (with_reducible refine Below.setCell ?_ ?_ _) | (with_reducible refine Below.drew ?_) | (simp; done) | (simp; omega) | omega)))).mono ?_); rintro e w' ⟨rfl, hb⟩; obtain ⟨p6, rfl⟩ := later_of_below hb; clear hb) | (go_at_call 31; (with_reducible refine (HRC.out _ (by (repeat' (first | with_reducible exact Below.refl _ _ | (with_reducible refine below_later_of ?_ ?_ _) | (with_reducible refine Below.alloc ?_ ?_ _) | (with_reducible refine Below.setCell ?_ ?_ _) | (with_reducible refine Below.drew ?_) | (simp; done) | (simp; omega) | omega)))).mono ?_); rintro e w' ⟨rfl, hb⟩; obtain ⟨p7, rfl⟩ := later_of_below hb; clear hb))
          go_ret
          exact ⟨ret_bool (by simp), HB3.out.trans (below_mono_of HB3.out.size (by (repeat' (first | with_reducible exact Below.refl _ _ | (with_reducible refine below_later_of ?_ ?_ _) | (with_reducible refine Below.alloc ?_ ?_ _) | (with_reducible refine Below.setCell ?_ ?_ _) | (with_reducible refine Below.drew ?_) | (simp; done) | (simp; omega) | omega))))⟩
    · have HSA := Lib.hid (show ∀ W x, IntsV W x zs → _ from fun W x hxx => sAt_bad R C r c d zs x W (by omega) hxx (e0 := z1) (by rw [hz1]) h1)
      have HCS := Lib.hid (show ∀ W x, IntsV W x zs → _ from fun W x hxx => common_bad R C d zs x W (by omega) hxx (e0 := z1) (by rw [hz1]) h1)
      have hne : (z1 != 0) = true := by simpa using h1
      clear hv hz1 h1
      go_enter Tryd.func7, Tryd.ntmps7
      go_wp2_with (first | (go_at_call 9; (with_reducible refine (awake4 _ (HT.out.below (by (repeat' (first | with_reducible exact Below.refl _ _ | (with_reducible refine below_later_of ?_ ?_ _) | (with_reducible refine Below.alloc ?_ ?_ _) | (with_reducible refine Below.setCell ?_ ?_ _) | (with_reducible refine Below.drew ?_) | (simp; done) | (simp; omega) | omega))))).mono ?_); rintro e w' ⟨rfl, hb⟩; obtain ⟨pp, rfl⟩ := later_of_below hb; clear hb) | (go_at_call 19; (with_reducible refine (HLI.out _).mono ?_); rintro e w' ⟨rfl, hb⟩; obtain ⟨p0, rfl⟩ := later_of_below hb; clear hb))
      refine any_worldF (fun w' => (w'.cell? ⟨w.heap.size, 0, none⟩ = some (.int .i64 R) ∧ w'.cell? ⟨w.heap.size, 1, none⟩ = some (.int .i64 C) ∧ w'.cell? ⟨w.heap.size, 2, none⟩ = some (.slice a zs.length cap) ∧ w'.cell? ⟨w.heap.size + 1, 0, none⟩ = some (.int .i64 r) ∧ w'.cell? ⟨w.heap.size + 1, 1, none⟩ = some (.int .i64 c)) ∧ Below w.heap.size w w' ∧ w.heap.size + 1 < w'.heap.size) ⟨⟨(by (first | (simp [go_sem]; done) | simp [go_sem, ↓IntWalk.iteOmega])), (by (first | (simp [go_sem]; done) | simp [go_sem, ↓IntWalk.iteOmega])), (by (first | (simp [go_sem]; done) | simp [go_sem, ↓IntWalk.iteOmega])), (by (first | (simp [go_sem]; done) | simp [go_sem, ↓IntWalk.iteOmega])), (by (first | (simp [go_sem]; done) | simp [go_sem, ↓IntWalk.iteOmega]))⟩, (by (repeat' (first | with_reducible exact Below.refl _ _ | (with_reducible refine below_later_of ?_ ?_ _) | (with_reducible refine Below.alloc ?_ ?_ _) | (with_reducible refine Below.setCell ?_ ?_ _) | (with_reducible refine Below.drew ?_) | (simp; done) | (simp; omega) | omega))), by simp; omega⟩ ?_
      rintro W1 ⟨⟨k0, k1, k2, k3, k4⟩, hb1, hlt1⟩
      have HB1 := Lib.hid hb1
      have hs1 := hb1.size
      have HCP := Lib.hid (show ∀ W, Below W1.heap.size W1 W → _ from fun W hW => HCP0.out W (HB1.out.trans (hW.mono hs1)))
      clear hb1
      go_wp2_with fail
      go_cut [7, 8] from 22 to 29 (fun X Y wx => X = .int .i64 0 ∧ Y = .int .i64 z1 ∧ Below W1.heap.size W1 wx)
      case first =>
        go_region_held3 (fun w' => w'.cell? ⟨w.heap.size, 0, none⟩ = some (.int .i64 R) ∧ w'.cell? ⟨w.heap.size, 1, none⟩ = some (.int .i64 C) ∧ w'.cell? ⟨w.heap.size, 2, none⟩ = some (.slice a zs.length cap) ∧ w'.cell? ⟨w.heap.size + 1, 0, none⟩ = some (.int .i64 r) ∧ w'.cell? ⟨w.heap.size + 1, 1, none⟩ = some (.int .i64 c)) (first | exact ⟨k0, k1, k2, k3, k4⟩ | ((first | (simp [go_sem, k0, k1, k2, k3, k4]; done) | simp [go_sem, k0, k1, k2, k3, k4, ↓IntWalk.iteOmega]); done)) (first | (go_at_call 21; (with_reducible refine (HCP.out _ (by (repeat' (first | with_reducible exact Below.refl _ _ | (with_reducible refine below_later_of ?_ ?_ _) | (with_reducible refine Below.alloc ?_ ?_ _) | (with_reducible refine Below.setCell ?_ ?_ _) | (with_reducible refine Below.drew ?_) | (simp; done) | (simp; omega) | omega)))).mono ?_); rintro e w' ⟨a1, c1, rfl, hv, hb⟩; have HV1 := Lib.hid hv.ints; clear hv; obtain ⟨p1, rfl⟩ := later_of_below hb; clear hb) | (go_at_call 28; (with_reducible refine (HSA.out _ _ (HV1.out.below (by (repeat' (first | with_reducible exact Below.refl _ _ | (with_reducible refine below_later_of ?_ ?_ _) | (with_reducible refine Below.alloc ?_ ?_ _) | (with_reducible refine Below.setCell ?_ ?_ _) | (with_reducible refine Below.drew ?_) | (simp; done) | (simp; omega) | omega))))).mono ?_); rintro e w' ⟨rfl, hb⟩; obtain ⟨p2, rfl⟩ := later_of_below hb; clear hb))
        all_goals
          rename_i hheld
          clear hheld
          go_wp2_with fail
          go_meet
          exact ⟨rfl, rfl, (by (repeat' (first | with_reducible exact Below.refl _ _ | (with_reducible refine below_later_of ?_ ?_ _) | (with_reducible refine Below.alloc ?_ ?_ _) | (with_reducible refine Below.setCell ?_ ?_ _) | (with_reducible refine Below.drew ?_) | (simp; done) | (simp; omega) | omega)))⟩
      case rest =>
        obtain ⟨rfl, rfl, hb⟩ := hcut
        obtain ⟨W3, hW3⟩ : ∃ W3 : World, W3 = wc := ⟨_, rfl⟩
        subst hW3
        have hs3 := hb.size
        have HB3 := Lib.hid (HB1.out.trans (hb.mono hs1))
        have m0 := (hb.cell (p := ⟨w.heap.size, 0, none⟩) (by simp; omega)).trans k0
        have m1 := (hb.cell (p := ⟨w.heap.size, 1, none⟩) (by simp; omega)).trans k1
        have m2 := (hb.cell (p := ⟨w.heap.size, 2, none⟩) (by simp; omega)).trans k2
        have m3 := (hb.cell (p := ⟨w.heap.size + 1, 0, none⟩) (by simp; omega)).trans k3
        have m4 := (hb.cell (p := ⟨w.heap.size + 1, 1, none⟩) (by simp; omega)).trans k4
        have hw3 : w.heap.size + 1 < W3.heap.size := by omega
        have HCP := Lib.hid (show ∀ W, Below W3.heap.size W3 W → _ from fun W hW => HCP0.out W (HB3.out.trans (hW.mono HB3.out.size)))
        have HRM := Lib.hid (show ∀ W, Below W3.heap.size W3 W → _ from fun W hW => HRM0.out W (HB3.out.trans (hW.mono HB3.out.size)))
        clear k0 k1 k2 k3 k4 hb HCP0 HRM0
        go_wp2_with (first | (go_at_call 21; (with_reducible refine (HCP.out _ (by (repeat' (first | with_reducible exact Below.refl _ _ | (with_reducible refine below_later_of ?_ ?_ _) | (with_reducible refine Below.alloc ?_ ?_ _) | (with_reducible refine Below.setCell ?_ ?_ _) | (with_reducible refine Below.drew ?_) | (simp; done) | (simp; omega) | omega)))).mono ?_); rintro e w' ⟨a3, c3, rfl, hv, hb⟩; have HV3 := Lib.hid hv.ints; clear hv; obtain ⟨p3, rfl⟩ := later_of_below hb; clear hb) | (go_at_call 29; (with_reducible refine (HCS.out _ _ (HV3.out.below (by (repeat' (first | with_reducible exact Below.refl _ _ | (with_reducible refine below_later_of ?_ ?_ _) | (with_reducible refine Below.alloc ?_ ?_ _) | (with_reducible refine Below.setCell ?_ ?_ _) | (with_reducible refine Below.drew ?_) | (simp; done) | (simp; omega) | omega))))).mono ?_); rintro e w' ⟨rfl, hb⟩; obtain ⟨p4, rfl⟩ := later_of_below hb; clear hb) | (go_at_call 23; (with_reducible refine (HRM.out _ (by (repeat' (first | with_reducible exact Below.refl _ _ | (with_reducible refine below_later_of ?_ ?_ _) | (with_reducible refine Below.alloc ?_ ?_ _) | (with_reducible refine Below.setCell ?_ ?_ _) | (with_reducible refine Below.drew ?_) | (simp; done) | (simp; omega) | omega)))).mono ?_); rintro e w' ⟨rfl, hb⟩; obtain ⟨p5, rfl⟩ := later_of_below hb; clear hb))
        go_ret
        exact ⟨ret_bool (by simp), HB3.out.trans (below_mono_of HB3.out.size (by (repeat' (first | with_reducible exact Below.refl _ _ | (with_reducible refine below_later_of ?_ ?_ _) | (with_reducible refine Below.alloc ?_ ?_ _) | (with_reducible refine Below.setCell ?_ ?_ _) | (with_reducible refine Below.drew ?_) | (simp; done) | (simp; omega) | omega))))⟩
  · obtain ⟨⟨a, cap, rfl, -⟩, -⟩ := hx
    have HLI := Lib.hid (fun w => lLight R C zs.length cap a w (decide_eq_false hn))
    go_enter Tryd.func7, Tryd.ntmps7
    go_wp2_with (first | (go_at_call 9; (with_reducible refine (awake4 _ (HT.out.below (by (repeat' (first | with_reducible exact Below.refl _ _ | (with_reducible refine below_later_of ?_ ?_ _) | (with_reducible refine Below.alloc ?_ ?_ _) | (with_reducible refine Below.setCell ?_ ?_ _) | (with_reducible refine Below.drew ?_) | (simp; done) | (simp; omega) | omega))))).mono ?_); rintro e w' ⟨rfl, hb⟩; obtain ⟨pp, rfl⟩ := later_of_below hb; clear hb) | (go_at_call 19; (with_reducible refine (HLI.out _).mono ?_); rintro e w' ⟨rfl, hb⟩; obtain ⟨p0, rfl⟩ := later_of_below hb; clear hb))
    go_ret
    exact ⟨rfl, (by (repeat' (first | with_reducible exact Below.refl _ _ | (with_reducible refine below_later_of ?_ ?_ _) | (with_reducible refine Below.alloc ?_ ?_ _) | (with_reducible refine Below.setCell ?_ ?_ _) | (with_reducible refine Below.drew ?_) | (simp; done) | (simp; omega) | omega)))⟩
end Go.Proofs.YtfiioadmpjmmgaaDoor
