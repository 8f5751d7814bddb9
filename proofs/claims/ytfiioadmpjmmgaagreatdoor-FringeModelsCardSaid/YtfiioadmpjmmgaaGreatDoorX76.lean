/- Chapter 4: the law FringeModels. -/
import Derived.Test.YtfiioadmpjmmgaaGreatDoorX75
import Derived.Test.YtfiioadmpjmmgaaGreatDoorXM
import Derived.Test.YtfiioadmpjmmgaaGreatDoorX20
namespace Go.Proofs.YtfiioadmpjmmgaaGreatDoor
set_option linter.unusedVariables false
set_option linter.unusedSimpArgs false
open Go.RowKit Ieee Ntt
theorem ints_zero (W : World) (q : Option Addr) (cc : Nat) : IntsV W (.slice q 0 cc) [] := ⟨by simp, q, cc, rfl, fun h => absurd h (by simp)⟩
theorem mk_same {W : World} {B B' : Nat} {R C : Int} {n : Nat} {L : List Int} {E r c : Int} {k cc : Nat} {q : Option Addr} {r' c' : Int} {k' cc' : Nat} {q' : Option Addr} (h : MkSay W B R C n L E r c k q cc) (h' : MkSay W B' R C n L E r' c' k' q' cc') :
    Calls Tryz.prog 25 #[.agg #[.int .i64 r, .int .i64 c, .slice q k cc], .agg #[.int .i64 r', .int .i64 c', .slice q' k' cc']] W fun e w' => e = .returned (.bool true) ∧ Below W.heap.size W w' := by
  by_cases h0 : E = 0
  · obtain ⟨rfl, rfl, rfl, ho⟩ := h.1 h0
    obtain ⟨rfl, rfl, rfl, ho'⟩ := h'.1 h0
    exact bSamePhases _ _ _ _ _ _ _ _ W ho.ints ho'.ints (by simp)
  · obtain ⟨rfl, rfl, rfl⟩ := h.2 h0
    obtain ⟨rfl, rfl, rfl⟩ := h'.2 h0
    exact bSamePhases 0 0 0 0 [] [] _ _ W (ints_zero W _ _) (ints_zero W _ _) (by decide)
set_option maxRecDepth 20000 in
set_option maxHeartbeats 40000000 in
theorem models_any (x : Mdl) (R' C' : Int) (ds : List Nat) (v : Value) (R C : Int) (zs : List Int) (u : Value) (w : World) (hq : FlX w v ds) (hx : IntsX w u zs) (ht : Tab w) :
    Calls Tryz.prog 7 #[.agg #[.int .i64 x.a, .int .i64 x.b, .int .i64 x.c, .int .i64 x.d], .agg #[.int .i64 R', .int .i64 C', v], .agg #[.int .i64 R, .int .i64 C, u]] w fun e w' => e = .returned (.bool true) ∧ Below w.heap.size w w' := by
  have HT := Lib.hid ht
  clear ht
  by_cases hn : zs.length ≤ 150
  · by_cases hn2 : ds.length ≤ 150
    · have hv := hx.ints (by omega)
      have hu := hq.fl (by omega)
      obtain ⟨⟨a, cap, rfl, -⟩, -⟩ := hx
      obtain ⟨a', cap', rfl, -⟩ := hq
      have HLI := Lib.hid (fun w => lLight R C zs.length cap a w (decide_eq_true hn))
      have hd2 : decide (150 < (ds.length : Int)) = false := by simp; omega
      obtain ⟨i1, z1, hz1⟩ : ∃ i1 z1, mapE R C zs = (i1, z1) := ⟨_, _, rfl⟩
      obtain ⟨z2, hz2⟩ : ∃ z2, modE x R' C' ds = z2 := ⟨_, rfl⟩
      obtain ⟨E, hE⟩ : ∃ E, flaE x R' C' ds R C zs = E := ⟨_, rfl⟩
      have HE2 := Lib.hid hE
      have HE1 := Lib.hid hz2
      have HCH0 := Lib.hid (show ∀ W, Below w.heap.size w W → _ from fun W hW => copyFl_any R' C' ds _ W (hu.below hW))
      have HCM0 := Lib.hid (show ∀ W, Below w.heap.size w W → _ from fun W hW => bCopyPhases R C zs _ W (hv.below hW))
      have HRM0 := Lib.hid (show ∀ W, Below w.heap.size w W → _ from fun W hW => mpR_det x R' C' ds _ W (hu.below hW) hz2)
      have HCK0 := Lib.hid (show ∀ W, Below w.heap.size w W → _ from fun W hW => rCheckMap R C zs _ W (by omega) (hv.below hW) hz1)
      have HVV := Lib.hid hv
      have HML := Lib.hid (fun (h : z2 = 0) => mod_right (hz2.trans h))
      have HEE := Lib.hid (show (if z1 ≠ 0 then z1 else if z2 ≠ 0 then z2 else if R' = R ∧ C' = C then 0 else 13) = E by rw [← hE]; unfold flaE; rw [hz1, hz2])
      have HZM := Lib.hid (fun (h : z1 = 0) => mapE_zero (R := R) (C := C) (zs := zs) (by rw [hz1]; exact h))
      have HSS := Lib.hid (fun (r3 c3 : Int) (k3 cc3 : Nat) (q3 : Option Addr) (c : Bool) (hc : decide (r3 = R ∧ c3 = C) = c) w => rSameSize R C r3 c3 zs.length cap k3 cc3 a q3 w (c := c) hc)
      clear hv hu hE hz1 hz2
      go_enter Tryz.func7, Tryz.ntmps7
      go_wp2_with (first | (go_at_call 13; (with_reducible refine (awake4 _ (HT.out.below (by (repeat' (first | with_reducible exact Below.refl _ _ | (with_reducible refine below_later_of ?_ ?_ _) | (with_reducible refine Below.alloc ?_ ?_ _) | (with_reducible refine Below.setCell ?_ ?_ _) | (with_reducible refine Below.drew ?_) | (simp; done) | (simp; omega) | omega))))).mono ?_); rintro e w' ⟨rfl, hb⟩; obtain ⟨pp, rfl⟩ := later_of_below hb; clear hb) | (go_at_call 19; (with_reducible refine (HLI.out _).mono ?_); rintro e w' ⟨rfl, hb⟩; obtain ⟨p0, rfl⟩ := later_of_below hb; clear hb))
      refine any_worldF (fun w' => (w'.cell? ⟨w.heap.size, 0, none⟩ = some (.int .i64 x.a) ∧ w'.cell? ⟨w.heap.size, 1, none⟩ = some (.int .i64 x.b) ∧ w'.cell? ⟨w.heap.size, 2, none⟩ = some (.int .i64 x.c) ∧ w'.cell? ⟨w.heap.size, 3, none⟩ = some (.int .i64 x.d)) ∧ (w'.cell? ⟨w.heap.size + 1, 0, none⟩ = some (.int .i64 R') ∧ w'.cell? ⟨w.heap.size + 1, 1, none⟩ = some (.int .i64 C') ∧ w'.cell? ⟨w.heap.size + 1, 2, none⟩ = some (.slice a' ds.length cap')) ∧ (w'.cell? ⟨w.heap.size + 2, 0, none⟩ = some (.int .i64 R) ∧ w'.cell? ⟨w.heap.size + 2, 1, none⟩ = some (.int .i64 C) ∧ w'.cell? ⟨w.heap.size + 2, 2, none⟩ = some (.slice a zs.length cap)) ∧ Below w.heap.size w w' ∧ w.heap.size + 2 < w'.heap.size) ⟨⟨(by (first | (simp [go_sem]; done) | simp [go_sem, ↓IntWalk.iteOmega])), (by (first | (simp [go_sem]; done) | simp [go_sem, ↓IntWalk.iteOmega])), (by (first | (simp [go_sem]; done) | simp [go_sem, ↓IntWalk.iteOmega])), (by (first | (simp [go_sem]; done) | simp [go_sem, ↓IntWalk.iteOmega]))⟩, ⟨(by (first | (simp [go_sem]; done) | simp [go_sem, ↓IntWalk.iteOmega])), (by (first | (simp [go_sem]; done) | simp [go_sem, ↓IntWalk.iteOmega])), (by (first | (simp [go_sem]; done) | simp [go_sem, ↓IntWalk.iteOmega]))⟩, ⟨(by (first | (simp [go_sem]; done) | simp [go_sem, ↓IntWalk.iteOmega])), (by (first | (simp [go_sem]; done) | simp [go_sem, ↓IntWalk.iteOmega])), (by (first | (simp [go_sem]; done) | simp [go_sem, ↓IntWalk.iteOmega]))⟩, (by (repeat' (first | with_reducible exact Below.refl _ _ | (with_reducible refine below_later_of ?_ ?_ _) | (with_reducible refine Below.alloc ?_ ?_ _) | (with_reducible refine Below.setCell ?_ ?_ _) | (with_reducible refine Below.drew ?_) | (simp; done) | (simp; omega) | omega))), by simp; omega⟩ ?_
      rintro W1 ⟨⟨x0, x1, x2, x3⟩, ⟨j0, j1, j2⟩, ⟨k0, k1, k2'⟩, hb1, hlt1⟩
      have HB1 := Lib.hid hb1
      have hs1 := hb1.size
      have HCH := Lib.hid (show ∀ W, Below W1.heap.size W1 W → _ from fun W hW => HCH0.out W (HB1.out.trans (hW.mono hs1)))
      clear hb1
      go_wp2_with fail
      go_cut [7, 8] from 27 to 32 (fun X Y wx => ∃ B r c k q cc, X = .pointer (some ⟨B, 0, none⟩) ∧ Y = .int .i64 z2 ∧ (wx.cell? ⟨B, 0, none⟩ = some (.int .i64 r) ∧ wx.cell? ⟨B, 1, none⟩ = some (.int .i64 c) ∧ wx.cell? ⟨B, 2, none⟩ = some (.slice q k cc)) ∧ MkSay wx 0 R' C' ds.length (modL x ds C'.toNat) z2 r c k q cc ∧ B < wx.heap.size ∧ Below W1.heap.size W1 wx)
      case first =>
        go_region_held3 (fun w' => (w'.cell? ⟨w.heap.size, 0, none⟩ = some (.int .i64 x.a) ∧ w'.cell? ⟨w.heap.size, 1, none⟩ = some (.int .i64 x.b) ∧ w'.cell? ⟨w.heap.size, 2, none⟩ = some (.int .i64 x.c) ∧ w'.cell? ⟨w.heap.size, 3, none⟩ = some (.int .i64 x.d)) ∧ (w'.cell? ⟨w.heap.size + 1, 0, none⟩ = some (.int .i64 R') ∧ w'.cell? ⟨w.heap.size + 1, 1, none⟩ = some (.int .i64 C') ∧ w'.cell? ⟨w.heap.size + 1, 2, none⟩ = some (.slice a' ds.length cap'))) (first | exact ⟨⟨x0, x1, x2, x3⟩, j0, j1, j2⟩ | ((first | (simp [go_sem, x0, x1, x2, x3, j0, j1, j2]; done) | simp [go_sem, x0, x1, x2, x3, j0, j1, j2, ↓IntWalk.iteOmega]); done)) (first | (go_at_call 43; (with_reducible refine (HCH.out _ (by (repeat' (first | with_reducible exact Below.refl _ _ | (with_reducible refine below_later_of ?_ ?_ _) | (with_reducible refine Below.alloc ?_ ?_ _) | (with_reducible refine Below.setCell ?_ ?_ _) | (with_reducible refine Below.drew ?_) | (simp; done) | (simp; omega) | omega)))).mono ?_); rintro e w' ⟨a3, c3, rfl, hv, hb⟩; have HVH := Lib.hid hv.fl; clear hv; obtain ⟨p3, rfl⟩ := later_of_below hb; clear hb) | (go_at_call 42; (with_reducible refine (mp_det x R' C' ds _ _ (HVH.out.below (by (repeat' (first | with_reducible exact Below.refl _ _ | (with_reducible refine below_later_of ?_ ?_ _) | (with_reducible refine Below.alloc ?_ ?_ _) | (with_reducible refine Below.setCell ?_ ?_ _) | (with_reducible refine Below.drew ?_) | (simp; done) | (simp; omega) | omega)))) HE1.out).mono ?_); rintro e w' ⟨r, c, k, q, cc, rfl, hs, hb⟩; have HS := Lib.hid hs; clear hs; obtain ⟨p5, rfl⟩ := later_of_below hb; clear hb))
        all_goals
          rename_i hheld
          clear hheld
          go_wp2_with fail
          go_meet
          refine ⟨_, r, c, k, q, cc, rfl, rfl, ⟨(by (first | (simp [go_sem]; done) | simp [go_sem, ↓IntWalk.iteOmega])), (by (first | (simp [go_sem]; done) | simp [go_sem, ↓IntWalk.iteOmega])), (by (first | (simp [go_sem]; done) | simp [go_sem, ↓IntWalk.iteOmega]))⟩, ?_, by simp <;> omega, (by (repeat' (first | with_reducible exact Below.refl _ _ | (with_reducible refine below_later_of ?_ ?_ _) | (with_reducible refine Below.alloc ?_ ?_ _) | (with_reducible refine Below.setCell ?_ ?_ _) | (with_reducible refine Below.drew ?_) | (simp; done) | (simp; omega) | omega)))⟩
          first
            | (refine (HS.out.below ?_).mono (Nat.zero_le _); (repeat' (first | with_reducible exact Below.refl _ _ | (with_reducible refine below_later_of ?_ ?_ _) | (with_reducible refine Below.alloc ?_ ?_ _) | (with_reducible refine Below.setCell ?_ ?_ _) | (with_reducible refine Below.drew ?_) | (simp; done) | (simp; omega) | omega)); done)
            | (refine (MkSay.set (MkSay.set (MkSay.set HS.out ?_ _) ?_ _) ?_ _).mono (Nat.zero_le _) <;> simp <;> omega)
      case rest =>
        obtain ⟨B, r, c, k, q, cc, rfl, rfl, ⟨o0, o1, o2⟩, hsay, hB, hb⟩ := hcut
        obtain ⟨W3, hW3⟩ : ∃ W3 : World, W3 = wc := ⟨_, rfl⟩
        subst hW3
        have hs3 := hb.size
        have HB3 := Lib.hid (HB1.out.trans (hb.mono hs1))
        have HSAY := Lib.hid hsay
        replace x0 := (hb.cell (p := ⟨w.heap.size, 0, none⟩) (by simp; omega)).trans x0
        replace x1 := (hb.cell (p := ⟨w.heap.size, 1, none⟩) (by simp; omega)).trans x1
        replace x2 := (hb.cell (p := ⟨w.heap.size, 2, none⟩) (by simp; omega)).trans x2
        replace x3 := (hb.cell (p := ⟨w.heap.size, 3, none⟩) (by simp; omega)).trans x3
        replace j0 := (hb.cell (p := ⟨w.heap.size + 1, 0, none⟩) (by simp; omega)).trans j0
        replace j1 := (hb.cell (p := ⟨w.heap.size + 1, 1, none⟩) (by simp; omega)).trans j1
        replace j2 := (hb.cell (p := ⟨w.heap.size + 1, 2, none⟩) (by simp; omega)).trans j2
        replace k0 := (hb.cell (p := ⟨w.heap.size + 2, 0, none⟩) (by simp; omega)).trans k0
        replace k1 := (hb.cell (p := ⟨w.heap.size + 2, 1, none⟩) (by simp; omega)).trans k1
        replace k2' := (hb.cell (p := ⟨w.heap.size + 2, 2, none⟩) (by simp; omega)).trans k2'
        have hw3 : w.heap.size + 2 < W3.heap.size := by omega
        have HCH := Lib.hid (show ∀ W, Below W3.heap.size W3 W → _ from fun W hW => HCH0.out W (HB3.out.trans (hW.mono HB3.out.size)))
        have HCM := Lib.hid (show ∀ W, Below W3.heap.size W3 W → _ from fun W hW => HCM0.out W (HB3.out.trans (hW.mono HB3.out.size)))
        clear hb hsay HLI
        go_wp2_with fail
        go_cut [9, 10] from 34 to 41 (fun X Y wx => ∃ B2 r2 c2 k2 q2 cc2, X = .pointer (some ⟨B2, 0, none⟩) ∧ Y = .int .i64 E ∧ (wx.cell? ⟨B2, 0, none⟩ = some (.int .i64 r2) ∧ wx.cell? ⟨B2, 1, none⟩ = some (.int .i64 c2) ∧ wx.cell? ⟨B2, 2, none⟩ = some (.slice q2 k2 cc2)) ∧ MkSay wx 0 R C zs.length (combL zs (modL x ds C'.toNat) (-1)) E r2 c2 k2 q2 cc2 ∧ B2 < wx.heap.size ∧ Below W3.heap.size W3 wx)
        case first =>
          go_region_held3 (fun w' => (w'.cell? ⟨w.heap.size, 0, none⟩ = some (.int .i64 x.a) ∧ w'.cell? ⟨w.heap.size, 1, none⟩ = some (.int .i64 x.b) ∧ w'.cell? ⟨w.heap.size, 2, none⟩ = some (.int .i64 x.c) ∧ w'.cell? ⟨w.heap.size, 3, none⟩ = some (.int .i64 x.d)) ∧ (w'.cell? ⟨w.heap.size + 1, 0, none⟩ = some (.int .i64 R') ∧ w'.cell? ⟨w.heap.size + 1, 1, none⟩ = some (.int .i64 C') ∧ w'.cell? ⟨w.heap.size + 1, 2, none⟩ = some (.slice a' ds.length cap')) ∧ (w'.cell? ⟨w.heap.size + 2, 0, none⟩ = some (.int .i64 R) ∧ w'.cell? ⟨w.heap.size + 2, 1, none⟩ = some (.int .i64 C) ∧ w'.cell? ⟨w.heap.size + 2, 2, none⟩ = some (.slice a zs.length cap))) (first | exact ⟨⟨x0, x1, x2, x3⟩, ⟨j0, j1, j2⟩, k0, k1, k2'⟩ | ((first | (simp [go_sem, x0, x1, x2, x3, j0, j1, j2, k0, k1, k2']; done) | simp [go_sem, x0, x1, x2, x3, j0, j1, j2, k0, k1, k2', ↓IntWalk.iteOmega]); done)) (first | (go_at_call 43; (with_reducible refine (HCH.out _ (by (repeat' (first | with_reducible exact Below.refl _ _ | (with_reducible refine below_later_of ?_ ?_ _) | (with_reducible refine Below.alloc ?_ ?_ _) | (with_reducible refine Below.setCell ?_ ?_ _) | (with_reducible refine Below.drew ?_) | (simp; done) | (simp; omega) | omega)))).mono ?_); rintro e w' ⟨a3, c3, rfl, hv, hb⟩; have HVH := Lib.hid hv.fl; clear hv; obtain ⟨p3, rfl⟩ := later_of_below hb; clear hb) | (go_at_call 21; (with_reducible refine (HCM.out _ (by (repeat' (first | with_reducible exact Below.refl _ _ | (with_reducible refine below_later_of ?_ ?_ _) | (with_reducible refine Below.alloc ?_ ?_ _) | (with_reducible refine Below.setCell ?_ ?_ _) | (with_reducible refine Below.drew ?_) | (simp; done) | (simp; omega) | omega)))).mono ?_); rintro e w' ⟨a4, c4, rfl, hv, hb⟩; have HVM := Lib.hid hv.ints; clear hv; obtain ⟨p4, rfl⟩ := later_of_below hb; clear hb) | (go_at_call 44; (with_reducible refine (fla_det x R' C' ds _ R C zs _ _ (by omega) (HVH.out.below (by (repeat' (first | with_reducible exact Below.refl _ _ | (with_reducible refine below_later_of ?_ ?_ _) | (with_reducible refine Below.alloc ?_ ?_ _) | (with_reducible refine Below.setCell ?_ ?_ _) | (with_reducible refine Below.drew ?_) | (simp; done) | (simp; omega) | omega)))) (HVM.out.below (by (repeat' (first | with_reducible exact Below.refl _ _ | (with_reducible refine below_later_of ?_ ?_ _) | (with_reducible refine Below.alloc ?_ ?_ _) | (with_reducible refine Below.setCell ?_ ?_ _) | (with_reducible refine Below.drew ?_) | (simp; done) | (simp; omega) | omega)))) HE2.out).mono ?_); rintro e w' ⟨r2, c2, k2, q2, cc2, rfl, hs, hb⟩; have HS := Lib.hid hs; clear hs; obtain ⟨p5, rfl⟩ := later_of_below hb; clear hb))
          all_goals
            rename_i hheld
            clear hheld
            go_wp2_with fail
            go_meet
            refine ⟨_, r2, c2, k2, q2, cc2, rfl, rfl, ⟨(by (first | (simp [go_sem]; done) | simp [go_sem, ↓IntWalk.iteOmega])), (by (first | (simp [go_sem]; done) | simp [go_sem, ↓IntWalk.iteOmega])), (by (first | (simp [go_sem]; done) | simp [go_sem, ↓IntWalk.iteOmega]))⟩, ?_, by simp <;> omega, (by (repeat' (first | with_reducible exact Below.refl _ _ | (with_reducible refine below_later_of ?_ ?_ _) | (with_reducible refine Below.alloc ?_ ?_ _) | (with_reducible refine Below.setCell ?_ ?_ _) | (with_reducible refine Below.drew ?_) | (simp; done) | (simp; omega) | omega)))⟩
            first
              | (refine (HS.out.below ?_).mono (Nat.zero_le _); (repeat' (first | with_reducible exact Below.refl _ _ | (with_reducible refine below_later_of ?_ ?_ _) | (with_reducible refine Below.alloc ?_ ?_ _) | (with_reducible refine Below.setCell ?_ ?_ _) | (with_reducible refine Below.drew ?_) | (simp; done) | (simp; omega) | omega)); done)
              | (refine (MkSay.set (MkSay.set (MkSay.set HS.out ?_ _) ?_ _) ?_ _).mono (Nat.zero_le _) <;> simp <;> omega)
        case rest =>
          obtain ⟨B2, r2, c2, k2, q2, cc2, rfl, rfl, ⟨u0, u1, u2⟩, hsay2, hB2, hb⟩ := hcut
          obtain ⟨W5, hW5⟩ : ∃ W5 : World, W5 = wc := ⟨_, rfl⟩
          subst hW5
          have hs5 := hb.size
          have HB5 := Lib.hid (HB3.out.trans (hb.mono (by have := HB3.out.size; omega)))
          have HSA := Lib.hid (HSAY.out.below hb)
          replace x0 := (hb.cell (p := ⟨w.heap.size, 0, none⟩) (by simp; omega)).trans x0
          replace x1 := (hb.cell (p := ⟨w.heap.size, 1, none⟩) (by simp; omega)).trans x1
          replace x2 := (hb.cell (p := ⟨w.heap.size, 2, none⟩) (by simp; omega)).trans x2
          replace x3 := (hb.cell (p := ⟨w.heap.size, 3, none⟩) (by simp; omega)).trans x3
          replace j0 := (hb.cell (p := ⟨w.heap.size + 1, 0, none⟩) (by simp; omega)).trans j0
          replace j1 := (hb.cell (p := ⟨w.heap.size + 1, 1, none⟩) (by simp; omega)).trans j1
          replace j2 := (hb.cell (p := ⟨w.heap.size + 1, 2, none⟩) (by simp; omega)).trans j2
          replace k0 := (hb.cell (p := ⟨w.heap.size + 2, 0, none⟩) (by simp; omega)).trans k0
          replace k1 := (hb.cell (p := ⟨w.heap.size + 2, 1, none⟩) (by simp; omega)).trans k1
          replace k2' := (hb.cell (p := ⟨w.heap.size + 2, 2, none⟩) (by simp; omega)).trans k2'
          replace o0 := (hb.cell (p := ⟨B, 0, none⟩) hB).trans o0
          replace o1 := (hb.cell (p := ⟨B, 1, none⟩) hB).trans o1
          replace o2 := (hb.cell (p := ⟨B, 2, none⟩) hB).trans o2
          have hB5 : B < W5.heap.size := by omega
          have hw5 : w.heap.size + 2 < W5.heap.size := by omega
          have HRM := Lib.hid (show ∀ W, Below W5.heap.size W5 W → _ from fun W hW => HRM0.out W (HB5.out.trans (hW.mono HB5.out.size)))
          have HCK := Lib.hid (show ∀ W, Below W5.heap.size W5 W → _ from fun W hW => HCK0.out W (HB5.out.trans (hW.mono HB5.out.size)))
          have HSAY2 := Lib.hid hsay2
          have dz2 : (z2 != z2) = false := by simp
          have dE : (E == E) = true := by simp
          clear hb HCH HCM HCH0 HCM0 HSAY hsay2
          by_cases h1 : z1 = 0
          · subst h1
            by_cases h2 : z2 = 0
            · subst h2
              by_cases h3 : R' = R ∧ C' = C
              · have hE0 : (0 : Int) = E := by rw [← HEE.out, if_neg (by simp), if_neg (by simp), if_pos h3]
                subst hE0
                obtain ⟨rfl, rfl⟩ := h3
                obtain ⟨Rn, Cn, rfl, rfl, hmo, -, -, -⟩ := HML.out rfl
                obtain ⟨Rm, Cm, hRm, hCm, hm⟩ := HZM.out rfl
                obtain rfl : Rm = Rn := by omega
                obtain rfl : Cm = Cn := by omega
                obtain ⟨rfl, rfl, rfl, hown⟩ := HSAY2.out.1 rfl
                have HMM := Lib.hid hm
                have HMO := Lib.hid hmo
                have HRC := Lib.hid (show ∀ W (y : Value), Below W5.heap.size W5 W → IntsV W y (modL x ds Cm) → Calls Tryz.prog 26 #[.agg #[.int .i64 Rm, .int .i64 Cm, .slice a zs.length cap], .agg #[.int .i64 Rm, .int .i64 Cm, y], .int .i64 (-1)] W fun e w' => ∃ a6 c6, e = .returned (.agg #[.int .i64 Rm, .int .i64 Cm, .slice a6 zs.length c6]) ∧ OwnIV W.heap.size w' (.slice a6 zs.length c6) (combL zs (modL x ds Cm) (-1)) ∧ Below W.heap.size W w' from fun W y hW hy => by
                  have hbw := HB5.out.trans (hW.mono HB5.out.size)
                  have := rCombined Rm Cm Rm Cm zs (modL x ds Cm) (-1) _ _ W (Or.inr rfl) HMM.out HMO.out (HVV.out.below hbw) hy
                  unfold RmPost at this
                  rw [combL_len] at this
                  exact this)
                have HSP := Lib.hid (show ∀ W (y : Value), Below W5.heap.size W5 W → IntsV W y (combL zs (modL x ds Cm) (-1)) → Calls Tryz.prog 25 #[.agg #[.int .i64 Rm, .int .i64 Cm, .slice q2 zs.length cc2], .agg #[.int .i64 Rm, .int .i64 Cm, y]] W fun e w' => e = .returned (.bool true) ∧ Below W.heap.size W w' from
                  fun W y hW hy => bSamePhases _ _ _ _ _ _ _ _ W (hown.below hW).ints hy (by simp))
                have HSS := Lib.hid (show ∀ (k3 cc3 : Nat) (q3 : Option Addr) w, _ from fun k3 cc3 q3 w => HSS.out Rm Cm k3 cc3 q3 true (by simp) w)
                clear hm hmo hown HEE HE2 HE1 hRm hCm
                go_wp2_with (first | (go_at_call 45; (with_reducible refine (HRM.out _ (by (repeat' (first | with_reducible exact Below.refl _ _ | (with_reducible refine below_later_of ?_ ?_ _) | (with_reducible refine Below.alloc ?_ ?_ _) | (with_reducible refine Below.setCell ?_ ?_ _) | (with_reducible refine Below.drew ?_) | (simp; done) | (simp; omega) | omega)))).mono ?_); rintro e w' ⟨r3, c3, k3, q3, cc3, rfl, hs, hb⟩; have HS3 := Lib.hid hs; obtain ⟨rfl, rfl, rfl, ho⟩ := hs.1 rfl; have HO3 := Lib.hid ho; clear hs ho; obtain ⟨p6, rfl⟩ := later_of_below hb; clear hb) | (go_at_call 25; (with_reducible refine (mk_same (HSA.out.below (by (repeat' (first | with_reducible exact Below.refl _ _ | (with_reducible refine below_later_of ?_ ?_ _) | (with_reducible refine Below.alloc ?_ ?_ _) | (with_reducible refine Below.setCell ?_ ?_ _) | (with_reducible refine Below.drew ?_) | (simp; done) | (simp; omega) | omega)))) (HS3.out.below (by (repeat' (first | with_reducible exact Below.refl _ _ | (with_reducible refine below_later_of ?_ ?_ _) | (with_reducible refine Below.alloc ?_ ?_ _) | (with_reducible refine Below.setCell ?_ ?_ _) | (with_reducible refine Below.drew ?_) | (simp; done) | (simp; omega) | omega))))).mono ?_); rintro e w' ⟨rfl, hb⟩; obtain ⟨p7, rfl⟩ := later_of_below hb; clear hb) | (go_at_call 30; (with_reducible refine (HCK.out _ (by (repeat' (first | with_reducible exact Below.refl _ _ | (with_reducible refine below_later_of ?_ ?_ _) | (with_reducible refine Below.alloc ?_ ?_ _) | (with_reducible refine Below.setCell ?_ ?_ _) | (with_reducible refine Below.drew ?_) | (simp; done) | (simp; omega) | omega)))).mono ?_); rintro e w' ⟨rfl, hb⟩; obtain ⟨p8, rfl⟩ := later_of_below hb; clear hb) | (go_at_call 33; (with_reducible refine (HSS.out _ _ _ _).mono ?_); rintro e w' ⟨rfl, hb⟩; obtain ⟨p9, rfl⟩ := later_of_below hb; clear hb))
                obtain ⟨B3, hB3⟩ : ∃ B3, B3 = W5.heap.size + p6.os.size := ⟨_, rfl⟩
                simp only [← hB3]
                refine any_worldF (fun w' => (w'.cell? ⟨w.heap.size + 2, 0, none⟩ = some (.int .i64 Rm) ∧ w'.cell? ⟨w.heap.size + 2, 1, none⟩ = some (.int .i64 Cm) ∧ w'.cell? ⟨w.heap.size + 2, 2, none⟩ = some (.slice a zs.length cap)) ∧ (w'.cell? ⟨B3, 0, none⟩ = some (.int .i64 Rm) ∧ w'.cell? ⟨B3, 1, none⟩ = some (.int .i64 Cm) ∧ w'.cell? ⟨B3, 2, none⟩ = some (.slice q3 ds.length cc3)) ∧ (w'.cell? ⟨B2, 0, none⟩ = some (.int .i64 Rm) ∧ w'.cell? ⟨B2, 1, none⟩ = some (.int .i64 Cm) ∧ w'.cell? ⟨B2, 2, none⟩ = some (.slice q2 zs.length cc2)) ∧ IntsV w' (.slice q3 ds.length cc3) (modL x ds Cm) ∧ B3 < w'.heap.size ∧ Below W5.heap.size W5 w') ⟨⟨(by (first | (simp [go_sem, k0, k1, k2', u0, u1, u2]; done) | simp [go_sem, k0, k1, k2', u0, u1, u2, ↓IntWalk.iteOmega])), (by (first | (simp [go_sem, k0, k1, k2', u0, u1, u2]; done) | simp [go_sem, k0, k1, k2', u0, u1, u2, ↓IntWalk.iteOmega])), (by (first | (simp [go_sem, k0, k1, k2', u0, u1, u2]; done) | simp [go_sem, k0, k1, k2', u0, u1, u2, ↓IntWalk.iteOmega]))⟩, ⟨by rw [hB3]; (first | (simp [go_sem, k0, k1, k2', u0, u1, u2]; done) | simp [go_sem, k0, k1, k2', u0, u1, u2, ↓IntWalk.iteOmega]), by rw [hB3]; (first | (simp [go_sem, k0, k1, k2', u0, u1, u2]; done) | simp [go_sem, k0, k1, k2', u0, u1, u2, ↓IntWalk.iteOmega]), by rw [hB3]; (first | (simp [go_sem, k0, k1, k2', u0, u1, u2]; done) | simp [go_sem, k0, k1, k2', u0, u1, u2, ↓IntWalk.iteOmega])⟩, ⟨(by (first | (simp [go_sem, k0, k1, k2', u0, u1, u2]; done) | simp [go_sem, k0, k1, k2', u0, u1, u2, ↓IntWalk.iteOmega])), (by (first | (simp [go_sem, k0, k1, k2', u0, u1, u2]; done) | simp [go_sem, k0, k1, k2', u0, u1, u2, ↓IntWalk.iteOmega])), (by (first | (simp [go_sem, k0, k1, k2', u0, u1, u2]; done) | simp [go_sem, k0, k1, k2', u0, u1, u2, ↓IntWalk.iteOmega]))⟩, OwnIV.ints (HO3.out.below (by (repeat' (first | with_reducible exact Below.refl _ _ | (with_reducible refine below_later_of ?_ ?_ _) | (with_reducible refine Below.alloc ?_ ?_ _) | (with_reducible refine Below.setCell ?_ ?_ _) | (with_reducible refine Below.drew ?_) | (simp; done) | (simp; omega) | omega)))), by rw [hB3]; simp; omega, (by (repeat' (first | with_reducible exact Below.refl _ _ | (with_reducible refine below_later_of ?_ ?_ _) | (with_reducible refine Below.alloc ?_ ?_ _) | (with_reducible refine Below.setCell ?_ ?_ _) | (with_reducible refine Below.drew ?_) | (simp; done) | (simp; omega) | omega)))⟩ ?_
                clear x0 x1 x2 x3 j0 j1 j2 k0 k1 k2' o0 o1 o2 u0 u1 u2
                rintro W6 ⟨⟨k0, k1, k2'⟩, ⟨v0, v1, v2⟩, ⟨u0, u1, u2⟩, hiw, hB36, hb6⟩
                have HB6 := Lib.hid hb6
                have hs6 := hb6.size
                have HIW := Lib.hid hiw
                have HRC' := Lib.hid (show ∀ W (y : Value), Below W6.heap.size W6 W → _ from fun W y hW => HRC.out W y (HB6.out.trans (hW.mono hs6)))
                have HSP' := Lib.hid (show ∀ W (y : Value), Below W6.heap.size W6 W → _ from fun W y hW => HSP.out W y (HB6.out.trans (hW.mono hs6)))
                clear hb6 hiw HRC HSP hB3
                have HRC := HRC'
                have HSP := HSP'
                go_wp2_with fail
                go_region_held3 (fun w' => (w'.cell? ⟨w.heap.size + 2, 0, none⟩ = some (.int .i64 Rm) ∧ w'.cell? ⟨w.heap.size + 2, 1, none⟩ = some (.int .i64 Cm) ∧ w'.cell? ⟨w.heap.size + 2, 2, none⟩ = some (.slice a zs.length cap)) ∧ (w'.cell? ⟨B3, 0, none⟩ = some (.int .i64 Rm) ∧ w'.cell? ⟨B3, 1, none⟩ = some (.int .i64 Cm) ∧ w'.cell? ⟨B3, 2, none⟩ = some (.slice q3 ds.length cc3)) ∧ (w'.cell? ⟨B2, 0, none⟩ = some (.int .i64 Rm) ∧ w'.cell? ⟨B2, 1, none⟩ = some (.int .i64 Cm) ∧ w'.cell? ⟨B2, 2, none⟩ = some (.slice q2 zs.length cc2))) (first | exact ⟨⟨k0, k1, k2'⟩, ⟨v0, v1, v2⟩, u0, u1, u2⟩ | ((first | (simp [go_sem, k0, k1, k2', v0, v1, v2, u0, u1, u2]; done) | simp [go_sem, k0, k1, k2', v0, v1, v2, u0, u1, u2, ↓IntWalk.iteOmega]); done)) (first | (go_at_call 26; (with_reducible refine (HRC.out _ _ (by (repeat' (first | with_reducible exact Below.refl _ _ | (with_reducible refine below_later_of ?_ ?_ _) | (with_reducible refine Below.alloc ?_ ?_ _) | (with_reducible refine Below.setCell ?_ ?_ _) | (with_reducible refine Below.drew ?_) | (simp; done) | (simp; omega) | omega))) (HIW.out.below (by (repeat' (first | with_reducible exact Below.refl _ _ | (with_reducible refine below_later_of ?_ ?_ _) | (with_reducible refine Below.alloc ?_ ?_ _) | (with_reducible refine Below.setCell ?_ ?_ _) | (with_reducible refine Below.drew ?_) | (simp; done) | (simp; omega) | omega))))).mono ?_); rintro e w' ⟨a6, c6, rfl, ho, hb⟩; have HO6 := Lib.hid ho.ints; clear ho; obtain ⟨p16, rfl⟩ := later_of_below hb; clear hb) | (go_at_call 25; (with_reducible refine (HSP.out _ _ (by (repeat' (first | with_reducible exact Below.refl _ _ | (with_reducible refine below_later_of ?_ ?_ _) | (with_reducible refine Below.alloc ?_ ?_ _) | (with_reducible refine Below.setCell ?_ ?_ _) | (with_reducible refine Below.drew ?_) | (simp; done) | (simp; omega) | omega))) (HO6.out.below (by (repeat' (first | with_reducible exact Below.refl _ _ | (with_reducible refine below_later_of ?_ ?_ _) | (with_reducible refine Below.alloc ?_ ?_ _) | (with_reducible refine Below.setCell ?_ ?_ _) | (with_reducible refine Below.drew ?_) | (simp; done) | (simp; omega) | omega))))).mono ?_); rintro e w' ⟨rfl, hb⟩; obtain ⟨p18, rfl⟩ := later_of_below hb; clear hb))
                all_goals
                  rename_i hheld
                  clear hheld
                  go_wp2_with fail
                  go_ret
                  exact ⟨rfl, HB5.out.trans (below_mono_of HB5.out.size (HB6.out.trans (below_mono_of hs6 (by (repeat' (first | with_reducible exact Below.refl _ _ | (with_reducible refine below_later_of ?_ ?_ _) | (with_reducible refine Below.alloc ?_ ?_ _) | (with_reducible refine Below.setCell ?_ ?_ _) | (with_reducible refine Below.drew ?_) | (simp; done) | (simp; omega) | omega))))))⟩
              · have hE0 : (13 : Int) = E := by rw [← HEE.out, if_neg (by simp), if_neg (by simp), if_neg h3]
                subst hE0
                obtain ⟨rfl, rfl, rfl⟩ := HSAY2.out.2 (by decide)
                have HSS := Lib.hid (show ∀ (k3 cc3 : Nat) (q3 : Option Addr) w, _ from fun k3 cc3 q3 w => HSS.out R' C' k3 cc3 q3 false (by simpa using h3) w)
                clear h3 HEE HE2
                go_wp2_with (first | (go_at_call 45; (with_reducible refine (HRM.out _ (by (repeat' (first | with_reducible exact Below.refl _ _ | (with_reducible refine below_later_of ?_ ?_ _) | (with_reducible refine Below.alloc ?_ ?_ _) | (with_reducible refine Below.setCell ?_ ?_ _) | (with_reducible refine Below.drew ?_) | (simp; done) | (simp; omega) | omega)))).mono ?_); rintro e w' ⟨r3, c3, k3, q3, cc3, rfl, hs, hb⟩; have HS3 := Lib.hid hs; obtain ⟨rfl, rfl, rfl, ho⟩ := hs.1 rfl; have HO3 := Lib.hid ho; clear hs ho; obtain ⟨p6, rfl⟩ := later_of_below hb; clear hb) | (go_at_call 25; (with_reducible refine (mk_same (HSA.out.below (by (repeat' (first | with_reducible exact Below.refl _ _ | (with_reducible refine below_later_of ?_ ?_ _) | (with_reducible refine Below.alloc ?_ ?_ _) | (with_reducible refine Below.setCell ?_ ?_ _) | (with_reducible refine Below.drew ?_) | (simp; done) | (simp; omega) | omega)))) (HS3.out.below (by (repeat' (first | with_reducible exact Below.refl _ _ | (with_reducible refine below_later_of ?_ ?_ _) | (with_reducible refine Below.alloc ?_ ?_ _) | (with_reducible refine Below.setCell ?_ ?_ _) | (with_reducible refine Below.drew ?_) | (simp; done) | (simp; omega) | omega))))).mono ?_); rintro e w' ⟨rfl, hb⟩; obtain ⟨p7, rfl⟩ := later_of_below hb; clear hb) | (go_at_call 30; (with_reducible refine (HCK.out _ (by (repeat' (first | with_reducible exact Below.refl _ _ | (with_reducible refine below_later_of ?_ ?_ _) | (with_reducible refine Below.alloc ?_ ?_ _) | (with_reducible refine Below.setCell ?_ ?_ _) | (with_reducible refine Below.drew ?_) | (simp; done) | (simp; omega) | omega)))).mono ?_); rintro e w' ⟨rfl, hb⟩; obtain ⟨p8, rfl⟩ := later_of_below hb; clear hb) | (go_at_call 33; (with_reducible refine (HSS.out _ _ _ _).mono ?_); rintro e w' ⟨rfl, hb⟩; obtain ⟨p9, rfl⟩ := later_of_below hb; clear hb) | (go_at_call 24; (with_reducible refine (lNoMap0 _ _ _).mono ?_); rintro e w' ⟨rfl, hb⟩; obtain ⟨p10, rfl⟩ := later_of_below hb; clear hb))
                go_ret
                exact ⟨ret_bool (by simp), HB5.out.trans (below_mono_of HB5.out.size (by (repeat' (first | with_reducible exact Below.refl _ _ | (with_reducible refine below_later_of ?_ ?_ _) | (with_reducible refine Below.alloc ?_ ?_ _) | (with_reducible refine Below.setCell ?_ ?_ _) | (with_reducible refine Below.drew ?_) | (simp; done) | (simp; omega) | omega))))⟩
            · have hE0 : z2 = E := by rw [← HEE.out, if_neg (by simp), if_pos h2]
              subst hE0
              obtain ⟨rfl, rfl, rfl⟩ := HSAY2.out.2 h2
              have d2 : (z2 == 0) = false := by simpa using h2
              have d3 : (z2 != 0) = true := by simpa using h2
              clear h2 HEE HE2
              go_wp2_with (first | (go_at_call 45; (with_reducible refine (HRM.out _ (by (repeat' (first | with_reducible exact Below.refl _ _ | (with_reducible refine below_later_of ?_ ?_ _) | (with_reducible refine Below.alloc ?_ ?_ _) | (with_reducible refine Below.setCell ?_ ?_ _) | (with_reducible refine Below.drew ?_) | (simp; done) | (simp; omega) | omega)))).mono ?_); rintro e w' ⟨r3, c3, k3, q3, cc3, rfl, hs, hb⟩; have HS3 := Lib.hid hs; clear hs; obtain ⟨p6, rfl⟩ := later_of_below hb; clear hb) | (go_at_call 25; (with_reducible refine (mk_same (HSA.out.below (by (repeat' (first | with_reducible exact Below.refl _ _ | (with_reducible refine below_later_of ?_ ?_ _) | (with_reducible refine Below.alloc ?_ ?_ _) | (with_reducible refine Below.setCell ?_ ?_ _) | (with_reducible refine Below.drew ?_) | (simp; done) | (simp; omega) | omega)))) (HS3.out.below (by (repeat' (first | with_reducible exact Below.refl _ _ | (with_reducible refine below_later_of ?_ ?_ _) | (with_reducible refine Below.alloc ?_ ?_ _) | (with_reducible refine Below.setCell ?_ ?_ _) | (with_reducible refine Below.drew ?_) | (simp; done) | (simp; omega) | omega))))).mono ?_); rintro e w' ⟨rfl, hb⟩; obtain ⟨p7, rfl⟩ := later_of_below hb; clear hb) | (go_at_call 30; (with_reducible refine (HCK.out _ (by (repeat' (first | with_reducible exact Below.refl _ _ | (with_reducible refine below_later_of ?_ ?_ _) | (with_reducible refine Below.alloc ?_ ?_ _) | (with_reducible refine Below.setCell ?_ ?_ _) | (with_reducible refine Below.drew ?_) | (simp; done) | (simp; omega) | omega)))).mono ?_); rintro e w' ⟨rfl, hb⟩; obtain ⟨p8, rfl⟩ := later_of_below hb; clear hb) | (go_at_call 24; (with_reducible refine (lNoMap0 _ _ _).mono ?_); rintro e w' ⟨rfl, hb⟩; obtain ⟨p10, rfl⟩ := later_of_below hb; clear hb))
              go_ret
              exact ⟨ret_bool (by simp), HB5.out.trans (below_mono_of HB5.out.size (by (repeat' (first | with_reducible exact Below.refl _ _ | (with_reducible refine below_later_of ?_ ?_ _) | (with_reducible refine Below.alloc ?_ ?_ _) | (with_reducible refine Below.setCell ?_ ?_ _) | (with_reducible refine Below.drew ?_) | (simp; done) | (simp; omega) | omega))))⟩
          · have hE0 : z1 = E := by rw [← HEE.out, if_pos h1]
            subst hE0
            obtain ⟨rfl, rfl, rfl⟩ := HSAY2.out.2 h1
            have d2 : (z1 == 0) = false := by simpa using h1
            have d3 : (z1 != 0) = true := by simpa using h1
            clear h1 HEE HE2
            go_wp2_with (first | (go_at_call 45; (with_reducible refine (HRM.out _ (by (repeat' (first | with_reducible exact Below.refl _ _ | (with_reducible refine below_later_of ?_ ?_ _) | (with_reducible refine Below.alloc ?_ ?_ _) | (with_reducible refine Below.setCell ?_ ?_ _) | (with_reducible refine Below.drew ?_) | (simp; done) | (simp; omega) | omega)))).mono ?_); rintro e w' ⟨r3, c3, k3, q3, cc3, rfl, hs, hb⟩; have HS3 := Lib.hid hs; clear hs; obtain ⟨p6, rfl⟩ := later_of_below hb; clear hb) | (go_at_call 25; (with_reducible refine (mk_same (HSA.out.below (by (repeat' (first | with_reducible exact Below.refl _ _ | (with_reducible refine below_later_of ?_ ?_ _) | (with_reducible refine Below.alloc ?_ ?_ _) | (with_reducible refine Below.setCell ?_ ?_ _) | (with_reducible refine Below.drew ?_) | (simp; done) | (simp; omega) | omega)))) (HS3.out.below (by (repeat' (first | with_reducible exact Below.refl _ _ | (with_reducible refine below_later_of ?_ ?_ _) | (with_reducible refine Below.alloc ?_ ?_ _) | (with_reducible refine Below.setCell ?_ ?_ _) | (with_reducible refine Below.drew ?_) | (simp; done) | (simp; omega) | omega))))).mono ?_); rintro e w' ⟨rfl, hb⟩; obtain ⟨p7, rfl⟩ := later_of_below hb; clear hb) | (go_at_call 30; (with_reducible refine (HCK.out _ (by (repeat' (first | with_reducible exact Below.refl _ _ | (with_reducible refine below_later_of ?_ ?_ _) | (with_reducible refine Below.alloc ?_ ?_ _) | (with_reducible refine Below.setCell ?_ ?_ _) | (with_reducible refine Below.drew ?_) | (simp; done) | (simp; omega) | omega)))).mono ?_); rintro e w' ⟨rfl, hb⟩; obtain ⟨p8, rfl⟩ := later_of_below hb; clear hb) | (go_at_call 24; (with_reducible refine (lNoMap0 _ _ _).mono ?_); rintro e w' ⟨rfl, hb⟩; obtain ⟨p10, rfl⟩ := later_of_below hb; clear hb))
            go_ret
            exact ⟨ret_bool (by simp), HB5.out.trans (below_mono_of HB5.out.size (by (repeat' (first | with_reducible exact Below.refl _ _ | (with_reducible refine below_later_of ?_ ?_ _) | (with_reducible refine Below.alloc ?_ ?_ _) | (with_reducible refine Below.setCell ?_ ?_ _) | (with_reducible refine Below.drew ?_) | (simp; done) | (simp; omega) | omega))))⟩
    · obtain ⟨⟨a, cap, rfl, -⟩, -⟩ := hx
      obtain ⟨a', cap', rfl, -⟩ := hq
      have HLI := Lib.hid (fun w => lLight R C zs.length cap a w (decide_eq_true hn))
      have hd2 : decide (150 < (ds.length : Int)) = true := by simp; omega
      go_enter Tryz.func7, Tryz.ntmps7
      go_wp2_with (first | (go_at_call 13; (with_reducible refine (awake4 _ (HT.out.below (by (repeat' (first | with_reducible exact Below.refl _ _ | (with_reducible refine below_later_of ?_ ?_ _) | (with_reducible refine Below.alloc ?_ ?_ _) | (with_reducible refine Below.setCell ?_ ?_ _) | (with_reducible refine Below.drew ?_) | (simp; done) | (simp; omega) | omega))))).mono ?_); rintro e w' ⟨rfl, hb⟩; obtain ⟨pp, rfl⟩ := later_of_below hb; clear hb) | (go_at_call 19; (with_reducible refine (HLI.out _).mono ?_); rintro e w' ⟨rfl, hb⟩; obtain ⟨p0, rfl⟩ := later_of_below hb; clear hb))
      go_ret
      exact ⟨rfl, (by (repeat' (first | with_reducible exact Below.refl _ _ | (with_reducible refine below_later_of ?_ ?_ _) | (with_reducible refine Below.alloc ?_ ?_ _) | (with_reducible refine Below.setCell ?_ ?_ _) | (with_reducible refine Below.drew ?_) | (simp; done) | (simp; omega) | omega)))⟩
  · obtain ⟨⟨a, cap, rfl, -⟩, -⟩ := hx
    obtain ⟨a', cap', rfl, -⟩ := hq
    have HLI := Lib.hid (fun w => lLight R C zs.length cap a w (decide_eq_false hn))
    go_enter Tryz.func7, Tryz.ntmps7
    go_wp2_with (first | (go_at_call 13; (with_reducible refine (awake4 _ (HT.out.below (by (repeat' (first | with_reducible exact Below.refl _ _ | (with_reducible refine below_later_of ?_ ?_ _) | (with_reducible refine Below.alloc ?_ ?_ _) | (with_reducible refine Below.setCell ?_ ?_ _) | (with_reducible refine Below.drew ?_) | (simp; done) | (simp; omega) | omega))))).mono ?_); rintro e w' ⟨rfl, hb⟩; obtain ⟨pp, rfl⟩ := later_of_below hb; clear hb) | (go_at_call 19; (with_reducible refine (HLI.out _).mono ?_); rintro e w' ⟨rfl, hb⟩; obtain ⟨p0, rfl⟩ := later_of_below hb; clear hb))
    go_ret
    exact ⟨rfl, (by (repeat' (first | with_reducible exact Below.refl _ _ | (with_reducible refine below_later_of ?_ ?_ _) | (with_reducible refine Below.alloc ?_ ?_ _) | (with_reducible refine Below.setCell ?_ ?_ _) | (with_reducible refine Below.drew ?_) | (simp; done) | (simp; omega) | omega)))⟩
end Go.Proofs.YtfiioadmpjmmgaaGreatDoor
