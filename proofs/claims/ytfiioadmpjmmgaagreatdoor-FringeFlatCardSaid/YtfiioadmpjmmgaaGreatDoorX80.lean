/- Chapter 4: the law FringeFlat. -/
import Derived.Test.YtfiioadmpjmmgaaGreatDoorX79
import Derived.Test.YtfiioadmpjmmgaaGreatDoorX20
namespace Go.Proofs.YtfiioadmpjmmgaaGreatDoor
set_option linter.unusedVariables false
set_option linter.unusedSimpArgs false
open Go.RowKit Ieee Ntt
set_option maxRecDepth 20000 in
set_option maxHeartbeats 40000000 in
theorem flat_any (x : Mdl) (R' C' : Int) (ds : List Nat) (v : Value) (w : World) (hq : FlX w v ds) (ht : Tab w) :
    Calls Tryz.prog 8 #[.agg #[.int .i64 x.a, .int .i64 x.b, .int .i64 x.c, .int .i64 x.d], .agg #[.int .i64 R', .int .i64 C', v]] w fun e w' => e = .returned (.bool true) ∧ Below w.heap.size w w' := by
  have HT := Lib.hid ht
  clear ht
  by_cases hn2 : ds.length ≤ 150
  · have hu := hq.fl (by omega)
    obtain ⟨a', cap', rfl, -⟩ := hq
    have hd2 : decide (150 < (ds.length : Int)) = false := by simp; omega
    obtain ⟨z2, hz2⟩ : ∃ z2, modE x R' C' ds = z2 := ⟨_, rfl⟩
    have HE1 := Lib.hid hz2
    have HCH0 := Lib.hid (show ∀ W, Below w.heap.size w W → _ from fun W hW => copyFl_any R' C' ds _ W (hu.below hW))
    clear hu hz2
    go_enter Tryz.func8, Tryz.ntmps8
    go_wp2_with (first | (go_at_call 13; (with_reducible refine (awake4 _ (HT.out.below (by (repeat' (first | with_reducible exact Below.refl _ _ | (with_reducible refine below_later_of ?_ ?_ _) | (with_reducible refine Below.alloc ?_ ?_ _) | (with_reducible refine Below.setCell ?_ ?_ _) | (with_reducible refine Below.drew ?_) | (simp; done) | (simp; omega) | omega))))).mono ?_); rintro e w' ⟨rfl, hb⟩; obtain ⟨pp, rfl⟩ := later_of_below hb; clear hb))
    refine any_worldF (fun w' => (w'.cell? ⟨w.heap.size, 0, none⟩ = some (.int .i64 x.a) ∧ w'.cell? ⟨w.heap.size, 1, none⟩ = some (.int .i64 x.b) ∧ w'.cell? ⟨w.heap.size, 2, none⟩ = some (.int .i64 x.c) ∧ w'.cell? ⟨w.heap.size, 3, none⟩ = some (.int .i64 x.d)) ∧ (w'.cell? ⟨w.heap.size + 1, 0, none⟩ = some (.int .i64 R') ∧ w'.cell? ⟨w.heap.size + 1, 1, none⟩ = some (.int .i64 C') ∧ w'.cell? ⟨w.heap.size + 1, 2, none⟩ = some (.slice a' ds.length cap')) ∧ Below w.heap.size w w' ∧ w.heap.size + 1 < w'.heap.size) ⟨⟨(by (first | (simp [go_sem]; done) | simp [go_sem, ↓IntWalk.iteOmega])), (by (first | (simp [go_sem]; done) | simp [go_sem, ↓IntWalk.iteOmega])), (by (first | (simp [go_sem]; done) | simp [go_sem, ↓IntWalk.iteOmega])), (by (first | (simp [go_sem]; done) | simp [go_sem, ↓IntWalk.iteOmega]))⟩, ⟨(by (first | (simp [go_sem]; done) | simp [go_sem, ↓IntWalk.iteOmega])), (by (first | (simp [go_sem]; done) | simp [go_sem, ↓IntWalk.iteOmega])), (by (first | (simp [go_sem]; done) | simp [go_sem, ↓IntWalk.iteOmega]))⟩, (by (repeat' (first | with_reducible exact Below.refl _ _ | (with_reducible refine below_later_of ?_ ?_ _) | (with_reducible refine Below.alloc ?_ ?_ _) | (with_reducible refine Below.setCell ?_ ?_ _) | (with_reducible refine Below.drew ?_) | (simp; done) | (simp; omega) | omega))), by simp; omega⟩ ?_
    rintro W1 ⟨⟨x0, x1, x2, x3⟩, ⟨j0, j1, j2⟩, hb1, hlt1⟩
    have HB1 := Lib.hid hb1
    have hs1 := hb1.size
    have HCH := Lib.hid (show ∀ W, Below W1.heap.size W1 W → _ from fun W hW => HCH0.out W (HB1.out.trans (hW.mono hs1)))
    clear hb1
    go_wp2_with fail
    go_cut [5, 6] from 26 to 31 (fun X Y wx => ∃ B r c k q cc, X = .pointer (some ⟨B, 0, none⟩) ∧ Y = .int .i64 z2 ∧ (wx.cell? ⟨B, 0, none⟩ = some (.int .i64 r) ∧ wx.cell? ⟨B, 1, none⟩ = some (.int .i64 c) ∧ wx.cell? ⟨B, 2, none⟩ = some (.slice q k cc)) ∧ MkSay wx 0 R' C' ds.length (modL x ds C'.toNat) z2 r c k q cc ∧ B < wx.heap.size ∧ Below W1.heap.size W1 wx)
    case first =>
      go_region_held3 (fun w' => (w'.cell? ⟨w.heap.size, 0, none⟩ = some (.int .i64 x.a) ∧ w'.cell? ⟨w.heap.size, 1, none⟩ = some (.int .i64 x.b) ∧ w'.cell? ⟨w.heap.size, 2, none⟩ = some (.int .i64 x.c) ∧ w'.cell? ⟨w.heap.size, 3, none⟩ = some (.int .i64 x.d)) ∧ (w'.cell? ⟨w.heap.size + 1, 0, none⟩ = some (.int .i64 R') ∧ w'.cell? ⟨w.heap.size + 1, 1, none⟩ = some (.int .i64 C') ∧ w'.cell? ⟨w.heap.size + 1, 2, none⟩ = some (.slice a' ds.length cap'))) (first | exact ⟨⟨x0, x1, x2, x3⟩, j0, j1, j2⟩ | ((first | (simp [go_sem, x0, x1, x2, x3, j0, j1, j2]; done) | simp [go_sem, x0, x1, x2, x3, j0, j1, j2, ↓IntWalk.iteOmega]); done)) (first | (go_at_call 43; (with_reducible refine (HCH.out _ (by (repeat' (first | with_reducible exact Below.refl _ _ | (with_reducible refine below_later_of ?_ ?_ _) | (with_reducible refine Below.alloc ?_ ?_ _) | (with_reducible refine Below.setCell ?_ ?_ _) | (with_reducible refine Below.drew ?_) | (simp; done) | (simp; omega) | omega)))).mono ?_); rintro e w' ⟨a3, c3, rfl, hv, hb⟩; have HVH := Lib.hid hv.fl; clear hv; obtain ⟨p3, rfl⟩ := later_of_below hb; clear hb) | (go_at_call 42; (with_reducible refine (mp_det x R' C' ds _ _ (HVH.out.below (by (repeat' (first | with_reducible exact Below.refl _ _ | (with_reducible refine below_later_of ?_ ?_ _) | (with_reducible refine Below.alloc ?_ ?_ _) | (with_reducible refine Below.setCell ?_ ?_ _) | (with_reducible refine Below.drew ?_) | (simp; done) | (simp; omega) | omega)))) HE1.out).mono ?_); rintro e w' ⟨r, c, k, q, cc, rfl, hs, hb⟩; have HS := Lib.hid hs; clear hs; obtain ⟨p5, rfl⟩ := later_of_below hb; clear hb))
      all_goals
        rename_i hheld
        clear hheld
        go_wp2_with fail
        go_meet
        refine ⟨_, r, c, k, q, cc, rfl, rfl, ⟨(by (first | (simp [go_sem]; done) | simp [go_sem, ↓IntWalk.iteOmega])), (by (first | (simp [go_sem]; done) | simp [go_sem, ↓IntWalk.iteOmega])), (by (first | (simp [go_sem]; done) | simp [go_sem, ↓IntWalk.iteOmega]))⟩, ?_, by simp <;> omega, (by (repeat' (first | with_reducible exact Below.refl _ _ | (with_reducible refine below_later_of ?_ ?_ _) | (with_reducible refine Below.alloc ?_ ?_ _) | (with_reducible refine Below.setCell ?_ ?_ _) | (with_reducible refine Below.drew ?_) | (simp; done) | (simp; omega) | omega)))⟩
        first
          | (refine (HS.out.below ?_).mono (Nat.zero_le _); (repeat' (first | with_reducible exact Below.refl _ _ | (with_reducible refine below_later_of ?_ ?_ _) | (with_reducible refine Below.alloc ?_ ?_ _) | (with_reducible refine Below.setCell ?_ ?_ _) | (with_reducible refine Below.drew ?_) | (simp; done) | (simp; omega) | omega)); done)
          | (refine (MkSay.set (MkSay.set (MkSay.set HS.out ?_ _) ?_ _) ?_ _).mono (Nat.zero_le _) <;> simp <;> omega)
    case rest =>
      obtain ⟨B, r, c, k, q, cc, rfl, rfl, ⟨o0, o1, o2⟩, hsay, hB, hb⟩ := hcut
      obtain ⟨W3, hW3⟩ : ∃ W3 : World, W3 = wc := ⟨_, rfl⟩
      subst hW3
      have hs3 := hb.size
      have HB3 := Lib.hid (HB1.out.trans (hb.mono hs1))
      replace x0 := (hb.cell (p := ⟨w.heap.size, 0, none⟩) (by simp; omega)).trans x0
      replace x1 := (hb.cell (p := ⟨w.heap.size, 1, none⟩) (by simp; omega)).trans x1
      replace x2 := (hb.cell (p := ⟨w.heap.size, 2, none⟩) (by simp; omega)).trans x2
      replace x3 := (hb.cell (p := ⟨w.heap.size, 3, none⟩) (by simp; omega)).trans x3
      replace j0 := (hb.cell (p := ⟨w.heap.size + 1, 0, none⟩) (by simp; omega)).trans j0
      replace j1 := (hb.cell (p := ⟨w.heap.size + 1, 1, none⟩) (by simp; omega)).trans j1
      replace j2 := (hb.cell (p := ⟨w.heap.size + 1, 2, none⟩) (by simp; omega)).trans j2
      have hw3 : w.heap.size + 1 < W3.heap.size := by omega
      have HCH := Lib.hid (show ∀ W, Below W3.heap.size W3 W → _ from fun W hW => HCH0.out W (HB3.out.trans (hW.mono HB3.out.size)))
      clear hb HCH0
      by_cases h2 : z2 = 0
      · subst h2
        obtain ⟨Rn, Cn, rfl, rfl, hmo, -, -, hlg⟩ := mod_right HE1.out
        obtain ⟨rfl, rfl, rfl, hown⟩ := hsay.1 rfl
        rw [Int.toNat_natCast] at hown
        have hlm : (modL x ds Cn).length = ds.length := by simp [modL]
        have hl5 := hmo.size
        have HNV := Lib.hid (fun i (hi : i < (modL x ds Cn).length) => mod_nv (x := x) (ds := ds) (C := Cn) hlg hi)
        have HFL := Lib.hid (show ∀ W (y u : Value), FlV W y ds → IntsV W u (modL x ds Cn) → Calls Tryz.prog 44 #[.agg #[.int .i64 Rn, .int .i64 Cn, u], .agg #[.int .i64 x.a, .int .i64 x.b, .int .i64 x.c, .int .i64 x.d], .agg #[.int .i64 Rn, .int .i64 Cn, y]] W fun e w' => ∃ q2 cc2, e = .returned (.tuple #[.agg #[.int .i64 Rn, .int .i64 Cn, .slice q2 ds.length cc2], .int .i64 0]) ∧ OwnIV W.heap.size w' (.slice q2 ds.length cc2) (combL (modL x ds Cn) (modL x ds Cn) (-1)) ∧ Below W.heap.size W w' from fun W y u hy hu => by
          refine (fla_det x Rn Cn ds y Rn Cn (modL x ds Cn) u W (by omega) hy hu (e0 := 0) ?_).mono ?_
          · unfold flaE
            rw [hmo.err, HE1.out]
            simp
          · rintro e w' ⟨r, c, k, qa, cc, rfl, hs, hb⟩
            obtain ⟨rfl, rfl, rfl, ho⟩ := hs.1 rfl
            rw [Int.toNat_natCast, hlm] at ho
            exact ⟨qa, cc, by rw [hlm], ho, hb⟩)
        have HWR := Lib.hid (show ∀ W (u : Value), IntsV W u (modL x ds Cn) → Calls Tryz.prog 46 #[.agg #[.int .i64 Rn, .int .i64 Cn, u]] W fun e w' => ∃ q3 cc3, e = .returned (.tuple #[.agg #[.int .i64 Rn, .int .i64 Cn, .slice q3 ds.length cc3], .int .i64 0]) ∧ OwnIV W.heap.size w' (.slice q3 ds.length cc3) (wrapL (modL x ds Cn)) ∧ Below W.heap.size W w' from fun W u hu => by
          refine (one_det Rn Cn (modL x ds Cn) u W hu (by omega) (e0 := 0) (by rw [hmo.err])).mono ?_
          rintro e w' ⟨r, c, k, qa, cc, rfl, hs, hb⟩
          obtain ⟨rfl, rfl, rfl, ho⟩ := hs.1 rfl
          rw [hlm] at ho
          exact ⟨qa, cc, by rw [hlm], ho, hb⟩)
        obtain ⟨ms, hms⟩ : ∃ ms, modL x ds Cn = ms := ⟨_, rfl⟩
        rw [hms] at hown HNV HFL HWR hmo hlm
        have HMO := Lib.hid hmo
        have HLM := Lib.hid hlm
        have HOWN := Lib.hid hown.ints
        have HCM := Lib.hid (show ∀ W, Below W3.heap.size W3 W → _ from fun W hW => bCopyPhases Rn Cn ms _ W (HOWN.out.below hW))
        have dR : ((Rn : Int) != (Rn : Int)) = false := by simp
        have dC : ((Cn : Int) != (Cn : Int)) = false := by simp
        have dL : ((ds.length : Int) != (ds.length : Int)) = false := by simp
        have hR64 := hmo.r2
        have hC64 := hmo.c2
        have hR1 := hmo.r1
        have hC1 := hmo.c1
        clear hms hown hsay hlg hmo HE1 hlm
        go_wp2_with fail
        go_cut [7, 8] from 58 to 65 (fun X Y wx => ∃ B2 q2 cc2, X = .pointer (some ⟨B2, 0, none⟩) ∧ Y = .int .i64 0 ∧ (wx.cell? ⟨B2, 0, none⟩ = some (.int .i64 Rn) ∧ wx.cell? ⟨B2, 1, none⟩ = some (.int .i64 Cn) ∧ wx.cell? ⟨B2, 2, none⟩ = some (.slice q2 ds.length cc2)) ∧ OwnIV 0 wx (.slice q2 ds.length cc2) (combL ms ms (-1)) ∧ B2 < wx.heap.size ∧ Below W3.heap.size W3 wx)
        case first =>
          go_region_held3 (fun w' => (w'.cell? ⟨w.heap.size, 0, none⟩ = some (.int .i64 x.a) ∧ w'.cell? ⟨w.heap.size, 1, none⟩ = some (.int .i64 x.b) ∧ w'.cell? ⟨w.heap.size, 2, none⟩ = some (.int .i64 x.c) ∧ w'.cell? ⟨w.heap.size, 3, none⟩ = some (.int .i64 x.d)) ∧ (w'.cell? ⟨w.heap.size + 1, 0, none⟩ = some (.int .i64 Rn) ∧ w'.cell? ⟨w.heap.size + 1, 1, none⟩ = some (.int .i64 Cn) ∧ w'.cell? ⟨w.heap.size + 1, 2, none⟩ = some (.slice a' ds.length cap')) ∧ (w'.cell? ⟨B, 0, none⟩ = some (.int .i64 Rn) ∧ w'.cell? ⟨B, 1, none⟩ = some (.int .i64 Cn) ∧ w'.cell? ⟨B, 2, none⟩ = some (.slice q ds.length cc))) (first | exact ⟨⟨x0, x1, x2, x3⟩, ⟨j0, j1, j2⟩, o0, o1, o2⟩ | ((first | (simp [go_sem, x0, x1, x2, x3, j0, j1, j2, o0, o1, o2]; done) | simp [go_sem, x0, x1, x2, x3, j0, j1, j2, o0, o1, o2, ↓IntWalk.iteOmega]); done)) (first | (go_at_call 43; (with_reducible refine (HCH.out _ (by (repeat' (first | with_reducible exact Below.refl _ _ | (with_reducible refine below_later_of ?_ ?_ _) | (with_reducible refine Below.alloc ?_ ?_ _) | (with_reducible refine Below.setCell ?_ ?_ _) | (with_reducible refine Below.drew ?_) | (simp; done) | (simp; omega) | omega)))).mono ?_); rintro e w' ⟨a3, c3, rfl, hv, hb⟩; have HVH := Lib.hid hv.fl; clear hv; obtain ⟨p3, rfl⟩ := later_of_below hb; clear hb) | (go_at_call 21; (with_reducible refine (HCM.out _ (by (repeat' (first | with_reducible exact Below.refl _ _ | (with_reducible refine below_later_of ?_ ?_ _) | (with_reducible refine Below.alloc ?_ ?_ _) | (with_reducible refine Below.setCell ?_ ?_ _) | (with_reducible refine Below.drew ?_) | (simp; done) | (simp; omega) | omega)))).mono ?_); rintro e w' ⟨a4, c4, rfl, hv, hb⟩; have HVM := Lib.hid hv.ints; clear hv; obtain ⟨p4, rfl⟩ := later_of_below hb; clear hb) | (go_at_call 44; (with_reducible refine (HFL.out _ _ _ (HVH.out.below (by (repeat' (first | with_reducible exact Below.refl _ _ | (with_reducible refine below_later_of ?_ ?_ _) | (with_reducible refine Below.alloc ?_ ?_ _) | (with_reducible refine Below.setCell ?_ ?_ _) | (with_reducible refine Below.drew ?_) | (simp; done) | (simp; omega) | omega)))) (HVM.out.below (by (repeat' (first | with_reducible exact Below.refl _ _ | (with_reducible refine below_later_of ?_ ?_ _) | (with_reducible refine Below.alloc ?_ ?_ _) | (with_reducible refine Below.setCell ?_ ?_ _) | (with_reducible refine Below.drew ?_) | (simp; done) | (simp; omega) | omega))))).mono ?_); rintro e w' ⟨q2, cc2, rfl, hs, hb⟩; have HS := Lib.hid hs; clear hs; obtain ⟨p5, rfl⟩ := later_of_below hb; clear hb))
          all_goals
            rename_i hheld
            clear hheld
            go_wp2_with fail
            go_meet
            refine ⟨_, q2, cc2, rfl, rfl, ⟨(by (first | (simp [go_sem]; done) | simp [go_sem, ↓IntWalk.iteOmega])), (by (first | (simp [go_sem]; done) | simp [go_sem, ↓IntWalk.iteOmega])), (by (first | (simp [go_sem]; done) | simp [go_sem, ↓IntWalk.iteOmega]))⟩, ?_, by simp <;> omega, (by (repeat' (first | with_reducible exact Below.refl _ _ | (with_reducible refine below_later_of ?_ ?_ _) | (with_reducible refine Below.alloc ?_ ?_ _) | (with_reducible refine Below.setCell ?_ ?_ _) | (with_reducible refine Below.drew ?_) | (simp; done) | (simp; omega) | omega)))⟩
            first
              | (refine (HS.out.below ?_).mono (Nat.zero_le _); (repeat' (first | with_reducible exact Below.refl _ _ | (with_reducible refine below_later_of ?_ ?_ _) | (with_reducible refine Below.alloc ?_ ?_ _) | (with_reducible refine Below.setCell ?_ ?_ _) | (with_reducible refine Below.drew ?_) | (simp; done) | (simp; omega) | omega)); done)
              | (refine (OwnIV.set (OwnIV.set (OwnIV.set HS.out ?_ _) ?_ _) ?_ _).mono (Nat.zero_le _) <;> simp <;> omega)
        case rest =>
          obtain ⟨B2, q2, cc2, rfl, rfl, ⟨u0, u1, u2⟩, hown2, hB2, hb⟩ := hcut
          obtain ⟨W5, hW5⟩ : ∃ W5 : World, W5 = wc := ⟨_, rfl⟩
          subst hW5
          have hs5 := hb.size
          have HB5 := Lib.hid (HB3.out.trans (hb.mono HB3.out.size))
          have HOWN5 := Lib.hid (HOWN.out.below hb)
          have HOWN2 := Lib.hid hown2.ints
          replace o0 := (hb.cell (p := ⟨B, 0, none⟩) hB).trans o0
          replace o1 := (hb.cell (p := ⟨B, 1, none⟩) hB).trans o1
          replace o2 := (hb.cell (p := ⟨B, 2, none⟩) hB).trans o2
          have hB5 : B < W5.heap.size := by omega
          have HCM := Lib.hid (show ∀ W, Below W5.heap.size W5 W → _ from fun W hW => bCopyPhases Rn Cn ms _ W (HOWN5.out.below hW))
          clear hb hown2 HCH HOWN x0 x1 x2 x3 j0 j1 j2
          go_wp2_with (first | (go_at_call 21; (with_reducible refine (HCM.out _ (by (repeat' (first | with_reducible exact Below.refl _ _ | (with_reducible refine below_later_of ?_ ?_ _) | (with_reducible refine Below.alloc ?_ ?_ _) | (with_reducible refine Below.setCell ?_ ?_ _) | (with_reducible refine Below.drew ?_) | (simp; done) | (simp; omega) | omega)))).mono ?_); rintro e w' ⟨a4, c4, rfl, hv, hb⟩; have HVM := Lib.hid hv.ints; clear hv; obtain ⟨p4, rfl⟩ := later_of_below hb; clear hb) | (go_at_call 46; (with_reducible refine (HWR.out _ _ (HVM.out.below (by (repeat' (first | with_reducible exact Below.refl _ _ | (with_reducible refine below_later_of ?_ ?_ _) | (with_reducible refine Below.alloc ?_ ?_ _) | (with_reducible refine Below.setCell ?_ ?_ _) | (with_reducible refine Below.drew ?_) | (simp; done) | (simp; omega) | omega))))).mono ?_); rintro e w' ⟨q3, cc3, rfl, hs, hb⟩; have HS3 := Lib.hid hs; clear hs; obtain ⟨p6, rfl⟩ := later_of_below hb; clear hb))
          obtain ⟨B3, hB3⟩ : ∃ B3, B3 = W5.heap.size + p4.os.size + p6.os.size := ⟨_, rfl⟩
          simp only [← hB3]
          refine any_worldF (fun w' => (w'.cell? ⟨B, 0, none⟩ = some (.int .i64 Rn) ∧ w'.cell? ⟨B, 1, none⟩ = some (.int .i64 Cn) ∧ w'.cell? ⟨B, 2, none⟩ = some (.slice q ds.length cc)) ∧ (w'.cell? ⟨B2, 0, none⟩ = some (.int .i64 Rn) ∧ w'.cell? ⟨B2, 1, none⟩ = some (.int .i64 Cn) ∧ w'.cell? ⟨B2, 2, none⟩ = some (.slice q2 ds.length cc2)) ∧ (w'.cell? ⟨B3, 0, none⟩ = some (.int .i64 Rn) ∧ w'.cell? ⟨B3, 1, none⟩ = some (.int .i64 Cn) ∧ w'.cell? ⟨B3, 2, none⟩ = some (.slice q3 ds.length cc3)) ∧ IntsV w' (.slice q3 ds.length cc3) (wrapL ms) ∧ B3 < w'.heap.size ∧ Below W5.heap.size W5 w') ⟨⟨(by (first | (simp [go_sem, o0, o1, o2, u0, u1, u2]; done) | simp [go_sem, o0, o1, o2, u0, u1, u2, ↓IntWalk.iteOmega])), (by (first | (simp [go_sem, o0, o1, o2, u0, u1, u2]; done) | simp [go_sem, o0, o1, o2, u0, u1, u2, ↓IntWalk.iteOmega])), (by (first | (simp [go_sem, o0, o1, o2, u0, u1, u2]; done) | simp [go_sem, o0, o1, o2, u0, u1, u2, ↓IntWalk.iteOmega]))⟩, ⟨(by (first | (simp [go_sem, o0, o1, o2, u0, u1, u2]; done) | simp [go_sem, o0, o1, o2, u0, u1, u2, ↓IntWalk.iteOmega])), (by (first | (simp [go_sem, o0, o1, o2, u0, u1, u2]; done) | simp [go_sem, o0, o1, o2, u0, u1, u2, ↓IntWalk.iteOmega])), (by (first | (simp [go_sem, o0, o1, o2, u0, u1, u2]; done) | simp [go_sem, o0, o1, o2, u0, u1, u2, ↓IntWalk.iteOmega]))⟩, ⟨by rw [hB3]; (first | (simp [go_sem, o0, o1, o2, u0, u1, u2]; done) | simp [go_sem, o0, o1, o2, u0, u1, u2, ↓IntWalk.iteOmega]), by rw [hB3]; (first | (simp [go_sem, o0, o1, o2, u0, u1, u2]; done) | simp [go_sem, o0, o1, o2, u0, u1, u2, ↓IntWalk.iteOmega]), by rw [hB3]; (first | (simp [go_sem, o0, o1, o2, u0, u1, u2]; done) | simp [go_sem, o0, o1, o2, u0, u1, u2, ↓IntWalk.iteOmega])⟩, OwnIV.ints (HS3.out.below (by (repeat' (first | with_reducible exact Below.refl _ _ | (with_reducible refine below_later_of ?_ ?_ _) | (with_reducible refine Below.alloc ?_ ?_ _) | (with_reducible refine Below.setCell ?_ ?_ _) | (with_reducible refine Below.drew ?_) | (simp; done) | (simp; omega) | omega)))), by rw [hB3]; first | (simp; done) | (simp; omega), (by (repeat' (first | with_reducible exact Below.refl _ _ | (with_reducible refine below_later_of ?_ ?_ _) | (with_reducible refine Below.alloc ?_ ?_ _) | (with_reducible refine Below.setCell ?_ ?_ _) | (with_reducible refine Below.drew ?_) | (simp; done) | (simp; omega) | omega)))⟩ ?_
          clear o0 o1 o2 u0 u1 u2
          rintro W7 ⟨⟨o0, o1, o2⟩, ⟨u0, u1, u2⟩, ⟨v0, v1, v2⟩, hi3, hB37, hb7⟩
          have HB7 := Lib.hid (HB5.out.trans (hb7.mono HB5.out.size))
          have hm1 := HOWN5.out.below hb7
          have hm2 := HOWN2.out.below hb7
          have HI3 := Lib.hid hi3
          have HI1 := Lib.hid hm1
          have hB7 : B < W7.heap.size := by have := hb7.size; omega
          have hB27 : B2 < W7.heap.size := by have := hb7.size; omega
          have hpos : 0 < ds.length := by rw [← HLM.out, HMO.out.len]; exact Nat.mul_pos hR1 hC1
          obtain ⟨-, _, _, he1, h4⟩ := hm1
          rw [HLM.out] at he1 h4
          cases he1
          obtain ⟨b, off, rfl, hb1, hc1⟩ := h4 hpos
          obtain ⟨-, _, _, he2, h5⟩ := hm2
          rw [combL_len, HLM.out] at he2 h5
          cases he2
          obtain ⟨b2, off2, rfl, hb2, hc2⟩ := h5 hpos
          have HC1 := Lib.hid hc1
          have HC2 := Lib.hid (show ∀ k, k < ds.length → W7.cell? ⟨b2, off2 + k, none⟩ = some (.int .i64 0) from fun k hk => by
            rw [hc2 k hk, own_zero (by rw [HLM.out]; exact hk) (HNV.out k (by rw [HLM.out]; exact hk)).1])
          have O0 := Lib.hid o0
          have O1 := Lib.hid o1
          have O2 := Lib.hid o2
          have U2 := Lib.hid u2
          have V0 := Lib.hid v0
          have V1 := Lib.hid v1
          have V2 := Lib.hid v2
          obtain ⟨n, hn'⟩ : ∃ n, ds.length = n := ⟨_, rfl⟩
          rw [hn'] at HC1 HC2 O2 U2 V2 HI1 HI3 HLM hpos
          clear hi3 hb7 h4 h5 hc1 hc2 HWR HFL HCM HOWN2 HOWN5 hB3
          obtain ⟨z, hz⟩ : ∃ z, zAt Cn (intAt ms) = z := ⟨_, rfl⟩
          have HZ := Lib.hid (show ∀ r c, z r c = intAt ms (r * Cn + c) from fun r c => by rw [← hz]; rfl)
          have HRES := Lib.hid (show (∀ r c, r < Rn → c < Cn → stepOk z Rn Cn r c) → resM Rn Cn ms = [] ∧ resM Rn Cn (wrapL ms) = [] from fun h => by
            rw [← hz] at h
            exact ⟨flat_res h, flat_wrap HMO.out (fun i hi => (HNV.out i hi).1) h⟩)
          have HNN := Lib.hid (show n = Rn * Cn by rw [← HLM.out]; exact HMO.out.len)
          have hn150 : n ≤ 150 := by omega
          clear hz hlt1 hd2 HVM HS3 dL dR dC hn'
          go_loopw [11] (fun ii wr => ∃ k : Nat, k ≤ n ∧ ii = .int .i64 k ∧ Below W7.heap.size W7 wr) (fun ii _ => n - (intOf ii).toNat)
          case atStart => exact ⟨0, Nat.zero_le _, rfl, Below.refl _ _⟩
          case round =>
            clear o0 o1 o2 u0 u1 u2 v0 v1 v2
            obtain ⟨k, hk, rfl, hbz⟩ := hrel
            have HBZ := Lib.hid hbz
            have hsz := hbz.size
            have u2 := (hbz.cell (p := ⟨B2, 2, none⟩) hB27).trans U2.out
            by_cases hlt : k < n
            · have hdk : decide ((k : Int) < (n : Int)) = true := by simp; omega
              have hk0 : (0 : Int) ≤ (k : Int) := by omega
              have hk1 : (k : Int) < (n : Int) := by omega
              have ck := (hbz.cell (p := ⟨b2, off2 + k, none⟩) hb2).trans (HC2.out k hlt)
              have hg2 : b2 < wr.heap.size := by omega
              clear hbz
              go_wp2
              go_roundw
              case rel => exact ⟨k + 1, by omega, by go_num, HBZ.out⟩
              case measure => simp [intOf]; omega
            · obtain rfl : k = n := by omega
              have hdk : decide ((k : Int) < (k : Int)) = false := by simp
              have o0 := (hbz.cell (p := ⟨B, 0, none⟩) hB7).trans O0.out
              clear hbz
              go_wp2
              go_loopw [12] (fun ii wr => ∃ l : Nat, l ≤ Rn ∧ ii = .int .i64 l ∧ Below W7.heap.size W7 wr ∧ ∀ r c, r < l → c < Cn → stepOk z Rn Cn r c) (fun ii _ => Rn - (intOf ii).toNat)
              case atStart => exact ⟨0, Nat.zero_le _, rfl, HBZ.out, fun r c h => absurd h (Nat.not_lt_zero _)⟩
              case round =>
                clear o0 u2
                obtain ⟨l, hl, rfl, hbz, hst⟩ := hrel
                have HBL := Lib.hid hbz
                have HST := Lib.hid hst
                have o0 := (hbz.cell (p := ⟨B, 0, none⟩) hB7).trans O0.out
                have o1 := (hbz.cell (p := ⟨B, 1, none⟩) hB7).trans O1.out
                have o2 := (hbz.cell (p := ⟨B, 2, none⟩) hB7).trans O2.out
                clear hst
                by_cases hlr : l < Rn
                · have hdl : decide ((l : Int) < (Rn : Int)) = true := by simp; omega
                  clear hbz
                  go_wp2
                  go_loopw [13] (fun ii wr => ∃ s : Nat, s ≤ Cn ∧ ii = .int .i64 s ∧ Below W7.heap.size W7 wr ∧ ∀ c, c < s → stepOk z Rn Cn l c) (fun ii _ => Cn - (intOf ii).toNat)
                  case atStart => exact ⟨0, Nat.zero_le _, rfl, HBL.out, fun c h => absurd h (Nat.not_lt_zero _)⟩
                  case round =>
                    clear o0 o1 o2
                    obtain ⟨s, hs, rfl, hbz, hst⟩ := hrel
                    have HBZ := Lib.hid hbz
                    have HSS := Lib.hid hst
                    have hsz := hbz.size
                    have HB9 := Lib.hid (HB7.out.trans (hbz.mono HB7.out.size))
                    have o0 := (hbz.cell (p := ⟨B, 0, none⟩) hB7).trans O0.out
                    have o1 := (hbz.cell (p := ⟨B, 1, none⟩) hB7).trans O1.out
                    have o2 := (hbz.cell (p := ⟨B, 2, none⟩) hB7).trans O2.out
                    clear hst
                    by_cases hls : s < Cn
                    · have hds : decide ((s : Int) < (Cn : Int)) = true := by simp; omega
                      obtain ⟨i, hi⟩ : ∃ i, l * Cn + s = i := ⟨_, rfl⟩
                      have hin : i < k := by
                        have h1 : (l + 1) * Cn ≤ Rn * Cn := Nat.mul_le_mul_right _ hlr
                        rw [Nat.add_mul, Nat.one_mul] at h1
                        have := HNN.out
                        omega
                      have hic : (l : Int) * (Cn : Int) + (s : Int) = (i : Int) := by rw [← hi, Int.natCast_add, Int.natCast_mul]
                      have hi1 : (i : Int) < (k : Int) := by omega
                      have hi0 : (0 : Int) ≤ (i : Int) := by omega
                      have hmm : (0 : Int) ≤ (l : Int) * (Cn : Int) := Int.mul_nonneg (by omega) (by omega)
                      have ci := (hbz.cell (p := ⟨b, off + i, none⟩) hb1).trans (HC1.out i hin)
                      have hbr : b < wr.heap.size := by omega
                      obtain ⟨-, pb1, pb2⟩ := HNV.out i (by rw [HLM.out]; exact hin)
                      have hzi : z l s = intAt ms i := by rw [HZ.out, hi]
                      obtain ⟨p, hp⟩ : ∃ p, intAt ms i = p := ⟨_, rfl⟩
                      rw [hp] at ci pb1 pb2 hzi
                      have hl1 : ((l : Int) + 1) * (Cn : Int) = (l : Int) * (Cn : Int) + (Cn : Int) := by rw [Int.add_mul, Int.one_mul]
                      by_cases hc : s + 1 < Cn
                      · have dc : decide ((s : Int) + 1 < (Cn : Int)) = true := by simp; omega
                        have hin1 : i + 1 < k := by
                          have h1 : (l + 1) * Cn ≤ Rn * Cn := Nat.mul_le_mul_right _ hlr
                          rw [Nat.add_mul, Nat.one_mul] at h1
                          have := HNN.out
                          omega
                        have hj1 : (i : Int) + 1 < (k : Int) := by omega
                        have hj0 : (0 : Int) ≤ (i : Int) + 1 := by omega
                        have cj := (hbz.cell (p := ⟨b, off + (i + 1), none⟩) hb1).trans (HC1.out (i + 1) hin1)
                        obtain ⟨-, qb1, qb2⟩ := HNV.out (i + 1) (by rw [HLM.out]; exact hin1)
                        have hzj : z l (s + 1) = intAt ms (i + 1) := by rw [HZ.out, ← hi, Nat.add_assoc]
                        obtain ⟨y, hy⟩ : ∃ y, intAt ms (i + 1) = y := ⟨_, rfl⟩
                        rw [hy] at cj qb1 qb2 hzj
                        obtain ⟨q1, hq1⟩ : ∃ q1, inE (-2047) 2047 (y - p) = q1 := ⟨_, rfl⟩
                        have HW1 := Lib.hid hq1
                        cases q1
                        · clear hbz hq1 hzi hzj hp hy hi
                          go_wp2_with (first | (go_at_call 47; (with_reducible refine (bWithin _ _ _ _ HW1.out).mono ?_); rintro e w' ⟨rfl, rfl⟩) | (go_at_call 47; (with_reducible refine (bWithin _ _ _ _ HW2.out).mono ?_); rintro e w' ⟨rfl, rfl⟩))
                          go_ret
                          exact ⟨rfl, HB9.out.trans (below_mono_of HB9.out.size (by (repeat' (first | with_reducible exact Below.refl _ _ | (with_reducible refine below_later_of ?_ ?_ _) | (with_reducible refine Below.alloc ?_ ?_ _) | (with_reducible refine Below.setCell ?_ ?_ _) | (with_reducible refine Below.drew ?_) | (simp; done) | (simp; omega) | omega))))⟩
                        · have hsm := inE_iff.1 hq1
                          by_cases hr : l + 1 < Rn
                          · have dr : decide ((l : Int) + 1 < (Rn : Int)) = true := by simp; omega
                            obtain ⟨j, hj⟩ : ∃ j, (l + 1) * Cn + s = j := ⟨_, rfl⟩
                            have hjn : j < k := by
                              have h1 : (l + 1 + 1) * Cn ≤ Rn * Cn := Nat.mul_le_mul_right _ hr
                              rw [Nat.add_mul (l + 1) 1, Nat.one_mul] at h1
                              have := HNN.out
                              omega
                            have hjc : ((l : Int) + 1) * (Cn : Int) + (s : Int) = (j : Int) := by rw [← hj, Int.natCast_add, Int.natCast_mul]; rfl
                            have hjk : (j : Int) < (k : Int) := by omega
                            have hjz : (0 : Int) ≤ (j : Int) := by omega
                            have hmj : (0 : Int) ≤ ((l : Int) + 1) * (Cn : Int) := by rw [hl1]; omega
                            have cd := (hbz.cell (p := ⟨b, off + j, none⟩) hb1).trans (HC1.out j hjn)
                            obtain ⟨-, rb1, rb2⟩ := HNV.out j (by rw [HLM.out]; exact hjn)
                            have hzd : z (l + 1) s = intAt ms j := by rw [HZ.out, hj]
                            obtain ⟨t, ht⟩ : ∃ t, intAt ms j = t := ⟨_, rfl⟩
                            rw [ht] at cd rb1 rb2 hzd
                            obtain ⟨q2', hq2⟩ : ∃ q2', inE (-2047) 2047 (t - p) = q2' := ⟨_, rfl⟩
                            have HW2 := Lib.hid hq2
                            cases q2'
                            · clear hbz hq2 hzi hzd hp ht hi hj hl1
                              go_wp2_with (first | (go_at_call 47; (with_reducible refine (bWithin _ _ _ _ HW1.out).mono ?_); rintro e w' ⟨rfl, rfl⟩) | (go_at_call 47; (with_reducible refine (bWithin _ _ _ _ HW2.out).mono ?_); rintro e w' ⟨rfl, rfl⟩))
                              go_ret
                              exact ⟨rfl, HB9.out.trans (below_mono_of HB9.out.size (by (repeat' (first | with_reducible exact Below.refl _ _ | (with_reducible refine below_later_of ?_ ?_ _) | (with_reducible refine Below.alloc ?_ ?_ _) | (with_reducible refine Below.setCell ?_ ?_ _) | (with_reducible refine Below.drew ?_) | (simp; done) | (simp; omega) | omega))))⟩
                            · have hsd := inE_iff.1 hq2
                              have HNX := Lib.hid (show ∀ c, c < s + 1 → stepOk z Rn Cn l c from fun c h => by
                                rcases Nat.lt_succ_iff_lt_or_eq.1 h with h | rfl
                                · exact HSS.out c h
                                · exact ⟨fun _ => by rw [hzj, hzi]; exact hsm, fun _ => by rw [hzd, hzi]; exact hsd⟩)
                              clear hbz hq2 hzi hzd hp ht hi hj hl1 hsd
                              go_wp2_with (first | (go_at_call 47; (with_reducible refine (bWithin _ _ _ _ HW1.out).mono ?_); rintro e w' ⟨rfl, rfl⟩) | (go_at_call 47; (with_reducible refine (bWithin _ _ _ _ HW2.out).mono ?_); rintro e w' ⟨rfl, rfl⟩))
                              go_roundw
                              case rel => exact ⟨s + 1, by omega, by go_num, HBZ.out.trans (below_mono_of hsz (by (repeat' (first | with_reducible exact Below.refl _ _ | (with_reducible refine below_later_of ?_ ?_ _) | (with_reducible refine Below.alloc ?_ ?_ _) | (with_reducible refine Below.setCell ?_ ?_ _) | (with_reducible refine Below.drew ?_) | (simp; done) | (simp; omega) | omega)))), HNX.out⟩
                              case measure => simp [intOf]; omega
                          · have dr : decide ((l : Int) + 1 < (Rn : Int)) = false := by simp; omega
                            have HNX := Lib.hid (show ∀ c, c < s + 1 → stepOk z Rn Cn l c from fun c h => by
                              rcases Nat.lt_succ_iff_lt_or_eq.1 h with h | rfl
                              · exact HSS.out c h
                              · exact ⟨fun _ => by rw [hzj, hzi]; exact hsm, fun h => absurd h hr⟩)
                            clear hbz hzi hp hi hl1
                            go_wp2_with (first | (go_at_call 47; (with_reducible refine (bWithin _ _ _ _ HW1.out).mono ?_); rintro e w' ⟨rfl, rfl⟩) | (go_at_call 47; (with_reducible refine (bWithin _ _ _ _ HW2.out).mono ?_); rintro e w' ⟨rfl, rfl⟩))
                            go_roundw
                            case rel => exact ⟨s + 1, by omega, by go_num, HBZ.out.trans (below_mono_of hsz (by (repeat' (first | with_reducible exact Below.refl _ _ | (with_reducible refine below_later_of ?_ ?_ _) | (with_reducible refine Below.alloc ?_ ?_ _) | (with_reducible refine Below.setCell ?_ ?_ _) | (with_reducible refine Below.drew ?_) | (simp; done) | (simp; omega) | omega)))), HNX.out⟩
                            case measure => simp [intOf]; omega
                      · have dc : decide ((s : Int) + 1 < (Cn : Int)) = false := by simp; omega
                        by_cases hr : l + 1 < Rn
                        · have dr : decide ((l : Int) + 1 < (Rn : Int)) = true := by simp; omega
                          obtain ⟨j, hj⟩ : ∃ j, (l + 1) * Cn + s = j := ⟨_, rfl⟩
                          have hjn : j < k := by
                            have h1 : (l + 1 + 1) * Cn ≤ Rn * Cn := Nat.mul_le_mul_right _ hr
                            rw [Nat.add_mul (l + 1) 1, Nat.one_mul] at h1
                            have := HNN.out
                            omega
                          have hjc : ((l : Int) + 1) * (Cn : Int) + (s : Int) = (j : Int) := by rw [← hj, Int.natCast_add, Int.natCast_mul]; rfl
                          have hjk : (j : Int) < (k : Int) := by omega
                          have hjz : (0 : Int) ≤ (j : Int) := by omega
                          have hmj : (0 : Int) ≤ ((l : Int) + 1) * (Cn : Int) := by rw [hl1]; omega
                          have cd := (hbz.cell (p := ⟨b, off + j, none⟩) hb1).trans (HC1.out j hjn)
                          obtain ⟨-, rb1, rb2⟩ := HNV.out j (by rw [HLM.out]; exact hjn)
                          have hzd : z (l + 1) s = intAt ms j := by rw [HZ.out, hj]
                          obtain ⟨t, ht⟩ : ∃ t, intAt ms j = t := ⟨_, rfl⟩
                          rw [ht] at cd rb1 rb2 hzd
                          obtain ⟨q2', hq2⟩ : ∃ q2', inE (-2047) 2047 (t - p) = q2' := ⟨_, rfl⟩
                          have HW2 := Lib.hid hq2
                          cases q2'
                          · clear hbz hq2 hzi hzd hp ht hi hj hl1
                            go_wp2_with (first | (go_at_call 47; (with_reducible refine (bWithin _ _ _ _ HW1.out).mono ?_); rintro e w' ⟨rfl, rfl⟩) | (go_at_call 47; (with_reducible refine (bWithin _ _ _ _ HW2.out).mono ?_); rintro e w' ⟨rfl, rfl⟩))
                            go_ret
                            exact ⟨rfl, HB9.out.trans (below_mono_of HB9.out.size (by (repeat' (first | with_reducible exact Below.refl _ _ | (with_reducible refine below_later_of ?_ ?_ _) | (with_reducible refine Below.alloc ?_ ?_ _) | (with_reducible refine Below.setCell ?_ ?_ _) | (with_reducible refine Below.drew ?_) | (simp; done) | (simp; omega) | omega))))⟩
                          · have hsd := inE_iff.1 hq2
                            have HNX := Lib.hid (show ∀ c, c < s + 1 → stepOk z Rn Cn l c from fun c h => by
                              rcases Nat.lt_succ_iff_lt_or_eq.1 h with h | rfl
                              · exact HSS.out c h
                              · exact ⟨fun h => absurd h hc, fun _ => by rw [hzd, hzi]; exact hsd⟩)
                            clear hbz hq2 hzi hzd hp ht hi hj hl1 hsd
                            go_wp2_with (first | (go_at_call 47; (with_reducible refine (bWithin _ _ _ _ HW1.out).mono ?_); rintro e w' ⟨rfl, rfl⟩) | (go_at_call 47; (with_reducible refine (bWithin _ _ _ _ HW2.out).mono ?_); rintro e w' ⟨rfl, rfl⟩))
                            go_roundw
                            case rel => exact ⟨s + 1, by omega, by go_num, HBZ.out.trans (below_mono_of hsz (by (repeat' (first | with_reducible exact Below.refl _ _ | (with_reducible refine below_later_of ?_ ?_ _) | (with_reducible refine Below.alloc ?_ ?_ _) | (with_reducible refine Below.setCell ?_ ?_ _) | (with_reducible refine Below.drew ?_) | (simp; done) | (simp; omega) | omega)))), HNX.out⟩
                            case measure => simp [intOf]; omega
                        · have dr : decide ((l : Int) + 1 < (Rn : Int)) = false := by simp; omega
                          have HNX := Lib.hid (show ∀ c, c < s + 1 → stepOk z Rn Cn l c from fun c h => by
                            rcases Nat.lt_succ_iff_lt_or_eq.1 h with h | rfl
                            · exact HSS.out c h
                            · exact ⟨fun h => absurd h hc, fun h => absurd h hr⟩)
                          clear hbz hzi hp hi hl1
                          go_wp2_with (first | (go_at_call 47; (with_reducible refine (bWithin _ _ _ _ HW1.out).mono ?_); rintro e w' ⟨rfl, rfl⟩) | (go_at_call 47; (with_reducible refine (bWithin _ _ _ _ HW2.out).mono ?_); rintro e w' ⟨rfl, rfl⟩))
                          go_roundw
                          case rel => exact ⟨s + 1, by omega, by go_num, HBZ.out.trans (below_mono_of hsz (by (repeat' (first | with_reducible exact Below.refl _ _ | (with_reducible refine below_later_of ?_ ?_ _) | (with_reducible refine Below.alloc ?_ ?_ _) | (with_reducible refine Below.setCell ?_ ?_ _) | (with_reducible refine Below.drew ?_) | (simp; done) | (simp; omega) | omega)))), HNX.out⟩
                          case measure => simp [intOf]; omega
                    · obtain rfl : s = Cn := by omega
                      have hds : decide ((s : Int) < (s : Int)) = false := by simp
                      have HNX := Lib.hid (show ∀ r c, r < l + 1 → c < s → stepOk z Rn s r c from fun r c h1 h2 => by
                        rcases Nat.lt_succ_iff_lt_or_eq.1 h1 with h | rfl
                        · exact HST.out r c h h2
                        · exact HSS.out c h2)
                      clear hbz
                      go_wp2
                      go_roundw
                      case rel => exact ⟨l + 1, by omega, by go_num, HBZ.out, HNX.out⟩
                      case measure => simp [intOf]; omega
                · obtain rfl : l = Rn := by omega
                  have hdl : decide ((l : Int) < (l : Int)) = false := by simp
                  have v0 := (hbz.cell (p := ⟨B3, 0, none⟩) hB37).trans V0.out
                  have v1 := (hbz.cell (p := ⟨B3, 1, none⟩) hB37).trans V1.out
                  have v2 := (hbz.cell (p := ⟨B3, 2, none⟩) hB37).trans V2.out
                  obtain ⟨g1, g2⟩ := HRES.out HST.out
                  have hsz := hbz.size
                  have hBw : B < wr.heap.size := by omega
                  have hB3w : B3 < wr.heap.size := by omega
                  have HB9 := Lib.hid (HB7.out.trans (hbz.mono HB7.out.size))
                  have HR1 := Lib.hid (show ∀ W, Below wr.heap.size wr W → Calls Tryz.prog 48 #[.agg #[.int .i64 l, .int .i64 Cn, .slice (some ⟨b, off, none⟩) k cc]] W fun e w' => ∃ q4 cc4, e = .returned (.tuple #[.slice q4 0 cc4, .int .i64 0]) ∧ Below W.heap.size W w' from fun W hW => by
                    refine (fResidues_ok l Cn ms _ W HMO.out ((HI1.out.below hbz).below hW)).mono ?_
                    rintro e w' ⟨u, rfl, hu, hb⟩
                    rw [g1] at hu
                    obtain ⟨-, q4, cc4, rfl, -⟩ := hu
                    exact ⟨q4, cc4, rfl, hb⟩)
                  have HR2 := Lib.hid (show ∀ W, Below wr.heap.size wr W → Calls Tryz.prog 48 #[.agg #[.int .i64 l, .int .i64 Cn, .slice q3 k cc3]] W fun e w' => ∃ q4 cc4, e = .returned (.tuple #[.slice q4 0 cc4, .int .i64 0]) ∧ Below W.heap.size W w' from fun W hW => by
                    refine (fResidues_ok l Cn (wrapL ms) _ W (wrap_ok HMO.out) ((HI3.out.below hbz).below hW)).mono ?_
                    rintro e w' ⟨u, rfl, hu, hb⟩
                    rw [g2] at hu
                    obtain ⟨-, q4, cc4, rfl, -⟩ := hu
                    exact ⟨q4, cc4, rfl, hb⟩)
                  clear hbz g1 g2
                  go_wp2_with (first | (go_at_call 48; (with_reducible refine (HR1.out _ (by (repeat' (first | with_reducible exact Below.refl _ _ | (with_reducible refine below_later_of ?_ ?_ _) | (with_reducible refine Below.alloc ?_ ?_ _) | (with_reducible refine Below.setCell ?_ ?_ _) | (with_reducible refine Below.drew ?_) | (simp; done) | (simp; omega) | omega)))).mono ?_); rintro e w' ⟨q4, cc4, rfl, hb⟩; obtain ⟨p11, rfl⟩ := later_of_below hb; clear hb) | (go_at_call 48; (with_reducible refine (HR2.out _ (by (repeat' (first | with_reducible exact Below.refl _ _ | (with_reducible refine below_later_of ?_ ?_ _) | (with_reducible refine Below.alloc ?_ ?_ _) | (with_reducible refine Below.setCell ?_ ?_ _) | (with_reducible refine Below.drew ?_) | (simp; done) | (simp; omega) | omega)))).mono ?_); rintro e w' ⟨q5, cc5, rfl, hb⟩; obtain ⟨p12, rfl⟩ := later_of_below hb; clear hb))
                  go_ret
                  exact ⟨ret_bool (by simp), HB9.out.trans (below_mono_of HB9.out.size (by (repeat' (first | with_reducible exact Below.refl _ _ | (with_reducible refine below_later_of ?_ ?_ _) | (with_reducible refine Below.alloc ?_ ?_ _) | (with_reducible refine Below.setCell ?_ ?_ _) | (with_reducible refine Below.drew ?_) | (simp; done) | (simp; omega) | omega))))⟩
      · have d1 : (z2 != 0) = true := by simpa using h2
        obtain ⟨rfl, rfl, rfl⟩ := hsay.2 h2
        clear h2 hsay
        go_wp2_with (first | (go_at_call 24; (with_reducible refine (lNoMap0 _ _ _).mono ?_); rintro e w' ⟨rfl, hb⟩; obtain ⟨p10, rfl⟩ := later_of_below hb; clear hb))
        go_ret
        exact ⟨rfl, HB3.out.trans (below_mono_of HB3.out.size (by (repeat' (first | with_reducible exact Below.refl _ _ | (with_reducible refine below_later_of ?_ ?_ _) | (with_reducible refine Below.alloc ?_ ?_ _) | (with_reducible refine Below.setCell ?_ ?_ _) | (with_reducible refine Below.drew ?_) | (simp; done) | (simp; omega) | omega))))⟩
  · obtain ⟨a', cap', rfl, -⟩ := hq
    have hd2 : decide (150 < (ds.length : Int)) = true := by simp; omega
    go_enter Tryz.func8, Tryz.ntmps8
    go_wp2_with (first | (go_at_call 13; (with_reducible refine (awake4 _ (HT.out.below (by (repeat' (first | with_reducible exact Below.refl _ _ | (with_reducible refine below_later_of ?_ ?_ _) | (with_reducible refine Below.alloc ?_ ?_ _) | (with_reducible refine Below.setCell ?_ ?_ _) | (with_reducible refine Below.drew ?_) | (simp; done) | (simp; omega) | omega))))).mono ?_); rintro e w' ⟨rfl, hb⟩; obtain ⟨pp, rfl⟩ := later_of_below hb; clear hb))
    go_ret
    exact ⟨rfl, (by (repeat' (first | with_reducible exact Below.refl _ _ | (with_reducible refine below_later_of ?_ ?_ _) | (with_reducible refine Below.alloc ?_ ?_ _) | (with_reducible refine Below.setCell ?_ ?_ _) | (with_reducible refine Below.drew ?_) | (simp; done) | (simp; omega) | omega)))⟩
end Go.Proofs.YtfiioadmpjmmgaaGreatDoor
