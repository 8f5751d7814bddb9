/- Chapter 1's door seat: the law EchoAdds returns true. -/
import Derived.Test.YtakohhlmomgegaaDoorQ10
import Derived.Test.YtakohhlmomgegaaDoorU102
import Derived.Test.YtakohhlmomgegaaDoorZP
import Derived.Test.YtakohhlmomgegaaDoorU77
import Derived.Deep.CutRange
import Derived.Deep.RegionHeld3
namespace Go.Proofs.YtakohhlmomgegaaDoor
set_option linter.unusedVariables false
set_option linter.unusedSimpArgs false
open Go.RowKit Ntt
theorem any_world {G : World → Prop} {w : World} (F : World → Prop) (hf : F w) (h : ∀ W, F W → G W) : G w := h w hf
theorem wp_world34 {P : Program} {c : Code} {Q : Exit → Act → World → Prop} {a : Act} {w : World} (F : World → Prop) (hf : F w) (h : ∀ W, F W → Code.wp P c Q a W) : Code.wp P c Q a w := h w hf
set_option maxRecDepth 20000 in
set_option maxHeartbeats 40000000 in
theorem adds_any (x y : Scn) (p q : Int) (w : World) (hx : x.At w) (hy : y.At w) (ht : Tab w) :
    Calls Tryd.prog 15 #[.agg #[.int .i64 x.L, .int .i64 x.S, .slice x.pa x.m x.pc, .slice x.ca x.mc x.cc], .agg #[.int .i64 y.L, .int .i64 y.S, .slice y.pa y.m y.pc, .slice y.ca y.mc y.cc], .agg #[.int .i64 p, .int .i64 q]] w fun e w' => e = .returned (.bool true) ∧ Below w.heap.size w w' := by
  have HT := Lib.hid ht
  clear ht
  rcases (show smallB x = false ∨ smallB x = true by cases smallB x <;> simp) with hq | hq
  · have HSX := Lib.hid (fun w => lSmall x w hq)
    clear hx hy hq
    go_enter Tryd.func15, Tryd.ntmps15
    go_wp2_with (first | (go_at_call 17; (with_reducible refine (awake_any _ (HT.out.below (by (repeat' (first | with_reducible exact Below.refl _ _ | (with_reducible refine below_later_of ?_ ?_ _) | (with_reducible refine Below.alloc ?_ ?_ _) | (with_reducible refine Below.setCell ?_ ?_ _) | (with_reducible refine Below.drew ?_) | (simp; done) | (simp; omega) | omega))))).mono ?_); rintro e w' ⟨rfl, hb⟩; obtain ⟨pq, rfl⟩ := later_of_below hb; clear hb) | (go_at_call 18; (with_reducible refine (HSX.out _).mono ?_); rintro e w' ⟨rfl, hb⟩; obtain ⟨pq, rfl⟩ := later_of_below hb; clear hb))
    go_ret
    exact ⟨rfl, (by (repeat' (first | with_reducible exact Below.refl _ _ | (with_reducible refine below_later_of ?_ ?_ _) | (with_reducible refine Below.alloc ?_ ?_ _) | (with_reducible refine Below.setCell ?_ ?_ _) | (with_reducible refine Below.drew ?_) | (simp; done) | (simp; omega) | omega)))⟩
  · have HSX := Lib.hid (fun w => lSmall x w hq)
    obtain ⟨q1, q2⟩ := smallB_ok hq
    rcases (show smallB y = false ∨ smallB y = true by cases smallB y <;> simp) with hr | hr
    · have HSY := Lib.hid (fun w => lSmall y w hr)
      clear hx hy hq hr
      go_enter Tryd.func15, Tryd.ntmps15
      go_wp2_with (first | (go_at_call 17; (with_reducible refine (awake_any _ (HT.out.below (by (repeat' (first | with_reducible exact Below.refl _ _ | (with_reducible refine below_later_of ?_ ?_ _) | (with_reducible refine Below.alloc ?_ ?_ _) | (with_reducible refine Below.setCell ?_ ?_ _) | (with_reducible refine Below.drew ?_) | (simp; done) | (simp; omega) | omega))))).mono ?_); rintro e w' ⟨rfl, hb⟩; obtain ⟨pq, rfl⟩ := later_of_below hb; clear hb) | (go_at_call 18; (with_reducible refine (HSX.out _).mono ?_); rintro e w' ⟨rfl, hb⟩; obtain ⟨pq, rfl⟩ := later_of_below hb; clear hb) | (go_at_call 18; (with_reducible refine (HSY.out _).mono ?_); rintro e w' ⟨rfl, hb⟩; obtain ⟨pq, rfl⟩ := later_of_below hb; clear hb))
      go_ret
      exact ⟨rfl, (by (repeat' (first | with_reducible exact Below.refl _ _ | (with_reducible refine below_later_of ?_ ?_ _) | (with_reducible refine Below.alloc ?_ ?_ _) | (with_reducible refine Below.setCell ?_ ?_ _) | (with_reducible refine Below.drew ?_) | (simp; done) | (simp; omega) | omega)))⟩
    · have HSY := Lib.hid (fun w => lSmall y w hr)
      obtain ⟨r1, r2⟩ := smallB_ok hr
      obtain ⟨n, hn⟩ : ∃ n, x.m / 2 = n := ⟨_, rfl⟩
      obtain ⟨m, hm⟩ : ∃ m, y.m / 2 = m := ⟨_, rfl⟩
      obtain ⟨E1, hE1⟩ : ∃ e, addE x.L x.S n (smp x.p) y.L y.S m (smp y.p) = e := ⟨_, rfl⟩
      obtain ⟨E2, hE2⟩ : ∃ e, shfE x.L x.S n (smp x.p) p q = e := ⟨_, rfl⟩
      obtain ⟨ii, ie, hEI⟩ : ∃ i e, imgE x.L x.S n (smp x.p) = (i, e) := ⟨_, _, rfl⟩
      obtain ⟨ij, je, hEY⟩ : ∃ i e, imgE y.L y.S m (smp y.p) = (i, e) := ⟨_, _, rfl⟩
      have HE1 := Lib.hid hE1
      have HE2 := Lib.hid hE2
      have HEI := Lib.hid hEI
      have HEY := Lib.hid hEY
      have HSE := Lib.hid (show E2 = if ie = 0 then (if inE (-64) 64 p && inE (-64) 64 q then 0 else 2) else ie by rw [← hE2]; unfold shfE; rw [hEI])
      have HAE := Lib.hid (show ∀ z, first2 ie je = z → z ≠ 0 → E1 = z from fun z h h0 => by rw [← hE1]; unfold addE; rw [hEI, hEY, h, if_neg h0])
      have HIX := Lib.hid (show ∀ W, Below w.heap.size w W → Calls Tryd.prog 22 #[.agg #[.int .i64 x.L, .int .i64 x.S, .slice x.pa x.m x.pc, .slice x.ca x.mc x.cc]] W (ImPost x.L x.S n (smp x.p) W) from fun W hW => by
        have := lImage x W (by omega) (hx.below hW)
        rwa [hn] at this)
      have HIY := Lib.hid (show ∀ W, Below w.heap.size w W → Calls Tryd.prog 22 #[.agg #[.int .i64 y.L, .int .i64 y.S, .slice y.pa y.m y.pc, .slice y.ca y.mc y.cc]] W (ImPost y.L y.S m (smp y.p) W) from fun W hW => by
        have := lImage y W (by omega) (hy.below hW)
        rwa [hm] at this)
      have hn1 : n ≤ 100000 := by omega
      have hm1 : m ≤ 100000 := by omega
      clear hx hy hq hr hE1 hE2 hEI hEY hn hm q1 q2 r1 r2
      go_enter Tryd.func15, Tryd.ntmps15
      go_wp2_with (first | (go_at_call 17; (with_reducible refine (awake_any _ (HT.out.below (by (repeat' (first | with_reducible exact Below.refl _ _ | (with_reducible refine below_later_of ?_ ?_ _) | (with_reducible refine Below.alloc ?_ ?_ _) | (with_reducible refine Below.setCell ?_ ?_ _) | (with_reducible refine Below.drew ?_) | (simp; done) | (simp; omega) | omega))))).mono ?_); rintro e w' ⟨rfl, hb⟩; obtain ⟨pq, rfl⟩ := later_of_below hb; clear hb) | (go_at_call 18; (with_reducible refine (HSX.out _).mono ?_); rintro e w' ⟨rfl, hb⟩; obtain ⟨pq, rfl⟩ := later_of_below hb; clear hb) | (go_at_call 18; (with_reducible refine (HSY.out _).mono ?_); rintro e w' ⟨rfl, hb⟩; obtain ⟨pq, rfl⟩ := later_of_below hb; clear hb))
      refine wp_world34 (fun w' => (w'.cell? ⟨w.heap.size, 0, none⟩ = some (.int .i64 x.L) ∧ w'.cell? ⟨w.heap.size, 1, none⟩ = some (.int .i64 x.S) ∧ w'.cell? ⟨w.heap.size, 2, none⟩ = some (.slice x.pa x.m x.pc) ∧ w'.cell? ⟨w.heap.size, 3, none⟩ = some (.slice x.ca x.mc x.cc)) ∧ (w'.cell? ⟨w.heap.size + 1, 0, none⟩ = some (.int .i64 y.L) ∧ w'.cell? ⟨w.heap.size + 1, 1, none⟩ = some (.int .i64 y.S) ∧ w'.cell? ⟨w.heap.size + 1, 2, none⟩ = some (.slice y.pa y.m y.pc) ∧ w'.cell? ⟨w.heap.size + 1, 3, none⟩ = some (.slice y.ca y.mc y.cc)) ∧ (w'.cell? ⟨w.heap.size + 2, 0, none⟩ = some (.int .i64 p) ∧ w'.cell? ⟨w.heap.size + 2, 1, none⟩ = some (.int .i64 q)) ∧ Below w.heap.size w w' ∧ w.heap.size + 2 < w'.heap.size) ⟨⟨(by (first | (simp [go_sem]; done) | simp [go_sem, ↓IntWalk.iteOmega])), (by (first | (simp [go_sem]; done) | simp [go_sem, ↓IntWalk.iteOmega])), (by (first | (simp [go_sem]; done) | simp [go_sem, ↓IntWalk.iteOmega])), (by (first | (simp [go_sem]; done) | simp [go_sem, ↓IntWalk.iteOmega]))⟩, ⟨(by (first | (simp [go_sem]; done) | simp [go_sem, ↓IntWalk.iteOmega])), (by (first | (simp [go_sem]; done) | simp [go_sem, ↓IntWalk.iteOmega])), (by (first | (simp [go_sem]; done) | simp [go_sem, ↓IntWalk.iteOmega])), (by (first | (simp [go_sem]; done) | simp [go_sem, ↓IntWalk.iteOmega]))⟩, ⟨(by (first | (simp [go_sem]; done) | simp [go_sem, ↓IntWalk.iteOmega])), (by (first | (simp [go_sem]; done) | simp [go_sem, ↓IntWalk.iteOmega]))⟩, (by (repeat' (first | with_reducible exact Below.refl _ _ | (with_reducible refine below_later_of ?_ ?_ _) | (with_reducible refine Below.alloc ?_ ?_ _) | (with_reducible refine Below.setCell ?_ ?_ _) | (with_reducible refine Below.drew ?_) | (simp; done) | (simp; omega) | omega))), by simp; omega⟩ ?_
      rintro W2 ⟨⟨k0, k1, k2, k3⟩, ⟨j0, j1, j2, j3⟩, ⟨g0, g1⟩, hb2, hs2⟩
      have HIX2 := Lib.hid (show ∀ W, Below W2.heap.size W2 W → _ from fun W hW => HIX.out W (hb2.trans (hW.mono hb2.size)))
      have HIY2 := Lib.hid (show ∀ W, Below W2.heap.size W2 W → _ from fun W hW => HIY.out W (hb2.trans (hW.mono hb2.size)))
      have HB2 := Lib.hid hb2
      clear hb2 HSX HSY HIX HIY
      have HIX := Lib.hid HIX2.out
      have HIY := Lib.hid HIY2.out
      clear HIX2 HIY2
      go_cut [7, 8] from 25 to 33 (fun X Y wx => ∃ B l s n' a c, X = .pointer (some ⟨B, 0, none⟩) ∧ Y = .int .i64 E1 ∧ ImgBlk wx B l s a n' c ∧ ImgSay wx 0 E1 x.L x.S n (addB (smp x.p) (smp y.p)) l s n' a ∧ B < wx.heap.size ∧ Below W2.heap.size W2 wx)
      case first =>
        go_region_held3 (fun w' => w'.cell? ⟨w.heap.size, 0, none⟩ = some (.int .i64 x.L) ∧ w'.cell? ⟨w.heap.size, 1, none⟩ = some (.int .i64 x.S) ∧ w'.cell? ⟨w.heap.size, 2, none⟩ = some (.slice x.pa x.m x.pc) ∧ w'.cell? ⟨w.heap.size, 3, none⟩ = some (.slice x.ca x.mc x.cc) ∧ w'.cell? ⟨w.heap.size + 1, 0, none⟩ = some (.int .i64 y.L) ∧ w'.cell? ⟨w.heap.size + 1, 1, none⟩ = some (.int .i64 y.S) ∧ w'.cell? ⟨w.heap.size + 1, 2, none⟩ = some (.slice y.pa y.m y.pc) ∧ w'.cell? ⟨w.heap.size + 1, 3, none⟩ = some (.slice y.ca y.mc y.cc)) (first | exact ⟨k0, k1, k2, k3, j0, j1, j2, j3⟩ | ((first | (simp [go_sem, k0, k1, k2, k3, j0, j1, j2, j3]; done) | simp [go_sem, k0, k1, k2, k3, j0, j1, j2, j3, ↓IntWalk.iteOmega]); done)) (first | (go_at_call 22; (with_reducible refine (HIX.out _ (by (repeat' (first | with_reducible exact Below.refl _ _ | (with_reducible refine below_later_of ?_ ?_ _) | (with_reducible refine Below.alloc ?_ ?_ _) | (with_reducible refine Below.setCell ?_ ?_ _) | (with_reducible refine Below.drew ?_) | (simp; done) | (simp; omega) | omega)))).mono ?_); rintro e w' ⟨a1, c1, rfl, ha, -, hb⟩; have HA1 := Lib.hid ha; clear ha; obtain ⟨pq, rfl⟩ := later_of_below hb; clear hb) | (go_at_call 22; (with_reducible refine (HIY.out _ (by (repeat' (first | with_reducible exact Below.refl _ _ | (with_reducible refine below_later_of ?_ ?_ _) | (with_reducible refine Below.alloc ?_ ?_ _) | (with_reducible refine Below.setCell ?_ ?_ _) | (with_reducible refine Below.drew ?_) | (simp; done) | (simp; omega) | omega)))).mono ?_); rintro e w' ⟨a2, c2, rfl, ha, -, hb⟩; have HA2 := Lib.hid ha; clear ha; obtain ⟨pq, rfl⟩ := later_of_below hb; clear hb) | (go_at_call 53; (with_reducible refine (added_say x.L x.S y.L y.S n c1 m c2 (smp x.p) (smp y.p) a1 a2 _ (by omega) (by omega) (dataAt_own HA1.out (by (repeat' (first | with_reducible exact Below.refl _ _ | (with_reducible refine below_later_of ?_ ?_ _) | (with_reducible refine Below.alloc ?_ ?_ _) | (with_reducible refine Below.setCell ?_ ?_ _) | (with_reducible refine Below.drew ?_) | (simp; done) | (simp; omega) | omega)))) (dataAt_own HA2.out (by (repeat' (first | with_reducible exact Below.refl _ _ | (with_reducible refine below_later_of ?_ ?_ _) | (with_reducible refine Below.alloc ?_ ?_ _) | (with_reducible refine Below.setCell ?_ ?_ _) | (with_reducible refine Below.drew ?_) | (simp; done) | (simp; omega) | omega)))) HE1.out).mono ?_); rintro e w' ⟨l5, s5, n5, a5, c5, rfl, hok, hb⟩; have HOK := Lib.hid hok; clear hok; obtain ⟨pq, rfl⟩ := later_of_below hb; clear hb))
        all_goals
          rename_i hheld
          clear hheld
          go_wp2_with fail
          go_meet
          refine ⟨_, l5, s5, n5, a5, c5, rfl, rfl, ⟨(by (first | (simp [go_sem]; done) | simp [go_sem, ↓IntWalk.iteOmega])), (by (first | (simp [go_sem]; done) | simp [go_sem, ↓IntWalk.iteOmega])), (by (first | (simp [go_sem]; done) | simp [go_sem, ↓IntWalk.iteOmega]))⟩, ?_, by simp <;> omega, (by (repeat' (first | with_reducible exact Below.refl _ _ | (with_reducible refine below_later_of ?_ ?_ _) | (with_reducible refine Below.alloc ?_ ?_ _) | (with_reducible refine Below.setCell ?_ ?_ _) | (with_reducible refine Below.drew ?_) | (simp; done) | (simp; omega) | omega)))⟩
          first
            | (refine (HOK.out.below ?_).mono (Nat.zero_le _); (repeat' (first | with_reducible exact Below.refl _ _ | (with_reducible refine below_later_of ?_ ?_ _) | (with_reducible refine Below.alloc ?_ ?_ _) | (with_reducible refine Below.setCell ?_ ?_ _) | (with_reducible refine Below.drew ?_) | (simp; done) | (simp; omega) | omega)); done)
            | (refine (ImgSay.set (ImgSay.set (ImgSay.set HOK.out ?_ _) ?_ _) ?_ _).mono (Nat.zero_le _) <;> simp <;> omega)
      case rest =>
        obtain ⟨B7, l7, s7, n7, a7, c7, rfl, rfl, hi7, hok, hB7, hb⟩ := hcut
        obtain ⟨V3, hV3⟩ : ∃ V3 : World, V3 = wc := ⟨_, rfl⟩
        subst hV3
        have hs3 := hb.size
        have HOF := Lib.hid hok
        have HI7 := Lib.hid hi7
        have p0 := (hb.cell (p := ⟨w.heap.size, 0, none⟩) (by simp; omega)).trans k0
        have p1 := (hb.cell (p := ⟨w.heap.size, 1, none⟩) (by simp; omega)).trans k1
        have p2 := (hb.cell (p := ⟨w.heap.size, 2, none⟩) (by simp; omega)).trans k2
        have p3 := (hb.cell (p := ⟨w.heap.size, 3, none⟩) (by simp; omega)).trans k3
        have h0 := (hb.cell (p := ⟨w.heap.size + 2, 0, none⟩) (by simp; omega)).trans g0
        have h1 := (hb.cell (p := ⟨w.heap.size + 2, 1, none⟩) (by simp; omega)).trans g1
        have HJ := Lib.hid (And.intro ((hb.cell (p := ⟨w.heap.size + 1, 0, none⟩) (by simp; omega)).trans j0) (And.intro ((hb.cell (p := ⟨w.heap.size + 1, 1, none⟩) (by simp; omega)).trans j1) (And.intro ((hb.cell (p := ⟨w.heap.size + 1, 2, none⟩) (by simp; omega)).trans j2) ((hb.cell (p := ⟨w.heap.size + 1, 3, none⟩) (by simp; omega)).trans j3))))
        have HIX2 := Lib.hid (show ∀ W, Below V3.heap.size V3 W → _ from fun W hW => HIX.out W (hb.trans (hW.mono hb.size)))
        have HIY2 := Lib.hid (show ∀ W, Below V3.heap.size V3 W → _ from fun W hW => HIY.out W (hb.trans (hW.mono hb.size)))
        have HB3 := Lib.hid (HB2.out.trans (hb.mono HB2.out.size))
        have hw3 : w.heap.size + 2 < V3.heap.size := by omega
        clear hb hok hi7 k0 k1 k2 k3 j0 j1 j2 j3 g0 g1 HIX HIY HB2
        have HIX := Lib.hid HIX2.out
        have HIY := Lib.hid HIY2.out
        clear HIX2 HIY2
        go_wp2
        go_cut [9, 10] from 33 to 40 (fun X Y wx => ∃ B l s n' a c, X = .pointer (some ⟨B, 0, none⟩) ∧ Y = .int .i64 E2 ∧ ImgBlk wx B l s a n' c ∧ ImgSay wx 0 E2 x.L x.S n (shB (smp x.p) x.L.toNat x.S.toNat p q) l s n' a ∧ B < wx.heap.size ∧ Below V3.heap.size V3 wx)
        case first =>
          go_region_held3 (fun w' => (w'.cell? ⟨w.heap.size, 0, none⟩ = some (.int .i64 x.L) ∧ w'.cell? ⟨w.heap.size, 1, none⟩ = some (.int .i64 x.S) ∧ w'.cell? ⟨w.heap.size, 2, none⟩ = some (.slice x.pa x.m x.pc) ∧ w'.cell? ⟨w.heap.size, 3, none⟩ = some (.slice x.ca x.mc x.cc)) ∧ w'.cell? ⟨w.heap.size + 2, 0, none⟩ = some (.int .i64 p) ∧ w'.cell? ⟨w.heap.size + 2, 1, none⟩ = some (.int .i64 q)) (first | exact ⟨⟨p0, p1, p2, p3⟩, h0, h1⟩ | ((first | (simp [go_sem, p0, p1, p2, p3, h0, h1]; done) | simp [go_sem, p0, p1, p2, p3, h0, h1, ↓IntWalk.iteOmega]); done)) (first | (go_at_call 22; (with_reducible refine (HIX.out _ (by (repeat' (first | with_reducible exact Below.refl _ _ | (with_reducible refine below_later_of ?_ ?_ _) | (with_reducible refine Below.alloc ?_ ?_ _) | (with_reducible refine Below.setCell ?_ ?_ _) | (with_reducible refine Below.drew ?_) | (simp; done) | (simp; omega) | omega)))).mono ?_); rintro e w' ⟨a1, c1, rfl, ha, -, hb⟩; have HA1 := Lib.hid ha; clear ha; obtain ⟨pq, rfl⟩ := later_of_below hb; clear hb) | (go_at_call 65; (with_reducible refine (shifted_say x.L x.S n c1 (smp x.p) a1 p q _ (by omega) (dataAt_own HA1.out (by (repeat' (first | with_reducible exact Below.refl _ _ | (with_reducible refine below_later_of ?_ ?_ _) | (with_reducible refine Below.alloc ?_ ?_ _) | (with_reducible refine Below.setCell ?_ ?_ _) | (with_reducible refine Below.drew ?_) | (simp; done) | (simp; omega) | omega)))) HE2.out).mono ?_); rintro e w' ⟨l5, s5, n5, a5, c5, rfl, hok, hb⟩; have HOK := Lib.hid hok; clear hok; obtain ⟨pq, rfl⟩ := later_of_below hb; clear hb))
          all_goals
            rename_i hheld
            clear hheld
            go_wp2_with fail
            go_meet
            refine ⟨_, l5, s5, n5, a5, c5, rfl, rfl, ⟨(by (first | (simp [go_sem]; done) | simp [go_sem, ↓IntWalk.iteOmega])), (by (first | (simp [go_sem]; done) | simp [go_sem, ↓IntWalk.iteOmega])), (by (first | (simp [go_sem]; done) | simp [go_sem, ↓IntWalk.iteOmega]))⟩, ?_, by simp <;> omega, (by (repeat' (first | with_reducible exact Below.refl _ _ | (with_reducible refine below_later_of ?_ ?_ _) | (with_reducible refine Below.alloc ?_ ?_ _) | (with_reducible refine Below.setCell ?_ ?_ _) | (with_reducible refine Below.drew ?_) | (simp; done) | (simp; omega) | omega)))⟩
            first
              | (refine (HOK.out.below ?_).mono (Nat.zero_le _); (repeat' (first | with_reducible exact Below.refl _ _ | (with_reducible refine below_later_of ?_ ?_ _) | (with_reducible refine Below.alloc ?_ ?_ _) | (with_reducible refine Below.setCell ?_ ?_ _) | (with_reducible refine Below.drew ?_) | (simp; done) | (simp; omega) | omega)); done)
              | (refine (ImgSay.set (ImgSay.set (ImgSay.set HOK.out ?_ _) ?_ _) ?_ _).mono (Nat.zero_le _) <;> simp <;> omega)
        case rest =>
          obtain ⟨B9, l9, s9, n9, a9, c9, rfl, rfl, ⟨z0, z1, z2⟩, hok9, hB9, hb⟩ := hcut
          obtain ⟨W3, hW3⟩ : ∃ W3 : World, W3 = wc := ⟨_, rfl⟩
          subst hW3
          have hsv := hb.size
          have HOG := Lib.hid hok9
          have HOF3 := Lib.hid (HOF.out.below hb)
          have HI73 := Lib.hid (HI7.out.below hB7 hb)
          have m0 := (hb.cell (p := ⟨w.heap.size, 0, none⟩) (by simp; omega)).trans p0
          have m1 := (hb.cell (p := ⟨w.heap.size, 1, none⟩) (by simp; omega)).trans p1
          have m2 := (hb.cell (p := ⟨w.heap.size, 2, none⟩) (by simp; omega)).trans p2
          have m3 := (hb.cell (p := ⟨w.heap.size, 3, none⟩) (by simp; omega)).trans p3
          have g0 := (hb.cell (p := ⟨w.heap.size + 2, 0, none⟩) (by simp; omega)).trans h0
          have g1 := (hb.cell (p := ⟨w.heap.size + 2, 1, none⟩) (by simp; omega)).trans h1
          have HJ3 := Lib.hid (And.intro ((hb.cell (p := ⟨w.heap.size + 1, 0, none⟩) (by simp; omega)).trans HJ.out.1) (And.intro ((hb.cell (p := ⟨w.heap.size + 1, 1, none⟩) (by simp; omega)).trans HJ.out.2.1) (And.intro ((hb.cell (p := ⟨w.heap.size + 1, 2, none⟩) (by simp; omega)).trans HJ.out.2.2.1) ((hb.cell (p := ⟨w.heap.size + 1, 3, none⟩) (by simp; omega)).trans HJ.out.2.2.2))))
          have HIX3 := Lib.hid (show ∀ W, Below W3.heap.size W3 W → _ from fun W hW => HIX.out W (hb.trans (hW.mono hb.size)))
          have HIY3 := Lib.hid (show ∀ W, Below W3.heap.size W3 W → _ from fun W hW => HIY.out W (hb.trans (hW.mono hb.size)))
          have HBV := Lib.hid (HB3.out.trans (hb.mono HB3.out.size))
          have hB73 : B7 < W3.heap.size := by omega
          have hw33 : w.heap.size + 2 < W3.heap.size := by omega
          clear hb hok9 p0 p1 p2 p3 h0 h1 HIX HIY HB3 HOF HI7 HJ hB7 hw3 hsv
          have HIX := Lib.hid HIX3.out
          have HIY := Lib.hid HIY3.out
          have HOF := Lib.hid HOF3.out
          have HI7 := Lib.hid HI73.out
          have HJ := Lib.hid HJ3.out
          have HB3 := Lib.hid HBV.out
          have hB7 := hB73
          have hw3 := hw33
          clear HIX3 HIY3 HOF3 HI73 HJ3 HBV hB73 hw33
          have d00 : ((0 : Int) == 0) = true := by simp
          have d01 : ((0 : Int) != 0) = false := by simp
          by_cases h1 : ie = 0
          · subst h1
            have HZI := Lib.hid (show (imgE x.L x.S n (smp x.p)).2 = 0 by rw [HEI.out])
            have HFE := Lib.hid (show je ≠ 0 → E1 = je from fun h => HAE.out je (by unfold first2; rw [if_pos rfl]) h)
            rcases (show inE (-64) 64 p = false ∨ inE (-64) 64 p = true by cases inE (-64) 64 p <;> simp) with e1 | e1
            · have H1 := Lib.hid (fun w => bWithin _ _ _ w e1)
              obtain rfl : E2 = 2 := by rw [HSE.out, e1]; rfl
              obtain ⟨rfl, rfl, rfl⟩ := HOG.out.2 (by decide)
              clear e1
              go_wp2_with (first | (go_at_call 22; (with_reducible refine (HIX.out _ (by (repeat' (first | with_reducible exact Below.refl _ _ | (with_reducible refine below_later_of ?_ ?_ _) | (with_reducible refine Below.alloc ?_ ?_ _) | (with_reducible refine Below.setCell ?_ ?_ _) | (with_reducible refine Below.drew ?_) | (simp; done) | (simp; omega) | omega)))).mono ?_); rintro e w' ⟨a1, c1, rfl, ha, -, hb⟩; have HA1 := Lib.hid ha; clear ha; obtain ⟨pq, rfl⟩ := later_of_below hb; clear hb) | (go_at_call 24; (with_reducible refine (rCheckImage x.L x.S n c1 (smp x.p) a1 _ (by omega) (dataAt_own HA1.out (by (repeat' (first | with_reducible exact Below.refl _ _ | (with_reducible refine below_later_of ?_ ?_ _) | (with_reducible refine Below.alloc ?_ ?_ _) | (with_reducible refine Below.setCell ?_ ?_ _) | (with_reducible refine Below.drew ?_) | (simp; done) | (simp; omega) | omega)))) HEI.out).mono ?_); rintro e w' ⟨rfl, hb⟩; obtain ⟨pq, rfl⟩ := later_of_below hb; clear hb) | (go_at_call 30; (with_reducible refine (H1.out _).mono ?_); rintro e w' ⟨rfl, rfl⟩))
              refine wp_world34 (fun w' => Below W3.heap.size W3 w') (by (repeat' (first | with_reducible exact Below.refl _ _ | (with_reducible refine below_later_of ?_ ?_ _) | (with_reducible refine Below.alloc ?_ ?_ _) | (with_reducible refine Below.setCell ?_ ?_ _) | (with_reducible refine Below.drew ?_) | (simp; done) | (simp; omega) | omega))) ?_
              rintro W4 hb4
              have hs4 := hb4.size
              have k0 := (hb4.cell (p := ⟨w.heap.size, 0, none⟩) (by simp; omega)).trans m0
              have k1 := (hb4.cell (p := ⟨w.heap.size, 1, none⟩) (by simp; omega)).trans m1
              have k2 := (hb4.cell (p := ⟨w.heap.size, 2, none⟩) (by simp; omega)).trans m2
              have k3 := (hb4.cell (p := ⟨w.heap.size, 3, none⟩) (by simp; omega)).trans m3
              have i0 := (hb4.cell (p := ⟨w.heap.size + 2, 0, none⟩) (by simp; omega)).trans g0
              have i1 := (hb4.cell (p := ⟨w.heap.size + 2, 1, none⟩) (by simp; omega)).trans g1
              have v0 := (hb4.cell (p := ⟨B9, 0, none⟩) hB9).trans z0
              have v1 := (hb4.cell (p := ⟨B9, 1, none⟩) hB9).trans z1
              have v2 := (hb4.cell (p := ⟨B9, 2, none⟩) hB9).trans z2
              have HOG4 := Lib.hid (HOG.out.below hb4)
              have HIX4 := Lib.hid (show ∀ W, Below W4.heap.size W4 W → _ from fun W hW => HIX.out W (hb4.trans (hW.mono hs4)))
              have HB4 := Lib.hid hb4
              have HK := Lib.hid (And.intro m0 (And.intro m1 (And.intro m2 m3)))
              have HZ := Lib.hid (And.intro z0 (And.intro z1 z2))
              clear hb4 m0 m1 m2 m3 g0 g1 z0 z1 z2 HOG HIX
              have HIX := Lib.hid HIX4.out
              have HOG := Lib.hid HOG4.out
              clear HIX4 HOG4
              generalize hE3 : (2 : Int) = E3
              have d20 : (E3 == 0) = false := by rw [← hE3]; rfl
              have d21 : (E3 != 0) = true := by rw [← hE3]; rfl
              have d22 : (E3 != E3) = false := by simp
              clear hE3
              refine wp_region_calm (by kernel_rfl) (by kernel_rfl) ?_
              repeat (go_big_quiet_step (first | (go_at_call 66; exact calm_of (lNoImage _ _ _))))
              refine wpQuiet_nil ?_
              rintro _ ⟨pq, rfl⟩
              refine any_world (fun w' => Below W4.heap.size W4 w') (by (repeat' (first | with_reducible exact Below.refl _ _ | (with_reducible refine below_later_of ?_ ?_ _) | (with_reducible refine Below.alloc ?_ ?_ _) | (with_reducible refine Below.setCell ?_ ?_ _) | (with_reducible refine Below.drew ?_) | (simp; done) | (simp; omega) | omega))) ?_
              rintro W5 hb
              have hb5 := HB4.out.trans (hb.mono hs4)
              have hs5 := hb5.size
              have k0 := (hb5.cell (p := ⟨w.heap.size, 0, none⟩) (by simp; omega)).trans HK.out.1
              have k1 := (hb5.cell (p := ⟨w.heap.size, 1, none⟩) (by simp; omega)).trans HK.out.2.1
              have k2 := (hb5.cell (p := ⟨w.heap.size, 2, none⟩) (by simp; omega)).trans HK.out.2.2.1
              have k3 := (hb5.cell (p := ⟨w.heap.size, 3, none⟩) (by simp; omega)).trans HK.out.2.2.2
              have j0 := (hb5.cell (p := ⟨w.heap.size + 1, 0, none⟩) (by simp; omega)).trans HJ.out.1
              have j1 := (hb5.cell (p := ⟨w.heap.size + 1, 1, none⟩) (by simp; omega)).trans HJ.out.2.1
              have j2 := (hb5.cell (p := ⟨w.heap.size + 1, 2, none⟩) (by simp; omega)).trans HJ.out.2.2.1
              have j3 := (hb5.cell (p := ⟨w.heap.size + 1, 3, none⟩) (by simp; omega)).trans HJ.out.2.2.2
              have u0 := (hb5.cell (p := ⟨B7, 0, none⟩) hB7).trans HI7.out.1
              have u1 := (hb5.cell (p := ⟨B7, 1, none⟩) hB7).trans HI7.out.2.1
              have u2 := (hb5.cell (p := ⟨B7, 2, none⟩) hB7).trans HI7.out.2.2
              have HOF5 := Lib.hid (HOF.out.below hb5)
              have HIX5 := Lib.hid (show ∀ W, Below W5.heap.size W5 W → _ from fun W hW => HIX.out W (hb.trans (hW.mono hb.size)))
              have HIY5 := Lib.hid (show ∀ W, Below W5.heap.size W5 W → _ from fun W hW => HIY.out W (hb5.trans (hW.mono hs5)))
              have HB5 := Lib.hid (HB3.out.trans (hb5.mono HB3.out.size))
              have hB75 : B7 < W5.heap.size := by omega
              have hw5 : w.heap.size + 2 < W5.heap.size := by omega
              clear hb hb5 HOF HIX HIY HB4 hs4 HK HZ HOG
              have HIX := Lib.hid HIX5.out
              have HIY := Lib.hid HIY5.out
              have HOF := Lib.hid HOF5.out
              clear HIX5 HIY5 HOF5
              by_cases h2 : je = 0
              · subst h2
                have HZY := Lib.hid (show (imgE y.L y.S m (smp y.p)).2 = 0 by rw [HEY.out])
                go_upto_region 15 with (first | (go_at_call 22; (with_reducible refine (HIY.out _ (by (repeat' (first | with_reducible exact Below.refl _ _ | (with_reducible refine below_later_of ?_ ?_ _) | (with_reducible refine Below.alloc ?_ ?_ _) | (with_reducible refine Below.setCell ?_ ?_ _) | (with_reducible refine Below.drew ?_) | (simp; done) | (simp; omega) | omega)))).mono ?_); rintro e w' ⟨a2, c2, rfl, ha, -, hb⟩; have HA2 := Lib.hid ha; clear ha; obtain ⟨pq, rfl⟩ := later_of_below hb; clear hb) | (go_at_call 24; (with_reducible refine (rCheckImage y.L y.S m c2 (smp y.p) a2 _ (by omega) (dataAt_own HA2.out (by (repeat' (first | with_reducible exact Below.refl _ _ | (with_reducible refine below_later_of ?_ ?_ _) | (with_reducible refine Below.alloc ?_ ?_ _) | (with_reducible refine Below.setCell ?_ ?_ _) | (with_reducible refine Below.drew ?_) | (simp; done) | (simp; omega) | omega)))) HEY.out).mono ?_); rintro e w' ⟨rfl, hb⟩; obtain ⟨pq, rfl⟩ := later_of_below hb; clear hb))
                refine any_world (fun w' => Below W5.heap.size W5 w') (by (repeat' (first | with_reducible exact Below.refl _ _ | (with_reducible refine below_later_of ?_ ?_ _) | (with_reducible refine Below.alloc ?_ ?_ _) | (with_reducible refine Below.setCell ?_ ?_ _) | (with_reducible refine Below.drew ?_) | (simp; done) | (simp; omega) | omega))) ?_
                rintro W6 hb6
                go_wp2_with fail
                refine any_world (fun w' => w'.cell? ⟨W6.heap.size, 0, none⟩ = some (.int .i64 0) ∧ w'.cell? ⟨W6.heap.size, 1, none⟩ = some (.int .i64 0) ∧ w'.cell? ⟨W6.heap.size, 2, none⟩ = some (.slice none 0 0) ∧ (w'.frozen? ⟨W6.heap.size, 0, none⟩ = false ∧ w'.frozen? ⟨W6.heap.size, 1, none⟩ = false ∧ w'.frozen? ⟨W6.heap.size, 2, none⟩ = false) ∧ Below W6.heap.size W6 w' ∧ W6.heap.size < w'.heap.size) ⟨(by (first | (simp [go_sem]; done) | simp [go_sem, ↓IntWalk.iteOmega])), (by (first | (simp [go_sem]; done) | simp [go_sem, ↓IntWalk.iteOmega])), (by (first | (simp [go_sem]; done) | simp [go_sem, ↓IntWalk.iteOmega])), ⟨(by (first | (simp [go_sem]; done) | simp [go_sem, ↓IntWalk.iteOmega])), (by (first | (simp [go_sem]; done) | simp [go_sem, ↓IntWalk.iteOmega])), (by (first | (simp [go_sem]; done) | simp [go_sem, ↓IntWalk.iteOmega]))⟩, (by (repeat' (first | with_reducible exact Below.refl _ _ | (with_reducible refine below_later_of ?_ ?_ _) | (with_reducible refine Below.alloc ?_ ?_ _) | (with_reducible refine Below.setCell ?_ ?_ _) | (with_reducible refine Below.drew ?_) | (simp; done) | (simp; omega) | omega))), by simp⟩ ?_
                rintro W7 ⟨t0, t1, t2, ⟨f0, f1, f2⟩, hb7, hs7⟩
                have hs6 := hb6.size
                have hb57 := hb6.trans (hb7.mono hs6)
                have hs57 := hb57.size
                have n0 := (hb57.cell (p := ⟨w.heap.size, 0, none⟩) (by simp; omega)).trans k0
                have n1 := (hb57.cell (p := ⟨w.heap.size, 1, none⟩) (by simp; omega)).trans k1
                have n2 := (hb57.cell (p := ⟨w.heap.size, 2, none⟩) (by simp; omega)).trans k2
                have n3 := (hb57.cell (p := ⟨w.heap.size, 3, none⟩) (by simp; omega)).trans k3
                have o0 := (hb57.cell (p := ⟨w.heap.size + 1, 0, none⟩) (by simp; omega)).trans j0
                have o1 := (hb57.cell (p := ⟨w.heap.size + 1, 1, none⟩) (by simp; omega)).trans j1
                have o2 := (hb57.cell (p := ⟨w.heap.size + 1, 2, none⟩) (by simp; omega)).trans j2
                have o3 := (hb57.cell (p := ⟨w.heap.size + 1, 3, none⟩) (by simp; omega)).trans j3
                have HIX7 := Lib.hid (show ∀ W, Below W7.heap.size W7 W → _ from fun W hW => HIX.out W (hb57.trans (hW.mono hs57)))
                have HIY7 := Lib.hid (show ∀ W, Below W7.heap.size W7 W → _ from fun W hW => HIY.out W (hb57.trans (hW.mono hs57)))
                have HU := Lib.hid (And.intro u0 (And.intro u1 u2))
                have HB6 := Lib.hid hb6
                have HB67 := Lib.hid hb7
                clear k0 k1 k2 k3 j0 j1 j2 j3 u0 u1 u2 HIX HIY hb6 hb57 hb7 HA2
                have HIX := Lib.hid HIX7.out
                have HIY := Lib.hid HIY7.out
                clear HIX7 HIY7
                go_cut [13] from 98 to 108 (fun X wx => ∃ l s n' a c, X = .int .i64 E1 ∧ ImgBlk wx W6.heap.size l s a n' c ∧ ImgSay wx 0 E1 x.L x.S n (addB (smp x.p) (smp y.p)) l s n' a ∧ Below W6.heap.size W6 wx ∧ W6.heap.size < wx.heap.size)
                case first =>
                  go_region_held3 (fun w' => w'.cell? ⟨w.heap.size, 0, none⟩ = some (.int .i64 x.L) ∧ w'.cell? ⟨w.heap.size, 1, none⟩ = some (.int .i64 x.S) ∧ w'.cell? ⟨w.heap.size, 2, none⟩ = some (.slice x.pa x.m x.pc) ∧ w'.cell? ⟨w.heap.size, 3, none⟩ = some (.slice x.ca x.mc x.cc) ∧ w'.cell? ⟨w.heap.size + 1, 0, none⟩ = some (.int .i64 y.L) ∧ w'.cell? ⟨w.heap.size + 1, 1, none⟩ = some (.int .i64 y.S) ∧ w'.cell? ⟨w.heap.size + 1, 2, none⟩ = some (.slice y.pa y.m y.pc) ∧ w'.cell? ⟨w.heap.size + 1, 3, none⟩ = some (.slice y.ca y.mc y.cc)) (first | exact ⟨n0, n1, n2, n3, o0, o1, o2, o3⟩ | ((first | (simp [go_sem, n0, n1, n2, n3, o0, o1, o2, o3]; done) | simp [go_sem, n0, n1, n2, n3, o0, o1, o2, o3, ↓IntWalk.iteOmega]); done)) (first | (go_at_call 22; (with_reducible refine (HIX.out _ (by (repeat' (first | with_reducible exact Below.refl _ _ | (with_reducible refine below_later_of ?_ ?_ _) | (with_reducible refine Below.alloc ?_ ?_ _) | (with_reducible refine Below.setCell ?_ ?_ _) | (with_reducible refine Below.drew ?_) | (simp; done) | (simp; omega) | omega)))).mono ?_); rintro e w' ⟨a1, c1, rfl, ha, -, hb⟩; have HA1 := Lib.hid ha; clear ha; obtain ⟨pq, rfl⟩ := later_of_below hb; clear hb) | (go_at_call 22; (with_reducible refine (HIY.out _ (by (repeat' (first | with_reducible exact Below.refl _ _ | (with_reducible refine below_later_of ?_ ?_ _) | (with_reducible refine Below.alloc ?_ ?_ _) | (with_reducible refine Below.setCell ?_ ?_ _) | (with_reducible refine Below.drew ?_) | (simp; done) | (simp; omega) | omega)))).mono ?_); rintro e w' ⟨a2, c2, rfl, ha, -, hb⟩; have HA2 := Lib.hid ha; clear ha; obtain ⟨pq, rfl⟩ := later_of_below hb; clear hb) | (go_at_call 69; (with_reducible refine (rAdded_say x.L x.S y.L y.S n c1 m c2 (smp x.p) (smp y.p) a1 a2 _ (dataAt_own HA1.out (by (repeat' (first | with_reducible exact Below.refl _ _ | (with_reducible refine below_later_of ?_ ?_ _) | (with_reducible refine Below.alloc ?_ ?_ _) | (with_reducible refine Below.setCell ?_ ?_ _) | (with_reducible refine Below.drew ?_) | (simp; done) | (simp; omega) | omega)))) (dataAt_own HA2.out (by (repeat' (first | with_reducible exact Below.refl _ _ | (with_reducible refine below_later_of ?_ ?_ _) | (with_reducible refine Below.alloc ?_ ?_ _) | (with_reducible refine Below.setCell ?_ ?_ _) | (with_reducible refine Below.drew ?_) | (simp; done) | (simp; omega) | omega)))) HZI.out HZY.out HE1.out).mono ?_); rintro e w' ⟨l5, s5, n5, a5, c5, rfl, hok, hb⟩; have HOK := Lib.hid hok; clear hok; obtain ⟨pq, rfl⟩ := later_of_below hb; clear hb))
                  all_goals
                    rename_i hheld
                    clear hheld
                    go_wp2_with fail
                    go_meet
                    refine ⟨l5, s5, n5, a5, c5, rfl, ⟨(by (first | (simp [go_sem, t0, t1, t2]; done) | simp [go_sem, t0, t1, t2, ↓IntWalk.iteOmega])), (by (first | (simp [go_sem, t0, t1, t2]; done) | simp [go_sem, t0, t1, t2, ↓IntWalk.iteOmega])), (by (first | (simp [go_sem, t0, t1, t2]; done) | simp [go_sem, t0, t1, t2, ↓IntWalk.iteOmega]))⟩, ?_, HB67.out.trans (by (repeat' (first | with_reducible exact Below.refl _ _ | (with_reducible refine below_later_of ?_ ?_ _) | (with_reducible refine Below.alloc ?_ ?_ _) | (with_reducible refine Below.setCell ?_ ?_ _) | (with_reducible refine Below.drew ?_) | (simp; done) | (simp; omega) | omega))), by simp <;> omega⟩
                    refine (ImgSay.set (ImgSay.set (ImgSay.set HOK.out ?_ _) ?_ _) ?_ _).mono (Nat.zero_le _) <;> simp <;> omega
                case rest =>
                  obtain ⟨l8, s8, n8, a8, c8, rfl, ⟨t0, t1, t2⟩, hok8, hb8, hs8⟩ := hcut
                  have HOR := Lib.hid hok8
                  have hb58 := HB6.out.trans (hb8.mono hs6)
                  have HOF8 := Lib.hid (HOF.out.below hb58)
                  have u0 := (hb58.cell (p := ⟨B7, 0, none⟩) hB75).trans HU.out.1
                  have u1 := (hb58.cell (p := ⟨B7, 1, none⟩) hB75).trans HU.out.2.1
                  have u2 := (hb58.cell (p := ⟨B7, 2, none⟩) hB75).trans HU.out.2.2
                  have HB8 := Lib.hid (HB5.out.trans (hb58.mono HB5.out.size))
                  have hB78 : B7 < wc.heap.size := by omega
                  have heq : (E1 == E1) = true := by simp
                  clear hok8 hb8 hb58 HOF
                  have HOF := Lib.hid HOF8.out
                  clear HOF8
                  go_wp2_with (first | (go_at_call 67; (with_reducible refine (same_img (HOF.out.below (by (repeat' (first | with_reducible exact Below.refl _ _ | (with_reducible refine below_later_of ?_ ?_ _) | (with_reducible refine Below.alloc ?_ ?_ _) | (with_reducible refine Below.setCell ?_ ?_ _) | (with_reducible refine Below.drew ?_) | (simp; done) | (simp; omega) | omega)))) (HOR.out.below (by (repeat' (first | with_reducible exact Below.refl _ _ | (with_reducible refine below_later_of ?_ ?_ _) | (with_reducible refine Below.alloc ?_ ?_ _) | (with_reducible refine Below.setCell ?_ ?_ _) | (with_reducible refine Below.drew ?_) | (simp; done) | (simp; omega) | omega))))).mono ?_); rintro e w' ⟨rfl, hb⟩; obtain ⟨pq, rfl⟩ := later_of_below hb; clear hb))
                  go_ret
                  exact ⟨rfl, HB8.out.trans (by (repeat' (first | with_reducible exact Below.refl _ _ | (with_reducible refine below_later_of ?_ ?_ _) | (with_reducible refine Below.alloc ?_ ?_ _) | (with_reducible refine Below.setCell ?_ ?_ _) | (with_reducible refine Below.drew ?_) | (simp; done) | (simp; omega) | omega)))⟩
              · have hne2 : (je == 0) = false := by simpa using h2
                obtain rfl : E1 = je := HFE.out h2
                have heq : (E1 == E1) = true := by simp
                have HOR := Lib.hid (show ∀ W, ImgSay W 0 E1 x.L x.S n (addB (smp x.p) (smp y.p)) 0 0 0 none from fun W => ⟨fun h => absurd h h2, fun _ => ⟨rfl, rfl, rfl⟩⟩)
                clear h2
                go_wp2_with (first | (go_at_call 22; (with_reducible refine (HIY.out _ (by (repeat' (first | with_reducible exact Below.refl _ _ | (with_reducible refine below_later_of ?_ ?_ _) | (with_reducible refine Below.alloc ?_ ?_ _) | (with_reducible refine Below.setCell ?_ ?_ _) | (with_reducible refine Below.drew ?_) | (simp; done) | (simp; omega) | omega)))).mono ?_); rintro e w' ⟨a2, c2, rfl, ha, -, hb⟩; have HA2 := Lib.hid ha; clear ha; obtain ⟨pq, rfl⟩ := later_of_below hb; clear hb) | (go_at_call 24; (with_reducible refine (rCheckImage y.L y.S m c2 (smp y.p) a2 _ (by omega) (dataAt_own HA2.out (by (repeat' (first | with_reducible exact Below.refl _ _ | (with_reducible refine below_later_of ?_ ?_ _) | (with_reducible refine Below.alloc ?_ ?_ _) | (with_reducible refine Below.setCell ?_ ?_ _) | (with_reducible refine Below.drew ?_) | (simp; done) | (simp; omega) | omega)))) HEY.out).mono ?_); rintro e w' ⟨rfl, hb⟩; obtain ⟨pq, rfl⟩ := later_of_below hb; clear hb) | (go_at_call 67; (with_reducible refine (same_img (HOF.out.below (by (repeat' (first | with_reducible exact Below.refl _ _ | (with_reducible refine below_later_of ?_ ?_ _) | (with_reducible refine Below.alloc ?_ ?_ _) | (with_reducible refine Below.setCell ?_ ?_ _) | (with_reducible refine Below.drew ?_) | (simp; done) | (simp; omega) | omega)))) (HOR.out _)).mono ?_); rintro e w' ⟨rfl, hb⟩; obtain ⟨pq, rfl⟩ := later_of_below hb; clear hb))
                go_ret
                exact ⟨rfl, HB5.out.trans (by (repeat' (first | with_reducible exact Below.refl _ _ | (with_reducible refine below_later_of ?_ ?_ _) | (with_reducible refine Below.alloc ?_ ?_ _) | (with_reducible refine Below.setCell ?_ ?_ _) | (with_reducible refine Below.drew ?_) | (simp; done) | (simp; omega) | omega)))⟩
            · rcases (show inE (-64) 64 q = false ∨ inE (-64) 64 q = true by cases inE (-64) 64 q <;> simp) with e2 | e2
              · have H1 := Lib.hid (fun w => bWithin _ _ _ w e1)
                have H2 := Lib.hid (fun w => bWithin _ _ _ w e2)
                obtain rfl : E2 = 2 := by rw [HSE.out, e1, e2]; rfl
                obtain ⟨rfl, rfl, rfl⟩ := HOG.out.2 (by decide)
                clear e1 e2
                go_wp2_with (first | (go_at_call 22; (with_reducible refine (HIX.out _ (by (repeat' (first | with_reducible exact Below.refl _ _ | (with_reducible refine below_later_of ?_ ?_ _) | (with_reducible refine Below.alloc ?_ ?_ _) | (with_reducible refine Below.setCell ?_ ?_ _) | (with_reducible refine Below.drew ?_) | (simp; done) | (simp; omega) | omega)))).mono ?_); rintro e w' ⟨a1, c1, rfl, ha, -, hb⟩; have HA1 := Lib.hid ha; clear ha; obtain ⟨pq, rfl⟩ := later_of_below hb; clear hb) | (go_at_call 24; (with_reducible refine (rCheckImage x.L x.S n c1 (smp x.p) a1 _ (by omega) (dataAt_own HA1.out (by (repeat' (first | with_reducible exact Below.refl _ _ | (with_reducible refine below_later_of ?_ ?_ _) | (with_reducible refine Below.alloc ?_ ?_ _) | (with_reducible refine Below.setCell ?_ ?_ _) | (with_reducible refine Below.drew ?_) | (simp; done) | (simp; omega) | omega)))) HEI.out).mono ?_); rintro e w' ⟨rfl, hb⟩; obtain ⟨pq, rfl⟩ := later_of_below hb; clear hb) | (go_at_call 30; (with_reducible refine (H1.out _).mono ?_); rintro e w' ⟨rfl, rfl⟩) | (go_at_call 30; (with_reducible refine (H2.out _).mono ?_); rintro e w' ⟨rfl, rfl⟩))
                refine wp_world34 (fun w' => Below W3.heap.size W3 w') (by (repeat' (first | with_reducible exact Below.refl _ _ | (with_reducible refine below_later_of ?_ ?_ _) | (with_reducible refine Below.alloc ?_ ?_ _) | (with_reducible refine Below.setCell ?_ ?_ _) | (with_reducible refine Below.drew ?_) | (simp; done) | (simp; omega) | omega))) ?_
                rintro W4 hb4
                have hs4 := hb4.size
                have k0 := (hb4.cell (p := ⟨w.heap.size, 0, none⟩) (by simp; omega)).trans m0
                have k1 := (hb4.cell (p := ⟨w.heap.size, 1, none⟩) (by simp; omega)).trans m1
                have k2 := (hb4.cell (p := ⟨w.heap.size, 2, none⟩) (by simp; omega)).trans m2
                have k3 := (hb4.cell (p := ⟨w.heap.size, 3, none⟩) (by simp; omega)).trans m3
                have i0 := (hb4.cell (p := ⟨w.heap.size + 2, 0, none⟩) (by simp; omega)).trans g0
                have i1 := (hb4.cell (p := ⟨w.heap.size + 2, 1, none⟩) (by simp; omega)).trans g1
                have v0 := (hb4.cell (p := ⟨B9, 0, none⟩) hB9).trans z0
                have v1 := (hb4.cell (p := ⟨B9, 1, none⟩) hB9).trans z1
                have v2 := (hb4.cell (p := ⟨B9, 2, none⟩) hB9).trans z2
                have HOG4 := Lib.hid (HOG.out.below hb4)
                have HIX4 := Lib.hid (show ∀ W, Below W4.heap.size W4 W → _ from fun W hW => HIX.out W (hb4.trans (hW.mono hs4)))
                have HB4 := Lib.hid hb4
                have HK := Lib.hid (And.intro m0 (And.intro m1 (And.intro m2 m3)))
                have HZ := Lib.hid (And.intro z0 (And.intro z1 z2))
                clear hb4 m0 m1 m2 m3 g0 g1 z0 z1 z2 HOG HIX
                have HIX := Lib.hid HIX4.out
                have HOG := Lib.hid HOG4.out
                clear HIX4 HOG4
                generalize hE3 : (2 : Int) = E3
                have d20 : (E3 == 0) = false := by rw [← hE3]; rfl
                have d21 : (E3 != 0) = true := by rw [← hE3]; rfl
                have d22 : (E3 != E3) = false := by simp
                clear hE3
                refine wp_region_calm (by kernel_rfl) (by kernel_rfl) ?_
                repeat (go_big_quiet_step (first | (go_at_call 66; exact calm_of (lNoImage _ _ _))))
                refine wpQuiet_nil ?_
                rintro _ ⟨pq, rfl⟩
                refine any_world (fun w' => Below W4.heap.size W4 w') (by (repeat' (first | with_reducible exact Below.refl _ _ | (with_reducible refine below_later_of ?_ ?_ _) | (with_reducible refine Below.alloc ?_ ?_ _) | (with_reducible refine Below.setCell ?_ ?_ _) | (with_reducible refine Below.drew ?_) | (simp; done) | (simp; omega) | omega))) ?_
                rintro W5 hb
                have hb5 := HB4.out.trans (hb.mono hs4)
                have hs5 := hb5.size
                have k0 := (hb5.cell (p := ⟨w.heap.size, 0, none⟩) (by simp; omega)).trans HK.out.1
                have k1 := (hb5.cell (p := ⟨w.heap.size, 1, none⟩) (by simp; omega)).trans HK.out.2.1
                have k2 := (hb5.cell (p := ⟨w.heap.size, 2, none⟩) (by simp; omega)).trans HK.out.2.2.1
                have k3 := (hb5.cell (p := ⟨w.heap.size, 3, none⟩) (by simp; omega)).trans HK.out.2.2.2
                have j0 := (hb5.cell (p := ⟨w.heap.size + 1, 0, none⟩) (by simp; omega)).trans HJ.out.1
                have j1 := (hb5.cell (p := ⟨w.heap.size + 1, 1, none⟩) (by simp; omega)).trans HJ.out.2.1
                have j2 := (hb5.cell (p := ⟨w.heap.size + 1, 2, none⟩) (by simp; omega)).trans HJ.out.2.2.1
                have j3 := (hb5.cell (p := ⟨w.heap.size + 1, 3, none⟩) (by simp; omega)).trans HJ.out.2.2.2
                have u0 := (hb5.cell (p := ⟨B7, 0, none⟩) hB7).trans HI7.out.1
                have u1 := (hb5.cell (p := ⟨B7, 1, none⟩) hB7).trans HI7.out.2.1
                have u2 := (hb5.cell (p := ⟨B7, 2, none⟩) hB7).trans HI7.out.2.2
                have HOF5 := Lib.hid (HOF.out.below hb5)
                have HIX5 := Lib.hid (show ∀ W, Below W5.heap.size W5 W → _ from fun W hW => HIX.out W (hb.trans (hW.mono hb.size)))
                have HIY5 := Lib.hid (show ∀ W, Below W5.heap.size W5 W → _ from fun W hW => HIY.out W (hb5.trans (hW.mono hs5)))
                have HB5 := Lib.hid (HB3.out.trans (hb5.mono HB3.out.size))
                have hB75 : B7 < W5.heap.size := by omega
                have hw5 : w.heap.size + 2 < W5.heap.size := by omega
                clear hb hb5 HOF HIX HIY HB4 hs4 HK HZ HOG
                have HIX := Lib.hid HIX5.out
                have HIY := Lib.hid HIY5.out
                have HOF := Lib.hid HOF5.out
                clear HIX5 HIY5 HOF5
                by_cases h2 : je = 0
                · subst h2
                  have HZY := Lib.hid (show (imgE y.L y.S m (smp y.p)).2 = 0 by rw [HEY.out])
                  go_upto_region 15 with (first | (go_at_call 22; (with_reducible refine (HIY.out _ (by (repeat' (first | with_reducible exact Below.refl _ _ | (with_reducible refine below_later_of ?_ ?_ _) | (with_reducible refine Below.alloc ?_ ?_ _) | (with_reducible refine Below.setCell ?_ ?_ _) | (with_reducible refine Below.drew ?_) | (simp; done) | (simp; omega) | omega)))).mono ?_); rintro e w' ⟨a2, c2, rfl, ha, -, hb⟩; have HA2 := Lib.hid ha; clear ha; obtain ⟨pq, rfl⟩ := later_of_below hb; clear hb) | (go_at_call 24; (with_reducible refine (rCheckImage y.L y.S m c2 (smp y.p) a2 _ (by omega) (dataAt_own HA2.out (by (repeat' (first | with_reducible exact Below.refl _ _ | (with_reducible refine below_later_of ?_ ?_ _) | (with_reducible refine Below.alloc ?_ ?_ _) | (with_reducible refine Below.setCell ?_ ?_ _) | (with_reducible refine Below.drew ?_) | (simp; done) | (simp; omega) | omega)))) HEY.out).mono ?_); rintro e w' ⟨rfl, hb⟩; obtain ⟨pq, rfl⟩ := later_of_below hb; clear hb))
                  refine any_world (fun w' => Below W5.heap.size W5 w') (by (repeat' (first | with_reducible exact Below.refl _ _ | (with_reducible refine below_later_of ?_ ?_ _) | (with_reducible refine Below.alloc ?_ ?_ _) | (with_reducible refine Below.setCell ?_ ?_ _) | (with_reducible refine Below.drew ?_) | (simp; done) | (simp; omega) | omega))) ?_
                  rintro W6 hb6
                  go_wp2_with fail
                  refine any_world (fun w' => w'.cell? ⟨W6.heap.size, 0, none⟩ = some (.int .i64 0) ∧ w'.cell? ⟨W6.heap.size, 1, none⟩ = some (.int .i64 0) ∧ w'.cell? ⟨W6.heap.size, 2, none⟩ = some (.slice none 0 0) ∧ (w'.frozen? ⟨W6.heap.size, 0, none⟩ = false ∧ w'.frozen? ⟨W6.heap.size, 1, none⟩ = false ∧ w'.frozen? ⟨W6.heap.size, 2, none⟩ = false) ∧ Below W6.heap.size W6 w' ∧ W6.heap.size < w'.heap.size) ⟨(by (first | (simp [go_sem]; done) | simp [go_sem, ↓IntWalk.iteOmega])), (by (first | (simp [go_sem]; done) | simp [go_sem, ↓IntWalk.iteOmega])), (by (first | (simp [go_sem]; done) | simp [go_sem, ↓IntWalk.iteOmega])), ⟨(by (first | (simp [go_sem]; done) | simp [go_sem, ↓IntWalk.iteOmega])), (by (first | (simp [go_sem]; done) | simp [go_sem, ↓IntWalk.iteOmega])), (by (first | (simp [go_sem]; done) | simp [go_sem, ↓IntWalk.iteOmega]))⟩, (by (repeat' (first | with_reducible exact Below.refl _ _ | (with_reducible refine below_later_of ?_ ?_ _) | (with_reducible refine Below.alloc ?_ ?_ _) | (with_reducible refine Below.setCell ?_ ?_ _) | (with_reducible refine Below.drew ?_) | (simp; done) | (simp; omega) | omega))), by simp⟩ ?_
                  rintro W7 ⟨t0, t1, t2, ⟨f0, f1, f2⟩, hb7, hs7⟩
                  have hs6 := hb6.size
                  have hb57 := hb6.trans (hb7.mono hs6)
                  have hs57 := hb57.size
                  have n0 := (hb57.cell (p := ⟨w.heap.size, 0, none⟩) (by simp; omega)).trans k0
                  have n1 := (hb57.cell (p := ⟨w.heap.size, 1, none⟩) (by simp; omega)).trans k1
                  have n2 := (hb57.cell (p := ⟨w.heap.size, 2, none⟩) (by simp; omega)).trans k2
                  have n3 := (hb57.cell (p := ⟨w.heap.size, 3, none⟩) (by simp; omega)).trans k3
                  have o0 := (hb57.cell (p := ⟨w.heap.size + 1, 0, none⟩) (by simp; omega)).trans j0
                  have o1 := (hb57.cell (p := ⟨w.heap.size + 1, 1, none⟩) (by simp; omega)).trans j1
                  have o2 := (hb57.cell (p := ⟨w.heap.size + 1, 2, none⟩) (by simp; omega)).trans j2
                  have o3 := (hb57.cell (p := ⟨w.heap.size + 1, 3, none⟩) (by simp; omega)).trans j3
                  have HIX7 := Lib.hid (show ∀ W, Below W7.heap.size W7 W → _ from fun W hW => HIX.out W (hb57.trans (hW.mono hs57)))
                  have HIY7 := Lib.hid (show ∀ W, Below W7.heap.size W7 W → _ from fun W hW => HIY.out W (hb57.trans (hW.mono hs57)))
                  have HU := Lib.hid (And.intro u0 (And.intro u1 u2))
                  have HB6 := Lib.hid hb6
                  have HB67 := Lib.hid hb7
                  clear k0 k1 k2 k3 j0 j1 j2 j3 u0 u1 u2 HIX HIY hb6 hb57 hb7 HA2
                  have HIX := Lib.hid HIX7.out
                  have HIY := Lib.hid HIY7.out
                  clear HIX7 HIY7
                  go_cut [13] from 98 to 108 (fun X wx => ∃ l s n' a c, X = .int .i64 E1 ∧ ImgBlk wx W6.heap.size l s a n' c ∧ ImgSay wx 0 E1 x.L x.S n (addB (smp x.p) (smp y.p)) l s n' a ∧ Below W6.heap.size W6 wx ∧ W6.heap.size < wx.heap.size)
                  case first =>
                    go_region_held3 (fun w' => w'.cell? ⟨w.heap.size, 0, none⟩ = some (.int .i64 x.L) ∧ w'.cell? ⟨w.heap.size, 1, none⟩ = some (.int .i64 x.S) ∧ w'.cell? ⟨w.heap.size, 2, none⟩ = some (.slice x.pa x.m x.pc) ∧ w'.cell? ⟨w.heap.size, 3, none⟩ = some (.slice x.ca x.mc x.cc) ∧ w'.cell? ⟨w.heap.size + 1, 0, none⟩ = some (.int .i64 y.L) ∧ w'.cell? ⟨w.heap.size + 1, 1, none⟩ = some (.int .i64 y.S) ∧ w'.cell? ⟨w.heap.size + 1, 2, none⟩ = some (.slice y.pa y.m y.pc) ∧ w'.cell? ⟨w.heap.size + 1, 3, none⟩ = some (.slice y.ca y.mc y.cc)) (first | exact ⟨n0, n1, n2, n3, o0, o1, o2, o3⟩ | ((first | (simp [go_sem, n0, n1, n2, n3, o0, o1, o2, o3]; done) | simp [go_sem, n0, n1, n2, n3, o0, o1, o2, o3, ↓IntWalk.iteOmega]); done)) (first | (go_at_call 22; (with_reducible refine (HIX.out _ (by (repeat' (first | with_reducible exact Below.refl _ _ | (with_reducible refine below_later_of ?_ ?_ _) | (with_reducible refine Below.alloc ?_ ?_ _) | (with_reducible refine Below.setCell ?_ ?_ _) | (with_reducible refine Below.drew ?_) | (simp; done) | (simp; omega) | omega)))).mono ?_); rintro e w' ⟨a1, c1, rfl, ha, -, hb⟩; have HA1 := Lib.hid ha; clear ha; obtain ⟨pq, rfl⟩ := later_of_below hb; clear hb) | (go_at_call 22; (with_reducible refine (HIY.out _ (by (repeat' (first | with_reducible exact Below.refl _ _ | (with_reducible refine below_later_of ?_ ?_ _) | (with_reducible refine Below.alloc ?_ ?_ _) | (with_reducible refine Below.setCell ?_ ?_ _) | (with_reducible refine Below.drew ?_) | (simp; done) | (simp; omega) | omega)))).mono ?_); rintro e w' ⟨a2, c2, rfl, ha, -, hb⟩; have HA2 := Lib.hid ha; clear ha; obtain ⟨pq, rfl⟩ := later_of_below hb; clear hb) | (go_at_call 69; (with_reducible refine (rAdded_say x.L x.S y.L y.S n c1 m c2 (smp x.p) (smp y.p) a1 a2 _ (dataAt_own HA1.out (by (repeat' (first | with_reducible exact Below.refl _ _ | (with_reducible refine below_later_of ?_ ?_ _) | (with_reducible refine Below.alloc ?_ ?_ _) | (with_reducible refine Below.setCell ?_ ?_ _) | (with_reducible refine Below.drew ?_) | (simp; done) | (simp; omega) | omega)))) (dataAt_own HA2.out (by (repeat' (first | with_reducible exact Below.refl _ _ | (with_reducible refine below_later_of ?_ ?_ _) | (with_reducible refine Below.alloc ?_ ?_ _) | (with_reducible refine Below.setCell ?_ ?_ _) | (with_reducible refine Below.drew ?_) | (simp; done) | (simp; omega) | omega)))) HZI.out HZY.out HE1.out).mono ?_); rintro e w' ⟨l5, s5, n5, a5, c5, rfl, hok, hb⟩; have HOK := Lib.hid hok; clear hok; obtain ⟨pq, rfl⟩ := later_of_below hb; clear hb))
                    all_goals
                      rename_i hheld
                      clear hheld
                      go_wp2_with fail
                      go_meet
                      refine ⟨l5, s5, n5, a5, c5, rfl, ⟨(by (first | (simp [go_sem, t0, t1, t2]; done) | simp [go_sem, t0, t1, t2, ↓IntWalk.iteOmega])), (by (first | (simp [go_sem, t0, t1, t2]; done) | simp [go_sem, t0, t1, t2, ↓IntWalk.iteOmega])), (by (first | (simp [go_sem, t0, t1, t2]; done) | simp [go_sem, t0, t1, t2, ↓IntWalk.iteOmega]))⟩, ?_, HB67.out.trans (by (repeat' (first | with_reducible exact Below.refl _ _ | (with_reducible refine below_later_of ?_ ?_ _) | (with_reducible refine Below.alloc ?_ ?_ _) | (with_reducible refine Below.setCell ?_ ?_ _) | (with_reducible refine Below.drew ?_) | (simp; done) | (simp; omega) | omega))), by simp <;> omega⟩
                      refine (ImgSay.set (ImgSay.set (ImgSay.set HOK.out ?_ _) ?_ _) ?_ _).mono (Nat.zero_le _) <;> simp <;> omega
                  case rest =>
                    obtain ⟨l8, s8, n8, a8, c8, rfl, ⟨t0, t1, t2⟩, hok8, hb8, hs8⟩ := hcut
                    have HOR := Lib.hid hok8
                    have hb58 := HB6.out.trans (hb8.mono hs6)
                    have HOF8 := Lib.hid (HOF.out.below hb58)
                    have u0 := (hb58.cell (p := ⟨B7, 0, none⟩) hB75).trans HU.out.1
                    have u1 := (hb58.cell (p := ⟨B7, 1, none⟩) hB75).trans HU.out.2.1
                    have u2 := (hb58.cell (p := ⟨B7, 2, none⟩) hB75).trans HU.out.2.2
                    have HB8 := Lib.hid (HB5.out.trans (hb58.mono HB5.out.size))
                    have hB78 : B7 < wc.heap.size := by omega
                    have heq : (E1 == E1) = true := by simp
                    clear hok8 hb8 hb58 HOF
                    have HOF := Lib.hid HOF8.out
                    clear HOF8
                    go_wp2_with (first | (go_at_call 67; (with_reducible refine (same_img (HOF.out.below (by (repeat' (first | with_reducible exact Below.refl _ _ | (with_reducible refine below_later_of ?_ ?_ _) | (with_reducible refine Below.alloc ?_ ?_ _) | (with_reducible refine Below.setCell ?_ ?_ _) | (with_reducible refine Below.drew ?_) | (simp; done) | (simp; omega) | omega)))) (HOR.out.below (by (repeat' (first | with_reducible exact Below.refl _ _ | (with_reducible refine below_later_of ?_ ?_ _) | (with_reducible refine Below.alloc ?_ ?_ _) | (with_reducible refine Below.setCell ?_ ?_ _) | (with_reducible refine Below.drew ?_) | (simp; done) | (simp; omega) | omega))))).mono ?_); rintro e w' ⟨rfl, hb⟩; obtain ⟨pq, rfl⟩ := later_of_below hb; clear hb))
                    go_ret
                    exact ⟨rfl, HB8.out.trans (by (repeat' (first | with_reducible exact Below.refl _ _ | (with_reducible refine below_later_of ?_ ?_ _) | (with_reducible refine Below.alloc ?_ ?_ _) | (with_reducible refine Below.setCell ?_ ?_ _) | (with_reducible refine Below.drew ?_) | (simp; done) | (simp; omega) | omega)))⟩
                · have hne2 : (je == 0) = false := by simpa using h2
                  obtain rfl : E1 = je := HFE.out h2
                  have heq : (E1 == E1) = true := by simp
                  have HOR := Lib.hid (show ∀ W, ImgSay W 0 E1 x.L x.S n (addB (smp x.p) (smp y.p)) 0 0 0 none from fun W => ⟨fun h => absurd h h2, fun _ => ⟨rfl, rfl, rfl⟩⟩)
                  clear h2
                  go_wp2_with (first | (go_at_call 22; (with_reducible refine (HIY.out _ (by (repeat' (first | with_reducible exact Below.refl _ _ | (with_reducible refine below_later_of ?_ ?_ _) | (with_reducible refine Below.alloc ?_ ?_ _) | (with_reducible refine Below.setCell ?_ ?_ _) | (with_reducible refine Below.drew ?_) | (simp; done) | (simp; omega) | omega)))).mono ?_); rintro e w' ⟨a2, c2, rfl, ha, -, hb⟩; have HA2 := Lib.hid ha; clear ha; obtain ⟨pq, rfl⟩ := later_of_below hb; clear hb) | (go_at_call 24; (with_reducible refine (rCheckImage y.L y.S m c2 (smp y.p) a2 _ (by omega) (dataAt_own HA2.out (by (repeat' (first | with_reducible exact Below.refl _ _ | (with_reducible refine below_later_of ?_ ?_ _) | (with_reducible refine Below.alloc ?_ ?_ _) | (with_reducible refine Below.setCell ?_ ?_ _) | (with_reducible refine Below.drew ?_) | (simp; done) | (simp; omega) | omega)))) HEY.out).mono ?_); rintro e w' ⟨rfl, hb⟩; obtain ⟨pq, rfl⟩ := later_of_below hb; clear hb) | (go_at_call 67; (with_reducible refine (same_img (HOF.out.below (by (repeat' (first | with_reducible exact Below.refl _ _ | (with_reducible refine below_later_of ?_ ?_ _) | (with_reducible refine Below.alloc ?_ ?_ _) | (with_reducible refine Below.setCell ?_ ?_ _) | (with_reducible refine Below.drew ?_) | (simp; done) | (simp; omega) | omega)))) (HOR.out _)).mono ?_); rintro e w' ⟨rfl, hb⟩; obtain ⟨pq, rfl⟩ := later_of_below hb; clear hb))
                  go_ret
                  exact ⟨rfl, HB5.out.trans (by (repeat' (first | with_reducible exact Below.refl _ _ | (with_reducible refine below_later_of ?_ ?_ _) | (with_reducible refine Below.alloc ?_ ?_ _) | (with_reducible refine Below.setCell ?_ ?_ _) | (with_reducible refine Below.drew ?_) | (simp; done) | (simp; omega) | omega)))⟩
              · have H1 := Lib.hid (fun w => bWithin _ _ _ w e1)
                have H2 := Lib.hid (fun w => bWithin _ _ _ w e2)
                obtain rfl : E2 = 0 := by rw [HSE.out, e1, e2]; rfl
                clear e1 e2
                go_wp2_with (first | (go_at_call 22; (with_reducible refine (HIX.out _ (by (repeat' (first | with_reducible exact Below.refl _ _ | (with_reducible refine below_later_of ?_ ?_ _) | (with_reducible refine Below.alloc ?_ ?_ _) | (with_reducible refine Below.setCell ?_ ?_ _) | (with_reducible refine Below.drew ?_) | (simp; done) | (simp; omega) | omega)))).mono ?_); rintro e w' ⟨a1, c1, rfl, ha, -, hb⟩; have HA1 := Lib.hid ha; clear ha; obtain ⟨pq, rfl⟩ := later_of_below hb; clear hb) | (go_at_call 24; (with_reducible refine (rCheckImage x.L x.S n c1 (smp x.p) a1 _ (by omega) (dataAt_own HA1.out (by (repeat' (first | with_reducible exact Below.refl _ _ | (with_reducible refine below_later_of ?_ ?_ _) | (with_reducible refine Below.alloc ?_ ?_ _) | (with_reducible refine Below.setCell ?_ ?_ _) | (with_reducible refine Below.drew ?_) | (simp; done) | (simp; omega) | omega)))) HEI.out).mono ?_); rintro e w' ⟨rfl, hb⟩; obtain ⟨pq, rfl⟩ := later_of_below hb; clear hb) | (go_at_call 30; (with_reducible refine (H1.out _).mono ?_); rintro e w' ⟨rfl, rfl⟩) | (go_at_call 30; (with_reducible refine (H2.out _).mono ?_); rintro e w' ⟨rfl, rfl⟩))
                refine wp_world34 (fun w' => Below W3.heap.size W3 w') (by (repeat' (first | with_reducible exact Below.refl _ _ | (with_reducible refine below_later_of ?_ ?_ _) | (with_reducible refine Below.alloc ?_ ?_ _) | (with_reducible refine Below.setCell ?_ ?_ _) | (with_reducible refine Below.drew ?_) | (simp; done) | (simp; omega) | omega))) ?_
                rintro W4 hb4
                have hs4 := hb4.size
                have k0 := (hb4.cell (p := ⟨w.heap.size, 0, none⟩) (by simp; omega)).trans m0
                have k1 := (hb4.cell (p := ⟨w.heap.size, 1, none⟩) (by simp; omega)).trans m1
                have k2 := (hb4.cell (p := ⟨w.heap.size, 2, none⟩) (by simp; omega)).trans m2
                have k3 := (hb4.cell (p := ⟨w.heap.size, 3, none⟩) (by simp; omega)).trans m3
                have i0 := (hb4.cell (p := ⟨w.heap.size + 2, 0, none⟩) (by simp; omega)).trans g0
                have i1 := (hb4.cell (p := ⟨w.heap.size + 2, 1, none⟩) (by simp; omega)).trans g1
                have v0 := (hb4.cell (p := ⟨B9, 0, none⟩) hB9).trans z0
                have v1 := (hb4.cell (p := ⟨B9, 1, none⟩) hB9).trans z1
                have v2 := (hb4.cell (p := ⟨B9, 2, none⟩) hB9).trans z2
                have HOG4 := Lib.hid (HOG.out.below hb4)
                have HIX4 := Lib.hid (show ∀ W, Below W4.heap.size W4 W → _ from fun W hW => HIX.out W (hb4.trans (hW.mono hs4)))
                have HB4 := Lib.hid hb4
                have HK := Lib.hid (And.intro m0 (And.intro m1 (And.intro m2 m3)))
                have HZ := Lib.hid (And.intro z0 (And.intro z1 z2))
                clear hb4 m0 m1 m2 m3 g0 g1 z0 z1 z2 HOG HIX
                have HIX := Lib.hid HIX4.out
                have HOG := Lib.hid HOG4.out
                clear HIX4 HOG4
                refine wp_region_held_drew (S := fun w' => (w'.cell? ⟨w.heap.size, 0, none⟩ = some (.int .i64 x.L) ∧ w'.cell? ⟨w.heap.size, 1, none⟩ = some (.int .i64 x.S) ∧ w'.cell? ⟨w.heap.size, 2, none⟩ = some (.slice x.pa x.m x.pc) ∧ w'.cell? ⟨w.heap.size, 3, none⟩ = some (.slice x.ca x.mc x.cc)) ∧ (w'.cell? ⟨w.heap.size + 2, 0, none⟩ = some (.int .i64 p) ∧ w'.cell? ⟨w.heap.size + 2, 1, none⟩ = some (.int .i64 q)) ∧ (w'.cell? ⟨B9, 0, none⟩ = some (.int .i64 l9) ∧ w'.cell? ⟨B9, 1, none⟩ = some (.int .i64 s9) ∧ w'.cell? ⟨B9, 2, none⟩ = some (.slice a9 n9 c9))) (by kernel_rfl) ?hS0 (fun hHeld => ?_)
                case hS0 => ((try dsimp only); first | exact ⟨⟨k0, k1, k2, k3⟩, ⟨i0, i1⟩, v0, v1, v2⟩ | ((first | (simp [go_sem, k0, k1, k2, k3, i0, i1, v0, v1, v2]; done) | simp [go_sem, k0, k1, k2, k3, i0, i1, v0, v1, v2, ↓IntWalk.iteOmega]); done))
                refine wpAnyH_take (i := 0) (v := ?vv) rfl (by kernel_rfl) (by kernel_rfl) (by kernel_rfl) (fun _ _ _ h => h) (Or.inl ⟨by rfl, ?hy⟩) (by assumption) ?_
                case hy => (intro w1 hSw; (try dsimp only at hSw); first | (go_simp; done) | (go_simp; with_reducible rfl))
                try simp only [Act.put, List.setIfInBounds_toArray, List.set_cons_zero, List.set_cons_succ, List.getElem_toArray, List.getElem_cons_succ, List.getElem_cons_zero]
                refine wpAnyH_take (i := 1) (v := .bool false) rfl (by kernel_rfl) (by kernel_rfl) (by kernel_rfl) (fun _ _ _ h => h) (Or.inl ⟨by rfl, ?hy⟩) (by assumption) ?_
                case hy => (intro w1 hSw; (try dsimp only at hSw); first | (go_simp; done) | (go_simp; with_reducible rfl))
                try simp only [Act.put, List.setIfInBounds_toArray, List.set_cons_zero, List.set_cons_succ, List.getElem_toArray, List.getElem_cons_succ, List.getElem_cons_zero]
                refine wpAnyH_take (i := 2) (v := .bool false) rfl (by kernel_rfl) (by kernel_rfl) (by kernel_rfl) (fun _ _ _ h => h) (Or.inl ⟨by rfl, ?hy⟩) (by assumption) ?_
                case hy => (intro w1 hSw; (try dsimp only at hSw); first | (go_simp; done) | (go_simp; with_reducible rfl))
                try simp only [Act.put, List.setIfInBounds_toArray, List.set_cons_zero, List.set_cons_succ, List.getElem_toArray, List.getElem_cons_succ, List.getElem_cons_zero]
                refine wpAnyH_take (i := 3) (v := undef) rfl (by kernel_rfl) (by kernel_rfl) (by kernel_rfl) (fun _ _ _ h => h) (Or.inr ⟨by rfl, rfl⟩) (by assumption) ?_
                try simp only [Act.put, List.setIfInBounds_toArray, List.set_cons_zero, List.set_cons_succ, List.getElem_toArray, List.getElem_cons_succ, List.getElem_cons_zero]
                refine wpAnyH_take (i := 4) (v := undef) rfl (by kernel_rfl) (by kernel_rfl) (by kernel_rfl) (fun _ _ _ h => h) (Or.inr ⟨by rfl, rfl⟩) (by assumption) ?_
                try simp only [Act.put, List.setIfInBounds_toArray, List.set_cons_zero, List.set_cons_succ, List.getElem_toArray, List.getElem_cons_succ, List.getElem_cons_zero]
                refine wpAnyH_take (i := 5) (v := undef) rfl (by kernel_rfl) (by kernel_rfl) (by kernel_rfl) (fun _ _ _ h => h) (Or.inr ⟨by rfl, rfl⟩) (by assumption) ?_
                try simp only [Act.put, List.setIfInBounds_toArray, List.set_cons_zero, List.set_cons_succ, List.getElem_toArray, List.getElem_cons_succ, List.getElem_cons_zero]
                refine wpAnyH_take (i := 6) (v := undef) rfl (by kernel_rfl) (by kernel_rfl) (by kernel_rfl) (fun _ _ _ h => h) (Or.inr ⟨by rfl, rfl⟩) (by assumption) ?_
                try simp only [Act.put, List.setIfInBounds_toArray, List.set_cons_zero, List.set_cons_succ, List.getElem_toArray, List.getElem_cons_succ, List.getElem_cons_zero]
                refine wpAnyH_take (i := 7) (v := undef) rfl (by kernel_rfl) (by kernel_rfl) (by kernel_rfl) (fun _ _ _ h => h) (Or.inr ⟨by rfl, rfl⟩) (by assumption) ?_
                try simp only [Act.put, List.setIfInBounds_toArray, List.set_cons_zero, List.set_cons_succ, List.getElem_toArray, List.getElem_cons_succ, List.getElem_cons_zero]
                refine wpAnyH_take (i := 8) (v := undef) rfl (by kernel_rfl) (by kernel_rfl) (by kernel_rfl) (fun _ _ _ h => h) (Or.inr ⟨by rfl, rfl⟩) (by assumption) ?_
                try simp only [Act.put, List.setIfInBounds_toArray, List.set_cons_zero, List.set_cons_succ, List.getElem_toArray, List.getElem_cons_succ, List.getElem_cons_zero]
                refine wpAnyH_take (i := 9) (v := undef) rfl (by kernel_rfl) (by kernel_rfl) (by kernel_rfl) (fun _ _ _ h => h) (Or.inr ⟨by rfl, rfl⟩) (by assumption) ?_
                try simp only [Act.put, List.setIfInBounds_toArray, List.set_cons_zero, List.set_cons_succ, List.getElem_toArray, List.getElem_cons_succ, List.getElem_cons_zero]
                refine wpAnyH_take (i := 10) (v := undef) rfl (by kernel_rfl) (by kernel_rfl) (by kernel_rfl) (fun _ _ _ h => h) (Or.inr ⟨by rfl, rfl⟩) (by assumption) ?_
                try simp only [Act.put, List.setIfInBounds_toArray, List.set_cons_zero, List.set_cons_succ, List.getElem_toArray, List.getElem_cons_succ, List.getElem_cons_zero]
                refine wpAnyH_take (i := 11) (v := .bool false) rfl (by kernel_rfl) (by kernel_rfl) (by kernel_rfl) (fun _ _ _ h => h) (Or.inl ⟨by rfl, ?hy⟩) (by assumption) ?_
                case hy => (intro w1 hSw; (try dsimp only at hSw); first | (go_simp; done) | (go_simp; with_reducible rfl))
                try simp only [Act.put, List.setIfInBounds_toArray, List.set_cons_zero, List.set_cons_succ, List.getElem_toArray, List.getElem_cons_succ, List.getElem_cons_zero]
                refine wpAnyH_take (i := 12) (v := .bool false) rfl (by kernel_rfl) (by kernel_rfl) (by kernel_rfl) (fun _ _ _ h => h) (Or.inl ⟨by rfl, ?hy⟩) (by assumption) ?_
                case hy => (intro w1 hSw; (try dsimp only at hSw); first | (go_simp; done) | (go_simp; with_reducible rfl))
                try simp only [Act.put, List.setIfInBounds_toArray, List.set_cons_zero, List.set_cons_succ, List.getElem_toArray, List.getElem_cons_succ, List.getElem_cons_zero]
                refine wpAnyH_take (i := 13) (v := ?vv) rfl (by kernel_rfl) (by kernel_rfl) (by kernel_rfl) (fun _ _ _ h => h) (Or.inl ⟨by rfl, ?hy⟩) (by assumption) ?_
                case hy => (intro w1 hSw; (try dsimp only at hSw); first | (go_simp; done) | (go_simp; with_reducible rfl))
                try simp only [Act.put, List.setIfInBounds_toArray, List.set_cons_zero, List.set_cons_succ, List.getElem_toArray, List.getElem_cons_succ, List.getElem_cons_zero]
                refine wpAnyH_take (i := 14) (v := .bool true) rfl (by kernel_rfl) (by kernel_rfl) (by kernel_rfl) (fun _ _ _ h => h) (Or.inl ⟨by rfl, ?hy⟩) (by assumption) ?_
                case hy => (intro w1 hSw; (try dsimp only at hSw); first | (go_simp; done) | (go_simp; with_reducible rfl))
                try simp only [Act.put, List.setIfInBounds_toArray, List.set_cons_zero, List.set_cons_succ, List.getElem_toArray, List.getElem_cons_succ, List.getElem_cons_zero]
                refine wpAnyH_take (i := 15) (v := .bool true) rfl (by kernel_rfl) (by kernel_rfl) (by kernel_rfl) (fun _ _ _ h => h) (Or.inl ⟨by rfl, ?hy⟩) (by assumption) ?_
                case hy => (intro w1 hSw; (try dsimp only at hSw); first | (go_simp; done) | (go_simp; with_reducible rfl))
                try simp only [Act.put, List.setIfInBounds_toArray, List.set_cons_zero, List.set_cons_succ, List.getElem_toArray, List.getElem_cons_succ, List.getElem_cons_zero]
                refine wpAnyH_take (i := 16) (v := ?vv) rfl (by kernel_rfl) (by kernel_rfl) (by kernel_rfl) (fun _ _ _ h => h) (Or.inl ⟨by rfl, ?hy⟩) (by assumption) ?_
                case hy => (intro w1 hSw; (try dsimp only at hSw); first | (go_simp; done) | (go_simp; with_reducible rfl))
                try simp only [Act.put, List.setIfInBounds_toArray, List.set_cons_zero, List.set_cons_succ, List.getElem_toArray, List.getElem_cons_succ, List.getElem_cons_zero]
                refine wpAnyH_take (i := 17) (v := .bool false) rfl (by kernel_rfl) (by kernel_rfl) (by kernel_rfl) (fun _ _ _ h => h) (Or.inl ⟨by rfl, ?hy⟩) (by assumption) ?_
                case hy => (intro w1 hSw; (try dsimp only at hSw); first | (go_simp; done) | (go_simp; with_reducible rfl))
                try simp only [Act.put, List.setIfInBounds_toArray, List.set_cons_zero, List.set_cons_succ, List.getElem_toArray, List.getElem_cons_succ, List.getElem_cons_zero]
                refine wpAnyH_take (i := 18) (v := .bool false) rfl (by kernel_rfl) (by kernel_rfl) (by kernel_rfl) (fun _ _ _ h => h) (Or.inl ⟨by rfl, ?hy⟩) (by assumption) ?_
                case hy => (intro w1 hSw; (try dsimp only at hSw); first | (go_simp; done) | (go_simp; with_reducible rfl))
                try simp only [Act.put, List.setIfInBounds_toArray, List.set_cons_zero, List.set_cons_succ, List.getElem_toArray, List.getElem_cons_succ, List.getElem_cons_zero]
                refine wpAnyH_take (i := 19) (v := .agg #[.int .i64 l9, .int .i64 s9, .slice a9 n9 c9]) rfl (by kernel_rfl) (by kernel_rfl) (by kernel_rfl) (fun _ _ _ h => h) (Or.inl ⟨by rfl, ?hy⟩) (by assumption) ?_
                case hy => (intro w1 hSw; (try dsimp only at hSw); first | (go_simp; done) | (go_simp; with_reducible rfl))
                try simp only [Act.put, List.setIfInBounds_toArray, List.set_cons_zero, List.set_cons_succ, List.getElem_toArray, List.getElem_cons_succ, List.getElem_cons_zero]
                refine wpAnyH_take (i := 20) (v := .agg #[.int .i64 x.L, .int .i64 x.S, .slice x.pa x.m x.pc, .slice x.ca x.mc x.cc]) rfl (by kernel_rfl) (by kernel_rfl) (by kernel_rfl) (fun _ _ _ h => h) (Or.inl ⟨by rfl, ?hy⟩) (by assumption) ?_
                case hy => (intro w1 hSw; (try dsimp only at hSw); first | (go_simp; done) | (go_simp; with_reducible rfl))
                try simp only [Act.put, List.setIfInBounds_toArray, List.set_cons_zero, List.set_cons_succ, List.getElem_toArray, List.getElem_cons_succ, List.getElem_cons_zero]
                refine wpAnyH_take (i := 22) (v := .agg #[.int .i64 p, .int .i64 q]) rfl (by kernel_rfl) (by kernel_rfl) (by kernel_rfl) (fun _ _ _ h => h) (Or.inl ⟨by rfl, ?hy⟩) (by assumption) ?_
                case hy => (intro w1 hSw; (try dsimp only at hSw); first | (go_simp; done) | (go_simp; with_reducible rfl))
                try simp only [Act.put, List.setIfInBounds_toArray, List.set_cons_zero, List.set_cons_succ, List.getElem_toArray, List.getElem_cons_succ, List.getElem_cons_zero]
                refine wpAnyH_ready (rs := [21]) (by kernel_rfl) (by simp) ?_
                refine AllReadyH.cons rfl (fun K hK => ?_) AllReadyH.nil
                try simp only [List.getElem_toArray, List.getElem_cons_succ, List.getElem_cons_zero]
                rw [if_pos (by rfl)]
                go_simp
                (go_at_call 22; (with_reducible refine (HIX.out _ (by (repeat' (first | with_reducible exact Below.refl _ _ | (with_reducible refine below_later_of ?_ ?_ _) | (with_reducible refine Below.alloc ?_ ?_ _) | (with_reducible refine Below.setCell ?_ ?_ _) | (with_reducible refine Below.drew ?_) | (simp; done) | (simp; omega) | omega)))).mono ?_); rintro e w' ⟨a1, c1, rfl, ha, -, hb⟩; have HA1 := Lib.hid ha; clear ha; obtain ⟨pq, rfl⟩ := later_of_below hb; clear hb)
                refine hK.out _ _ ?hS1 (fun hHeld => ?_)
                case hS1 => ((try dsimp only); first | exact ⟨⟨k0, k1, k2, k3⟩, ⟨i0, i1⟩, v0, v1, v2⟩ | ((first | (simp [go_sem, k0, k1, k2, k3, i0, i1, v0, v1, v2]; done) | simp [go_sem, k0, k1, k2, k3, i0, i1, v0, v1, v2, ↓IntWalk.iteOmega]); done))
                clear hK K
                try simp only [Act.put, List.setIfInBounds_toArray, List.set_cons_zero, List.set_cons_succ, List.getElem_toArray, List.getElem_cons_succ, List.getElem_cons_zero]
                refine wpAnyH_ready (rs := [23]) (by kernel_rfl) (by simp) ?_
                refine AllReadyH.cons rfl (fun K hK => ?_) AllReadyH.nil
                try simp only [List.getElem_toArray, List.getElem_cons_succ, List.getElem_cons_zero]
                rw [if_pos (by rfl)]
                go_simp
                (go_at_call 68; (with_reducible refine (rShifted_say x.L x.S n c1 (smp x.p) a1 p q _ (dataAt_own HA1.out (by (repeat' (first | with_reducible exact Below.refl _ _ | (with_reducible refine below_later_of ?_ ?_ _) | (with_reducible refine Below.alloc ?_ ?_ _) | (with_reducible refine Below.setCell ?_ ?_ _) | (with_reducible refine Below.drew ?_) | (simp; done) | (simp; omega) | omega)))) HE2.out).mono ?_); rintro e w' ⟨l5, s5, n5, a5, c5, rfl, hok, hb⟩; have HOK := Lib.hid hok; clear hok; obtain ⟨pq, rfl⟩ := later_of_below hb; clear hb)
                refine hK.out _ _ ?hS1 (fun hHeld => ?_)
                case hS1 => ((try dsimp only); first | exact ⟨⟨k0, k1, k2, k3⟩, ⟨i0, i1⟩, v0, v1, v2⟩ | ((first | (simp [go_sem, k0, k1, k2, k3, i0, i1, v0, v1, v2]; done) | simp [go_sem, k0, k1, k2, k3, i0, i1, v0, v1, v2, ↓IntWalk.iteOmega]); done))
                clear hK K
                try simp only [Act.put, List.setIfInBounds_toArray, List.set_cons_zero, List.set_cons_succ, List.getElem_toArray, List.getElem_cons_succ, List.getElem_cons_zero]
                refine wpAnyH_ready (rs := [24]) (by kernel_rfl) (by simp) ?_
                refine AllReadyH.cons rfl (fun K hK => ?_) AllReadyH.nil
                try simp only [List.getElem_toArray, List.getElem_cons_succ, List.getElem_cons_zero]
                rw [if_pos (by rfl)]
                go_simp
                (go_at_call 67; (with_reducible refine (same_img (HOG.out.below (by (repeat' (first | with_reducible exact Below.refl _ _ | (with_reducible refine below_later_of ?_ ?_ _) | (with_reducible refine Below.alloc ?_ ?_ _) | (with_reducible refine Below.setCell ?_ ?_ _) | (with_reducible refine Below.drew ?_) | (simp; done) | (simp; omega) | omega)))) (HOK.out.below (by (repeat' (first | with_reducible exact Below.refl _ _ | (with_reducible refine below_later_of ?_ ?_ _) | (with_reducible refine Below.alloc ?_ ?_ _) | (with_reducible refine Below.setCell ?_ ?_ _) | (with_reducible refine Below.drew ?_) | (simp; done) | (simp; omega) | omega))))).mono ?_); rintro e w' ⟨rfl, hb⟩; obtain ⟨pq, rfl⟩ := later_of_below hb; clear hb)
                refine hK.out _ _ ?hS1 (fun hHeld => ?_)
                case hS1 => ((try dsimp only); first | exact ⟨⟨k0, k1, k2, k3⟩, ⟨i0, i1⟩, v0, v1, v2⟩ | ((first | (simp [go_sem, k0, k1, k2, k3, i0, i1, v0, v1, v2]; done) | simp [go_sem, k0, k1, k2, k3, i0, i1, v0, v1, v2, ↓IntWalk.iteOmega]); done))
                clear hK K
                try simp only [Act.put, List.setIfInBounds_toArray, List.set_cons_zero, List.set_cons_succ, List.getElem_toArray, List.getElem_cons_succ, List.getElem_cons_zero]
                refine wpAnyH_take (i := 25) (v := .bool false) rfl (by kernel_rfl) (by kernel_rfl) (by kernel_rfl) (fun _ _ _ h => h) (Or.inl ⟨by rfl, ?hy⟩) (by assumption) ?_
                case hy => (intro w1 hSw; (try dsimp only at hSw); first | (go_simp; done) | (go_simp; with_reducible rfl))
                try simp only [Act.put, List.setIfInBounds_toArray, List.set_cons_zero, List.set_cons_succ, List.getElem_toArray, List.getElem_cons_succ, List.getElem_cons_zero]
                refine wpAnyH_take (i := 26) (v := .bool false) rfl (by kernel_rfl) (by kernel_rfl) (by kernel_rfl) (fun _ _ _ h => h) (Or.inl ⟨by rfl, ?hy⟩) (by assumption) ?_
                case hy => (intro w1 hSw; (try dsimp only at hSw); first | (go_simp; done) | (go_simp; with_reducible rfl))
                try simp only [Act.put, List.setIfInBounds_toArray, List.set_cons_zero, List.set_cons_succ, List.getElem_toArray, List.getElem_cons_succ, List.getElem_cons_zero]
                refine wpAnyH_take (i := 27) (v := .bool false) rfl (by kernel_rfl) (by kernel_rfl) (by kernel_rfl) (fun _ _ _ h => h) (Or.inl ⟨by rfl, ?hy⟩) (by assumption) ?_
                case hy => (intro w1 hSw; (try dsimp only at hSw); first | (go_simp; done) | (go_simp; with_reducible rfl))
                try simp only [Act.put, List.setIfInBounds_toArray, List.set_cons_zero, List.set_cons_succ, List.getElem_toArray, List.getElem_cons_succ, List.getElem_cons_zero]
                refine wpAnyH_take (i := 28) (v := .bool false) rfl (by kernel_rfl) (by kernel_rfl) (by kernel_rfl) (fun _ _ _ h => h) (Or.inl ⟨by rfl, ?hy⟩) (by assumption) ?_
                case hy => (intro w1 hSw; (try dsimp only at hSw); first | (go_simp; done) | (go_simp; with_reducible rfl))
                try simp only [Act.put, List.setIfInBounds_toArray, List.set_cons_zero, List.set_cons_succ, List.getElem_toArray, List.getElem_cons_succ, List.getElem_cons_zero]
                refine wpAnyH_done (by kernel_rfl) ?_ _
                refine any_world (fun w' => Below W4.heap.size W4 w') (by (repeat' (first | with_reducible exact Below.refl _ _ | (with_reducible refine below_later_of ?_ ?_ _) | (with_reducible refine Below.alloc ?_ ?_ _) | (with_reducible refine Below.setCell ?_ ?_ _) | (with_reducible refine Below.drew ?_) | (simp; done) | (simp; omega) | omega))) ?_
                rintro W5 hb
                have hb5 := HB4.out.trans (hb.mono hs4)
                have hs5 := hb5.size
                have k0 := (hb5.cell (p := ⟨w.heap.size, 0, none⟩) (by simp; omega)).trans HK.out.1
                have k1 := (hb5.cell (p := ⟨w.heap.size, 1, none⟩) (by simp; omega)).trans HK.out.2.1
                have k2 := (hb5.cell (p := ⟨w.heap.size, 2, none⟩) (by simp; omega)).trans HK.out.2.2.1
                have k3 := (hb5.cell (p := ⟨w.heap.size, 3, none⟩) (by simp; omega)).trans HK.out.2.2.2
                have j0 := (hb5.cell (p := ⟨w.heap.size + 1, 0, none⟩) (by simp; omega)).trans HJ.out.1
                have j1 := (hb5.cell (p := ⟨w.heap.size + 1, 1, none⟩) (by simp; omega)).trans HJ.out.2.1
                have j2 := (hb5.cell (p := ⟨w.heap.size + 1, 2, none⟩) (by simp; omega)).trans HJ.out.2.2.1
                have j3 := (hb5.cell (p := ⟨w.heap.size + 1, 3, none⟩) (by simp; omega)).trans HJ.out.2.2.2
                have u0 := (hb5.cell (p := ⟨B7, 0, none⟩) hB7).trans HI7.out.1
                have u1 := (hb5.cell (p := ⟨B7, 1, none⟩) hB7).trans HI7.out.2.1
                have u2 := (hb5.cell (p := ⟨B7, 2, none⟩) hB7).trans HI7.out.2.2
                have HOF5 := Lib.hid (HOF.out.below hb5)
                have HIX5 := Lib.hid (show ∀ W, Below W5.heap.size W5 W → _ from fun W hW => HIX.out W (hb.trans (hW.mono hb.size)))
                have HIY5 := Lib.hid (show ∀ W, Below W5.heap.size W5 W → _ from fun W hW => HIY.out W (hb5.trans (hW.mono hs5)))
                have HB5 := Lib.hid (HB3.out.trans (hb5.mono HB3.out.size))
                have hB75 : B7 < W5.heap.size := by omega
                have hw5 : w.heap.size + 2 < W5.heap.size := by omega
                clear hb hb5 HOF HIX HIY HB4 hs4 HK HZ HOG
                have HIX := Lib.hid HIX5.out
                have HIY := Lib.hid HIY5.out
                have HOF := Lib.hid HOF5.out
                clear HIX5 HIY5 HOF5
                by_cases h2 : je = 0
                · subst h2
                  have HZY := Lib.hid (show (imgE y.L y.S m (smp y.p)).2 = 0 by rw [HEY.out])
                  go_upto_region 15 with (first | (go_at_call 22; (with_reducible refine (HIY.out _ (by (repeat' (first | with_reducible exact Below.refl _ _ | (with_reducible refine below_later_of ?_ ?_ _) | (with_reducible refine Below.alloc ?_ ?_ _) | (with_reducible refine Below.setCell ?_ ?_ _) | (with_reducible refine Below.drew ?_) | (simp; done) | (simp; omega) | omega)))).mono ?_); rintro e w' ⟨a2, c2, rfl, ha, -, hb⟩; have HA2 := Lib.hid ha; clear ha; obtain ⟨pq, rfl⟩ := later_of_below hb; clear hb) | (go_at_call 24; (with_reducible refine (rCheckImage y.L y.S m c2 (smp y.p) a2 _ (by omega) (dataAt_own HA2.out (by (repeat' (first | with_reducible exact Below.refl _ _ | (with_reducible refine below_later_of ?_ ?_ _) | (with_reducible refine Below.alloc ?_ ?_ _) | (with_reducible refine Below.setCell ?_ ?_ _) | (with_reducible refine Below.drew ?_) | (simp; done) | (simp; omega) | omega)))) HEY.out).mono ?_); rintro e w' ⟨rfl, hb⟩; obtain ⟨pq, rfl⟩ := later_of_below hb; clear hb))
                  refine any_world (fun w' => Below W5.heap.size W5 w') (by (repeat' (first | with_reducible exact Below.refl _ _ | (with_reducible refine below_later_of ?_ ?_ _) | (with_reducible refine Below.alloc ?_ ?_ _) | (with_reducible refine Below.setCell ?_ ?_ _) | (with_reducible refine Below.drew ?_) | (simp; done) | (simp; omega) | omega))) ?_
                  rintro W6 hb6
                  go_wp2_with fail
                  refine any_world (fun w' => w'.cell? ⟨W6.heap.size, 0, none⟩ = some (.int .i64 0) ∧ w'.cell? ⟨W6.heap.size, 1, none⟩ = some (.int .i64 0) ∧ w'.cell? ⟨W6.heap.size, 2, none⟩ = some (.slice none 0 0) ∧ (w'.frozen? ⟨W6.heap.size, 0, none⟩ = false ∧ w'.frozen? ⟨W6.heap.size, 1, none⟩ = false ∧ w'.frozen? ⟨W6.heap.size, 2, none⟩ = false) ∧ Below W6.heap.size W6 w' ∧ W6.heap.size < w'.heap.size) ⟨(by (first | (simp [go_sem]; done) | simp [go_sem, ↓IntWalk.iteOmega])), (by (first | (simp [go_sem]; done) | simp [go_sem, ↓IntWalk.iteOmega])), (by (first | (simp [go_sem]; done) | simp [go_sem, ↓IntWalk.iteOmega])), ⟨(by (first | (simp [go_sem]; done) | simp [go_sem, ↓IntWalk.iteOmega])), (by (first | (simp [go_sem]; done) | simp [go_sem, ↓IntWalk.iteOmega])), (by (first | (simp [go_sem]; done) | simp [go_sem, ↓IntWalk.iteOmega]))⟩, (by (repeat' (first | with_reducible exact Below.refl _ _ | (with_reducible refine below_later_of ?_ ?_ _) | (with_reducible refine Below.alloc ?_ ?_ _) | (with_reducible refine Below.setCell ?_ ?_ _) | (with_reducible refine Below.drew ?_) | (simp; done) | (simp; omega) | omega))), by simp⟩ ?_
                  rintro W7 ⟨t0, t1, t2, ⟨f0, f1, f2⟩, hb7, hs7⟩
                  have hs6 := hb6.size
                  have hb57 := hb6.trans (hb7.mono hs6)
                  have hs57 := hb57.size
                  have n0 := (hb57.cell (p := ⟨w.heap.size, 0, none⟩) (by simp; omega)).trans k0
                  have n1 := (hb57.cell (p := ⟨w.heap.size, 1, none⟩) (by simp; omega)).trans k1
                  have n2 := (hb57.cell (p := ⟨w.heap.size, 2, none⟩) (by simp; omega)).trans k2
                  have n3 := (hb57.cell (p := ⟨w.heap.size, 3, none⟩) (by simp; omega)).trans k3
                  have o0 := (hb57.cell (p := ⟨w.heap.size + 1, 0, none⟩) (by simp; omega)).trans j0
                  have o1 := (hb57.cell (p := ⟨w.heap.size + 1, 1, none⟩) (by simp; omega)).trans j1
                  have o2 := (hb57.cell (p := ⟨w.heap.size + 1, 2, none⟩) (by simp; omega)).trans j2
                  have o3 := (hb57.cell (p := ⟨w.heap.size + 1, 3, none⟩) (by simp; omega)).trans j3
                  have HIX7 := Lib.hid (show ∀ W, Below W7.heap.size W7 W → _ from fun W hW => HIX.out W (hb57.trans (hW.mono hs57)))
                  have HIY7 := Lib.hid (show ∀ W, Below W7.heap.size W7 W → _ from fun W hW => HIY.out W (hb57.trans (hW.mono hs57)))
                  have HU := Lib.hid (And.intro u0 (And.intro u1 u2))
                  have HB6 := Lib.hid hb6
                  have HB67 := Lib.hid hb7
                  clear k0 k1 k2 k3 j0 j1 j2 j3 u0 u1 u2 HIX HIY hb6 hb57 hb7 HA2
                  have HIX := Lib.hid HIX7.out
                  have HIY := Lib.hid HIY7.out
                  clear HIX7 HIY7
                  go_cut [13] from 98 to 108 (fun X wx => ∃ l s n' a c, X = .int .i64 E1 ∧ ImgBlk wx W6.heap.size l s a n' c ∧ ImgSay wx 0 E1 x.L x.S n (addB (smp x.p) (smp y.p)) l s n' a ∧ Below W6.heap.size W6 wx ∧ W6.heap.size < wx.heap.size)
                  case first =>
                    go_region_held3 (fun w' => w'.cell? ⟨w.heap.size, 0, none⟩ = some (.int .i64 x.L) ∧ w'.cell? ⟨w.heap.size, 1, none⟩ = some (.int .i64 x.S) ∧ w'.cell? ⟨w.heap.size, 2, none⟩ = some (.slice x.pa x.m x.pc) ∧ w'.cell? ⟨w.heap.size, 3, none⟩ = some (.slice x.ca x.mc x.cc) ∧ w'.cell? ⟨w.heap.size + 1, 0, none⟩ = some (.int .i64 y.L) ∧ w'.cell? ⟨w.heap.size + 1, 1, none⟩ = some (.int .i64 y.S) ∧ w'.cell? ⟨w.heap.size + 1, 2, none⟩ = some (.slice y.pa y.m y.pc) ∧ w'.cell? ⟨w.heap.size + 1, 3, none⟩ = some (.slice y.ca y.mc y.cc)) (first | exact ⟨n0, n1, n2, n3, o0, o1, o2, o3⟩ | ((first | (simp [go_sem, n0, n1, n2, n3, o0, o1, o2, o3]; done) | simp [go_sem, n0, n1, n2, n3, o0, o1, o2, o3, ↓IntWalk.iteOmega]); done)) (first | (go_at_call 22; (with_reducible refine (HIX.out _ (by (repeat' (first | with_reducible exact Below.refl _ _ | (with_reducible refine below_later_of ?_ ?_ _) | (with_reducible refine Below.alloc ?_ ?_ _) | (with_reducible refine Below.setCell ?_ ?_ _) | (with_reducible refine Below.drew ?_) | (simp; done) | (simp; omega) | omega)))).mono ?_); rintro e w' ⟨a1, c1, rfl, ha, -, hb⟩; have HA1 := Lib.hid ha; clear ha; obtain ⟨pq, rfl⟩ := later_of_below hb; clear hb) | (go_at_call 22; (with_reducible refine (HIY.out _ (by (repeat' (first | with_reducible exact Below.refl _ _ | (with_reducible refine below_later_of ?_ ?_ _) | (with_reducible refine Below.alloc ?_ ?_ _) | (with_reducible refine Below.setCell ?_ ?_ _) | (with_reducible refine Below.drew ?_) | (simp; done) | (simp; omega) | omega)))).mono ?_); rintro e w' ⟨a2, c2, rfl, ha, -, hb⟩; have HA2 := Lib.hid ha; clear ha; obtain ⟨pq, rfl⟩ := later_of_below hb; clear hb) | (go_at_call 69; (with_reducible refine (rAdded_say x.L x.S y.L y.S n c1 m c2 (smp x.p) (smp y.p) a1 a2 _ (dataAt_own HA1.out (by (repeat' (first | with_reducible exact Below.refl _ _ | (with_reducible refine below_later_of ?_ ?_ _) | (with_reducible refine Below.alloc ?_ ?_ _) | (with_reducible refine Below.setCell ?_ ?_ _) | (with_reducible refine Below.drew ?_) | (simp; done) | (simp; omega) | omega)))) (dataAt_own HA2.out (by (repeat' (first | with_reducible exact Below.refl _ _ | (with_reducible refine below_later_of ?_ ?_ _) | (with_reducible refine Below.alloc ?_ ?_ _) | (with_reducible refine Below.setCell ?_ ?_ _) | (with_reducible refine Below.drew ?_) | (simp; done) | (simp; omega) | omega)))) HZI.out HZY.out HE1.out).mono ?_); rintro e w' ⟨l5, s5, n5, a5, c5, rfl, hok, hb⟩; have HOK := Lib.hid hok; clear hok; obtain ⟨pq, rfl⟩ := later_of_below hb; clear hb))
                    all_goals
                      rename_i hheld
                      clear hheld
                      go_wp2_with fail
                      go_meet
                      refine ⟨l5, s5, n5, a5, c5, rfl, ⟨(by (first | (simp [go_sem, t0, t1, t2]; done) | simp [go_sem, t0, t1, t2, ↓IntWalk.iteOmega])), (by (first | (simp [go_sem, t0, t1, t2]; done) | simp [go_sem, t0, t1, t2, ↓IntWalk.iteOmega])), (by (first | (simp [go_sem, t0, t1, t2]; done) | simp [go_sem, t0, t1, t2, ↓IntWalk.iteOmega]))⟩, ?_, HB67.out.trans (by (repeat' (first | with_reducible exact Below.refl _ _ | (with_reducible refine below_later_of ?_ ?_ _) | (with_reducible refine Below.alloc ?_ ?_ _) | (with_reducible refine Below.setCell ?_ ?_ _) | (with_reducible refine Below.drew ?_) | (simp; done) | (simp; omega) | omega))), by simp <;> omega⟩
                      refine (ImgSay.set (ImgSay.set (ImgSay.set HOK.out ?_ _) ?_ _) ?_ _).mono (Nat.zero_le _) <;> simp <;> omega
                  case rest =>
                    obtain ⟨l8, s8, n8, a8, c8, rfl, ⟨t0, t1, t2⟩, hok8, hb8, hs8⟩ := hcut
                    have HOR := Lib.hid hok8
                    have hb58 := HB6.out.trans (hb8.mono hs6)
                    have HOF8 := Lib.hid (HOF.out.below hb58)
                    have u0 := (hb58.cell (p := ⟨B7, 0, none⟩) hB75).trans HU.out.1
                    have u1 := (hb58.cell (p := ⟨B7, 1, none⟩) hB75).trans HU.out.2.1
                    have u2 := (hb58.cell (p := ⟨B7, 2, none⟩) hB75).trans HU.out.2.2
                    have HB8 := Lib.hid (HB5.out.trans (hb58.mono HB5.out.size))
                    have hB78 : B7 < wc.heap.size := by omega
                    have heq : (E1 == E1) = true := by simp
                    clear hok8 hb8 hb58 HOF
                    have HOF := Lib.hid HOF8.out
                    clear HOF8
                    go_wp2_with (first | (go_at_call 67; (with_reducible refine (same_img (HOF.out.below (by (repeat' (first | with_reducible exact Below.refl _ _ | (with_reducible refine below_later_of ?_ ?_ _) | (with_reducible refine Below.alloc ?_ ?_ _) | (with_reducible refine Below.setCell ?_ ?_ _) | (with_reducible refine Below.drew ?_) | (simp; done) | (simp; omega) | omega)))) (HOR.out.below (by (repeat' (first | with_reducible exact Below.refl _ _ | (with_reducible refine below_later_of ?_ ?_ _) | (with_reducible refine Below.alloc ?_ ?_ _) | (with_reducible refine Below.setCell ?_ ?_ _) | (with_reducible refine Below.drew ?_) | (simp; done) | (simp; omega) | omega))))).mono ?_); rintro e w' ⟨rfl, hb⟩; obtain ⟨pq, rfl⟩ := later_of_below hb; clear hb))
                    go_ret
                    exact ⟨rfl, HB8.out.trans (by (repeat' (first | with_reducible exact Below.refl _ _ | (with_reducible refine below_later_of ?_ ?_ _) | (with_reducible refine Below.alloc ?_ ?_ _) | (with_reducible refine Below.setCell ?_ ?_ _) | (with_reducible refine Below.drew ?_) | (simp; done) | (simp; omega) | omega)))⟩
                · have hne2 : (je == 0) = false := by simpa using h2
                  obtain rfl : E1 = je := HFE.out h2
                  have heq : (E1 == E1) = true := by simp
                  have HOR := Lib.hid (show ∀ W, ImgSay W 0 E1 x.L x.S n (addB (smp x.p) (smp y.p)) 0 0 0 none from fun W => ⟨fun h => absurd h h2, fun _ => ⟨rfl, rfl, rfl⟩⟩)
                  clear h2
                  go_wp2_with (first | (go_at_call 22; (with_reducible refine (HIY.out _ (by (repeat' (first | with_reducible exact Below.refl _ _ | (with_reducible refine below_later_of ?_ ?_ _) | (with_reducible refine Below.alloc ?_ ?_ _) | (with_reducible refine Below.setCell ?_ ?_ _) | (with_reducible refine Below.drew ?_) | (simp; done) | (simp; omega) | omega)))).mono ?_); rintro e w' ⟨a2, c2, rfl, ha, -, hb⟩; have HA2 := Lib.hid ha; clear ha; obtain ⟨pq, rfl⟩ := later_of_below hb; clear hb) | (go_at_call 24; (with_reducible refine (rCheckImage y.L y.S m c2 (smp y.p) a2 _ (by omega) (dataAt_own HA2.out (by (repeat' (first | with_reducible exact Below.refl _ _ | (with_reducible refine below_later_of ?_ ?_ _) | (with_reducible refine Below.alloc ?_ ?_ _) | (with_reducible refine Below.setCell ?_ ?_ _) | (with_reducible refine Below.drew ?_) | (simp; done) | (simp; omega) | omega)))) HEY.out).mono ?_); rintro e w' ⟨rfl, hb⟩; obtain ⟨pq, rfl⟩ := later_of_below hb; clear hb) | (go_at_call 67; (with_reducible refine (same_img (HOF.out.below (by (repeat' (first | with_reducible exact Below.refl _ _ | (with_reducible refine below_later_of ?_ ?_ _) | (with_reducible refine Below.alloc ?_ ?_ _) | (with_reducible refine Below.setCell ?_ ?_ _) | (with_reducible refine Below.drew ?_) | (simp; done) | (simp; omega) | omega)))) (HOR.out _)).mono ?_); rintro e w' ⟨rfl, hb⟩; obtain ⟨pq, rfl⟩ := later_of_below hb; clear hb))
                  go_ret
                  exact ⟨rfl, HB5.out.trans (by (repeat' (first | with_reducible exact Below.refl _ _ | (with_reducible refine below_later_of ?_ ?_ _) | (with_reducible refine Below.alloc ?_ ?_ _) | (with_reducible refine Below.setCell ?_ ?_ _) | (with_reducible refine Below.drew ?_) | (simp; done) | (simp; omega) | omega)))⟩
          · have hne : (ie != 0) = true := by simpa using h1
            have hne1 : (ie == 0) = false := by simpa using h1
            obtain rfl : E2 = ie := by rw [HSE.out, if_neg h1]
            obtain rfl : E1 = E2 := HAE.out E2 (by unfold first2; rw [if_neg h1]) h1
            obtain ⟨rfl, rfl, rfl⟩ := HOG.out.2 h1
            have heq : (E1 == E1) = true := by simp
            have hbn : (E1 != E1) = false := by simp
            have HOR := Lib.hid (show ∀ W, ImgSay W 0 E1 x.L x.S n (addB (smp x.p) (smp y.p)) 0 0 0 none from fun W => ⟨fun h => absurd h h1, fun _ => ⟨rfl, rfl, rfl⟩⟩)
            clear h1
            go_wp2_with (first | (go_at_call 22; (with_reducible refine (HIX.out _ (by (repeat' (first | with_reducible exact Below.refl _ _ | (with_reducible refine below_later_of ?_ ?_ _) | (with_reducible refine Below.alloc ?_ ?_ _) | (with_reducible refine Below.setCell ?_ ?_ _) | (with_reducible refine Below.drew ?_) | (simp; done) | (simp; omega) | omega)))).mono ?_); rintro e w' ⟨a1, c1, rfl, ha, -, hb⟩; have HA1 := Lib.hid ha; clear ha; obtain ⟨pq, rfl⟩ := later_of_below hb; clear hb) | (go_at_call 24; (with_reducible refine (rCheckImage x.L x.S n c1 (smp x.p) a1 _ (by omega) (dataAt_own HA1.out (by (repeat' (first | with_reducible exact Below.refl _ _ | (with_reducible refine below_later_of ?_ ?_ _) | (with_reducible refine Below.alloc ?_ ?_ _) | (with_reducible refine Below.setCell ?_ ?_ _) | (with_reducible refine Below.drew ?_) | (simp; done) | (simp; omega) | omega)))) HEI.out).mono ?_); rintro e w' ⟨rfl, hb⟩; obtain ⟨pq, rfl⟩ := later_of_below hb; clear hb))
            refine wp_world34 (fun w' => Below W3.heap.size W3 w') (by (repeat' (first | with_reducible exact Below.refl _ _ | (with_reducible refine below_later_of ?_ ?_ _) | (with_reducible refine Below.alloc ?_ ?_ _) | (with_reducible refine Below.setCell ?_ ?_ _) | (with_reducible refine Below.drew ?_) | (simp; done) | (simp; omega) | omega))) ?_
            rintro W4 hb4
            have hs4 := hb4.size
            have k0 := (hb4.cell (p := ⟨w.heap.size, 0, none⟩) (by simp; omega)).trans m0
            have k1 := (hb4.cell (p := ⟨w.heap.size, 1, none⟩) (by simp; omega)).trans m1
            have k2 := (hb4.cell (p := ⟨w.heap.size, 2, none⟩) (by simp; omega)).trans m2
            have k3 := (hb4.cell (p := ⟨w.heap.size, 3, none⟩) (by simp; omega)).trans m3
            have i0 := (hb4.cell (p := ⟨w.heap.size + 2, 0, none⟩) (by simp; omega)).trans g0
            have i1 := (hb4.cell (p := ⟨w.heap.size + 2, 1, none⟩) (by simp; omega)).trans g1
            have v0 := (hb4.cell (p := ⟨B9, 0, none⟩) hB9).trans z0
            have v1 := (hb4.cell (p := ⟨B9, 1, none⟩) hB9).trans z1
            have v2 := (hb4.cell (p := ⟨B9, 2, none⟩) hB9).trans z2
            have HOG4 := Lib.hid (HOG.out.below hb4)
            have HIX4 := Lib.hid (show ∀ W, Below W4.heap.size W4 W → _ from fun W hW => HIX.out W (hb4.trans (hW.mono hs4)))
            have HB4 := Lib.hid hb4
            have HK := Lib.hid (And.intro m0 (And.intro m1 (And.intro m2 m3)))
            have HZ := Lib.hid (And.intro z0 (And.intro z1 z2))
            clear hb4 m0 m1 m2 m3 g0 g1 z0 z1 z2 HOG HIX
            have HIX := Lib.hid HIX4.out
            have HOG := Lib.hid HOG4.out
            clear HIX4 HOG4
            refine wp_region_calm (by kernel_rfl) (by kernel_rfl) ?_
            repeat (go_big_quiet_step (first | (go_at_call 66; exact calm_of (lNoImage _ _ _))))
            refine wpQuiet_nil ?_
            rintro _ ⟨pq, rfl⟩
            refine any_world (fun w' => Below W4.heap.size W4 w') (by (repeat' (first | with_reducible exact Below.refl _ _ | (with_reducible refine below_later_of ?_ ?_ _) | (with_reducible refine Below.alloc ?_ ?_ _) | (with_reducible refine Below.setCell ?_ ?_ _) | (with_reducible refine Below.drew ?_) | (simp; done) | (simp; omega) | omega))) ?_
            rintro W5 hb
            have hb5 := HB4.out.trans (hb.mono hs4)
            have hs5 := hb5.size
            have k0 := (hb5.cell (p := ⟨w.heap.size, 0, none⟩) (by simp; omega)).trans HK.out.1
            have k1 := (hb5.cell (p := ⟨w.heap.size, 1, none⟩) (by simp; omega)).trans HK.out.2.1
            have k2 := (hb5.cell (p := ⟨w.heap.size, 2, none⟩) (by simp; omega)).trans HK.out.2.2.1
            have k3 := (hb5.cell (p := ⟨w.heap.size, 3, none⟩) (by simp; omega)).trans HK.out.2.2.2
            have j0 := (hb5.cell (p := ⟨w.heap.size + 1, 0, none⟩) (by simp; omega)).trans HJ.out.1
            have j1 := (hb5.cell (p := ⟨w.heap.size + 1, 1, none⟩) (by simp; omega)).trans HJ.out.2.1
            have j2 := (hb5.cell (p := ⟨w.heap.size + 1, 2, none⟩) (by simp; omega)).trans HJ.out.2.2.1
            have j3 := (hb5.cell (p := ⟨w.heap.size + 1, 3, none⟩) (by simp; omega)).trans HJ.out.2.2.2
            have u0 := (hb5.cell (p := ⟨B7, 0, none⟩) hB7).trans HI7.out.1
            have u1 := (hb5.cell (p := ⟨B7, 1, none⟩) hB7).trans HI7.out.2.1
            have u2 := (hb5.cell (p := ⟨B7, 2, none⟩) hB7).trans HI7.out.2.2
            have HOF5 := Lib.hid (HOF.out.below hb5)
            have HIX5 := Lib.hid (show ∀ W, Below W5.heap.size W5 W → _ from fun W hW => HIX.out W (hb.trans (hW.mono hb.size)))
            have HIY5 := Lib.hid (show ∀ W, Below W5.heap.size W5 W → _ from fun W hW => HIY.out W (hb5.trans (hW.mono hs5)))
            have HB5 := Lib.hid (HB3.out.trans (hb5.mono HB3.out.size))
            have hB75 : B7 < W5.heap.size := by omega
            have hw5 : w.heap.size + 2 < W5.heap.size := by omega
            clear hb hb5 HOF HIX HIY HB4 hs4 HK HZ HOG
            have HIX := Lib.hid HIX5.out
            have HIY := Lib.hid HIY5.out
            have HOF := Lib.hid HOF5.out
            clear HIX5 HIY5 HOF5
            go_wp2_with (first | (go_at_call 67; (with_reducible refine (same_img (HOF.out.below (by (repeat' (first | with_reducible exact Below.refl _ _ | (with_reducible refine below_later_of ?_ ?_ _) | (with_reducible refine Below.alloc ?_ ?_ _) | (with_reducible refine Below.setCell ?_ ?_ _) | (with_reducible refine Below.drew ?_) | (simp; done) | (simp; omega) | omega)))) (HOR.out _)).mono ?_); rintro e w' ⟨rfl, hb⟩; obtain ⟨pq, rfl⟩ := later_of_below hb; clear hb))
            go_ret
            exact ⟨rfl, HB5.out.trans (by (repeat' (first | with_reducible exact Below.refl _ _ | (with_reducible refine below_later_of ?_ ?_ _) | (with_reducible refine Below.alloc ?_ ?_ _) | (with_reducible refine Below.setCell ?_ ?_ _) | (with_reducible refine Below.drew ?_) | (simp; done) | (simp; omega) | omega)))⟩
end Go.Proofs.YtakohhlmomgegaaDoor
