/- The law TopTurnedScene returns true. -/
import Derived.Test.YtcmjlfhnibjofaaX116
import Derived.Test.YtcmjlfhnibjofaaX118
import Derived.Test.YtcmjlfhnibjofaaX111
import Derived.Test.YtcmjlfhnibjofaaU77
import Derived.Test.YtcmjlfhnibjofaaU90
import Derived.Test.YtcmjlfhnibjofaaX19
import Derived.Deep.CutRange
import Derived.Deep.RegionHeld3
import Derived.Deep.AppendLies
import Derived.Deep.RegionLaw
namespace Go.Proofs.Ytcmjlfhnibjofaa
set_option linter.unusedVariables false
set_option linter.unusedSimpArgs false
open Go.RowKit Ieee Ntt
theorem tw_of {f g : Nat → Nat × Nat} {n q : Nat} (hX : SmallS n f (xB f) (yB f) 2047) (hU : SmallS n g (xB g) (yB g) 2047) : Tw q n ((List.range n).map (phsP (xD (ifB f g)) (yD (ifB f g)))) ((List.range n).map (phsP (xD (ifB (tuS f q) g)) (yD (ifB (tuS f q) g)))) := fun i hi => by
  have at1 : ∀ (F : Nat → Int), intAt ((List.range n).map F) i = F i := fun F => by simp [intAt, List.getD_eq_getElem?_getD, hi]
  rw [at1, at1]
  obtain ⟨b1, b2⟩ := intfF_bd (hX i hi).2 (hU i hi).2
  have hT : SmallS n (tuS f q) (xB (tuS f q)) (yB (tuS f q)) 2047 := smallS_of (by decide) fun k hk => tu_gE hX hk
  obtain ⟨b3, b4⟩ := intfF_bd (hT i hi).2 (hU i hi).2
  have e1 : xD (ifB f g) i = (intfF (xB f) (yB f) (xB g) (yB g) i).1 := by unfold xD ifB nmF; exact intD_f64I (by omega)
  have e2 : yD (ifB f g) i = (intfF (xB f) (yB f) (xB g) (yB g) i).2 := by unfold yD ifB nmF; exact intD_f64I (by omega)
  have e3 : xD (ifB (tuS f q) g) i = (intfF (xB (tuS f q)) (yB (tuS f q)) (xB g) (yB g) i).1 := by unfold xD ifB nmF; exact intD_f64I (by omega)
  have e4 : yD (ifB (tuS f q) g) i = (intfF (xB (tuS f q)) (yB (tuS f q)) (xB g) (yB g) i).2 := by unfold yD ifB nmF; exact intD_f64I (by omega)
  unfold phsP
  rw [e1, e2, e3, e4, tu_intf hX hi]
  generalize intfF (xB f) (yB f) (xB g) (yB g) i = z
  by_cases hz : z.1 = 0 ∧ z.2 = 0
  · rw [if_pos hz, if_pos ((rot_zero q z).2 hz)]
    exact ⟨fun _ => rfl, fun h => absurd rfl h⟩
  · rw [if_neg hz, if_neg (fun h => hz ((rot_zero q z).1 h))]
    obtain ⟨p1, p2⟩ := phaseP_bd z.1 z.2
    exact ⟨fun h => by omega, fun _ => ⟨p1, p2, phase_rot q z.1 z.2 hz⟩⟩
theorem phs_map {f : Nat → Nat × Nat} {L S n : Nat} (hn : n = L * S) (h1 : 1 ≤ L ∧ L ≤ 64) (h2 : 1 ≤ S ∧ S ≤ 64) : MapOk L S ((List.range n).map (phsP (xD f) (yD f))) := by
  refine ⟨by simp [hn], h1.1, h1.2, h2.1, h2.2, fun k hk => ?_⟩
  have hk : k < n := by simpa using hk
  have e : intAt ((List.range n).map (phsP (xD f) (yD f))) k = phsP (xD f) (yD f) k := by simp [intAt, List.getD_eq_getElem?_getD, hk]
  rw [e]
  unfold phsP
  split
  · decide
  · have := phaseP_bd (xD f k) (yD f k)
    unfold phOk
    rw [Bool.or_eq_true]
    exact .inr (inE_iff.2 (by omega))
set_option maxRecDepth 20000 in
set_option maxHeartbeats 80000000 in
theorem turned_scene (x y : Scn) (quarters : Int) (w : World) (hx : x.At w) (hy : y.At w) (hq4 : -9223372036854775808 ≤ quarters ∧ quarters ≤ 9223372036854775807) :
    Calls Try.prog 6 #[.agg #[.int .i64 x.L, .int .i64 x.S, .slice x.pa x.m x.pc, .slice x.ca x.mc x.cc], .agg #[.int .i64 y.L, .int .i64 y.S, .slice y.pa y.m y.pc, .slice y.ca y.mc y.cc], .int .i64 quarters] w fun e w' => e = .returned (.bool true) ∧ Below w.heap.size w w' := by
  obtain ⟨i0, hi0, hz0, hz1, hz2⟩ := info_parts infoC32
  rcases (show smallB x = false ∨ smallB x = true by cases smallB x <;> simp) with hq | hq
  · have HSX := Lib.hid (fun w => lSmall x w hq)
    clear hx hy hq
    go_enter Try.func6, Try.ntmps6
    go_wp2_with (first | (go_at_call 24; (with_reducible refine (fringed_any _).mono ?_); rintro e w' ⟨rfl, hb⟩; obtain ⟨pq, rfl⟩ := later_of_below hb; clear hb) | (go_at_call 25; (with_reducible refine (HSX.out _).mono ?_); rintro e w' ⟨rfl, hb⟩; obtain ⟨pq, rfl⟩ := later_of_below hb; clear hb))
    go_ret
    exact ⟨rfl, (by (repeat' (first | with_reducible exact Below.refl _ _ | (with_reducible refine below_later_of ?_ ?_ _) | (with_reducible refine Below.alloc ?_ ?_ _) | (with_reducible refine Below.setCell ?_ ?_ _) | (with_reducible refine Below.drew ?_) | (simp; done) | (simp; omega) | omega)))⟩
  have HSX := Lib.hid (fun w => lSmall x w hq)
  obtain ⟨q1, q2⟩ := smallB_ok hq
  rcases (show smallB y = false ∨ smallB y = true by cases smallB y <;> simp) with hr | hr
  · have HSY := Lib.hid (fun w => lSmall y w hr)
    clear hx hy hq hr
    go_enter Try.func6, Try.ntmps6
    go_wp2_with (first | (go_at_call 24; (with_reducible refine (fringed_any _).mono ?_); rintro e w' ⟨rfl, hb⟩; obtain ⟨pq, rfl⟩ := later_of_below hb; clear hb) | (go_at_call 25; (with_reducible refine (HSX.out _).mono ?_); rintro e w' ⟨rfl, hb⟩; obtain ⟨pq, rfl⟩ := later_of_below hb; clear hb) | (go_at_call 25; (with_reducible refine (HSY.out _).mono ?_); rintro e w' ⟨rfl, hb⟩; obtain ⟨pq, rfl⟩ := later_of_below hb; clear hb))
    go_ret
    exact ⟨rfl, (by (repeat' (first | with_reducible exact Below.refl _ _ | (with_reducible refine below_later_of ?_ ?_ _) | (with_reducible refine Below.alloc ?_ ?_ _) | (with_reducible refine Below.setCell ?_ ?_ _) | (with_reducible refine Below.drew ?_) | (simp; done) | (simp; omega) | omega)))⟩
  have HSY := Lib.hid (fun w => lSmall y w hr)
  obtain ⟨r1, r2⟩ := smallB_ok hr
  have HIX0 := Lib.hid (show ∀ W, Below w.heap.size w W → _ from fun W hW => lImage x W (by omega) (hx.below hW))
  have HIY0 := Lib.hid (show ∀ W, Below w.heap.size w W → _ from fun W hW => lImage y W (by omega) (hy.below hW))
  have HIX := HIX0
  obtain ⟨ii, ie, hie⟩ : ∃ ii ie, imgE x.L x.S (x.m / 2) (smp x.p) = (ii, ie) := ⟨_, _, rfl⟩
  by_cases he0 : ie = 0
  case neg =>
    have HEI := Lib.hid hie
    have hne : (ie != 0) = true := by simpa using he0
    clear hx hy hq hr hie he0
    go_enter Try.func6, Try.ntmps6
    go_wp2_with (first | (go_at_call 24; (with_reducible refine (fringed_any _).mono ?_); rintro e w' ⟨rfl, hb⟩; obtain ⟨pq, rfl⟩ := later_of_below hb; clear hb) | (go_at_call 25; (with_reducible refine (HSX.out _).mono ?_); rintro e w' ⟨rfl, hb⟩; obtain ⟨pq, rfl⟩ := later_of_below hb; clear hb) | (go_at_call 25; (with_reducible refine (HSY.out _).mono ?_); rintro e w' ⟨rfl, hb⟩; obtain ⟨pq, rfl⟩ := later_of_below hb; clear hb) | (go_at_call 27; (with_reducible refine (HIX.out _ (by (repeat' (first | with_reducible exact Below.refl _ _ | (with_reducible refine below_later_of ?_ ?_ _) | (with_reducible refine Below.alloc ?_ ?_ _) | (with_reducible refine Below.setCell ?_ ?_ _) | (with_reducible refine Below.drew ?_) | (simp; done) | (simp; omega) | omega)))).mono ?_); rintro e w' ⟨a1, c1, rfl, ha, -, hb⟩; have HA1 := Lib.hid ha; clear ha; obtain ⟨pq, rfl⟩ := later_of_below hb; clear hb) | (go_at_call 34; (with_reducible refine (rCheckImage x.L x.S (x.m / 2) c1 (smp x.p) a1 _ (by omega) (dataAt_own HA1.out (by (repeat' (first | with_reducible exact Below.refl _ _ | (with_reducible refine below_later_of ?_ ?_ _) | (with_reducible refine Below.alloc ?_ ?_ _) | (with_reducible refine Below.setCell ?_ ?_ _) | (with_reducible refine Below.drew ?_) | (simp; done) | (simp; omega) | omega)))) HEI.out).mono ?_); rintro e w' ⟨rfl, hb⟩; obtain ⟨pq, rfl⟩ := later_of_below hb; clear hb))
    go_ret
    exact ⟨rfl, (by (repeat' (first | with_reducible exact Below.refl _ _ | (with_reducible refine below_later_of ?_ ?_ _) | (with_reducible refine Below.alloc ?_ ?_ _) | (with_reducible refine Below.setCell ?_ ?_ _) | (with_reducible refine Below.drew ?_) | (simp; done) | (simp; omega) | omega)))⟩
  subst he0
  have he : (imgE x.L x.S (x.m / 2) (smp x.p)).2 = 0 := by rw [hie]
  obtain ⟨s1, g1⟩ := imgE_zero he
  obtain ⟨⟨l1, l2⟩, ⟨l3, l4⟩, hn⟩ := sizeE_okU s1
  obtain ⟨L, hL⟩ := Int.eq_ofNat_of_zero_le (show 0 ≤ x.L by omega)
  obtain ⟨S, hS⟩ := Int.eq_ofNat_of_zero_le (show 0 ≤ x.S by omega)
  obtain ⟨n, hnn⟩ : ∃ n, x.m / 2 = n := ⟨_, rfl⟩
  obtain ⟨f, hf⟩ : ∃ f, smp x.p = f := ⟨_, rfl⟩
  obtain ⟨E, hE⟩ : ∃ E, scnE x y = E := ⟨_, rfl⟩
  have hE : pairE x.L x.S (x.m / 2) (smp x.p) y.L y.S (y.m / 2) (smp y.p) = E := hE
  rw [hnn, hf, hL, hS] at HIX0 HIX
  rw [hnn, hf, hL, hS] at he hie hE
  rw [hnn, hf] at g1
  rw [hnn, hL, hS] at hn
  rw [hL] at l1 l2
  rw [hS] at l3 l4
  replace hn : n = L * S := by exact_mod_cast hn
  have hn5 : n ≤ 5000 := by have := Nat.mul_le_mul (show L ≤ 64 by omega) (show S ≤ 64 by omega); omega
  have hpos : 0 < n := by rw [hn]; exact Nat.mul_pos (by omega) (by omega)
  have hX : SmallS n f (xB f) (yB f) 2047 := smallS_of (by decide) g1
  have HCI := Lib.hid (show ∀ (c1 : Nat) (a1 : Option Addr) (W : World), DataAt W L S n f a1 → Calls Try.prog 34 #[.agg #[.int .i64 L, .int .i64 S, .slice a1 n c1]] W fun e w' => e = .returned (.tuple #[.int .i64 ii, .int .i64 0]) ∧ Below W.heap.size W w' from
    fun c1 a1 W hd => rCheckImage L S n c1 f a1 W (by omega) hd hie)
  obtain ⟨q, hqq⟩ : ∃ q : Nat, quarters % 4 = (q : Int) := Int.eq_ofNat_of_zero_le (Int.emod_nonneg _ (by decide))
  have hq4' : q < 4 := by
    have := Int.emod_lt_of_pos quarters (show (0 : Int) < 4 by decide)
    omega
  have HMO := Lib.hid (show ∀ w, Calls Try.prog 35 #[.int .i64 quarters, .int .i64 4] w fun e w' => e = .returned (.int .i64 q) ∧ w = w' from fun w => by rw [← hqq]; exact bMod quarters 4 w (by decide) (by decide) hq4.1 hq4.2)
  have HE := Lib.hid hE
  obtain ⟨G, hG⟩ : ∃ G, tuS f q = G := ⟨_, rfl⟩
  have HGG := Lib.hid (show ∀ i, i < n → G i = smpI (rot4 q (xB f i, yB f i)).1 (rot4 q (xB f i, yB f i)).2 from fun i hi => by rw [← hG]; rfl)
  have HE2 := Lib.hid (show pairE L S n G y.L y.S (y.m / 2) (smp y.p) = E by rw [← hG, tu_pair he]; exact hE)
  have HGI := Lib.hid (show (imgE L S n G).2 = 0 by rw [← hG]; exact tu_img he)
  have HTW := Lib.hid (show y.m / 2 = n → (imgE y.L y.S (y.m / 2) (smp y.p)).2 = 0 → Tw q n ((List.range n).map (phsP (xD (ifB f (smp y.p))) (yD (ifB f (smp y.p))))) ((List.range n).map (phsP (xD (ifB G (smp y.p))) (yD (ifB G (smp y.p))))) from fun e1 e2 => by
    rw [← hG]
    refine tw_of hX ?_
    rw [← e1]
    exact smallS_of (by decide) (imgE_zero e2).2)
  have HCD := Lib.hid (show cohD L S n G (smp y.p) 1 = cohD L S n f (smp y.p) 1 by rw [← hG]; exact tu_coh hn hX)
  have HXX := Lib.hid hX
  have HN := Lib.hid hn
  have hLb : 1 ≤ L ∧ L ≤ 64 := by omega
  have hSb : 1 ≤ S ∧ S ≤ 64 := by omega
  rw [hL, hS]
  rw [hL, hS] at HSX
  clear hx hy hq hr hie he s1 g1 l1 l2 l3 l4 hn hL hS hnn hf hE hX hqq hG hq4
  go_enter Try.func6, Try.ntmps6
  go_upto_region 9 with (first | (go_at_call 24; (with_reducible refine (fringed_any _).mono ?_); rintro e w' ⟨rfl, hb⟩; obtain ⟨pq, rfl⟩ := later_of_below hb; clear hb) | (go_at_call 25; (with_reducible refine (HSX.out _).mono ?_); rintro e w' ⟨rfl, hb⟩; obtain ⟨pq, rfl⟩ := later_of_below hb; clear hb) | (go_at_call 25; (with_reducible refine (HSY.out _).mono ?_); rintro e w' ⟨rfl, hb⟩; obtain ⟨pq, rfl⟩ := later_of_below hb; clear hb) | (go_at_call 27; (with_reducible refine (HIX.out _ (by (repeat' (first | with_reducible exact Below.refl _ _ | (with_reducible refine below_later_of ?_ ?_ _) | (with_reducible refine Below.alloc ?_ ?_ _) | (with_reducible refine Below.setCell ?_ ?_ _) | (with_reducible refine Below.drew ?_) | (simp; done) | (simp; omega) | omega)))).mono ?_); rintro e w' ⟨a1, c1, rfl, ha, -, hb⟩; have HA1 := Lib.hid ha; clear ha; obtain ⟨pq, rfl⟩ := later_of_below hb; clear hb) | (go_at_call 34; (with_reducible refine (HCI.out c1 a1 _ (dataAt_own HA1.out (by (repeat' (first | with_reducible exact Below.refl _ _ | (with_reducible refine below_later_of ?_ ?_ _) | (with_reducible refine Below.alloc ?_ ?_ _) | (with_reducible refine Below.setCell ?_ ?_ _) | (with_reducible refine Below.drew ?_) | (simp; done) | (simp; omega) | omega))))).mono ?_); rintro e w' ⟨rfl, hb⟩; obtain ⟨pq, rfl⟩ := later_of_below hb; clear hb) | (go_at_call 35; (with_reducible refine (HMO.out _).mono ?_); rintro e w' ⟨rfl, rfl⟩))
  refine any_worldF (fun w' => (w'.cell? ⟨w.heap.size, 0, none⟩ = some (.int .i64 L) ∧ w'.cell? ⟨w.heap.size, 1, none⟩ = some (.int .i64 S) ∧ w'.cell? ⟨w.heap.size, 2, none⟩ = some (.slice x.pa x.m x.pc) ∧ w'.cell? ⟨w.heap.size, 3, none⟩ = some (.slice x.ca x.mc x.cc)) ∧ (w'.cell? ⟨w.heap.size + 1, 0, none⟩ = some (.int .i64 y.L) ∧ w'.cell? ⟨w.heap.size + 1, 1, none⟩ = some (.int .i64 y.S) ∧ w'.cell? ⟨w.heap.size + 1, 2, none⟩ = some (.slice y.pa y.m y.pc) ∧ w'.cell? ⟨w.heap.size + 1, 3, none⟩ = some (.slice y.ca y.mc y.cc)) ∧ Below w.heap.size w w' ∧ w.heap.size + 1 < w'.heap.size) ⟨⟨(by (first | (simp [go_sem]; done) | simp [go_sem, ↓IntWalk.iteOmega])), (by (first | (simp [go_sem]; done) | simp [go_sem, ↓IntWalk.iteOmega])), (by (first | (simp [go_sem]; done) | simp [go_sem, ↓IntWalk.iteOmega])), (by (first | (simp [go_sem]; done) | simp [go_sem, ↓IntWalk.iteOmega]))⟩, ⟨(by (first | (simp [go_sem]; done) | simp [go_sem, ↓IntWalk.iteOmega])), (by (first | (simp [go_sem]; done) | simp [go_sem, ↓IntWalk.iteOmega])), (by (first | (simp [go_sem]; done) | simp [go_sem, ↓IntWalk.iteOmega])), (by (first | (simp [go_sem]; done) | simp [go_sem, ↓IntWalk.iteOmega]))⟩, (by (repeat' (first | with_reducible exact Below.refl _ _ | (with_reducible refine below_later_of ?_ ?_ _) | (with_reducible refine Below.alloc ?_ ?_ _) | (with_reducible refine Below.setCell ?_ ?_ _) | (with_reducible refine Below.drew ?_) | (simp; done) | (simp; omega) | omega))), by simp; omega⟩ ?_
  rintro W1 ⟨⟨x0, x1, x2, x3⟩, ⟨y0, y1, y2, y3⟩, hb1, hwx⟩
  have HB := Lib.hid hb1
  clear hb1
  have HIX := Lib.hid (show ∀ W, Below W1.heap.size W1 W → _ from fun W hW => HIX0.out W (HB.out.trans (hW.mono HB.out.size)))
  go_cut [10] from 54 to 56 (fun X wx => ∃ B a c, X = .pointer (some ⟨B, 0, none⟩) ∧ ImgBlk wx B L S a n c ∧ OwnC wx 0 n f a ∧ B < wx.heap.size ∧ Below W1.heap.size W1 wx)
  case first =>
    go_wp2_with (first | (go_at_call 27; (with_reducible refine (HIX.out _ (by (repeat' (first | with_reducible exact Below.refl _ _ | (with_reducible refine below_later_of ?_ ?_ _) | (with_reducible refine Below.alloc ?_ ?_ _) | (with_reducible refine Below.setCell ?_ ?_ _) | (with_reducible refine Below.drew ?_) | (simp; done) | (simp; omega) | omega)))).mono ?_); rintro e w' ⟨a1, c1, rfl, ha, -, hb⟩; have HA1 := Lib.hid ha; clear ha; obtain ⟨pq, rfl⟩ := later_of_below hb; clear hb))
    go_meet
    have HA9 := Lib.hid (show OwnC _ _ n f a1 from HA1.out)
    refine ⟨_, a1, c1, rfl, ⟨(by (first | (simp [go_sem]; done) | simp [go_sem, ↓IntWalk.iteOmega])), (by (first | (simp [go_sem]; done) | simp [go_sem, ↓IntWalk.iteOmega])), (by (first | (simp [go_sem]; done) | simp [go_sem, ↓IntWalk.iteOmega]))⟩, ?_, by simp <;> omega, (by (repeat' (first | with_reducible exact Below.refl _ _ | (with_reducible refine below_later_of ?_ ?_ _) | (with_reducible refine Below.alloc ?_ ?_ _) | (with_reducible refine Below.setCell ?_ ?_ _) | (with_reducible refine Below.drew ?_) | (simp; done) | (simp; omega) | omega)))⟩
    first
      | (refine (OwnC.below HA9.out ?_).mono (Nat.zero_le _); (repeat' (first | with_reducible exact Below.refl _ _ | (with_reducible refine below_later_of ?_ ?_ _) | (with_reducible refine Below.alloc ?_ ?_ _) | (with_reducible refine Below.setCell ?_ ?_ _) | (with_reducible refine Below.drew ?_) | (simp; done) | (simp; omega) | omega)); done)
      | (refine (OwnC.set (OwnC.set (OwnC.set HA9.out ?_ _) ?_ _) ?_ _).mono (Nat.zero_le _) <;> simp <;> omega)
  case rest =>
    obtain ⟨B10, a10, c10, rfl, ⟨ib0, ib1, ib2⟩, hoc, hB10, hb⟩ := hcut
    obtain ⟨W2, hW2⟩ : ∃ W2 : World, W2 = wc := ⟨_, rfl⟩
    subst hW2
    have hsz9 := hb.size
    replace x0 := (hb.cell (p := ⟨w.heap.size, 0, none⟩) (show w.heap.size < W1.heap.size by omega)).trans x0
    replace y0 := (hb.cell (p := ⟨w.heap.size + 1, 0, none⟩) (show w.heap.size + 1 < W1.heap.size by omega)).trans y0
    replace x1 := (hb.cell (p := ⟨w.heap.size, 1, none⟩) (show w.heap.size < W1.heap.size by omega)).trans x1
    replace y1 := (hb.cell (p := ⟨w.heap.size + 1, 1, none⟩) (show w.heap.size + 1 < W1.heap.size by omega)).trans y1
    replace x2 := (hb.cell (p := ⟨w.heap.size, 2, none⟩) (show w.heap.size < W1.heap.size by omega)).trans x2
    replace y2 := (hb.cell (p := ⟨w.heap.size + 1, 2, none⟩) (show w.heap.size + 1 < W1.heap.size by omega)).trans y2
    replace x3 := (hb.cell (p := ⟨w.heap.size, 3, none⟩) (show w.heap.size < W1.heap.size by omega)).trans x3
    replace y3 := (hb.cell (p := ⟨w.heap.size + 1, 3, none⟩) (show w.heap.size + 1 < W1.heap.size by omega)).trans y3
    replace HB := Lib.hid (HB.out.trans (hb.mono HB.out.size))
    replace hwx : w.heap.size + 1 < W2.heap.size := by omega
    obtain ⟨g10, rfl, -, hg10, hs10⟩ := hoc hpos
    have HS10 := Lib.hid hs10
    clear hb hoc hs10
    go_upto_region 11 with (fail)
    refine any_worldF (fun W => BldSt W2 W2.heap.size L S 90 (.slice none 0 0) (csF G 0) W) ⟨(by (first | (simp [go_sem]; done) | simp [go_sem, ↓IntWalk.iteOmega])), (by (first | (simp [go_sem]; done) | simp [go_sem, ↓IntWalk.iteOmega])), (by (first | (simp [go_sem]; done) | simp [go_sem, ↓IntWalk.iteOmega])), (by (first | (simp [go_sem]; done) | simp [go_sem, ↓IntWalk.iteOmega])), World.ownsRow_nil _ _ _ _, (by (repeat' (first | with_reducible exact Below.refl _ _ | (with_reducible refine below_later_of ?_ ?_ _) | (with_reducible refine Below.alloc ?_ ?_ _) | (with_reducible refine Below.setCell ?_ ?_ _) | (with_reducible refine Below.drew ?_) | (simp; done) | (simp; omega) | omega))), by simp⟩ ?_
    rintro W3 hst
    generalize hO : W2.heap.size = O at hst hg10 hB10 hwx hsz9 ⊢
    have HO2 := Lib.hid hO
    have HST := Lib.hid hst
    have hBz := HB.out.size
    rw [hO] at hBz
    clear hst hO
    go_wp2
    go_loopw [12] (fun i wr => ∃ (k : Nat) (v : Value), k ≤ n ∧ i = .int .i64 k ∧ BldSt W2 O L S 90 v (csF G k) wr) (fun i _ => n - (intOf i).toNat)
    case atStart => exact ⟨0, _, Nat.zero_le _, rfl, HST.out⟩
    case round =>
      obtain ⟨k, v, hk, rfl, hst⟩ := hrel
      have HS4 := Lib.hid hst
      have hltO := hst.lt
      have d2 := (hst.bel.cell (p := ⟨B10, 2, none⟩) hB10).trans ib2
      by_cases hlt : k < n
      · have hdk : decide ((k : Int) < (n : Int)) = true := by simp; omega
        have hk0 : (0 : Int) ≤ (k : Int) := by omega
        have hk1 : (k : Int) < (n : Int) := by omega
        have e0 := (hst.bel.cell (p := ⟨g10, 0 + k, none⟩) hg10).trans (HS10.out k hlt)
        rw [Nat.zero_add] at e0
        obtain ⟨hsn, b0, b1⟩ := HXX.out k hlt
        obtain ⟨fl1, fl2⟩ := sNum_flI4 hsn
        have HPA := Lib.hid (fun w => rParts (f k).1 (f k).2 (xB f k) (yB f k) w fl1 fl2)
        have hg := HGG.out k hlt
        have hgr : g10 < wr.heap.size := by omega
        have hBr : B10 < wr.heap.size := by omega
        generalize xB f k = x0 at b0 hg HPA
        generalize yB f k = y0 at b1 hg HPA
        generalize (f k).1 = zf1 at e0 HPA
        generalize (f k).2 = zf2 at e0 HPA
        clear hst hsn fl1 fl2
        go_wp2_with (first | (go_at_call 36; (with_reducible refine (HPA.out _).mono ?_); rintro e w' ⟨rfl, rfl⟩))
        go_loop [13, 14, 15] (fun x y i => ∃ j : Nat, j ≤ q ∧ i = .int .i64 j ∧ x = .int .i64 (rot4 j (x0, y0)).1 ∧ y = .int .i64 (rot4 j (x0, y0)).2) (fun _ _ i => q - (intOf i).toNat)
        case atStart => exact ⟨0, Nat.zero_le _, rfl, rfl, rfl⟩
        case round =>
          obtain ⟨j, hj, rfl, rfl, rfl⟩ := hrel
          rcases (show j < q ∨ j = q by omega) with hjc | rfl
          · have hdj : decide ((j : Int) < (q : Int)) = true := by simp; omega
            obtain ⟨⟨t1, t2⟩, t3, t4⟩ := rot4_bd j (z := (x0, y0)) ⟨b0, b1⟩
            have HR1 := Lib.hid (show (rot4 (j + 1) (x0, y0)).1 = -(rot4 j (x0, y0)).2 from rfl)
            have HR2 := Lib.hid (show (rot4 (j + 1) (x0, y0)).2 = (rot4 j (x0, y0)).1 from rfl)
            generalize (rot4 j (x0, y0)).1 = xx at t1 t2 HR2 ⊢
            generalize (rot4 j (x0, y0)).2 = yy at t3 t4 HR1 ⊢
            go_wp2
            go_round
            case rel => exact ⟨j + 1, by omega, by go_num, by rw [HR1.out], by rw [HR2.out]⟩
            case measure => simp [intOf]; omega
          · have hdj : decide ((j : Int) < (j : Int)) = false := by simp
            obtain ⟨⟨t1, t2⟩, t3, t4⟩ := rot4_bd j (z := (x0, y0)) ⟨b0, b1⟩
            have HSM := Lib.hid (fun w => bSample (rot4 j (x0, y0)).1 (rot4 j (x0, y0)).2 w (by omega) (by omega))
            generalize (rot4 j (x0, y0)).1 = xx at t1 t2 HSM hg ⊢
            generalize (rot4 j (x0, y0)).2 = yy at t3 t4 HSM hg ⊢
            obtain ⟨re, hre⟩ : ∃ re, (smpI xx yy).1 = re := ⟨_, rfl⟩
            obtain ⟨im, him⟩ : ∃ im, (smpI xx yy).2 = im := ⟨_, rfl⟩
            have hg2 : G k = (re, im) := by rw [hg, ← hre, ← him]
            rw [hre, him] at HSM
            have c2 := HS4.out.c2
            have f2 := HS4.out.f2
            have hown0 := HS4.out.own
            rw [csF_len] at hown0
            have HOW2 := Lib.hid hown0
            have HSN := Lib.hid (show ∀ (g' cc' : Nat) (w1 : World) (o : Obj), w1.ownsRow (O + 1) 90 1 (.slice (some ⟨g', 0, none⟩) (k + 1) cc') (k + 1) (csF G k ++ [.complex .f32 re im]) → (wr.drew.alloc o).grownBy w1 v.ownBlock → BldSt W2 O L S 90 (.slice (some ⟨g', 0, none⟩) (k + 1) cc') (csF G (k + 1)) (w1.setCell ⟨O, 2, none⟩ (.slice (some ⟨g', 0, none⟩) (k + 1) cc')) from fun g' cc' w1 o h1 h2 => by
              rw [csF_snoc, hg2]
              exact (HS4.out.below (Below.refl _ _).drew).put (by rw [csF_len]; exact h1) h2)
            have HSL := Lib.hid (show ∀ (w1 : World) (o : Obj), (wr.drew.alloc o).grownBy w1 v.ownBlock → w1.cell? ⟨O, 2, none⟩ = some v ∧ w1.frozen? ⟨O, 2, none⟩ = false from fun w1 o h => (HS4.out.below (Below.refl _ _).drew).still h)
            clear hg hg2 hre him hown0 e0 d2
            go_wp2_with fail
            go_region_law (first | (refine step_append_lies _ rfl (.tmp 86) (.tmp 90) 31 rfl (O + 1) 90 i0 (.complex .f32 0 0) 1 8 Try.underlying31 hi0 hz0 hz1 hz2 rfl (by decide) v k (csF G k) (by simp [Act.eval, Act.put]) (by first | exact (HOW2.out.alloc _).drew | exact HOW2.out.drew.alloc _) ⟨wr.heap.size, 0, none⟩ 1 1 [.complex .f32 re im] (by simp [Act.eval, Act.put]) rfl (by intro j u hj; rcases j with _ | j; (focus (simp at hj; subst hj; (first | (simp [Addr.add, go_sem]; done) | simp [Addr.add, go_sem, ↓IntWalk.iteOmega]))); (focus (simp at hj))) (by intro u hu; simp at hu; subst hu; rfl) (by decide) (by unfold maxLen; omega) (by omega) (by first | omega | (simp; omega)) _ rfl ?_; intro g' cc' w1 hown' hgrow _ _; have HN2 := Lib.hid (HSN.out _ _ _ _ hown' hgrow); obtain ⟨hcb, hfb⟩ := HSL.out _ _ hgrow; clear hown' hgrow) | (go_simp; (go_at_call 37; (with_reducible refine (HSM.out _).mono ?_); rintro e w' ⟨rfl, rfl⟩)))
            all_goals
              go_wp2
              go_roundw
              case rel => exact ⟨k + 1, _, by omega, by go_num, HN2.out⟩
              case measure => simp [intOf]; omega
      · obtain rfl : n = k := by omega
        have hdk : decide ((n : Int) < (n : Int)) = false := by simp
        have hown := hst.own
        rw [csF_len] at hown
        obtain ⟨at', ct, rfl⟩ := own_slice hown
        obtain ⟨gt, rfl, -, hgt, hst5⟩ := ownC_row hown hpos
        have HST5 := Lib.hid hst5
        obtain ⟨o0, o1, o2, -, -, hbel, -⟩ := hst
        have hb := hbel
        obtain ⟨W4, hW4⟩ : ∃ W4 : World, W4 = wr := ⟨_, rfl⟩
        subst hW4
        have hsz9 := hb.size
        replace x0 := (hb.cell (p := ⟨w.heap.size, 0, none⟩) (show w.heap.size < O by omega)).trans x0
        replace y0 := (hb.cell (p := ⟨w.heap.size + 1, 0, none⟩) (show w.heap.size + 1 < O by omega)).trans y0
        replace x1 := (hb.cell (p := ⟨w.heap.size, 1, none⟩) (show w.heap.size < O by omega)).trans x1
        replace y1 := (hb.cell (p := ⟨w.heap.size + 1, 1, none⟩) (show w.heap.size + 1 < O by omega)).trans y1
        replace x2 := (hb.cell (p := ⟨w.heap.size, 2, none⟩) (show w.heap.size < O by omega)).trans x2
        replace y2 := (hb.cell (p := ⟨w.heap.size + 1, 2, none⟩) (show w.heap.size + 1 < O by omega)).trans y2
        replace x3 := (hb.cell (p := ⟨w.heap.size, 3, none⟩) (show w.heap.size < O by omega)).trans x3
        replace y3 := (hb.cell (p := ⟨w.heap.size + 1, 3, none⟩) (show w.heap.size + 1 < O by omega)).trans y3
        replace ib0 := (hb.cell (p := ⟨B10, 0, none⟩) hB10).trans ib0
        replace ib1 := (hb.cell (p := ⟨B10, 1, none⟩) hB10).trans ib1
        replace ib2 := (hb.cell (p := ⟨B10, 2, none⟩) hB10).trans ib2
        replace HB := Lib.hid (HB.out.trans (hb.mono hBz))
        replace hwx : w.heap.size + 1 < W4.heap.size := by omega
        replace hB10 : B10 < W4.heap.size := by omega
        replace hg10 : g10 < W4.heap.size := by omega
        have hgt' : gt < W4.heap.size := hgt
        have HDT := Lib.hid (show DataAt W4 L S n G (some ⟨gt, 0, none⟩) from fun _ => ⟨gt, 0, rfl, hgt, hst5⟩)
        have HTS := Lib.hid hst5
        clear hown hbel hst5 hgt HST HST5 hb HO2 HGG HS10 HS4 d2 hBz hg10
        have HIX := Lib.hid (show ∀ W, Below W4.heap.size W4 W → _ from fun W hW => HIX0.out W (HB.out.trans (hW.mono HB.out.size)))
        have HIY := Lib.hid (show ∀ W, Below W4.heap.size W4 W → _ from fun W hW => HIY0.out W (HB.out.trans (hW.mono HB.out.size)))
        go_wp2_with fail
        go_cut [16, 17] from 93 to 101 (fun X Y wx => ∃ B l s n' a c, X = .pointer (some ⟨B, 0, none⟩) ∧ Y = .int .i64 E ∧ ImgBlk wx B l s a n' c ∧ IfSay wx 0 L S n (ifB f (smp y.p)) E l s n' a ∧ B < wx.heap.size ∧ Below W4.heap.size W4 wx)
        case first =>
          go_region_held3 (fun w' => (w'.cell? ⟨w.heap.size, 0, none⟩ = some (.int .i64 L) ∧ w'.cell? ⟨w.heap.size, 1, none⟩ = some (.int .i64 S) ∧ w'.cell? ⟨w.heap.size, 2, none⟩ = some (.slice x.pa x.m x.pc) ∧ w'.cell? ⟨w.heap.size, 3, none⟩ = some (.slice x.ca x.mc x.cc)) ∧ (w'.cell? ⟨w.heap.size + 1, 0, none⟩ = some (.int .i64 y.L) ∧ w'.cell? ⟨w.heap.size + 1, 1, none⟩ = some (.int .i64 y.S) ∧ w'.cell? ⟨w.heap.size + 1, 2, none⟩ = some (.slice y.pa y.m y.pc) ∧ w'.cell? ⟨w.heap.size + 1, 3, none⟩ = some (.slice y.ca y.mc y.cc))) (first | exact ⟨⟨x0, x1, x2, x3⟩, y0, y1, y2, y3⟩ | ((first | (simp [go_sem, x0, x1, x2, x3, y0, y1, y2, y3, o0, o1, o2]; done) | simp [go_sem, x0, x1, x2, x3, y0, y1, y2, y3, o0, o1, o2, ↓IntWalk.iteOmega]); done)) (first | (go_at_call 27; (with_reducible refine (HIX.out _ (by (repeat' (first | with_reducible exact Below.refl _ _ | (with_reducible refine below_later_of ?_ ?_ _) | (with_reducible refine Below.alloc ?_ ?_ _) | (with_reducible refine Below.setCell ?_ ?_ _) | (with_reducible refine Below.drew ?_) | (simp; done) | (simp; omega) | omega)))).mono ?_); rintro e w' ⟨a1, c1, rfl, ha, -, hb⟩; have HA1 := Lib.hid ha; clear ha; obtain ⟨pq, rfl⟩ := later_of_below hb; clear hb) | (go_at_call 27; (with_reducible refine (HIY.out _ (by (repeat' (first | with_reducible exact Below.refl _ _ | (with_reducible refine below_later_of ?_ ?_ _) | (with_reducible refine Below.alloc ?_ ?_ _) | (with_reducible refine Below.setCell ?_ ?_ _) | (with_reducible refine Below.drew ?_) | (simp; done) | (simp; omega) | omega)))).mono ?_); rintro e w' ⟨a2, c2, rfl, ha, -, hb⟩; have HA2 := Lib.hid ha; clear ha; obtain ⟨pq, rfl⟩ := later_of_below hb; clear hb) | (go_at_call 30; (with_reducible refine (interfere_det (L : Int) (S : Int) n c1 f a1 y.L y.S (y.m / 2) c2 (smp y.p) a2 _ (by omega) (by omega) (dataAt_own HA1.out (by (repeat' (first | with_reducible exact Below.refl _ _ | (with_reducible refine below_later_of ?_ ?_ _) | (with_reducible refine Below.alloc ?_ ?_ _) | (with_reducible refine Below.setCell ?_ ?_ _) | (with_reducible refine Below.drew ?_) | (simp; done) | (simp; omega) | omega)))) (dataAt_own HA2.out (by (repeat' (first | with_reducible exact Below.refl _ _ | (with_reducible refine below_later_of ?_ ?_ _) | (with_reducible refine Below.alloc ?_ ?_ _) | (with_reducible refine Below.setCell ?_ ?_ _) | (with_reducible refine Below.drew ?_) | (simp; done) | (simp; omega) | omega)))) HE.out).mono ?_); rintro e w' ⟨l5, s5, n5, a5, c5, rfl, hok, -, hb⟩; have HOK := Lib.hid hok; clear hok; obtain ⟨pq, rfl⟩ := later_of_below hb; clear hb))
          all_goals
            rename_i hheld
            clear hheld
            go_wp2_with fail
            go_meet
            refine ⟨_, l5, s5, n5, a5, c5, rfl, rfl, ⟨(by (first | (simp [go_sem]; done) | simp [go_sem, ↓IntWalk.iteOmega])), (by (first | (simp [go_sem]; done) | simp [go_sem, ↓IntWalk.iteOmega])), (by (first | (simp [go_sem]; done) | simp [go_sem, ↓IntWalk.iteOmega]))⟩, ?_, by simp <;> omega, (by (repeat' (first | with_reducible exact Below.refl _ _ | (with_reducible refine below_later_of ?_ ?_ _) | (with_reducible refine Below.alloc ?_ ?_ _) | (with_reducible refine Below.setCell ?_ ?_ _) | (with_reducible refine Below.drew ?_) | (simp; done) | (simp; omega) | omega)))⟩
            first
              | (refine (HOK.out.below ?_).mono (Nat.zero_le _); (repeat' (first | with_reducible exact Below.refl _ _ | (with_reducible refine below_later_of ?_ ?_ _) | (with_reducible refine Below.alloc ?_ ?_ _) | (with_reducible refine Below.setCell ?_ ?_ _) | (with_reducible refine Below.drew ?_) | (simp; done) | (simp; omega) | omega)); done)
              | (refine (IfSay.set (IfSay.set (IfSay.set HOK.out ?_ _) ?_ _) ?_ _).mono (Nat.zero_le _) <;> simp <;> omega)
        case rest =>
          obtain ⟨B16, l16, s16, n16, a16, c16, rfl, rfl, ⟨u0, u1, u2⟩, hsay, hB16, hb⟩ := hcut
          obtain ⟨W5, hW5⟩ : ∃ W5 : World, W5 = wc := ⟨_, rfl⟩
          subst hW5
          have hsz9 := hb.size
          replace x0 := (hb.cell (p := ⟨w.heap.size, 0, none⟩) (show w.heap.size < W4.heap.size by omega)).trans x0
          replace y0 := (hb.cell (p := ⟨w.heap.size + 1, 0, none⟩) (show w.heap.size + 1 < W4.heap.size by omega)).trans y0
          replace x1 := (hb.cell (p := ⟨w.heap.size, 1, none⟩) (show w.heap.size < W4.heap.size by omega)).trans x1
          replace y1 := (hb.cell (p := ⟨w.heap.size + 1, 1, none⟩) (show w.heap.size + 1 < W4.heap.size by omega)).trans y1
          replace x2 := (hb.cell (p := ⟨w.heap.size, 2, none⟩) (show w.heap.size < W4.heap.size by omega)).trans x2
          replace y2 := (hb.cell (p := ⟨w.heap.size + 1, 2, none⟩) (show w.heap.size + 1 < W4.heap.size by omega)).trans y2
          replace x3 := (hb.cell (p := ⟨w.heap.size, 3, none⟩) (show w.heap.size < W4.heap.size by omega)).trans x3
          replace y3 := (hb.cell (p := ⟨w.heap.size + 1, 3, none⟩) (show w.heap.size + 1 < W4.heap.size by omega)).trans y3
          replace ib0 := (hb.cell (p := ⟨B10, 0, none⟩) hB10).trans ib0
          replace ib1 := (hb.cell (p := ⟨B10, 1, none⟩) hB10).trans ib1
          replace ib2 := (hb.cell (p := ⟨B10, 2, none⟩) hB10).trans ib2
          replace o0 := (hb.cell (p := ⟨O, 0, none⟩) hltO).trans o0
          replace o1 := (hb.cell (p := ⟨O, 1, none⟩) hltO).trans o1
          replace o2 := (hb.cell (p := ⟨O, 2, none⟩) hltO).trans o2
          replace HB := Lib.hid (HB.out.trans (hb.mono HB.out.size))
          replace hwx : w.heap.size + 1 < W5.heap.size := by omega
          replace HDT := Lib.hid (HDT.out.below hb)
          replace HTS := Lib.hid (HTS.out.below (by first | exact hgt' | omega) hb)
          replace hB10 : B10 < W5.heap.size := by omega
          replace hltO : O < W5.heap.size := by omega
          replace hgt' : gt < W5.heap.size := by omega
          have HIY := Lib.hid (show ∀ W, Below W5.heap.size W5 W → _ from fun W hW => HIY0.out W (HB.out.trans (hW.mono HB.out.size)))
          have HCP := Lib.hid (show ∀ W, Below W5.heap.size W5 W → _ from fun W hW => copyIm_some L S n G gt 0 ct W (by omega) hpos (by have := hW.size; omega) (HTS.out.below hgt' hW))
          clear hb
          go_wp2_with fail
          go_cut [18, 19] from 101 to 109 (fun X Y wx => ∃ B l s n' a c, X = .pointer (some ⟨B, 0, none⟩) ∧ Y = .int .i64 E ∧ ImgBlk wx B l s a n' c ∧ IfSay wx 0 L S n (ifB G (smp y.p)) E l s n' a ∧ B < wx.heap.size ∧ Below W5.heap.size W5 wx)
          case first =>
            go_region_held3 (fun w' => (w'.cell? ⟨O, 0, none⟩ = some (.int .i64 L) ∧ w'.cell? ⟨O, 1, none⟩ = some (.int .i64 S) ∧ w'.cell? ⟨O, 2, none⟩ = some (.slice (some ⟨gt, 0, none⟩) n ct)) ∧ (w'.cell? ⟨w.heap.size + 1, 0, none⟩ = some (.int .i64 y.L) ∧ w'.cell? ⟨w.heap.size + 1, 1, none⟩ = some (.int .i64 y.S) ∧ w'.cell? ⟨w.heap.size + 1, 2, none⟩ = some (.slice y.pa y.m y.pc) ∧ w'.cell? ⟨w.heap.size + 1, 3, none⟩ = some (.slice y.ca y.mc y.cc))) (first | exact ⟨⟨o0, o1, o2⟩, y0, y1, y2, y3⟩ | ((first | (simp [go_sem, x0, x1, x2, x3, y0, y1, y2, y3, o0, o1, o2]; done) | simp [go_sem, x0, x1, x2, x3, y0, y1, y2, y3, o0, o1, o2, ↓IntWalk.iteOmega]); done)) (first | (go_at_call 38; (with_reducible refine (HCP.out _ (by (repeat' (first | with_reducible exact Below.refl _ _ | (with_reducible refine below_later_of ?_ ?_ _) | (with_reducible refine Below.alloc ?_ ?_ _) | (with_reducible refine Below.setCell ?_ ?_ _) | (with_reducible refine Below.drew ?_) | (simp; done) | (simp; omega) | omega)))).mono ?_); rintro e w' ⟨a3, c3, rfl, ha, hb⟩; have HA3 := Lib.hid (show 0 < n → ∃ g', a3 = some ⟨g', 0, none⟩ ∧ _ ≤ g' ∧ g' < _ ∧ SamplesAt _ g' 0 n G from ha); clear ha; obtain ⟨pq, rfl⟩ := later_of_below hb; clear hb) | (go_at_call 27; (with_reducible refine (HIY.out _ (by (repeat' (first | with_reducible exact Below.refl _ _ | (with_reducible refine below_later_of ?_ ?_ _) | (with_reducible refine Below.alloc ?_ ?_ _) | (with_reducible refine Below.setCell ?_ ?_ _) | (with_reducible refine Below.drew ?_) | (simp; done) | (simp; omega) | omega)))).mono ?_); rintro e w' ⟨a2, c2, rfl, ha, -, hb⟩; have HA2 := Lib.hid ha; clear ha; obtain ⟨pq, rfl⟩ := later_of_below hb; clear hb) | (go_at_call 30; (with_reducible refine (interfere_det (L : Int) (S : Int) n c3 G a3 y.L y.S (y.m / 2) c2 (smp y.p) a2 _ (by omega) (by omega) (dataAt_own HA3.out (by (repeat' (first | with_reducible exact Below.refl _ _ | (with_reducible refine below_later_of ?_ ?_ _) | (with_reducible refine Below.alloc ?_ ?_ _) | (with_reducible refine Below.setCell ?_ ?_ _) | (with_reducible refine Below.drew ?_) | (simp; done) | (simp; omega) | omega)))) (dataAt_own HA2.out (by (repeat' (first | with_reducible exact Below.refl _ _ | (with_reducible refine below_later_of ?_ ?_ _) | (with_reducible refine Below.alloc ?_ ?_ _) | (with_reducible refine Below.setCell ?_ ?_ _) | (with_reducible refine Below.drew ?_) | (simp; done) | (simp; omega) | omega)))) HE2.out).mono ?_); rintro e w' ⟨l5, s5, n5, a5, c5, rfl, hok, -, hb⟩; have HOK := Lib.hid hok; clear hok; obtain ⟨pq, rfl⟩ := later_of_below hb; clear hb))
            all_goals
              rename_i hheld
              clear hheld
              go_wp2_with fail
              go_meet
              refine ⟨_, l5, s5, n5, a5, c5, rfl, rfl, ⟨(by (first | (simp [go_sem]; done) | simp [go_sem, ↓IntWalk.iteOmega])), (by (first | (simp [go_sem]; done) | simp [go_sem, ↓IntWalk.iteOmega])), (by (first | (simp [go_sem]; done) | simp [go_sem, ↓IntWalk.iteOmega]))⟩, ?_, by simp <;> omega, (by (repeat' (first | with_reducible exact Below.refl _ _ | (with_reducible refine below_later_of ?_ ?_ _) | (with_reducible refine Below.alloc ?_ ?_ _) | (with_reducible refine Below.setCell ?_ ?_ _) | (with_reducible refine Below.drew ?_) | (simp; done) | (simp; omega) | omega)))⟩
              first
                | (refine (HOK.out.below ?_).mono (Nat.zero_le _); (repeat' (first | with_reducible exact Below.refl _ _ | (with_reducible refine below_later_of ?_ ?_ _) | (with_reducible refine Below.alloc ?_ ?_ _) | (with_reducible refine Below.setCell ?_ ?_ _) | (with_reducible refine Below.drew ?_) | (simp; done) | (simp; omega) | omega)); done)
                | (refine (IfSay.set (IfSay.set (IfSay.set HOK.out ?_ _) ?_ _) ?_ _).mono (Nat.zero_le _) <;> simp <;> omega)
          case rest =>
            obtain ⟨B18, l18, s18, n18, a18, c18, rfl, rfl, ⟨v0, v1, v2⟩, hsay2, hB18, hb⟩ := hcut
            obtain ⟨W6, hW6⟩ : ∃ W6 : World, W6 = wc := ⟨_, rfl⟩
            subst hW6
            have hsz9 := hb.size
            replace x0 := (hb.cell (p := ⟨w.heap.size, 0, none⟩) (show w.heap.size < W5.heap.size by omega)).trans x0
            replace y0 := (hb.cell (p := ⟨w.heap.size + 1, 0, none⟩) (show w.heap.size + 1 < W5.heap.size by omega)).trans y0
            replace x1 := (hb.cell (p := ⟨w.heap.size, 1, none⟩) (show w.heap.size < W5.heap.size by omega)).trans x1
            replace y1 := (hb.cell (p := ⟨w.heap.size + 1, 1, none⟩) (show w.heap.size + 1 < W5.heap.size by omega)).trans y1
            replace x2 := (hb.cell (p := ⟨w.heap.size, 2, none⟩) (show w.heap.size < W5.heap.size by omega)).trans x2
            replace y2 := (hb.cell (p := ⟨w.heap.size + 1, 2, none⟩) (show w.heap.size + 1 < W5.heap.size by omega)).trans y2
            replace x3 := (hb.cell (p := ⟨w.heap.size, 3, none⟩) (show w.heap.size < W5.heap.size by omega)).trans x3
            replace y3 := (hb.cell (p := ⟨w.heap.size + 1, 3, none⟩) (show w.heap.size + 1 < W5.heap.size by omega)).trans y3
            replace ib0 := (hb.cell (p := ⟨B10, 0, none⟩) hB10).trans ib0
            replace ib1 := (hb.cell (p := ⟨B10, 1, none⟩) hB10).trans ib1
            replace ib2 := (hb.cell (p := ⟨B10, 2, none⟩) hB10).trans ib2
            replace o0 := (hb.cell (p := ⟨O, 0, none⟩) hltO).trans o0
            replace o1 := (hb.cell (p := ⟨O, 1, none⟩) hltO).trans o1
            replace o2 := (hb.cell (p := ⟨O, 2, none⟩) hltO).trans o2
            replace u0 := (hb.cell (p := ⟨B16, 0, none⟩) hB16).trans u0
            replace u1 := (hb.cell (p := ⟨B16, 1, none⟩) hB16).trans u1
            replace u2 := (hb.cell (p := ⟨B16, 2, none⟩) hB16).trans u2
            replace HB := Lib.hid (HB.out.trans (hb.mono HB.out.size))
            replace hwx : w.heap.size + 1 < W6.heap.size := by omega
            replace HDT := Lib.hid (HDT.out.below hb)
            replace HTS := Lib.hid (HTS.out.below (by first | exact hgt' | omega) hb)
            replace hsay := hsay.below hb
            replace hB10 : B10 < W6.heap.size := by omega
            replace hltO : O < W6.heap.size := by omega
            replace hgt' : gt < W6.heap.size := by omega
            replace hB16 : B16 < W6.heap.size := by omega
            by_cases hE0 : E = 0
            case neg =>
              have hne : (E != 0) = true := by simpa using hE0
              clear hsay hsay2 hb
              go_wp2
              go_ret
              exact ⟨ret_bool (by simp), HB.out⟩
            subst hE0
            obtain ⟨rfl, rfl, hna, hof⟩ := hsay.1 rfl
            obtain ⟨rfl, rfl, hnb, hog⟩ := hsay2.1 rfl
            obtain rfl := hna.symm
            obtain rfl := hnb.symm
            have hp1 := HE.out
            have hp2 := HE2.out
            obtain ⟨e1, e2, hLy, hSy⟩ := pairE_zero hp1
            obtain ⟨sy1, -⟩ := imgE_zero e2
            obtain ⟨-, -, hny⟩ := sizeE_okU sy1
            have hnny : y.m / 2 = n := by
              have h1 := HN.out
              rw [← hLy, ← hSy] at hny
              have h2 : ((y.m / 2 : Nat) : Int) = ((L * S : Nat) : Int) := by rw [hny, Int.natCast_mul]
              omega
            have htw := HTW.out hnny e2
            have HC1 := Lib.hid (show cohE L S n f y.L y.S (y.m / 2) (smp y.p) 1 = 0 by unfold cohE first2; rw [hp1]; rfl)
            have HC2 := Lib.hid (show cohE L S n G y.L y.S (y.m / 2) (smp y.p) 1 = 0 by unfold cohE first2; rw [hp2]; rfl)
            rw [← hLy, ← hSy, hnny] at hp1 hp2
            have hf1 := pair_fld4 hp1
            have hf2 := pair_fld4 hp2
            have hmp1 := phs_map (f := ifB f (smp y.p)) HN.out hLb hSb
            have hmp2 := phs_map (f := ifB G (smp y.p)) HN.out hLb hSb
            obtain ⟨zs, hzs⟩ : ∃ zs, (List.range n).map (phsP (xD (ifB f (smp y.p))) (yD (ifB f (smp y.p)))) = zs := ⟨_, rfl⟩
            obtain ⟨ys, hys⟩ : ∃ ys, (List.range n).map (phsP (xD (ifB G (smp y.p))) (yD (ifB G (smp y.p)))) = ys := ⟨_, rfl⟩
            have HP1 := Lib.hid (show ∀ (c : Nat) (a : Option Addr) (W : World), FldAt W L S n (ifB f (smp y.p)) a → Calls Try.prog 32 #[.agg #[.int .i64 L, .int .i64 S, .slice a n c]] W fun e w' => ∃ q c, e = .returned (.tuple #[.agg #[.int .i64 L, .int .i64 S, .slice q n c], .int .i64 0]) ∧ OwnIV W.heap.size w' (.slice q n c) zs ∧ Below W.heap.size W w' from
              fun c a W hd => by
                have := phasesOf_ok L S n c (ifB f (smp y.p)) a W hd (fun k _ => ⟨f64I_lt _, f64I_lt _⟩) (by omega) hf1
                rw [hzs] at this
                exact this)
            have HP2 := Lib.hid (show ∀ (c : Nat) (a : Option Addr) (W : World), FldAt W L S n (ifB G (smp y.p)) a → Calls Try.prog 32 #[.agg #[.int .i64 L, .int .i64 S, .slice a n c]] W fun e w' => ∃ q c, e = .returned (.tuple #[.agg #[.int .i64 L, .int .i64 S, .slice q n c], .int .i64 0]) ∧ OwnIV W.heap.size w' (.slice q n c) ys ∧ Below W.heap.size W w' from
              fun c a W hd => by
                have := phasesOf_ok L S n c (ifB G (smp y.p)) a W hd (fun k _ => ⟨f64I_lt _, f64I_lt _⟩) (by omega) hf2
                rw [hys] at this
                exact this)
            rw [hzs] at htw hmp1
            rw [hys] at htw hmp2
            have hlz : zs.length = n := by rw [← hzs]; simp
            have hly : ys.length = n := by rw [← hys]; simp
            have HLZ := Lib.hid (And.intro hlz hly)
            have HTT := Lib.hid htw
            have HRES := Lib.hid (tw_res htw HN.out)
            have HM1 := Lib.hid hmp1
            have HM2 := Lib.hid hmp2
            obtain ⟨ds, hds⟩ : ∃ ds, cohD L S n f (smp y.p) 1 = ds := ⟨_, rfl⟩
            have HDS := Lib.hid hds
            have HF1 := Lib.hid (show FldAt W6 L S n (ifB f (smp y.p)) a16 from hof.fld (Below.refl _ _))
            have HF2 := Lib.hid (show FldAt W6 L S n (ifB G (smp y.p)) a18 from hog.fld (Below.refl _ _))
            clear hsay hsay2 hof hog hp1 hp2 e1 e2 hLy hSy sy1 hny hnny htw hf1 hf2 hmp1 hmp2 hzs hys hlz hly hds hb
            go_upto_region 24 with (fail)
            go_cut [20, 21] from 113 to 118 (fun X Y wx => ∃ B q c, X = .pointer (some ⟨B, 0, none⟩) ∧ Y = .int .i64 0 ∧ ImgBlk wx B L S q n c ∧ IntsV wx (.slice q n c) zs ∧ B < wx.heap.size ∧ Below W6.heap.size W6 wx)
            case first =>
              go_wp2_with (first | (go_at_call 32; (with_reducible refine (HP1.out _ _ _ (HF1.out.below (by (repeat' (first | with_reducible exact Below.refl _ _ | (with_reducible refine below_later_of ?_ ?_ _) | (with_reducible refine Below.alloc ?_ ?_ _) | (with_reducible refine Below.setCell ?_ ?_ _) | (with_reducible refine Below.drew ?_) | (simp; done) | (simp; omega) | omega))))).mono ?_); rintro e w' ⟨q6, c6, rfl, ho, hb⟩; have HO := Lib.hid ho; clear ho; obtain ⟨pq, rfl⟩ := later_of_below hb; clear hb))
              go_meet
              refine ⟨_, q6, c6, rfl, rfl, ⟨(by (first | (simp [go_sem]; done) | simp [go_sem, ↓IntWalk.iteOmega])), (by (first | (simp [go_sem]; done) | simp [go_sem, ↓IntWalk.iteOmega])), (by (first | (simp [go_sem]; done) | simp [go_sem, ↓IntWalk.iteOmega]))⟩, ?_, by simp <;> omega, (by (repeat' (first | with_reducible exact Below.refl _ _ | (with_reducible refine below_later_of ?_ ?_ _) | (with_reducible refine Below.alloc ?_ ?_ _) | (with_reducible refine Below.setCell ?_ ?_ _) | (with_reducible refine Below.drew ?_) | (simp; done) | (simp; omega) | omega)))⟩
              first
                | (refine (HO.out.below ?_).ints; (repeat' (first | with_reducible exact Below.refl _ _ | (with_reducible refine below_later_of ?_ ?_ _) | (with_reducible refine Below.alloc ?_ ?_ _) | (with_reducible refine Below.setCell ?_ ?_ _) | (with_reducible refine Below.drew ?_) | (simp; done) | (simp; omega) | omega)); done)
                | (refine (OwnIV.set (OwnIV.set (OwnIV.set HO.out ?_ _) ?_ _) ?_ _).ints <;> simp <;> omega)
            case rest =>
              obtain ⟨B20, q20, c20, rfl, rfl, ⟨m0, m1, m2⟩, hv20, hB20, hb⟩ := hcut
              obtain ⟨W7, hW7⟩ : ∃ W7 : World, W7 = wc := ⟨_, rfl⟩
              subst hW7
              have hsz9 := hb.size
              replace x0 := (hb.cell (p := ⟨w.heap.size, 0, none⟩) (show w.heap.size < W6.heap.size by omega)).trans x0
              replace y0 := (hb.cell (p := ⟨w.heap.size + 1, 0, none⟩) (show w.heap.size + 1 < W6.heap.size by omega)).trans y0
              replace x1 := (hb.cell (p := ⟨w.heap.size, 1, none⟩) (show w.heap.size < W6.heap.size by omega)).trans x1
              replace y1 := (hb.cell (p := ⟨w.heap.size + 1, 1, none⟩) (show w.heap.size + 1 < W6.heap.size by omega)).trans y1
              replace x2 := (hb.cell (p := ⟨w.heap.size, 2, none⟩) (show w.heap.size < W6.heap.size by omega)).trans x2
              replace y2 := (hb.cell (p := ⟨w.heap.size + 1, 2, none⟩) (show w.heap.size + 1 < W6.heap.size by omega)).trans y2
              replace x3 := (hb.cell (p := ⟨w.heap.size, 3, none⟩) (show w.heap.size < W6.heap.size by omega)).trans x3
              replace y3 := (hb.cell (p := ⟨w.heap.size + 1, 3, none⟩) (show w.heap.size + 1 < W6.heap.size by omega)).trans y3
              replace ib0 := (hb.cell (p := ⟨B10, 0, none⟩) hB10).trans ib0
              replace ib1 := (hb.cell (p := ⟨B10, 1, none⟩) hB10).trans ib1
              replace ib2 := (hb.cell (p := ⟨B10, 2, none⟩) hB10).trans ib2
              replace o0 := (hb.cell (p := ⟨O, 0, none⟩) hltO).trans o0
              replace o1 := (hb.cell (p := ⟨O, 1, none⟩) hltO).trans o1
              replace o2 := (hb.cell (p := ⟨O, 2, none⟩) hltO).trans o2
              replace u0 := (hb.cell (p := ⟨B16, 0, none⟩) hB16).trans u0
              replace u1 := (hb.cell (p := ⟨B16, 1, none⟩) hB16).trans u1
              replace u2 := (hb.cell (p := ⟨B16, 2, none⟩) hB16).trans u2
              replace v0 := (hb.cell (p := ⟨B18, 0, none⟩) hB18).trans v0
              replace v1 := (hb.cell (p := ⟨B18, 1, none⟩) hB18).trans v1
              replace v2 := (hb.cell (p := ⟨B18, 2, none⟩) hB18).trans v2
              replace HB := Lib.hid (HB.out.trans (hb.mono HB.out.size))
              replace hwx : w.heap.size + 1 < W7.heap.size := by omega
              replace HDT := Lib.hid (HDT.out.below hb)
              replace HTS := Lib.hid (HTS.out.below (by first | exact hgt' | omega) hb)
              replace HF1 := Lib.hid (HF1.out.below hb)
              replace HF2 := Lib.hid (HF2.out.below hb)
              replace hB10 : B10 < W7.heap.size := by omega
              replace hltO : O < W7.heap.size := by omega
              replace hgt' : gt < W7.heap.size := by omega
              replace hB16 : B16 < W7.heap.size := by omega
              replace hB18 : B18 < W7.heap.size := by omega
              have HV20 := Lib.hid hv20
              clear hb hv20
              go_upto_region 25 with (fail)
              go_cut [22, 23] from 118 to 123 (fun X Y wx => ∃ B q c, X = .pointer (some ⟨B, 0, none⟩) ∧ Y = .int .i64 0 ∧ ImgBlk wx B L S q n c ∧ IntsV wx (.slice q n c) ys ∧ B < wx.heap.size ∧ Below W7.heap.size W7 wx)
              case first =>
                go_wp2_with (first | (go_at_call 32; (with_reducible refine (HP2.out _ _ _ (HF2.out.below (by (repeat' (first | with_reducible exact Below.refl _ _ | (with_reducible refine below_later_of ?_ ?_ _) | (with_reducible refine Below.alloc ?_ ?_ _) | (with_reducible refine Below.setCell ?_ ?_ _) | (with_reducible refine Below.drew ?_) | (simp; done) | (simp; omega) | omega))))).mono ?_); rintro e w' ⟨q6, c6, rfl, ho, hb⟩; have HO := Lib.hid ho; clear ho; obtain ⟨pq, rfl⟩ := later_of_below hb; clear hb))
                go_meet
                refine ⟨_, q6, c6, rfl, rfl, ⟨(by (first | (simp [go_sem]; done) | simp [go_sem, ↓IntWalk.iteOmega])), (by (first | (simp [go_sem]; done) | simp [go_sem, ↓IntWalk.iteOmega])), (by (first | (simp [go_sem]; done) | simp [go_sem, ↓IntWalk.iteOmega]))⟩, ?_, by simp <;> omega, (by (repeat' (first | with_reducible exact Below.refl _ _ | (with_reducible refine below_later_of ?_ ?_ _) | (with_reducible refine Below.alloc ?_ ?_ _) | (with_reducible refine Below.setCell ?_ ?_ _) | (with_reducible refine Below.drew ?_) | (simp; done) | (simp; omega) | omega)))⟩
                first
                  | (refine (HO.out.below ?_).ints; (repeat' (first | with_reducible exact Below.refl _ _ | (with_reducible refine below_later_of ?_ ?_ _) | (with_reducible refine Below.alloc ?_ ?_ _) | (with_reducible refine Below.setCell ?_ ?_ _) | (with_reducible refine Below.drew ?_) | (simp; done) | (simp; omega) | omega)); done)
                  | (refine (OwnIV.set (OwnIV.set (OwnIV.set HO.out ?_ _) ?_ _) ?_ _).ints <;> simp <;> omega)
              case rest =>
                obtain ⟨B22, q22, c22, rfl, rfl, ⟨p0, p1, p2⟩, hv22, hB22, hb⟩ := hcut
                obtain ⟨W8, hW8⟩ : ∃ W8 : World, W8 = wc := ⟨_, rfl⟩
                subst hW8
                have hsz9 := hb.size
                replace x0 := (hb.cell (p := ⟨w.heap.size, 0, none⟩) (show w.heap.size < W7.heap.size by omega)).trans x0
                replace y0 := (hb.cell (p := ⟨w.heap.size + 1, 0, none⟩) (show w.heap.size + 1 < W7.heap.size by omega)).trans y0
                replace x1 := (hb.cell (p := ⟨w.heap.size, 1, none⟩) (show w.heap.size < W7.heap.size by omega)).trans x1
                replace y1 := (hb.cell (p := ⟨w.heap.size + 1, 1, none⟩) (show w.heap.size + 1 < W7.heap.size by omega)).trans y1
                replace x2 := (hb.cell (p := ⟨w.heap.size, 2, none⟩) (show w.heap.size < W7.heap.size by omega)).trans x2
                replace y2 := (hb.cell (p := ⟨w.heap.size + 1, 2, none⟩) (show w.heap.size + 1 < W7.heap.size by omega)).trans y2
                replace x3 := (hb.cell (p := ⟨w.heap.size, 3, none⟩) (show w.heap.size < W7.heap.size by omega)).trans x3
                replace y3 := (hb.cell (p := ⟨w.heap.size + 1, 3, none⟩) (show w.heap.size + 1 < W7.heap.size by omega)).trans y3
                replace ib0 := (hb.cell (p := ⟨B10, 0, none⟩) hB10).trans ib0
                replace ib1 := (hb.cell (p := ⟨B10, 1, none⟩) hB10).trans ib1
                replace ib2 := (hb.cell (p := ⟨B10, 2, none⟩) hB10).trans ib2
                replace o0 := (hb.cell (p := ⟨O, 0, none⟩) hltO).trans o0
                replace o1 := (hb.cell (p := ⟨O, 1, none⟩) hltO).trans o1
                replace o2 := (hb.cell (p := ⟨O, 2, none⟩) hltO).trans o2
                replace u0 := (hb.cell (p := ⟨B16, 0, none⟩) hB16).trans u0
                replace u1 := (hb.cell (p := ⟨B16, 1, none⟩) hB16).trans u1
                replace u2 := (hb.cell (p := ⟨B16, 2, none⟩) hB16).trans u2
                replace v0 := (hb.cell (p := ⟨B18, 0, none⟩) hB18).trans v0
                replace v1 := (hb.cell (p := ⟨B18, 1, none⟩) hB18).trans v1
                replace v2 := (hb.cell (p := ⟨B18, 2, none⟩) hB18).trans v2
                replace m0 := (hb.cell (p := ⟨B20, 0, none⟩) hB20).trans m0
                replace m1 := (hb.cell (p := ⟨B20, 1, none⟩) hB20).trans m1
                replace m2 := (hb.cell (p := ⟨B20, 2, none⟩) hB20).trans m2
                replace HB := Lib.hid (HB.out.trans (hb.mono HB.out.size))
                replace hwx : w.heap.size + 1 < W8.heap.size := by omega
                replace HDT := Lib.hid (HDT.out.below hb)
                replace HTS := Lib.hid (HTS.out.below (by first | exact hgt' | omega) hb)
                replace HF1 := Lib.hid (HF1.out.below hb)
                replace HF2 := Lib.hid (HF2.out.below hb)
                replace HV20 := Lib.hid (HV20.out.below hb)
                replace hB10 : B10 < W8.heap.size := by omega
                replace hltO : O < W8.heap.size := by omega
                replace hgt' : gt < W8.heap.size := by omega
                replace hB16 : B16 < W8.heap.size := by omega
                replace hB18 : B18 < W8.heap.size := by omega
                replace hB20 : B20 < W8.heap.size := by omega
                have HV22 := Lib.hid hv22
                clear hb hv22
                have HIX := Lib.hid (show ∀ W, Below W8.heap.size W8 W → _ from fun W hW => HIX0.out W (HB.out.trans (hW.mono HB.out.size)))
                have HIY := Lib.hid (show ∀ W, Below W8.heap.size W8 W → _ from fun W hW => HIY0.out W (HB.out.trans (hW.mono HB.out.size)))
                go_wp2_with fail
                go_cut [24, 25] from 123 to 131 (fun X Y wx => ∃ B q c, X = .pointer (some ⟨B, 0, none⟩) ∧ Y = .int .i64 0 ∧ ImgBlk wx B L S q n c ∧ FlV wx (.slice q n c) ds ∧ B < wx.heap.size ∧ Below W8.heap.size W8 wx)
                case first =>
                  go_region_held3 (fun w' => (w'.cell? ⟨w.heap.size, 0, none⟩ = some (.int .i64 L) ∧ w'.cell? ⟨w.heap.size, 1, none⟩ = some (.int .i64 S) ∧ w'.cell? ⟨w.heap.size, 2, none⟩ = some (.slice x.pa x.m x.pc) ∧ w'.cell? ⟨w.heap.size, 3, none⟩ = some (.slice x.ca x.mc x.cc)) ∧ (w'.cell? ⟨w.heap.size + 1, 0, none⟩ = some (.int .i64 y.L) ∧ w'.cell? ⟨w.heap.size + 1, 1, none⟩ = some (.int .i64 y.S) ∧ w'.cell? ⟨w.heap.size + 1, 2, none⟩ = some (.slice y.pa y.m y.pc) ∧ w'.cell? ⟨w.heap.size + 1, 3, none⟩ = some (.slice y.ca y.mc y.cc))) (first | exact ⟨⟨x0, x1, x2, x3⟩, y0, y1, y2, y3⟩ | ((first | (simp [go_sem, x0, x1, x2, x3, y0, y1, y2, y3, o0, o1, o2]; done) | simp [go_sem, x0, x1, x2, x3, y0, y1, y2, y3, o0, o1, o2, ↓IntWalk.iteOmega]); done)) (first | (go_at_call 27; (with_reducible refine (HIX.out _ (by (repeat' (first | with_reducible exact Below.refl _ _ | (with_reducible refine below_later_of ?_ ?_ _) | (with_reducible refine Below.alloc ?_ ?_ _) | (with_reducible refine Below.setCell ?_ ?_ _) | (with_reducible refine Below.drew ?_) | (simp; done) | (simp; omega) | omega)))).mono ?_); rintro e w' ⟨a1, c1, rfl, ha, -, hb⟩; have HA1 := Lib.hid ha; clear ha; obtain ⟨pq, rfl⟩ := later_of_below hb; clear hb) | (go_at_call 27; (with_reducible refine (HIY.out _ (by (repeat' (first | with_reducible exact Below.refl _ _ | (with_reducible refine below_later_of ?_ ?_ _) | (with_reducible refine Below.alloc ?_ ?_ _) | (with_reducible refine Below.setCell ?_ ?_ _) | (with_reducible refine Below.drew ?_) | (simp; done) | (simp; omega) | omega)))).mono ?_); rintro e w' ⟨a2, c2, rfl, ha, -, hb⟩; have HA2 := Lib.hid ha; clear ha; obtain ⟨pq, rfl⟩ := later_of_below hb; clear hb) | (go_at_call 39; (with_reducible refine (coh_det (L : Int) (S : Int) n c1 f a1 y.L y.S (y.m / 2) c2 (smp y.p) a2 1 _ (by omega) (by omega) (dataAt_own HA1.out (by (repeat' (first | with_reducible exact Below.refl _ _ | (with_reducible refine below_later_of ?_ ?_ _) | (with_reducible refine Below.alloc ?_ ?_ _) | (with_reducible refine Below.setCell ?_ ?_ _) | (with_reducible refine Below.drew ?_) | (simp; done) | (simp; omega) | omega)))) (dataAt_own HA2.out (by (repeat' (first | with_reducible exact Below.refl _ _ | (with_reducible refine below_later_of ?_ ?_ _) | (with_reducible refine Below.alloc ?_ ?_ _) | (with_reducible refine Below.setCell ?_ ?_ _) | (with_reducible refine Below.drew ?_) | (simp; done) | (simp; omega) | omega)))) HC1.out).mono ?_); rintro e w' ⟨l5, s5, n5, a5, c5, rfl, hok, hb⟩; obtain ⟨rfl, rfl, rfl, hok1⟩ := hok.ok rfl; have HOK := Lib.hid hok1; clear hok hok1; obtain ⟨pq, rfl⟩ := later_of_below hb; clear hb))
                  all_goals
                    rename_i hheld
                    clear hheld
                    go_wp2_with fail
                    go_meet
                    have HOK9 := HOK.out
                    rw [HDS.out] at HOK9
                    refine ⟨_, a5, c5, rfl, rfl, ⟨(by (first | (simp [go_sem]; done) | simp [go_sem, ↓IntWalk.iteOmega])), (by (first | (simp [go_sem]; done) | simp [go_sem, ↓IntWalk.iteOmega])), (by (first | (simp [go_sem]; done) | simp [go_sem, ↓IntWalk.iteOmega]))⟩, ?_, by simp <;> omega, (by (repeat' (first | with_reducible exact Below.refl _ _ | (with_reducible refine below_later_of ?_ ?_ _) | (with_reducible refine Below.alloc ?_ ?_ _) | (with_reducible refine Below.setCell ?_ ?_ _) | (with_reducible refine Below.drew ?_) | (simp; done) | (simp; omega) | omega)))⟩
                    first
                      | (refine (HOK9.below ?_).fl; (repeat' (first | with_reducible exact Below.refl _ _ | (with_reducible refine below_later_of ?_ ?_ _) | (with_reducible refine Below.alloc ?_ ?_ _) | (with_reducible refine Below.setCell ?_ ?_ _) | (with_reducible refine Below.drew ?_) | (simp; done) | (simp; omega) | omega)); done)
                      | (refine (OwnFV.set (OwnFV.set (OwnFV.set HOK9 ?_ _) ?_ _) ?_ _).fl <;> simp <;> omega)
                case rest =>
                  obtain ⟨B24, q24, c24, rfl, rfl, ⟨s0, s1, s2⟩, hv24, hB24, hb⟩ := hcut
                  obtain ⟨W9, hW9⟩ : ∃ W9 : World, W9 = wc := ⟨_, rfl⟩
                  subst hW9
                  have hsz9 := hb.size
                  replace x0 := (hb.cell (p := ⟨w.heap.size, 0, none⟩) (show w.heap.size < W8.heap.size by omega)).trans x0
                  replace y0 := (hb.cell (p := ⟨w.heap.size + 1, 0, none⟩) (show w.heap.size + 1 < W8.heap.size by omega)).trans y0
                  replace x1 := (hb.cell (p := ⟨w.heap.size, 1, none⟩) (show w.heap.size < W8.heap.size by omega)).trans x1
                  replace y1 := (hb.cell (p := ⟨w.heap.size + 1, 1, none⟩) (show w.heap.size + 1 < W8.heap.size by omega)).trans y1
                  replace x2 := (hb.cell (p := ⟨w.heap.size, 2, none⟩) (show w.heap.size < W8.heap.size by omega)).trans x2
                  replace y2 := (hb.cell (p := ⟨w.heap.size + 1, 2, none⟩) (show w.heap.size + 1 < W8.heap.size by omega)).trans y2
                  replace x3 := (hb.cell (p := ⟨w.heap.size, 3, none⟩) (show w.heap.size < W8.heap.size by omega)).trans x3
                  replace y3 := (hb.cell (p := ⟨w.heap.size + 1, 3, none⟩) (show w.heap.size + 1 < W8.heap.size by omega)).trans y3
                  replace ib0 := (hb.cell (p := ⟨B10, 0, none⟩) hB10).trans ib0
                  replace ib1 := (hb.cell (p := ⟨B10, 1, none⟩) hB10).trans ib1
                  replace ib2 := (hb.cell (p := ⟨B10, 2, none⟩) hB10).trans ib2
                  replace o0 := (hb.cell (p := ⟨O, 0, none⟩) hltO).trans o0
                  replace o1 := (hb.cell (p := ⟨O, 1, none⟩) hltO).trans o1
                  replace o2 := (hb.cell (p := ⟨O, 2, none⟩) hltO).trans o2
                  replace u0 := (hb.cell (p := ⟨B16, 0, none⟩) hB16).trans u0
                  replace u1 := (hb.cell (p := ⟨B16, 1, none⟩) hB16).trans u1
                  replace u2 := (hb.cell (p := ⟨B16, 2, none⟩) hB16).trans u2
                  replace v0 := (hb.cell (p := ⟨B18, 0, none⟩) hB18).trans v0
                  replace v1 := (hb.cell (p := ⟨B18, 1, none⟩) hB18).trans v1
                  replace v2 := (hb.cell (p := ⟨B18, 2, none⟩) hB18).trans v2
                  replace m0 := (hb.cell (p := ⟨B20, 0, none⟩) hB20).trans m0
                  replace m1 := (hb.cell (p := ⟨B20, 1, none⟩) hB20).trans m1
                  replace m2 := (hb.cell (p := ⟨B20, 2, none⟩) hB20).trans m2
                  replace p0 := (hb.cell (p := ⟨B22, 0, none⟩) hB22).trans p0
                  replace p1 := (hb.cell (p := ⟨B22, 1, none⟩) hB22).trans p1
                  replace p2 := (hb.cell (p := ⟨B22, 2, none⟩) hB22).trans p2
                  replace HB := Lib.hid (HB.out.trans (hb.mono HB.out.size))
                  replace hwx : w.heap.size + 1 < W9.heap.size := by omega
                  replace HDT := Lib.hid (HDT.out.below hb)
                  replace HTS := Lib.hid (HTS.out.below (by first | exact hgt' | omega) hb)
                  replace HF1 := Lib.hid (HF1.out.below hb)
                  replace HF2 := Lib.hid (HF2.out.below hb)
                  replace HV20 := Lib.hid (HV20.out.below hb)
                  replace HV22 := Lib.hid (HV22.out.below hb)
                  replace hB10 : B10 < W9.heap.size := by omega
                  replace hltO : O < W9.heap.size := by omega
                  replace hgt' : gt < W9.heap.size := by omega
                  replace hB16 : B16 < W9.heap.size := by omega
                  replace hB18 : B18 < W9.heap.size := by omega
                  replace hB20 : B20 < W9.heap.size := by omega
                  replace hB22 : B22 < W9.heap.size := by omega
                  have HV24 := Lib.hid hv24
                  clear hb hv24
                  have HIX := Lib.hid (show ∀ W, Below W9.heap.size W9 W → _ from fun W hW => HIX0.out W (HB.out.trans (hW.mono HB.out.size)))
                  have HIY := Lib.hid (show ∀ W, Below W9.heap.size W9 W → _ from fun W hW => HIY0.out W (HB.out.trans (hW.mono HB.out.size)))
                  go_wp2_with fail
                  go_cut [26, 27] from 131 to 138 (fun X Y wx => ∃ B q c, X = .pointer (some ⟨B, 0, none⟩) ∧ Y = .int .i64 0 ∧ ImgBlk wx B L S q n c ∧ FlV wx (.slice q n c) ds ∧ B < wx.heap.size ∧ Below W9.heap.size W9 wx)
                  case first =>
                    go_region_held3 (fun w' => (w'.cell? ⟨O, 0, none⟩ = some (.int .i64 L) ∧ w'.cell? ⟨O, 1, none⟩ = some (.int .i64 S) ∧ w'.cell? ⟨O, 2, none⟩ = some (.slice (some ⟨gt, 0, none⟩) n ct)) ∧ (w'.cell? ⟨w.heap.size + 1, 0, none⟩ = some (.int .i64 y.L) ∧ w'.cell? ⟨w.heap.size + 1, 1, none⟩ = some (.int .i64 y.S) ∧ w'.cell? ⟨w.heap.size + 1, 2, none⟩ = some (.slice y.pa y.m y.pc) ∧ w'.cell? ⟨w.heap.size + 1, 3, none⟩ = some (.slice y.ca y.mc y.cc))) (first | exact ⟨⟨o0, o1, o2⟩, y0, y1, y2, y3⟩ | ((first | (simp [go_sem, x0, x1, x2, x3, y0, y1, y2, y3, o0, o1, o2]; done) | simp [go_sem, x0, x1, x2, x3, y0, y1, y2, y3, o0, o1, o2, ↓IntWalk.iteOmega]); done)) (first | (go_at_call 27; (with_reducible refine (HIY.out _ (by (repeat' (first | with_reducible exact Below.refl _ _ | (with_reducible refine below_later_of ?_ ?_ _) | (with_reducible refine Below.alloc ?_ ?_ _) | (with_reducible refine Below.setCell ?_ ?_ _) | (with_reducible refine Below.drew ?_) | (simp; done) | (simp; omega) | omega)))).mono ?_); rintro e w' ⟨a2, c2, rfl, ha, -, hb⟩; have HA2 := Lib.hid ha; clear ha; obtain ⟨pq, rfl⟩ := later_of_below hb; clear hb) | (go_at_call 39; (with_reducible refine (coh_det (L : Int) (S : Int) n ct G (some ⟨gt, 0, none⟩) y.L y.S (y.m / 2) c2 (smp y.p) a2 1 _ (by omega) (by omega) (HDT.out.below (by (repeat' (first | with_reducible exact Below.refl _ _ | (with_reducible refine below_later_of ?_ ?_ _) | (with_reducible refine Below.alloc ?_ ?_ _) | (with_reducible refine Below.setCell ?_ ?_ _) | (with_reducible refine Below.drew ?_) | (simp; done) | (simp; omega) | omega)))) (dataAt_own HA2.out (by (repeat' (first | with_reducible exact Below.refl _ _ | (with_reducible refine below_later_of ?_ ?_ _) | (with_reducible refine Below.alloc ?_ ?_ _) | (with_reducible refine Below.setCell ?_ ?_ _) | (with_reducible refine Below.drew ?_) | (simp; done) | (simp; omega) | omega)))) HC2.out).mono ?_); rintro e w' ⟨l5, s5, n5, a5, c5, rfl, hok, hb⟩; obtain ⟨rfl, rfl, rfl, hok1⟩ := hok.ok rfl; have HOK := Lib.hid hok1; clear hok hok1; obtain ⟨pq, rfl⟩ := later_of_below hb; clear hb))
                    all_goals
                      rename_i hheld
                      clear hheld
                      go_wp2_with fail
                      go_meet
                      have HOK9 := HOK.out
                      rw [HCD.out] at HOK9
                      rw [HDS.out] at HOK9
                      refine ⟨_, a5, c5, rfl, rfl, ⟨(by (first | (simp [go_sem]; done) | simp [go_sem, ↓IntWalk.iteOmega])), (by (first | (simp [go_sem]; done) | simp [go_sem, ↓IntWalk.iteOmega])), (by (first | (simp [go_sem]; done) | simp [go_sem, ↓IntWalk.iteOmega]))⟩, ?_, by simp <;> omega, (by (repeat' (first | with_reducible exact Below.refl _ _ | (with_reducible refine below_later_of ?_ ?_ _) | (with_reducible refine Below.alloc ?_ ?_ _) | (with_reducible refine Below.setCell ?_ ?_ _) | (with_reducible refine Below.drew ?_) | (simp; done) | (simp; omega) | omega)))⟩
                      first
                        | (refine (HOK9.below ?_).fl; (repeat' (first | with_reducible exact Below.refl _ _ | (with_reducible refine below_later_of ?_ ?_ _) | (with_reducible refine Below.alloc ?_ ?_ _) | (with_reducible refine Below.setCell ?_ ?_ _) | (with_reducible refine Below.drew ?_) | (simp; done) | (simp; omega) | omega)); done)
                        | (refine (OwnFV.set (OwnFV.set (OwnFV.set HOK9 ?_ _) ?_ _) ?_ _).fl <;> simp <;> omega)
                  case rest =>
                    obtain ⟨B26, q26, c26, rfl, rfl, ⟨t0, t1, t2⟩, hv26, hB26, hb⟩ := hcut
                    obtain ⟨W10, hW10⟩ : ∃ W10 : World, W10 = wc := ⟨_, rfl⟩
                    subst hW10
                    have hsz9 := hb.size
                    replace x0 := (hb.cell (p := ⟨w.heap.size, 0, none⟩) (show w.heap.size < W9.heap.size by omega)).trans x0
                    replace y0 := (hb.cell (p := ⟨w.heap.size + 1, 0, none⟩) (show w.heap.size + 1 < W9.heap.size by omega)).trans y0
                    replace x1 := (hb.cell (p := ⟨w.heap.size, 1, none⟩) (show w.heap.size < W9.heap.size by omega)).trans x1
                    replace y1 := (hb.cell (p := ⟨w.heap.size + 1, 1, none⟩) (show w.heap.size + 1 < W9.heap.size by omega)).trans y1
                    replace x2 := (hb.cell (p := ⟨w.heap.size, 2, none⟩) (show w.heap.size < W9.heap.size by omega)).trans x2
                    replace y2 := (hb.cell (p := ⟨w.heap.size + 1, 2, none⟩) (show w.heap.size + 1 < W9.heap.size by omega)).trans y2
                    replace x3 := (hb.cell (p := ⟨w.heap.size, 3, none⟩) (show w.heap.size < W9.heap.size by omega)).trans x3
                    replace y3 := (hb.cell (p := ⟨w.heap.size + 1, 3, none⟩) (show w.heap.size + 1 < W9.heap.size by omega)).trans y3
                    replace ib0 := (hb.cell (p := ⟨B10, 0, none⟩) hB10).trans ib0
                    replace ib1 := (hb.cell (p := ⟨B10, 1, none⟩) hB10).trans ib1
                    replace ib2 := (hb.cell (p := ⟨B10, 2, none⟩) hB10).trans ib2
                    replace o0 := (hb.cell (p := ⟨O, 0, none⟩) hltO).trans o0
                    replace o1 := (hb.cell (p := ⟨O, 1, none⟩) hltO).trans o1
                    replace o2 := (hb.cell (p := ⟨O, 2, none⟩) hltO).trans o2
                    replace u0 := (hb.cell (p := ⟨B16, 0, none⟩) hB16).trans u0
                    replace u1 := (hb.cell (p := ⟨B16, 1, none⟩) hB16).trans u1
                    replace u2 := (hb.cell (p := ⟨B16, 2, none⟩) hB16).trans u2
                    replace v0 := (hb.cell (p := ⟨B18, 0, none⟩) hB18).trans v0
                    replace v1 := (hb.cell (p := ⟨B18, 1, none⟩) hB18).trans v1
                    replace v2 := (hb.cell (p := ⟨B18, 2, none⟩) hB18).trans v2
                    replace m0 := (hb.cell (p := ⟨B20, 0, none⟩) hB20).trans m0
                    replace m1 := (hb.cell (p := ⟨B20, 1, none⟩) hB20).trans m1
                    replace m2 := (hb.cell (p := ⟨B20, 2, none⟩) hB20).trans m2
                    replace p0 := (hb.cell (p := ⟨B22, 0, none⟩) hB22).trans p0
                    replace p1 := (hb.cell (p := ⟨B22, 1, none⟩) hB22).trans p1
                    replace p2 := (hb.cell (p := ⟨B22, 2, none⟩) hB22).trans p2
                    replace s0 := (hb.cell (p := ⟨B24, 0, none⟩) hB24).trans s0
                    replace s1 := (hb.cell (p := ⟨B24, 1, none⟩) hB24).trans s1
                    replace s2 := (hb.cell (p := ⟨B24, 2, none⟩) hB24).trans s2
                    replace HB := Lib.hid (HB.out.trans (hb.mono HB.out.size))
                    replace hwx : w.heap.size + 1 < W10.heap.size := by omega
                    replace HDT := Lib.hid (HDT.out.below hb)
                    replace HTS := Lib.hid (HTS.out.below (by first | exact hgt' | omega) hb)
                    replace HF1 := Lib.hid (HF1.out.below hb)
                    replace HF2 := Lib.hid (HF2.out.below hb)
                    replace HV20 := Lib.hid (HV20.out.below hb)
                    replace HV22 := Lib.hid (HV22.out.below hb)
                    replace HV24 := Lib.hid (HV24.out.below hb)
                    replace hB10 : B10 < W10.heap.size := by omega
                    replace hltO : O < W10.heap.size := by omega
                    replace hgt' : gt < W10.heap.size := by omega
                    replace hB16 : B16 < W10.heap.size := by omega
                    replace hB18 : B18 < W10.heap.size := by omega
                    replace hB20 : B20 < W10.heap.size := by omega
                    replace hB22 : B22 < W10.heap.size := by omega
                    replace hB24 : B24 < W10.heap.size := by omega
                    have HV26 := Lib.hid hv26
                    clear hb hv26
                    have HFL1 := HV24
                    have HFL2 := HV26
                    have hnn2 : ((n : Int) != (n : Int)) = false := bne_self_eq_false _
                    obtain ⟨hlz, hly⟩ := HLZ.out
                    obtain ⟨-, az, cz, hez, hz5⟩ := HV20.out
                    obtain ⟨-, ay, cy, hey, hy5⟩ := HV22.out
                    simp only [Value.slice.injEq] at hez hey
                    obtain ⟨rfl, -, rfl⟩ := hez
                    obtain ⟨rfl, -, rfl⟩ := hey
                    obtain ⟨gz, oz, rfl, hgz, hcz⟩ := hz5 (by omega)
                    obtain ⟨gy, oy, rfl, hgy, hcy⟩ := hy5 (by omega)
                    have HCZ := Lib.hid (show ∀ k, k < n → W10.cell? ⟨gz, oz + k, none⟩ = some (.int .i64 (intAt zs k)) from fun k hk => hcz k (by omega))
                    have HCY := Lib.hid (show ∀ k, k < n → W10.cell? ⟨gy, oy + k, none⟩ = some (.int .i64 (intAt ys k)) from fun k hk => hcy k (by omega))
                    have hL0 : zs.length = n := hlz
                    clear hz5 hy5 hcz hcy hlz hly x0 x1 x2 x3 y0 y1 y2 y3 o0 o1 o2 u0 u1 u2 v0 v1 v2 HIX HIY
                    go_wp2_with (first | (go_at_call 40; (with_reducible refine (sameFlMap_true _ _ ds _ _ _ (HFL1.out.below (by (repeat' (first | with_reducible exact Below.refl _ _ | (with_reducible refine below_later_of ?_ ?_ _) | (with_reducible refine Below.alloc ?_ ?_ _) | (with_reducible refine Below.setCell ?_ ?_ _) | (with_reducible refine Below.drew ?_) | (simp; done) | (simp; omega) | omega)))) (HFL2.out.below (by (repeat' (first | with_reducible exact Below.refl _ _ | (with_reducible refine below_later_of ?_ ?_ _) | (with_reducible refine Below.alloc ?_ ?_ _) | (with_reducible refine Below.setCell ?_ ?_ _) | (with_reducible refine Below.drew ?_) | (simp; done) | (simp; omega) | omega))))).mono ?_); rintro e w' ⟨rfl, hb⟩; obtain ⟨pq, rfl⟩ := later_of_below hb; clear hb))
                    go_loopw [28] (fun i wr => ∃ k : Nat, k ≤ n ∧ i = .int .i64 k ∧ Below W10.heap.size W10 wr) (fun i _ => n - (intOf i).toNat)
                    case atStart => exact ⟨0, Nat.zero_le _, rfl, (by (repeat' (first | with_reducible exact Below.refl _ _ | (with_reducible refine below_later_of ?_ ?_ _) | (with_reducible refine Below.alloc ?_ ?_ _) | (with_reducible refine Below.setCell ?_ ?_ _) | (with_reducible refine Below.drew ?_) | (simp; done) | (simp; omega) | omega)))⟩
                    case round =>
                      obtain ⟨k, hk, rfl, hbz⟩ := hrel
                      have HBZ := Lib.hid hbz
                      have hsz := hbz.size
                      have d20 := (hbz.cell (p := ⟨B20, 2, none⟩) hB20).trans m2
                      have d22 := (hbz.cell (p := ⟨B22, 2, none⟩) hB22).trans p2
                      have t20 : B20 < wr.heap.size := by omega
                      have t22 : B22 < wr.heap.size := by omega
                      by_cases hlt : k < n
                      · have hdk : decide ((k : Int) < (n : Int)) = true := by simp; omega
                        have hk0 : (0 : Int) ≤ (k : Int) := by omega
                        have hk1 : (k : Int) < (n : Int) := by omega
                        have e0 := (hbz.cell (p := ⟨gz, oz + k, none⟩) hgz).trans (HCZ.out k hlt)
                        have e1 := (hbz.cell (p := ⟨gy, oy + k, none⟩) hgy).trans (HCY.out k hlt)
                        have t1 : gz < wr.heap.size := by omega
                        have t2 : gy < wr.heap.size := by omega
                        obtain ⟨f1, f2⟩ := HTT.out k hlt
                        by_cases hv : intAt zs k = 1000000000000
                        · rw [hv] at e0
                          rw [f1 hv] at e1
                          clear hbz f1 f2 hv
                          go_wp2
                          refine wp_region_calm (by kernel_rfl) (by kernel_rfl) ?_
                          repeat (go_big_quiet_step (fail))
                          refine wpQuiet_nil ?_
                          rintro _ ⟨pp, rfl⟩
                          go_wp2
                          go_roundw
                          case rel => exact ⟨k + 1, by omega, by go_num, HBZ.out.trans (below_mono_of hsz (by (repeat' (first | with_reducible exact Below.refl _ _ | (with_reducible refine below_later_of ?_ ?_ _) | (with_reducible refine Below.alloc ?_ ?_ _) | (with_reducible refine Below.setCell ?_ ?_ _) | (with_reducible refine Below.drew ?_) | (simp; done) | (simp; omega) | omega))))⟩
                          case measure => simp [intOf]; omega
                        · obtain ⟨b0, b1, f3⟩ := f2 hv
                          have hne1 : (intAt zs k == 1000000000000) = false := by simpa using hv
                          have hne2 : (intAt zs k != 1000000000000) = true := by simpa using hv
                          have HWR := Lib.hid (fun w => bWrp (intAt zs k + 1024 * (q : Int)) w (by omega) (by omega) (v := intAt ys k) f3.symm)
                          generalize intAt zs k = zv at *
                          generalize intAt ys k = yv at *
                          have hyy : (yv != yv) = false := bne_self_eq_false _
                          clear hbz f1 f2 hv f3
                          go_wp2
                          refine wp_region_calm (by kernel_rfl) (by kernel_rfl) ?_
                          repeat (go_big_quiet_step ((go_at_call 20; exact calm_same (HWR.out _))))
                          refine wpQuiet_nil ?_
                          rintro _ ⟨pp, rfl⟩
                          go_wp2
                          go_roundw
                          case rel => exact ⟨k + 1, by omega, by go_num, HBZ.out.trans (below_mono_of hsz (by (repeat' (first | with_reducible exact Below.refl _ _ | (with_reducible refine below_later_of ?_ ?_ _) | (with_reducible refine Below.alloc ?_ ?_ _) | (with_reducible refine Below.setCell ?_ ?_ _) | (with_reducible refine Below.drew ?_) | (simp; done) | (simp; omega) | omega))))⟩
                          case measure => simp [intOf]; omega
                      · obtain rfl : n = k := by omega
                        have hdk : decide ((n : Int) < (n : Int)) = false := by simp
                        have k20 := (hbz.cell (p := ⟨B20, 0, none⟩) hB20).trans m0
                        have k21 := (hbz.cell (p := ⟨B20, 1, none⟩) hB20).trans m1
                        have k22 := (hbz.cell (p := ⟨B22, 0, none⟩) hB22).trans p0
                        have k23 := (hbz.cell (p := ⟨B22, 1, none⟩) hB22).trans p1
                        obtain ⟨D, hD⟩ : ∃ D, resM L S zs = D := ⟨_, rfl⟩
                        have hD2 : resM L S ys = D := HRES.out.trans hD
                        have HRS1 := Lib.hid (show ∀ W, Below wr.heap.size wr W → Calls Try.prog 21 #[.agg #[.int .i64 L, .int .i64 S, .slice (some ⟨gz, oz, none⟩) n c20]] W fun e w' => ∃ u, e = .returned (.tuple #[u, .int .i64 0]) ∧ RsV w' u D ∧ Below W.heap.size W w' from fun W hW => by
                          have := fResidues_ok L S zs _ W HM1.out ((HV20.out.below hbz).below hW)
                          rw [hD] at this
                          exact this)
                        have HRS2 := Lib.hid (show ∀ W, Below wr.heap.size wr W → Calls Try.prog 21 #[.agg #[.int .i64 L, .int .i64 S, .slice (some ⟨gy, oy, none⟩) n c22]] W fun e w' => ∃ u, e = .returned (.tuple #[u, .int .i64 0]) ∧ RsV w' u D ∧ Below W.heap.size W w' from fun W hW => by
                          have := fResidues_ok L S ys _ W HM2.out ((HV22.out.below hbz).below hW)
                          rw [hD2] at this
                          exact this)
                        have hdd : ((D.length : Int) != (D.length : Int)) = false := bne_self_eq_false _
                        have HB11 := Lib.hid (HB.out.trans (hbz.mono HB.out.size))
                        clear hbz hD hD2
                        go_wp2_with (first | (go_at_call 21; (with_reducible refine (HRS1.out _ (by (repeat' (first | with_reducible exact Below.refl _ _ | (with_reducible refine below_later_of ?_ ?_ _) | (with_reducible refine Below.alloc ?_ ?_ _) | (with_reducible refine Below.setCell ?_ ?_ _) | (with_reducible refine Below.drew ?_) | (simp; done) | (simp; omega) | omega)))).mono ?_); rintro e w' ⟨u7, rfl, hr, hb⟩; have hr9 := hr; obtain ⟨-, r7, k7, rfl, -⟩ := hr; have HR7 := Lib.hid hr9; clear hr9; obtain ⟨pq, rfl⟩ := later_of_below hb; clear hb) | (go_at_call 21; (with_reducible refine (HRS2.out _ (by (repeat' (first | with_reducible exact Below.refl _ _ | (with_reducible refine below_later_of ?_ ?_ _) | (with_reducible refine Below.alloc ?_ ?_ _) | (with_reducible refine Below.setCell ?_ ?_ _) | (with_reducible refine Below.drew ?_) | (simp; done) | (simp; omega) | omega)))).mono ?_); rintro e w' ⟨u8, rfl, hr, hb⟩; have hr9 := hr; obtain ⟨-, r8, k8, rfl, -⟩ := hr; have HR8 := Lib.hid hr9; clear hr9; obtain ⟨pq, rfl⟩ := later_of_below hb; clear hb))
                        refine any_worldF (fun W => RsV W (.slice r7 D.length k7) D ∧ RsV W (.slice r8 D.length k8) D ∧ Below w.heap.size w W) ⟨HR7.out.below (by (repeat' (first | with_reducible exact Below.refl _ _ | (with_reducible refine below_later_of ?_ ?_ _) | (with_reducible refine Below.alloc ?_ ?_ _) | (with_reducible refine Below.setCell ?_ ?_ _) | (with_reducible refine Below.drew ?_) | (simp; done) | (simp; omega) | omega))), HR8.out.below (by (repeat' (first | with_reducible exact Below.refl _ _ | (with_reducible refine below_later_of ?_ ?_ _) | (with_reducible refine Below.alloc ?_ ?_ _) | (with_reducible refine Below.setCell ?_ ?_ _) | (with_reducible refine Below.drew ?_) | (simp; done) | (simp; omega) | omega))), HB11.out.trans (below_mono_of HB11.out.size (by (repeat' (first | with_reducible exact Below.refl _ _ | (with_reducible refine below_later_of ?_ ?_ _) | (with_reducible refine Below.alloc ?_ ?_ _) | (with_reducible refine Below.setCell ?_ ?_ _) | (with_reducible refine Below.drew ?_) | (simp; done) | (simp; omega) | omega))))⟩ ?_
                        rintro W11 ⟨hx7, hx8, hb11⟩
                        have HBF := Lib.hid hb11
                        obtain ⟨hdl, a7, cc7, he7, hx7⟩ := hx7
                        obtain ⟨-, a8, cc8, he8, hx8⟩ := hx8
                        simp only [Value.slice.injEq, true_and] at he7 he8
                        obtain ⟨rfl, rfl⟩ := he7
                        obtain ⟨rfl, rfl⟩ := he8
                        have HX7 := Lib.hid hx7
                        have HX8 := Lib.hid hx8
                        obtain ⟨nd, hnd⟩ : ∃ nd, D.length = nd := ⟨_, rfl⟩
                        have HND := Lib.hid hnd
                        rw [hnd] at HX7 HX8 hdl ⊢
                        clear hb11 hx7 hx8 hnd hdd k20 k21 k22 k23 d20 d22 HR7 HR8 HRS1 HRS2
                        go_loopw [33] (fun i wq => ∃ j : Nat, j ≤ nd ∧ i = .int .i64 j ∧ Below W11.heap.size W11 wq) (fun i _ => nd - (intOf i).toNat)
                        case atStart => exact ⟨0, Nat.zero_le _, rfl, Below.refl _ _⟩
                        case round =>
                          obtain ⟨j, hj, rfl, hnx⟩ := hrel
                          have HX := Lib.hid hnx
                          have hsz2 := hnx.size
                          by_cases hltj : j < nd
                          · obtain ⟨b, rfl, hbw, hcx⟩ := HX7.out (by omega)
                            obtain ⟨b', rfl, hbw', hcy⟩ := HX8.out (by omega)
                            obtain ⟨xr, hxr⟩ : ∃ x, D[j]? = some x := ⟨_, List.getElem?_eq_getElem (by rw [HND.out]; exact hltj)⟩
                            obtain ⟨e0, e1, e2⟩ := hcx j xr hxr
                            obtain ⟨f0, f1, f2⟩ := hcy j xr hxr
                            obtain ⟨r, c, t⟩ := xr
                            dsimp only at e0 e1 e2 f0 f1 f2
                            replace e0 := (hnx.cell (p := ⟨b, j * 3, none⟩) hbw).trans e0
                            replace e1 := (hnx.cell (p := ⟨b, j * 3 + 1, none⟩) hbw).trans e1
                            replace e2 := (hnx.cell (p := ⟨b, j * 3 + 2, none⟩) hbw).trans e2
                            replace f0 := (hnx.cell (p := ⟨b', j * 3, none⟩) hbw').trans f0
                            replace f1 := (hnx.cell (p := ⟨b', j * 3 + 1, none⟩) hbw').trans f1
                            replace f2 := (hnx.cell (p := ⟨b', j * 3 + 2, none⟩) hbw').trans f2
                            have hbr : b < wr.heap.size := by omega
                            have hbr' : b' < wr.heap.size := by omega
                            have hdj : decide ((j : Int) < (nd : Int)) = true := by simp; omega
                            have hj0 : (0 : Int) ≤ (j : Int) := by omega
                            have hj1 : (j : Int) < (nd : Int) := by omega
                            have d1 : ((r : Int) == (r : Int)) = true := by simp
                            have d2 : ((c : Int) == (c : Int)) = true := by simp
                            have d3 : (t == t) = true := by simp
                            clear hnx hcx hcy hxr
                            go_wp2
                            refine wp_region_calm (by kernel_rfl) (by kernel_rfl) ?_
                            repeat (go_big_quiet_step (fail))
                            refine wpQuiet_nil ?_
                            rintro _ ⟨pp, rfl⟩
                            go_wp2
                            go_roundw
                            case rel => exact ⟨j + 1, by omega, by go_num, HX.out.trans (below_mono_of hsz2 (by (repeat' (first | with_reducible exact Below.refl _ _ | (with_reducible refine below_later_of ?_ ?_ _) | (with_reducible refine Below.alloc ?_ ?_ _) | (with_reducible refine Below.setCell ?_ ?_ _) | (with_reducible refine Below.drew ?_) | (simp; done) | (simp; omega) | omega))))⟩
                            case measure => simp [intOf]; omega
                          · obtain rfl : j = nd := by omega
                            have hdj : decide ((j : Int) < (j : Int)) = false := by simp
                            clear hnx
                            go_wp2
                            go_ret
                            exact ⟨rfl, HBF.out.trans (HX.out.mono HBF.out.size)⟩
end Go.Proofs.Ytcmjlfhnibjofaa
