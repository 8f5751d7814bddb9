/- Chapter 4: the law FringeInterferes returns true. -/
import Derived.Test.YtfiioadmpjmmgaaDoorX27
import Derived.Deep.CutRange
import Derived.Deep.RegionHeld3
namespace Go.Proofs.YtfiioadmpjmmgaaDoor
set_option linter.unusedVariables false
set_option linter.unusedSimpArgs false
open Go.RowKit Ieee Ntt
theorem any_worldI {G : World → Prop} {w : World} (F : World → Prop) (hf : F w) (h : ∀ W, F W → G W) : G w := h w hf
/-- A field that is returned, its size in integers. -/
def RfPostI (L S : Int) (n : Nat) (f : Nat → Nat × Nat) (w : World) (e : Ending) (w' : World) : Prop :=
  ∃ a c, e = .returned (.agg #[.int .i64 L, .int .i64 S, .slice a n c]) ∧ OwnS w' w.heap.size n f a ∧ n ≤ c ∧ Below w.heap.size w w'
theorem rInterfere_of {L S : Int} {n n' : Nat} {f f' : Nat → Nat × Nat} (hL : 0 ≤ L) (hS : 0 ≤ S) (hn : n ≤ 5000) (h0 : 0 < n) (hnn : n' = n) (hX : SmallS n f (xB f) (yB f) 2047) (hU : SmallS n' f' (xB f') (yB f') 2047) (W : World) (a1 : Option Addr) (c1 : Nat) (a2 : Option Addr) (c2 : Nat) {B1 B2 : Nat} {Wa Wb : World} {L' S' : Int}
    (h1 : 0 < n → ∃ g, a1 = some ⟨g, 0, none⟩ ∧ B1 ≤ g ∧ g < Wa.heap.size ∧ SamplesAt Wa g 0 n f) (b1 : Below Wa.heap.size Wa W) (h2 : 0 < n' → ∃ g, a2 = some ⟨g, 0, none⟩ ∧ B2 ≤ g ∧ g < Wb.heap.size ∧ SamplesAt Wb g 0 n' f') (b2 : Below Wb.heap.size Wb W) :
    Calls Tryd.prog 16 #[.agg #[.int .i64 L, .int .i64 S, .slice a1 n c1], .agg #[.int .i64 L', .int .i64 S', .slice a2 n' c2]] W (RfPostI L S n (ifB f f') W) := by
  subst hnn
  obtain ⟨L, rfl⟩ := Int.eq_ofNat_of_zero_le hL
  obtain ⟨S, rfl⟩ := Int.eq_ofNat_of_zero_le hS
  obtain ⟨g1, rfl, -, hg1, hs1⟩ := h1 h0
  obtain ⟨g2, rfl, -, hg2, hs2⟩ := h2 h0
  exact rInterfere L S n' c1 c2 g1 0 g2 0 f f' W L' S' hn (by have := b1.size; omega) (by have := b2.size; omega) (hs1.below hg1 b1) (hs2.below hg2 b2) hX hU
theorem sameFd_of {L S : Int} {n : Nat} {f : Nat → Nat × Nat} (hn : n ≤ 5000) (W : World) (a : Option Addr) (c : Nat) (a' : Option Addr) (c' : Nat) {Wa Wb : World} (h1 : OwnS Wa 0 n f a) (b1 : Below Wa.heap.size Wa W) (h2 : OwnS Wb 0 n f a') (b2 : Below Wb.heap.size Wb W) :
    Calls Tryd.prog 15 #[.agg #[.int .i64 L, .int .i64 S, .slice a n c], .agg #[.int .i64 L, .int .i64 S, .slice a' n c']] W fun e w' => e = .returned (.bool true) ∧ Below W.heap.size W w' :=
  sameFd_any L S L S n n f f _ _ W (sumV_ownF (h1.below b1) (by omega)) (sumV_ownF (h2.below b2) (by omega)) ⟨fun _ => ⟨rfl, rfl, rfl, fun _ _ => rfl⟩, fun _ => rfl⟩
theorem mul_swap (x y u v : Int) : (u * x + v * y = x * u + y * v) ∧ v * x - u * y = -(y * u - x * v) := by grind
/-- The interferogram turned round is the conjugate. -/
theorem ifB_conj {f f' : Nat → Nat × Nat} {n : Nat} (hX : SmallS n f (xB f) (yB f) 2047) (hU : SmallS n f' (xB f') (yB f') 2047) {k : Nat} (hk : k < n) :
    (FloatKind.f64.format.order (ifB f' f k).1 (ifB f f' k).1 == some Ordering.eq) = true ∧ (FloatKind.f64.format.order (ifB f' f k).2 (Op.negFloat .f64 (ifB f f' k).2) == some Ordering.eq) = true := by
  have b1 := intfF_bd (hX k hk).2 (hU k hk).2
  have b2 := intfF_bd (hU k hk).2 (hX k hk).2
  obtain ⟨e1, e2⟩ := mul_swap (xB f k) (yB f k) (xB f' k) (yB f' k)
  have g1 : (intfF (xB f') (yB f') (xB f) (yB f) k).1 = (intfF (xB f) (yB f) (xB f') (yB f') k).1 := e1
  have g2 : (intfF (xB f') (yB f') (xB f) (yB f) k).2 = -(intfF (xB f) (yB f) (xB f') (yB f') k).2 := e2
  unfold ifB nmF
  dsimp only
  rw [g1, g2]
  rw [g1, g2] at b2
  generalize (intfF (xB f) (yB f) (xB f') (yB f') k).1 = p at *
  generalize (intfF (xB f) (yB f) (xB f') (yB f') k).2 = q at *
  constructor
  · rw [show FloatKind.f64.format.order (f64I p) (f64I p) = some (compare p p) from order_num _ (f64I_num (by omega)) (f64I_num (by omega)), beq_eq_iff]
    simp
  · rw [show FloatKind.f64.format.order (f64I (-q)) (Op.negFloat .f64 (f64I q)) = some (compare (-q) (-q)) from order_num _ (f64I_num (by omega)) (neg_num (f64I_lt _) (f64I_num (by omega))), beq_eq_iff]
    simp
set_option maxRecDepth 20000 in
set_option maxHeartbeats 40000000 in
theorem interferes_any (x y : Scn) (w : World) (hx : x.At w) (hy : y.At w) (ht : Tab w) :
    Calls Tryd.prog 3 #[.agg #[.int .i64 x.L, .int .i64 x.S, .slice x.pa x.m x.pc, .slice x.ca x.mc x.cc], .agg #[.int .i64 y.L, .int .i64 y.S, .slice y.pa y.m y.pc, .slice y.ca y.mc y.cc]] w fun e w' => e = .returned (.bool true) ∧ Below w.heap.size w w' := by
  have HT := Lib.hid ht
  clear ht
  rcases (show smallB x = false ∨ smallB x = true by cases smallB x <;> simp) with hq | hq
  · have HSX := Lib.hid (fun w => lSmall x w hq)
    clear hx hy hq
    go_enter Tryd.func3, Tryd.ntmps3
    go_wp2_with (first | (go_at_call 9; (with_reducible refine (awake4 _ (HT.out.below (by (repeat' (first | with_reducible exact Below.refl _ _ | (with_reducible refine below_later_of ?_ ?_ _) | (with_reducible refine Below.alloc ?_ ?_ _) | (with_reducible refine Below.setCell ?_ ?_ _) | (with_reducible refine Below.drew ?_) | (simp; done) | (simp; omega) | omega))))).mono ?_); rintro e w' ⟨rfl, hb⟩; obtain ⟨pp, rfl⟩ := later_of_below hb; clear hb) | (go_at_call 10; (with_reducible refine (HSX.out _).mono ?_); rintro e w' ⟨rfl, hb⟩; obtain ⟨pp2, rfl⟩ := later_of_below hb; clear hb))
    go_ret
    exact ⟨rfl, (by (repeat' (first | with_reducible exact Below.refl _ _ | (with_reducible refine below_later_of ?_ ?_ _) | (with_reducible refine Below.alloc ?_ ?_ _) | (with_reducible refine Below.setCell ?_ ?_ _) | (with_reducible refine Below.drew ?_) | (simp; done) | (simp; omega) | omega)))⟩
  · have HSX := Lib.hid (fun w => lSmall x w hq)
    obtain ⟨q1, q2⟩ := smallB_ok hq
    rcases (show smallB y = false ∨ smallB y = true by cases smallB y <;> simp) with hr | hr
    · have HSY := Lib.hid (fun w => lSmall y w hr)
      clear hx hy hq hr
      go_enter Tryd.func3, Tryd.ntmps3
      go_wp2_with (first | (go_at_call 9; (with_reducible refine (awake4 _ (HT.out.below (by (repeat' (first | with_reducible exact Below.refl _ _ | (with_reducible refine below_later_of ?_ ?_ _) | (with_reducible refine Below.alloc ?_ ?_ _) | (with_reducible refine Below.setCell ?_ ?_ _) | (with_reducible refine Below.drew ?_) | (simp; done) | (simp; omega) | omega))))).mono ?_); rintro e w' ⟨rfl, hb⟩; obtain ⟨pp, rfl⟩ := later_of_below hb; clear hb) | (go_at_call 10; (with_reducible refine (HSX.out _).mono ?_); rintro e w' ⟨rfl, hb⟩; obtain ⟨pp2, rfl⟩ := later_of_below hb; clear hb) | (go_at_call 10; (with_reducible refine (HSY.out _).mono ?_); rintro e w' ⟨rfl, hb⟩; obtain ⟨pp3, rfl⟩ := later_of_below hb; clear hb))
      go_ret
      exact ⟨rfl, (by (repeat' (first | with_reducible exact Below.refl _ _ | (with_reducible refine below_later_of ?_ ?_ _) | (with_reducible refine Below.alloc ?_ ?_ _) | (with_reducible refine Below.setCell ?_ ?_ _) | (with_reducible refine Below.drew ?_) | (simp; done) | (simp; omega) | omega)))⟩
    · have HSY := Lib.hid (fun w => lSmall y w hr)
      obtain ⟨r1, r2⟩ := smallB_ok hr
      have HIX0 := Lib.hid (show ∀ W, Below w.heap.size w W → _ from fun W hW => lImage x W (by omega) (hx.below hW))
      have HIY0 := Lib.hid (show ∀ W, Below w.heap.size w W → _ from fun W hW => lImage y W (by omega) (hy.below hW))
      obtain ⟨E, hE⟩ : ∃ E, scnE x y = E := ⟨_, rfl⟩
      have HE := Lib.hid (show pairE x.L x.S (x.m / 2) (smp x.p) y.L y.S (y.m / 2) (smp y.p) = E from hE)
      have HPA := Lib.hid (show ∀ W, Below w.heap.size w W → _ from fun W hW => lPair x y W (hx.below hW) (hy.below hW) (by omega) (by omega) hE)
      clear hq hr hE hx hy
      go_enter Tryd.func3, Tryd.ntmps3
      go_wp2_with (first | (go_at_call 9; (with_reducible refine (awake4 _ (HT.out.below (by (repeat' (first | with_reducible exact Below.refl _ _ | (with_reducible refine below_later_of ?_ ?_ _) | (with_reducible refine Below.alloc ?_ ?_ _) | (with_reducible refine Below.setCell ?_ ?_ _) | (with_reducible refine Below.drew ?_) | (simp; done) | (simp; omega) | omega))))).mono ?_); rintro e w' ⟨rfl, hb⟩; obtain ⟨pp, rfl⟩ := later_of_below hb; clear hb) | (go_at_call 10; (with_reducible refine (HSX.out _).mono ?_); rintro e w' ⟨rfl, hb⟩; obtain ⟨pp2, rfl⟩ := later_of_below hb; clear hb) | (go_at_call 10; (with_reducible refine (HSY.out _).mono ?_); rintro e w' ⟨rfl, hb⟩; obtain ⟨pp3, rfl⟩ := later_of_below hb; clear hb))
      refine any_worldI (fun w' => (w'.cell? ⟨w.heap.size, 0, none⟩ = some (.int .i64 x.L) ∧ w'.cell? ⟨w.heap.size, 1, none⟩ = some (.int .i64 x.S) ∧ w'.cell? ⟨w.heap.size, 2, none⟩ = some (.slice x.pa x.m x.pc) ∧ w'.cell? ⟨w.heap.size, 3, none⟩ = some (.slice x.ca x.mc x.cc)) ∧ (w'.cell? ⟨w.heap.size + 1, 0, none⟩ = some (.int .i64 y.L) ∧ w'.cell? ⟨w.heap.size + 1, 1, none⟩ = some (.int .i64 y.S) ∧ w'.cell? ⟨w.heap.size + 1, 2, none⟩ = some (.slice y.pa y.m y.pc) ∧ w'.cell? ⟨w.heap.size + 1, 3, none⟩ = some (.slice y.ca y.mc y.cc)) ∧ Below w.heap.size w w' ∧ w.heap.size + 1 < w'.heap.size) ⟨⟨(by (first | (simp [go_sem]; done) | simp [go_sem, ↓IntWalk.iteOmega])), (by (first | (simp [go_sem]; done) | simp [go_sem, ↓IntWalk.iteOmega])), (by (first | (simp [go_sem]; done) | simp [go_sem, ↓IntWalk.iteOmega])), (by (first | (simp [go_sem]; done) | simp [go_sem, ↓IntWalk.iteOmega]))⟩, ⟨(by (first | (simp [go_sem]; done) | simp [go_sem, ↓IntWalk.iteOmega])), (by (first | (simp [go_sem]; done) | simp [go_sem, ↓IntWalk.iteOmega])), (by (first | (simp [go_sem]; done) | simp [go_sem, ↓IntWalk.iteOmega])), (by (first | (simp [go_sem]; done) | simp [go_sem, ↓IntWalk.iteOmega]))⟩, (by (repeat' (first | with_reducible exact Below.refl _ _ | (with_reducible refine below_later_of ?_ ?_ _) | (with_reducible refine Below.alloc ?_ ?_ _) | (with_reducible refine Below.setCell ?_ ?_ _) | (with_reducible refine Below.drew ?_) | (simp; done) | (simp; omega) | omega))), by simp; omega⟩ ?_
      rintro W1 ⟨⟨k0, k1, k2, k3⟩, ⟨j0, j1, j2, j3⟩, hb1, hlt1⟩
      have HB1 := Lib.hid hb1
      have hs1 := hb1.size
      have HIX := Lib.hid (show ∀ W, Below W1.heap.size W1 W → _ from fun W hW => HIX0.out W (HB1.out.trans (hW.mono hs1)))
      have HIY := Lib.hid (show ∀ W, Below W1.heap.size W1 W → _ from fun W hW => HIY0.out W (HB1.out.trans (hW.mono hs1)))
      clear hb1
      go_wp2_with fail
      go_cut [5, 6] from 21 to 29 (fun X Y wx => ∃ B l s n' a c, X = .pointer (some ⟨B, 0, none⟩) ∧ Y = .int .i64 E ∧ ImgBlk wx B l s a n' c ∧ IfSay wx 0 x.L x.S (x.m / 2) (ifB (smp x.p) (smp y.p)) E l s n' a ∧ B < wx.heap.size ∧ Below W1.heap.size W1 wx)
      case first =>
        go_region_held3 (fun w' => w'.cell? ⟨w.heap.size, 0, none⟩ = some (.int .i64 x.L) ∧ w'.cell? ⟨w.heap.size, 1, none⟩ = some (.int .i64 x.S) ∧ w'.cell? ⟨w.heap.size, 2, none⟩ = some (.slice x.pa x.m x.pc) ∧ w'.cell? ⟨w.heap.size, 3, none⟩ = some (.slice x.ca x.mc x.cc) ∧ w'.cell? ⟨w.heap.size + 1, 0, none⟩ = some (.int .i64 y.L) ∧ w'.cell? ⟨w.heap.size + 1, 1, none⟩ = some (.int .i64 y.S) ∧ w'.cell? ⟨w.heap.size + 1, 2, none⟩ = some (.slice y.pa y.m y.pc) ∧ w'.cell? ⟨w.heap.size + 1, 3, none⟩ = some (.slice y.ca y.mc y.cc)) (first | exact ⟨k0, k1, k2, k3, j0, j1, j2, j3⟩ | ((first | (simp [go_sem, k0, k1, k2, k3, j0, j1, j2, j3]; done) | simp [go_sem, k0, k1, k2, k3, j0, j1, j2, j3, ↓IntWalk.iteOmega]); done)) (first | (go_at_call 12; (with_reducible refine (HIX.out _ (by (repeat' (first | with_reducible exact Below.refl _ _ | (with_reducible refine below_later_of ?_ ?_ _) | (with_reducible refine Below.alloc ?_ ?_ _) | (with_reducible refine Below.setCell ?_ ?_ _) | (with_reducible refine Below.drew ?_) | (simp; done) | (simp; omega) | omega)))).mono ?_); rintro e w' ⟨a1, c1, rfl, ha, -, hb⟩; have HA1 := Lib.hid ha; clear ha; obtain ⟨q1, rfl⟩ := later_of_below hb; clear hb) | (go_at_call 12; (with_reducible refine (HIY.out _ (by (repeat' (first | with_reducible exact Below.refl _ _ | (with_reducible refine below_later_of ?_ ?_ _) | (with_reducible refine Below.alloc ?_ ?_ _) | (with_reducible refine Below.setCell ?_ ?_ _) | (with_reducible refine Below.drew ?_) | (simp; done) | (simp; omega) | omega)))).mono ?_); rintro e w' ⟨a2, c2, rfl, ha, -, hb⟩; have HA2 := Lib.hid ha; clear ha; obtain ⟨q2, rfl⟩ := later_of_below hb; clear hb) | (go_at_call 11; (with_reducible refine (interfere_det x.L x.S (x.m / 2) c1 (smp x.p) a1 y.L y.S (y.m / 2) c2 (smp y.p) a2 _ (by omega) (by omega) (dataAt_own HA1.out (by (repeat' (first | with_reducible exact Below.refl _ _ | (with_reducible refine below_later_of ?_ ?_ _) | (with_reducible refine Below.alloc ?_ ?_ _) | (with_reducible refine Below.setCell ?_ ?_ _) | (with_reducible refine Below.drew ?_) | (simp; done) | (simp; omega) | omega)))) (dataAt_own HA2.out (by (repeat' (first | with_reducible exact Below.refl _ _ | (with_reducible refine below_later_of ?_ ?_ _) | (with_reducible refine Below.alloc ?_ ?_ _) | (with_reducible refine Below.setCell ?_ ?_ _) | (with_reducible refine Below.drew ?_) | (simp; done) | (simp; omega) | omega)))) HE.out).mono ?_); rintro e w' ⟨l5, s5, n5, a5, c5, rfl, hok, -, hb⟩; have HOK := Lib.hid hok; clear hok; obtain ⟨q3, rfl⟩ := later_of_below hb; clear hb))
        all_goals
          rename_i hheld
          clear hheld
          go_wp2_with fail
          go_meet
          refine ⟨_, l5, s5, n5, a5, c5, rfl, rfl, ⟨(by (first | (simp [go_sem]; done) | simp [go_sem, ↓IntWalk.iteOmega])), (by (first | (simp [go_sem]; done) | simp [go_sem, ↓IntWalk.iteOmega])), (by (first | (simp [go_sem]; done) | simp [go_sem, ↓IntWalk.iteOmega]))⟩, ?_, by simp <;> omega, (by (repeat' (first | with_reducible exact Below.refl _ _ | (with_reducible refine below_later_of ?_ ?_ _) | (with_reducible refine Below.alloc ?_ ?_ _) | (with_reducible refine Below.setCell ?_ ?_ _) | (with_reducible refine Below.drew ?_) | (simp; done) | (simp; omega) | omega)))⟩
          first
            | (refine (HOK.out.below ?_).mono (Nat.zero_le _); (repeat' (first | with_reducible exact Below.refl _ _ | (with_reducible refine below_later_of ?_ ?_ _) | (with_reducible refine Below.alloc ?_ ?_ _) | (with_reducible refine Below.setCell ?_ ?_ _) | (with_reducible refine Below.drew ?_) | (simp; done) | (simp; omega) | omega)); done)
            | (refine (IfSay.set (IfSay.set (IfSay.set HOK.out ?_ _) ?_ _) ?_ _).mono (Nat.zero_le _) <;> simp <;> omega)
      case rest =>
        obtain ⟨B5, l, s, n', aq, cq, rfl, rfl, hi5, hok, hB5, hb⟩ := hcut
        obtain ⟨W3, hW3⟩ : ∃ W3 : World, W3 = wc := ⟨_, rfl⟩
        subst hW3
        have hs3 := hb.size
        have HB3 := Lib.hid (HB1.out.trans (hb.mono hs1))
        have m0 := (hb.cell (p := ⟨w.heap.size, 0, none⟩) (by simp; omega)).trans k0
        have m1 := (hb.cell (p := ⟨w.heap.size, 1, none⟩) (by simp; omega)).trans k1
        have m2 := (hb.cell (p := ⟨w.heap.size, 2, none⟩) (by simp; omega)).trans k2
        have m3 := (hb.cell (p := ⟨w.heap.size, 3, none⟩) (by simp; omega)).trans k3
        have n0 := (hb.cell (p := ⟨w.heap.size + 1, 0, none⟩) (by simp; omega)).trans j0
        have n1 := (hb.cell (p := ⟨w.heap.size + 1, 1, none⟩) (by simp; omega)).trans j1
        have n2 := (hb.cell (p := ⟨w.heap.size + 1, 2, none⟩) (by simp; omega)).trans j2
        have n3 := (hb.cell (p := ⟨w.heap.size + 1, 3, none⟩) (by simp; omega)).trans j3
        have HPA := Lib.hid (show ∀ W, Below W3.heap.size W3 W → _ from fun W hW => HPA.out W (HB3.out.trans (hW.mono HB3.out.size)))
        obtain ⟨i0, i1, i2⟩ := hi5
        have hw3 : w.heap.size + 1 < W3.heap.size := by omega
        by_cases hE0 : E = 0
        · subst hE0
          obtain ⟨rfl, rfl, rfl, hown⟩ := hok.1 rfl
          obtain ⟨e1, e2, hLL, hSS⟩ := pairE_zero HE.out
          obtain ⟨s1, g1⟩ := imgE_zero e1
          obtain ⟨s2, g2⟩ := imgE_zero e2
          obtain ⟨⟨l1, l2⟩, ⟨l3, l4⟩, hn⟩ := sizeE_okU s1
          obtain ⟨-, -, hn'⟩ := sizeE_okU s2
          have hX : SmallS (x.m / 2) (smp x.p) (xB (smp x.p)) (yB (smp x.p)) 2047 := smallS_of (by decide) g1
          have hU0 : SmallS (y.m / 2) (smp y.p) (xB (smp y.p)) (yB (smp y.p)) 2047 := smallS_of (by decide) g2
          have HE2 := Lib.hid (show pairE y.L y.S (y.m / 2) (smp y.p) x.L x.S (x.m / 2) (smp x.p) = 0 by unfold pairE; rw [e1, e2]; simp [first2, hLL, hSS])
          have hnn : y.m / 2 = x.m / 2 := by
            have e : x.L * x.S = y.L * y.S := by rw [hLL, hSS]
            omega
          have hn5 : x.m / 2 ≤ 5000 := by omega
          have hpos : 0 < x.m / 2 := by
            have := Int.mul_pos (show 0 < x.L by omega) (show 0 < x.S by omega)
            omega
          have hL0 : 0 ≤ x.L := by omega
          have hS0 : 0 ≤ x.S := by omega
          have HX := Lib.hid hX
          have HU := Lib.hid hU0
          have HCJ := Lib.hid (fun k hk => ifB_conj (f := smp x.p) (f' := smp y.p) (n := x.m / 2) (k := k) hX (by rw [← hnn]; exact hU0) hk)
          have HNN := Lib.hid hnn
          clear hnn hLL hSS hX hU0 HE hok e1 e2 s1 s2 g1 g2 l1 l2 l3 l4 hn hn' k0 k1 k2 k3 j0 j1 j2 j3
          go_wp2_with (first | (go_at_call 13; (with_reducible refine (HPA.out _ (by (repeat' (first | with_reducible exact Below.refl _ _ | (with_reducible refine below_later_of ?_ ?_ _) | (with_reducible refine Below.alloc ?_ ?_ _) | (with_reducible refine Below.setCell ?_ ?_ _) | (with_reducible refine Below.drew ?_) | (simp; done) | (simp; omega) | omega)))).mono ?_); rintro e w' ⟨rfl, hb⟩; obtain ⟨q4, rfl⟩ := later_of_below hb; clear hb))
          refine any_worldI (fun w' => (w'.cell? ⟨w.heap.size, 0, none⟩ = some (.int .i64 x.L) ∧ w'.cell? ⟨w.heap.size, 1, none⟩ = some (.int .i64 x.S) ∧ w'.cell? ⟨w.heap.size, 2, none⟩ = some (.slice x.pa x.m x.pc) ∧ w'.cell? ⟨w.heap.size, 3, none⟩ = some (.slice x.ca x.mc x.cc)) ∧ (w'.cell? ⟨w.heap.size + 1, 0, none⟩ = some (.int .i64 y.L) ∧ w'.cell? ⟨w.heap.size + 1, 1, none⟩ = some (.int .i64 y.S) ∧ w'.cell? ⟨w.heap.size + 1, 2, none⟩ = some (.slice y.pa y.m y.pc) ∧ w'.cell? ⟨w.heap.size + 1, 3, none⟩ = some (.slice y.ca y.mc y.cc)) ∧ (w'.cell? ⟨B5, 0, none⟩ = some (.int .i64 x.L) ∧ w'.cell? ⟨B5, 1, none⟩ = some (.int .i64 x.S) ∧ w'.cell? ⟨B5, 2, none⟩ = some (.slice aq (x.m / 2) cq)) ∧ OwnS w' 0 (x.m / 2) (ifB (smp x.p) (smp y.p)) aq ∧ Below w.heap.size w w' ∧ (w.heap.size + 1 < w'.heap.size ∧ B5 < w'.heap.size)) ⟨⟨(by (first | (simp [go_sem, m0, m1, m2, m3, n0, n1, n2, n3, i0, i1, i2]; done) | simp [go_sem, m0, m1, m2, m3, n0, n1, n2, n3, i0, i1, i2, ↓IntWalk.iteOmega])), (by (first | (simp [go_sem, m0, m1, m2, m3, n0, n1, n2, n3, i0, i1, i2]; done) | simp [go_sem, m0, m1, m2, m3, n0, n1, n2, n3, i0, i1, i2, ↓IntWalk.iteOmega])), (by (first | (simp [go_sem, m0, m1, m2, m3, n0, n1, n2, n3, i0, i1, i2]; done) | simp [go_sem, m0, m1, m2, m3, n0, n1, n2, n3, i0, i1, i2, ↓IntWalk.iteOmega])), (by (first | (simp [go_sem, m0, m1, m2, m3, n0, n1, n2, n3, i0, i1, i2]; done) | simp [go_sem, m0, m1, m2, m3, n0, n1, n2, n3, i0, i1, i2, ↓IntWalk.iteOmega]))⟩, ⟨(by (first | (simp [go_sem, m0, m1, m2, m3, n0, n1, n2, n3, i0, i1, i2]; done) | simp [go_sem, m0, m1, m2, m3, n0, n1, n2, n3, i0, i1, i2, ↓IntWalk.iteOmega])), (by (first | (simp [go_sem, m0, m1, m2, m3, n0, n1, n2, n3, i0, i1, i2]; done) | simp [go_sem, m0, m1, m2, m3, n0, n1, n2, n3, i0, i1, i2, ↓IntWalk.iteOmega])), (by (first | (simp [go_sem, m0, m1, m2, m3, n0, n1, n2, n3, i0, i1, i2]; done) | simp [go_sem, m0, m1, m2, m3, n0, n1, n2, n3, i0, i1, i2, ↓IntWalk.iteOmega])), (by (first | (simp [go_sem, m0, m1, m2, m3, n0, n1, n2, n3, i0, i1, i2]; done) | simp [go_sem, m0, m1, m2, m3, n0, n1, n2, n3, i0, i1, i2, ↓IntWalk.iteOmega]))⟩, ⟨(by (first | (simp [go_sem, m0, m1, m2, m3, n0, n1, n2, n3, i0, i1, i2]; done) | simp [go_sem, m0, m1, m2, m3, n0, n1, n2, n3, i0, i1, i2, ↓IntWalk.iteOmega])), (by (first | (simp [go_sem, m0, m1, m2, m3, n0, n1, n2, n3, i0, i1, i2]; done) | simp [go_sem, m0, m1, m2, m3, n0, n1, n2, n3, i0, i1, i2, ↓IntWalk.iteOmega])), (by (first | (simp [go_sem, m0, m1, m2, m3, n0, n1, n2, n3, i0, i1, i2]; done) | simp [go_sem, m0, m1, m2, m3, n0, n1, n2, n3, i0, i1, i2, ↓IntWalk.iteOmega]))⟩, hown.below (below_later _ _), HB3.out.trans (below_mono_of HB3.out.size (by (repeat' (first | with_reducible exact Below.refl _ _ | (with_reducible refine below_later_of ?_ ?_ _) | (with_reducible refine Below.alloc ?_ ?_ _) | (with_reducible refine Below.setCell ?_ ?_ _) | (with_reducible refine Below.drew ?_) | (simp; done) | (simp; omega) | omega)))), by simp; omega, by simp; omega⟩ ?_
          clear hb HB3 m0 m1 m2 m3 n0 n1 n2 n3 i0 i1 i2 hown HPA HIX HIY HB1
          rintro W4 ⟨⟨k0, k1, k2, k3⟩, ⟨j0, j1, j2, j3⟩, ⟨i0, i1, i2⟩, hown, hb4, hw4, hB4⟩
          have HB4 := Lib.hid hb4
          have hs4 := hb4.size
          have HFW := Lib.hid hown
          have HIX := Lib.hid (show ∀ W, Below W4.heap.size W4 W → _ from fun W hW => HIX0.out W (HB4.out.trans (hW.mono hs4)))
          have HIY := Lib.hid (show ∀ W, Below W4.heap.size W4 W → _ from fun W hW => HIY0.out W (HB4.out.trans (hW.mono hs4)))
          clear hb4 hown
          go_wp2_with fail
          go_cut [52] from 41 to 52 (fun X wx => X = .bool false ∧ Below W4.heap.size W4 wx)
          case first =>
            go_region_held3 (fun w' => (w'.cell? ⟨w.heap.size, 0, none⟩ = some (.int .i64 x.L) ∧ w'.cell? ⟨w.heap.size, 1, none⟩ = some (.int .i64 x.S) ∧ w'.cell? ⟨w.heap.size, 2, none⟩ = some (.slice x.pa x.m x.pc) ∧ w'.cell? ⟨w.heap.size, 3, none⟩ = some (.slice x.ca x.mc x.cc)) ∧ (w'.cell? ⟨w.heap.size + 1, 0, none⟩ = some (.int .i64 y.L) ∧ w'.cell? ⟨w.heap.size + 1, 1, none⟩ = some (.int .i64 y.S) ∧ w'.cell? ⟨w.heap.size + 1, 2, none⟩ = some (.slice y.pa y.m y.pc) ∧ w'.cell? ⟨w.heap.size + 1, 3, none⟩ = some (.slice y.ca y.mc y.cc)) ∧ (w'.cell? ⟨B5, 0, none⟩ = some (.int .i64 x.L) ∧ w'.cell? ⟨B5, 1, none⟩ = some (.int .i64 x.S) ∧ w'.cell? ⟨B5, 2, none⟩ = some (.slice aq (x.m / 2) cq))) (first | exact ⟨⟨k0, k1, k2, k3⟩, ⟨j0, j1, j2, j3⟩, i0, i1, i2⟩ | ((first | (simp [go_sem, k0, k1, k2, k3, j0, j1, j2, j3, i0, i1, i2]; done) | simp [go_sem, k0, k1, k2, k3, j0, j1, j2, j3, i0, i1, i2, ↓IntWalk.iteOmega]); done)) (first | (go_at_call 12; (with_reducible refine (HIX.out _ (by (repeat' (first | with_reducible exact Below.refl _ _ | (with_reducible refine below_later_of ?_ ?_ _) | (with_reducible refine Below.alloc ?_ ?_ _) | (with_reducible refine Below.setCell ?_ ?_ _) | (with_reducible refine Below.drew ?_) | (simp; done) | (simp; omega) | omega)))).mono ?_); rintro e w' ⟨a1, c1, rfl, ha, -, hb⟩; have HA1 := Lib.hid ha; clear ha; obtain ⟨q1, rfl⟩ := later_of_below hb; clear hb) | (go_at_call 12; (with_reducible refine (HIY.out _ (by (repeat' (first | with_reducible exact Below.refl _ _ | (with_reducible refine below_later_of ?_ ?_ _) | (with_reducible refine Below.alloc ?_ ?_ _) | (with_reducible refine Below.setCell ?_ ?_ _) | (with_reducible refine Below.drew ?_) | (simp; done) | (simp; omega) | omega)))).mono ?_); rintro e w' ⟨a2, c2, rfl, ha, -, hb⟩; have HA2 := Lib.hid ha; clear ha; obtain ⟨q2, rfl⟩ := later_of_below hb; clear hb) | (go_at_call 16; (with_reducible refine (rInterfere_of hL0 hS0 hn5 hpos HNN.out HX.out HU.out _ _ _ _ _ HA1.out (by (repeat' (first | with_reducible exact Below.refl _ _ | (with_reducible refine below_later_of ?_ ?_ _) | (with_reducible refine Below.alloc ?_ ?_ _) | (with_reducible refine Below.setCell ?_ ?_ _) | (with_reducible refine Below.drew ?_) | (simp; done) | (simp; omega) | omega))) HA2.out (by (repeat' (first | with_reducible exact Below.refl _ _ | (with_reducible refine below_later_of ?_ ?_ _) | (with_reducible refine Below.alloc ?_ ?_ _) | (with_reducible refine Below.setCell ?_ ?_ _) | (with_reducible refine Below.drew ?_) | (simp; done) | (simp; omega) | omega)))).mono ?_); rintro e w' ⟨a6, c6, rfl, ho, -, hb⟩; have HO6 := Lib.hid ho; clear ho; obtain ⟨q6, rfl⟩ := later_of_below hb; clear hb) | (go_at_call 15; (with_reducible refine (sameFd_of hn5 _ _ _ _ _ HFW.out (by (repeat' (first | with_reducible exact Below.refl _ _ | (with_reducible refine below_later_of ?_ ?_ _) | (with_reducible refine Below.alloc ?_ ?_ _) | (with_reducible refine Below.setCell ?_ ?_ _) | (with_reducible refine Below.drew ?_) | (simp; done) | (simp; omega) | omega))) (HO6.out.mono (Nat.zero_le _)) (by (repeat' (first | with_reducible exact Below.refl _ _ | (with_reducible refine below_later_of ?_ ?_ _) | (with_reducible refine Below.alloc ?_ ?_ _) | (with_reducible refine Below.setCell ?_ ?_ _) | (with_reducible refine Below.drew ?_) | (simp; done) | (simp; omega) | omega)))).mono ?_); rintro e w' ⟨rfl, hb⟩; obtain ⟨q7, rfl⟩ := later_of_below hb; clear hb))
            all_goals
              rename_i hheld
              clear hheld
              go_wp2_with fail
              go_meet
              exact ⟨rfl, (by (repeat' (first | with_reducible exact Below.refl _ _ | (with_reducible refine below_later_of ?_ ?_ _) | (with_reducible refine Below.alloc ?_ ?_ _) | (with_reducible refine Below.setCell ?_ ?_ _) | (with_reducible refine Below.drew ?_) | (simp; done) | (simp; omega) | omega)))⟩
          case rest =>
            obtain ⟨rfl, hb⟩ := hcut
            obtain ⟨W5, hW5⟩ : ∃ W5 : World, W5 = wc := ⟨_, rfl⟩
            subst hW5
            have hs5 := hb.size
            have HB5 := Lib.hid (HB4.out.trans (hb.mono hs4))
            have HFW5 := Lib.hid (HFW.out.below hb)
            have m0 := (hb.cell (p := ⟨w.heap.size, 0, none⟩) (by simp; omega)).trans k0
            have m1 := (hb.cell (p := ⟨w.heap.size, 1, none⟩) (by simp; omega)).trans k1
            have m2 := (hb.cell (p := ⟨w.heap.size, 2, none⟩) (by simp; omega)).trans k2
            have m3 := (hb.cell (p := ⟨w.heap.size, 3, none⟩) (by simp; omega)).trans k3
            have n0 := (hb.cell (p := ⟨w.heap.size + 1, 0, none⟩) (by simp; omega)).trans j0
            have n1 := (hb.cell (p := ⟨w.heap.size + 1, 1, none⟩) (by simp; omega)).trans j1
            have n2 := (hb.cell (p := ⟨w.heap.size + 1, 2, none⟩) (by simp; omega)).trans j2
            have n3 := (hb.cell (p := ⟨w.heap.size + 1, 3, none⟩) (by simp; omega)).trans j3
            have i2' := (hb.cell (p := ⟨B5, 2, none⟩) (by simp; omega)).trans i2
            have hw5 : w.heap.size + 1 < W5.heap.size := by omega
            have hB5' : B5 < W5.heap.size := by omega
            clear HIX HIY
            have HIX := Lib.hid (show ∀ W, Below W5.heap.size W5 W → _ from fun W hW => HIX0.out W (HB5.out.trans (hW.mono HB5.out.size)))
            have HIY := Lib.hid (show ∀ W, Below W5.heap.size W5 W → _ from fun W hW => HIY0.out W (HB5.out.trans (hW.mono HB5.out.size)))
            clear hb k0 k1 k2 k3 j0 j1 j2 j3 i0 i1 i2 HFW HB4 hs4 hw4 hB4 hs5
            go_wp2_with fail
            go_cut [8, 9] from 53 to 61 (fun X Y wx => ∃ B a c, X = .pointer (some ⟨B, 0, none⟩) ∧ Y = .int .i64 0 ∧ wx.cell? ⟨B, 2, none⟩ = some (.slice a (x.m / 2) c) ∧ OwnS wx 0 (x.m / 2) (ifB (smp y.p) (smp x.p)) a ∧ B < wx.heap.size ∧ Below W5.heap.size W5 wx)
            case first =>
              go_region_held3 (fun w' => w'.cell? ⟨w.heap.size, 0, none⟩ = some (.int .i64 x.L) ∧ w'.cell? ⟨w.heap.size, 1, none⟩ = some (.int .i64 x.S) ∧ w'.cell? ⟨w.heap.size, 2, none⟩ = some (.slice x.pa x.m x.pc) ∧ w'.cell? ⟨w.heap.size, 3, none⟩ = some (.slice x.ca x.mc x.cc) ∧ w'.cell? ⟨w.heap.size + 1, 0, none⟩ = some (.int .i64 y.L) ∧ w'.cell? ⟨w.heap.size + 1, 1, none⟩ = some (.int .i64 y.S) ∧ w'.cell? ⟨w.heap.size + 1, 2, none⟩ = some (.slice y.pa y.m y.pc) ∧ w'.cell? ⟨w.heap.size + 1, 3, none⟩ = some (.slice y.ca y.mc y.cc)) (first | exact ⟨m0, m1, m2, m3, n0, n1, n2, n3⟩ | ((first | (simp [go_sem, m0, m1, m2, m3, n0, n1, n2, n3]; done) | simp [go_sem, m0, m1, m2, m3, n0, n1, n2, n3, ↓IntWalk.iteOmega]); done)) (first | (go_at_call 12; (with_reducible refine (HIX.out _ (by (repeat' (first | with_reducible exact Below.refl _ _ | (with_reducible refine below_later_of ?_ ?_ _) | (with_reducible refine Below.alloc ?_ ?_ _) | (with_reducible refine Below.setCell ?_ ?_ _) | (with_reducible refine Below.drew ?_) | (simp; done) | (simp; omega) | omega)))).mono ?_); rintro e w' ⟨a1, c1, rfl, ha, -, hb⟩; have HA1 := Lib.hid ha; clear ha; obtain ⟨q1, rfl⟩ := later_of_below hb; clear hb) | (go_at_call 12; (with_reducible refine (HIY.out _ (by (repeat' (first | with_reducible exact Below.refl _ _ | (with_reducible refine below_later_of ?_ ?_ _) | (with_reducible refine Below.alloc ?_ ?_ _) | (with_reducible refine Below.setCell ?_ ?_ _) | (with_reducible refine Below.drew ?_) | (simp; done) | (simp; omega) | omega)))).mono ?_); rintro e w' ⟨a2, c2, rfl, ha, -, hb⟩; have HA2 := Lib.hid ha; clear ha; obtain ⟨q2, rfl⟩ := later_of_below hb; clear hb) | (go_at_call 11; (with_reducible refine (interfere_det y.L y.S (y.m / 2) c2 (smp y.p) a2 x.L x.S (x.m / 2) c1 (smp x.p) a1 _ (by omega) (by omega) (dataAt_own HA2.out (by (repeat' (first | with_reducible exact Below.refl _ _ | (with_reducible refine below_later_of ?_ ?_ _) | (with_reducible refine Below.alloc ?_ ?_ _) | (with_reducible refine Below.setCell ?_ ?_ _) | (with_reducible refine Below.drew ?_) | (simp; done) | (simp; omega) | omega)))) (dataAt_own HA1.out (by (repeat' (first | with_reducible exact Below.refl _ _ | (with_reducible refine below_later_of ?_ ?_ _) | (with_reducible refine Below.alloc ?_ ?_ _) | (with_reducible refine Below.setCell ?_ ?_ _) | (with_reducible refine Below.drew ?_) | (simp; done) | (simp; omega) | omega)))) HE2.out).mono ?_); rintro e w' ⟨l5, s5, n5, a5, c5, rfl, hok, -, hb⟩; have HOK := Lib.hid hok; clear hok; obtain ⟨q3, rfl⟩ := later_of_below hb; clear hb))
              all_goals
                rename_i hheld
                clear hheld
                go_wp2_with fail
                go_meet
                obtain ⟨-, -, hn8, ho8⟩ := HOK.out.1 rfl
                rw [HNN.out] at hn8 ho8
                subst hn8
                refine ⟨_, a5, c5, rfl, rfl, (by (first | (simp [go_sem]; done) | simp [go_sem, ↓IntWalk.iteOmega])), ?_, by simp <;> omega, (by (repeat' (first | with_reducible exact Below.refl _ _ | (with_reducible refine below_later_of ?_ ?_ _) | (with_reducible refine Below.alloc ?_ ?_ _) | (with_reducible refine Below.setCell ?_ ?_ _) | (with_reducible refine Below.drew ?_) | (simp; done) | (simp; omega) | omega)))⟩
                first
                  | (refine (ho8.below ?_).mono (Nat.zero_le _); (repeat' (first | with_reducible exact Below.refl _ _ | (with_reducible refine below_later_of ?_ ?_ _) | (with_reducible refine Below.alloc ?_ ?_ _) | (with_reducible refine Below.setCell ?_ ?_ _) | (with_reducible refine Below.drew ?_) | (simp; done) | (simp; omega) | omega)); done)
                  | (refine (OwnS.set (OwnS.set (OwnS.set ho8 ?_ _) ?_ _) ?_ _).mono (Nat.zero_le _) <;> simp <;> omega)
            case rest =>
              obtain ⟨B8, a8, c8, rfl, rfl, p2, hown8, hB8, hb8⟩ := hcut
              obtain ⟨W6, hW6⟩ : ∃ W6 : World, W6 = wc := ⟨_, rfl⟩
              subst hW6
              have HB6 := Lib.hid (HB5.out.trans (hb8.mono HB5.out.size))
              have o2 := (hb8.cell (p := ⟨B5, 2, none⟩) hB5').trans i2'
              have hB56 : B5 < W6.heap.size := by have := hb8.size; omega
              obtain ⟨g5, rfl, -, hg5, hd5⟩ := (HFW5.out.below hb8) hpos
              obtain ⟨g8, rfl, -, hg8, hd8⟩ := hown8 hpos
              obtain ⟨N, hN⟩ : ∃ N, x.m / 2 = N := ⟨_, rfl⟩
              rw [hN] at hd5 hd8 o2 p2 hn5 HCJ
              have HD5 := Lib.hid hd5
              have HD8 := Lib.hid hd8
              have hnn2 : ((N : Int) != (N : Int)) = false := bne_self_eq_false _
              generalize ifB (smp x.p) (smp y.p) = F at *
              generalize ifB (smp y.p) (smp x.p) = G at *
              clear hb8 i2' m0 m1 m2 m3 n0 n1 n2 n3 hd5 hd8 hown8 HIX HIY HFW5 HB5 HIX0 HIY0 HX HU HE2 hN hpos HNN
              go_wp2
              go_loopw [10] (fun i wz => ∃ k : Nat, k ≤ N ∧ i = .int .i64 k ∧ Below W6.heap.size W6 wz) (fun i _ => N - (intOf i).toNat)
              case atStart => exact ⟨0, Nat.zero_le _, rfl, Below.refl _ _⟩
              case round =>
                obtain ⟨k, hk, rfl, hbz⟩ := hrel
                have HBZ := Lib.hid hbz
                have hsz := hbz.size
                have v5 := (hbz.cell (p := ⟨B5, 2, none⟩) hB56).trans o2
                have v8 := (hbz.cell (p := ⟨B8, 2, none⟩) hB8).trans p2
                by_cases hlk : k < N
                · have hds : decide ((k : Int) < (N : Int)) = true := by simp; omega
                  have hk0 : (0 : Int) ≤ (k : Int) := by omega
                  have hk1 : (k : Int) < (N : Int) := by omega
                  have e0 := (hbz.cell (p := ⟨g5, 0 + k, none⟩) hg5).trans (HD5.out k hlk)
                  have e1 := (hbz.cell (p := ⟨g8, 0 + k, none⟩) hg8).trans (HD8.out k hlk)
                  rw [Nat.zero_add] at e0 e1
                  obtain ⟨f1, f2⟩ := HCJ.out k hlk
                  generalize F k = u at *
                  generalize G k = z at *
                  obtain ⟨u1, u2⟩ := u
                  obtain ⟨z1, z2⟩ := z
                  dsimp only at e0 e1 f1 f2
                  have f3 : (FloatKind.f64.format.order z1 u1 != some Ordering.eq) = false := by simp only [bne, f1]; rfl
                  obtain ⟨t2, ht2⟩ : ∃ t2, Op.negFloat .f64 u2 = t2 := ⟨_, rfl⟩
                  rw [ht2] at f2
                  have f4 : (FloatKind.f64.format.order z2 t2 != some Ordering.eq) = false := by simp only [bne, f2]; rfl
                  have n5 : B5 < wr.heap.size := by omega
                  have n8 : B8 < wr.heap.size := by omega
                  have n6 : g5 < wr.heap.size := by omega
                  have n7 : g8 < wr.heap.size := by omega
                  clear hbz
                  go_wp2
                  refine wp_region_calm (by kernel_rfl) (by kernel_rfl) ?_
                  repeat (go_big_quiet_step (fail))
                  refine wpQuiet_nil ?_
                  rintro _ ⟨pq, rfl⟩
                  go_wp2
                  go_roundw
                  case rel => exact ⟨k + 1, by omega, by go_num, HBZ.out.trans (below_mono_of hsz (by (repeat' (first | with_reducible exact Below.refl _ _ | (with_reducible refine below_later_of ?_ ?_ _) | (with_reducible refine Below.alloc ?_ ?_ _) | (with_reducible refine Below.setCell ?_ ?_ _) | (with_reducible refine Below.drew ?_) | (simp; done) | (simp; omega) | omega))))⟩
                  case measure => simp [intOf]; omega
                · obtain rfl : k = N := by omega
                  have hds : decide ((k : Int) < (k : Int)) = false := by simp
                  clear hbz
                  go_wp2
                  go_ret
                  exact ⟨rfl, HB6.out.trans (HBZ.out.mono HB6.out.size)⟩
        · obtain ⟨rfl, rfl, rfl⟩ := hok.2 hE0
          have hne : (E != 0) = true := by simpa using hE0
          have hee : (E == E) = true := beq_self_eq_true _
          clear hok hE0 hb k0 k1 k2 k3 j0 j1 j2 j3
          have HPA2 := Lib.hid HPA.out
          go_wp2_with (first | (go_at_call 13; (with_reducible refine (HPA.out _ (by (repeat' (first | with_reducible exact Below.refl _ _ | (with_reducible refine below_later_of ?_ ?_ _) | (with_reducible refine Below.alloc ?_ ?_ _) | (with_reducible refine Below.setCell ?_ ?_ _) | (with_reducible refine Below.drew ?_) | (simp; done) | (simp; omega) | omega)))).mono ?_); rintro e w' ⟨rfl, hb⟩; obtain ⟨q4, rfl⟩ := later_of_below hb; clear hb) | (go_at_call 14; (with_reducible refine (lNoField4 _ _ _).mono ?_); rintro e w' ⟨rfl, hb⟩; obtain ⟨q5, rfl⟩ := later_of_below hb; clear hb))
          go_ret
          exact ⟨rfl, HB3.out.trans (below_mono_of HB3.out.size (by (repeat' (first | with_reducible exact Below.refl _ _ | (with_reducible refine below_later_of ?_ ?_ _) | (with_reducible refine Below.alloc ?_ ?_ _) | (with_reducible refine Below.setCell ?_ ?_ _) | (with_reducible refine Below.drew ?_) | (simp; done) | (simp; omega) | omega))))⟩
end Go.Proofs.YtfiioadmpjmmgaaDoor
