/- Chapter 4: the law FringeTriples returns true. -/
import Derived.Test.YtfiioadmpjmmgaaGreatDoorXR
namespace Go.Proofs.YtfiioadmpjmmgaaGreatDoor
set_option linter.unusedVariables false
set_option linter.unusedSimpArgs false
open Go.RowKit Ieee Ntt
theorem cell_keep {W : World} {p : Regrown} {g k : Nat} {v : Value} (h : W.cell? ⟨g, k, none⟩ = some v) : (later W p).cell? ⟨g, k, none⟩ = some v := ((below_later W p).cell (World.block_lt_of_cell? _ _ h)).trans h
theorem wpAnyH_more {P : Program} {md : Region.Mode} {ops : Array Oper} {Q : Exit → Act → World → Prop} {S S' : World → Prop} (h : ∀ w, S' w → S w) : ∀ (fuel : Nat) (listed : Array Bool) (a : Act) (w : World), wpAnyH P md ops Q S' fuel listed a w → wpAnyH P md ops Q S fuel listed a w
  | 0, _, _, _, hh => hh
  | fuel + 1, _, _, _, hh => ⟨hh.1, fun i hi => Go.wpOp_mono (fun a' w' h' => ⟨h _ h'.1, wpAnyH_more h fuel _ a' w' h'.2⟩) (hh.2 i hi)⟩
theorem ints_open {W : World} {q : Option Addr} {n c : Nat} {zs : List Int} (h : IntsV W (.slice q n c) zs) (hp : 0 < n) : ∃ b off, q = some ⟨b, off, none⟩ ∧ b < W.heap.size ∧ ∀ k, k < n → W.cell? ⟨b, off + k, none⟩ = some (.int .i64 (intAt zs k)) := by
  obtain ⟨-, a, cap, e, hd⟩ := h
  injection e with e1 e2 e3
  subst e1 e2
  obtain ⟨b, off, h1, h2, h3⟩ := hd hp
  exact ⟨b, off, h1, h2, h3⟩
theorem any_worldC {f : FuncId} {args : Array Value} {w : World} {Q : Ending → World → Prop} (F : World → Prop) (hf : F w) (h : ∀ W, F W → Calls Tryz.prog f args W Q) : Calls Tryz.prog f args w Q := h w hf
set_option maxRecDepth 20000 in
set_option maxHeartbeats 40000000 in
theorem triples_any (x y z : Scn) (w : World) (hx : x.At w) (hy : y.At w) (hz : z.At w) (ht : Tab w) :
    Calls Tryz.prog 10 #[.agg #[.int .i64 x.L, .int .i64 x.S, .slice x.pa x.m x.pc, .slice x.ca x.mc x.cc], .agg #[.int .i64 y.L, .int .i64 y.S, .slice y.pa y.m y.pc, .slice y.ca y.mc y.cc], .agg #[.int .i64 z.L, .int .i64 z.S, .slice z.pa z.m z.pc, .slice z.ca z.mc z.cc]] w fun e w' => e = .returned (.bool true) ∧ Below w.heap.size w w' := by
  have HT := Lib.hid ht
  clear ht
  rcases (show smallB x = false ∨ smallB x = true by cases smallB x <;> simp) with hq | hq
  · have HSX := Lib.hid (fun w => lSmall x w hq)
    clear hx hy hz hq
    go_enter Tryz.func10, Tryz.ntmps10
    go_wp2_with (first | (go_at_call 13; (with_reducible refine (awake4 _ (HT.out.below (by (repeat' (first | with_reducible exact Below.refl _ _ | (with_reducible refine below_later_of ?_ ?_ _) | (with_reducible refine Below.alloc ?_ ?_ _) | (with_reducible refine Below.setCell ?_ ?_ _) | (with_reducible refine Below.drew ?_) | (simp; done) | (simp; omega) | omega))))).mono ?_); rintro e w' ⟨rfl, hb⟩; obtain ⟨pp, rfl⟩ := later_of_below hb; clear hb) | (go_at_call 34; (with_reducible refine (HSX.out _).mono ?_); rintro e w' ⟨rfl, hb⟩; obtain ⟨pp, rfl⟩ := later_of_below hb; clear hb))
    go_ret
    exact ⟨rfl, (by (repeat' (first | with_reducible exact Below.refl _ _ | (with_reducible refine below_later_of ?_ ?_ _) | (with_reducible refine Below.alloc ?_ ?_ _) | (with_reducible refine Below.setCell ?_ ?_ _) | (with_reducible refine Below.drew ?_) | (simp; done) | (simp; omega) | omega)))⟩
  have HSX := Lib.hid (fun w => lSmall x w hq)
  obtain ⟨q1, q2⟩ := smallB_ok hq
  rcases (show smallB y = false ∨ smallB y = true by cases smallB y <;> simp) with hr | hr
  · have HSY := Lib.hid (fun w => lSmall y w hr)
    clear hx hy hz hq hr
    go_enter Tryz.func10, Tryz.ntmps10
    go_wp2_with (first | (go_at_call 13; (with_reducible refine (awake4 _ (HT.out.below (by (repeat' (first | with_reducible exact Below.refl _ _ | (with_reducible refine below_later_of ?_ ?_ _) | (with_reducible refine Below.alloc ?_ ?_ _) | (with_reducible refine Below.setCell ?_ ?_ _) | (with_reducible refine Below.drew ?_) | (simp; done) | (simp; omega) | omega))))).mono ?_); rintro e w' ⟨rfl, hb⟩; obtain ⟨pp, rfl⟩ := later_of_below hb; clear hb) | (go_at_call 34; (with_reducible refine (HSX.out _).mono ?_); rintro e w' ⟨rfl, hb⟩; obtain ⟨pp, rfl⟩ := later_of_below hb; clear hb) | (go_at_call 34; (with_reducible refine (HSY.out _).mono ?_); rintro e w' ⟨rfl, hb⟩; obtain ⟨pp, rfl⟩ := later_of_below hb; clear hb))
    go_ret
    exact ⟨rfl, (by (repeat' (first | with_reducible exact Below.refl _ _ | (with_reducible refine below_later_of ?_ ?_ _) | (with_reducible refine Below.alloc ?_ ?_ _) | (with_reducible refine Below.setCell ?_ ?_ _) | (with_reducible refine Below.drew ?_) | (simp; done) | (simp; omega) | omega)))⟩
  have HSY := Lib.hid (fun w => lSmall y w hr)
  obtain ⟨r1, r2⟩ := smallB_ok hr
  rcases (show smallB z = false ∨ smallB z = true by cases smallB z <;> simp) with ho | ho
  · have HSZ := Lib.hid (fun w => lSmall z w ho)
    clear hx hy hz hq hr ho
    go_enter Tryz.func10, Tryz.ntmps10
    go_wp2_with (first | (go_at_call 13; (with_reducible refine (awake4 _ (HT.out.below (by (repeat' (first | with_reducible exact Below.refl _ _ | (with_reducible refine below_later_of ?_ ?_ _) | (with_reducible refine Below.alloc ?_ ?_ _) | (with_reducible refine Below.setCell ?_ ?_ _) | (with_reducible refine Below.drew ?_) | (simp; done) | (simp; omega) | omega))))).mono ?_); rintro e w' ⟨rfl, hb⟩; obtain ⟨pp, rfl⟩ := later_of_below hb; clear hb) | (go_at_call 34; (with_reducible refine (HSX.out _).mono ?_); rintro e w' ⟨rfl, hb⟩; obtain ⟨pp, rfl⟩ := later_of_below hb; clear hb) | (go_at_call 34; (with_reducible refine (HSY.out _).mono ?_); rintro e w' ⟨rfl, hb⟩; obtain ⟨pp, rfl⟩ := later_of_below hb; clear hb) | (go_at_call 34; (with_reducible refine (HSZ.out _).mono ?_); rintro e w' ⟨rfl, hb⟩; obtain ⟨pp, rfl⟩ := later_of_below hb; clear hb))
    go_ret
    exact ⟨rfl, (by (repeat' (first | with_reducible exact Below.refl _ _ | (with_reducible refine below_later_of ?_ ?_ _) | (with_reducible refine Below.alloc ?_ ?_ _) | (with_reducible refine Below.setCell ?_ ?_ _) | (with_reducible refine Below.drew ?_) | (simp; done) | (simp; omega) | omega)))⟩
  have HSZ := Lib.hid (fun w => lSmall z w ho)
  obtain ⟨t1, t2⟩ := smallB_ok ho
  have HMX : x.m ≤ 10000 := by omega
  have HMY : y.m ≤ 10000 := by omega
  have HMZ : z.m ≤ 10000 := by omega
  obtain ⟨E, hE⟩ : ∃ E, scnE x y = E := ⟨_, rfl⟩
  obtain ⟨E', hE'⟩ : ∃ E', scnE x z = E' := ⟨_, rfl⟩
  have HPA := Lib.hid (show ∀ W, Below w.heap.size w W → _ from fun W hW => lPair x y W (hx.below hW) (hy.below hW) (by omega) (by omega) hE)
  have HPB := Lib.hid (show ∀ W, Below w.heap.size w W → _ from fun W hW => lPair x z W (hx.below hW) (hz.below hW) (by omega) (by omega) hE')
  clear hq hr ho q1 q2 r1 r2 t1 t2
  by_cases h1 : E = 0
  · subst h1
    by_cases h2 : E' = 0
    · subst h2
      obtain ⟨hyz, hxx⟩ := scn_yz hE hE'
      obtain ⟨⟨⟨l1, l2⟩, ⟨s1, s2⟩, hn⟩, eL, eS, en, hX, hY⟩ := scn_ok hE
      obtain ⟨-, eL2, eS2, en2, -, hZ⟩ := scn_ok hE'
      have HP10 := Lib.hid (show ∀ W, Below w.heap.size w W → _ from fun W hW => lPhases x y W (hx.below hW) (hy.below hW) HMX HMY hE)
      have HP20 := Lib.hid (show ∀ W, Below w.heap.size w W → Calls Tryz.prog 55 #[.agg #[.int .i64 y.L, .int .i64 y.S, .slice y.pa y.m y.pc, .slice y.ca y.mc y.cc], .agg #[.int .i64 z.L, .int .i64 z.S, .slice z.pa z.m z.pc, .slice z.ca z.mc z.cc]] W fun e w' => ∃ q c, e = .returned (.tuple #[.agg #[.int .i64 x.L, .int .i64 x.S, .slice q (x.m / 2) c], .bool true]) ∧ OwnIV W.heap.size w' (.slice q (x.m / 2) c) (triP y z) ∧ Below W.heap.size W w' from fun W hW => (lPhases y z W (hy.below hW) (hz.below hW) HMY HMZ hyz).mono (by
        rintro e w' ⟨q, c, rfl, ho, hb⟩
        rw [en] at ho
        exact ⟨q, c, by rw [eL, eS, en], ho, hb⟩))
      have HP30 := Lib.hid (show ∀ W, Below w.heap.size w W → _ from fun W hW => lPhases x z W (hx.below hW) (hz.below hW) HMX HMZ hE')
      have HP40 := Lib.hid (show ∀ W, Below w.heap.size w W → _ from fun W hW => lPhases x x W (hx.below hW) (hx.below hW) HMX HMX hxx)
      have HIX0 := Lib.hid (show ∀ W, Below w.heap.size w W → _ from fun W hW => lImage x W (by omega) (hx.below hW))
      have HIY0 := Lib.hid (show ∀ W, Below w.heap.size w W → _ from fun W hW => lImage y W (by omega) (hy.below hW))
      have HIZ0 := Lib.hid (show ∀ W, Below w.heap.size w W → _ from fun W hW => lImage z W (by omega) (hz.below hW))
      rw [en] at HIY0
      rw [en2] at HIZ0
      have HT3 := Lib.hid (tri_three hE hE')
      have HCK := Lib.hid (show ∀ k, k < x.m / 2 → _ from fun k hk => clo_at hE hE' hk)
      have HOK := Lib.hid (show ∀ k, k < x.m / 2 → _ from fun k hk => own_at hxx hk)
      have HZX := Lib.hid (show ∀ k, k < x.m / 2 → _ from fun k hk => zer_bits hX hk)
      have HZY := Lib.hid (show ∀ k, k < x.m / 2 → _ from fun k hk => zer_bits hY hk)
      have HZZ := Lib.hid (show ∀ k, k < x.m / 2 → _ from fun k hk => zer_bits hZ hk)
      have hn5 : x.m / 2 ≤ 5000 := by omega
      have hpos : 0 < x.m / 2 := by
        have := Int.mul_pos (show 0 < x.L by omega) (show 0 < x.S by omega)
        omega
      have hwn : IntKind.i64.wrap (x.L * x.S) = ((x.m / 2 : Nat) : Int) := by rw [← hn]; exact IntWalk.i64_in _ (by omega)
      have hbn : (((x.m / 2 : Nat) : Int) != ((x.m / 2 : Nat) : Int)) = false := bne_self_eq_false _
      have hcl : (triP x y).length = x.m / 2 := triP_length x y
      clear hx hy hz hE hE' hyz hxx l1 l2 s1 s2 hn eL eS en hX hY eL2 eS2 en2 hZ
      generalize x.m / 2 = N at *
      go_enter Tryz.func10, Tryz.ntmps10
      go_wp2_with (first | (go_at_call 13; (with_reducible refine (awake4 _ (HT.out.below (by (repeat' (first | with_reducible exact Below.refl _ _ | (with_reducible refine below_later_of ?_ ?_ _) | (with_reducible refine Below.alloc ?_ ?_ _) | (with_reducible refine Below.setCell ?_ ?_ _) | (with_reducible refine Below.drew ?_) | (simp; done) | (simp; omega) | omega))))).mono ?_); rintro e w' ⟨rfl, hb⟩; obtain ⟨pp, rfl⟩ := later_of_below hb; clear hb) | (go_at_call 34; (with_reducible refine (HSX.out _).mono ?_); rintro e w' ⟨rfl, hb⟩; obtain ⟨pp, rfl⟩ := later_of_below hb; clear hb) | (go_at_call 34; (with_reducible refine (HSY.out _).mono ?_); rintro e w' ⟨rfl, hb⟩; obtain ⟨pp, rfl⟩ := later_of_below hb; clear hb) | (go_at_call 34; (with_reducible refine (HSZ.out _).mono ?_); rintro e w' ⟨rfl, hb⟩; obtain ⟨pp, rfl⟩ := later_of_below hb; clear hb) | (go_at_call 37; (with_reducible refine (HPA.out _ (by (repeat' (first | with_reducible exact Below.refl _ _ | (with_reducible refine below_later_of ?_ ?_ _) | (with_reducible refine Below.alloc ?_ ?_ _) | (with_reducible refine Below.setCell ?_ ?_ _) | (with_reducible refine Below.drew ?_) | (simp; done) | (simp; omega) | omega)))).mono ?_); rintro e w' ⟨rfl, hb⟩; obtain ⟨pp, rfl⟩ := later_of_below hb; clear hb) | (go_at_call 37; (with_reducible refine (HPB.out _ (by (repeat' (first | with_reducible exact Below.refl _ _ | (with_reducible refine below_later_of ?_ ?_ _) | (with_reducible refine Below.alloc ?_ ?_ _) | (with_reducible refine Below.setCell ?_ ?_ _) | (with_reducible refine Below.drew ?_) | (simp; done) | (simp; omega) | omega)))).mono ?_); rintro e w' ⟨rfl, hb⟩; obtain ⟨pp, rfl⟩ := later_of_below hb; clear hb))
      refine any_worldC (fun w' => (w'.cell? ⟨w.heap.size, 0, none⟩ = some (.int .i64 x.L) ∧ w'.cell? ⟨w.heap.size, 1, none⟩ = some (.int .i64 x.S) ∧ w'.cell? ⟨w.heap.size, 2, none⟩ = some (.slice x.pa x.m x.pc) ∧ w'.cell? ⟨w.heap.size, 3, none⟩ = some (.slice x.ca x.mc x.cc)) ∧ (w'.cell? ⟨w.heap.size + 1, 0, none⟩ = some (.int .i64 y.L) ∧ w'.cell? ⟨w.heap.size + 1, 1, none⟩ = some (.int .i64 y.S) ∧ w'.cell? ⟨w.heap.size + 1, 2, none⟩ = some (.slice y.pa y.m y.pc) ∧ w'.cell? ⟨w.heap.size + 1, 3, none⟩ = some (.slice y.ca y.mc y.cc)) ∧ (w'.cell? ⟨w.heap.size + 2, 0, none⟩ = some (.int .i64 z.L) ∧ w'.cell? ⟨w.heap.size + 2, 1, none⟩ = some (.int .i64 z.S) ∧ w'.cell? ⟨w.heap.size + 2, 2, none⟩ = some (.slice z.pa z.m z.pc) ∧ w'.cell? ⟨w.heap.size + 2, 3, none⟩ = some (.slice z.ca z.mc z.cc)) ∧ Below w.heap.size w w' ∧ w.heap.size + 2 < w'.heap.size) ⟨⟨(by (first | (simp [go_sem]; done) | simp [go_sem, ↓IntWalk.iteOmega])), (by (first | (simp [go_sem]; done) | simp [go_sem, ↓IntWalk.iteOmega])), (by (first | (simp [go_sem]; done) | simp [go_sem, ↓IntWalk.iteOmega])), (by (first | (simp [go_sem]; done) | simp [go_sem, ↓IntWalk.iteOmega]))⟩, ⟨(by (first | (simp [go_sem]; done) | simp [go_sem, ↓IntWalk.iteOmega])), (by (first | (simp [go_sem]; done) | simp [go_sem, ↓IntWalk.iteOmega])), (by (first | (simp [go_sem]; done) | simp [go_sem, ↓IntWalk.iteOmega])), (by (first | (simp [go_sem]; done) | simp [go_sem, ↓IntWalk.iteOmega]))⟩, ⟨(by (first | (simp [go_sem]; done) | simp [go_sem, ↓IntWalk.iteOmega])), (by (first | (simp [go_sem]; done) | simp [go_sem, ↓IntWalk.iteOmega])), (by (first | (simp [go_sem]; done) | simp [go_sem, ↓IntWalk.iteOmega])), (by (first | (simp [go_sem]; done) | simp [go_sem, ↓IntWalk.iteOmega]))⟩, (by (repeat' (first | with_reducible exact Below.refl _ _ | (with_reducible refine below_later_of ?_ ?_ _) | (with_reducible refine Below.alloc ?_ ?_ _) | (with_reducible refine Below.setCell ?_ ?_ _) | (with_reducible refine Below.drew ?_) | (simp; done) | (simp; omega) | omega))), (by first | (simp; done) | (simp <;> omega))⟩ ?_
      rintro W1 ⟨⟨k0, k1, k2, k3⟩, ⟨j0, j1, j2, j3⟩, ⟨i0, i1, i2, i3⟩, hb1, hlt1⟩
      have HB1 := Lib.hid hb1
      have hs1 := hb1.size
      have HP1 := Lib.hid (show ∀ W, Below W1.heap.size W1 W → _ from fun W hW => HP10.out W (HB1.out.trans (hW.mono hs1)))
      have HP2 := Lib.hid (show ∀ W, Below W1.heap.size W1 W → _ from fun W hW => HP20.out W (HB1.out.trans (hW.mono hs1)))
      have HP3 := Lib.hid (show ∀ W, Below W1.heap.size W1 W → _ from fun W hW => HP30.out W (HB1.out.trans (hW.mono hs1)))
      have HP4 := Lib.hid (show ∀ W, Below W1.heap.size W1 W → _ from fun W hW => HP40.out W (HB1.out.trans (hW.mono hs1)))
      clear hb1 HP10 HP20 HP30 HP40 HPA HPB HSX HSY HSZ
      go_wp2_with (first | (go_at_call 55; (with_reducible refine (HP1.out _ (by (repeat' (first | with_reducible exact Below.refl _ _ | (with_reducible refine below_later_of ?_ ?_ _) | (with_reducible refine Below.alloc ?_ ?_ _) | (with_reducible refine Below.setCell ?_ ?_ _) | (with_reducible refine Below.drew ?_) | (simp; done) | (simp; omega) | omega)))).mono ?_); rintro e w' ⟨q1, c1, rfl, ho, hb⟩; have HO1 := Lib.hid ho; clear ho; obtain ⟨p1, rfl⟩ := later_of_below hb; clear hb) | (go_at_call 55; (with_reducible refine (HP2.out _ (by (repeat' (first | with_reducible exact Below.refl _ _ | (with_reducible refine below_later_of ?_ ?_ _) | (with_reducible refine Below.alloc ?_ ?_ _) | (with_reducible refine Below.setCell ?_ ?_ _) | (with_reducible refine Below.drew ?_) | (simp; done) | (simp; omega) | omega)))).mono ?_); rintro e w' ⟨q2, c2, rfl, ho, hb⟩; have HO2 := Lib.hid ho; clear ho; obtain ⟨p2, rfl⟩ := later_of_below hb; clear hb) | (go_at_call 55; (with_reducible refine (HP3.out _ (by (repeat' (first | with_reducible exact Below.refl _ _ | (with_reducible refine below_later_of ?_ ?_ _) | (with_reducible refine Below.alloc ?_ ?_ _) | (with_reducible refine Below.setCell ?_ ?_ _) | (with_reducible refine Below.drew ?_) | (simp; done) | (simp; omega) | omega)))).mono ?_); rintro e w' ⟨q3, c3, rfl, ho, hb⟩; have HO3 := Lib.hid ho; clear ho; obtain ⟨p3, rfl⟩ := later_of_below hb; clear hb) | (go_at_call 55; (with_reducible refine (HP4.out _ (by (repeat' (first | with_reducible exact Below.refl _ _ | (with_reducible refine below_later_of ?_ ?_ _) | (with_reducible refine Below.alloc ?_ ?_ _) | (with_reducible refine Below.setCell ?_ ?_ _) | (with_reducible refine Below.drew ?_) | (simp; done) | (simp; omega) | omega)))).mono ?_); rintro e w' ⟨q4, c4, rfl, ho, hb⟩; have HO4 := Lib.hid ho; clear ho; obtain ⟨p4, rfl⟩ := later_of_below hb; clear hb))
      refine any_worldC (fun w' => (w'.cell? ⟨w.heap.size, 0, none⟩ = some (.int .i64 x.L) ∧ w'.cell? ⟨w.heap.size, 1, none⟩ = some (.int .i64 x.S) ∧ w'.cell? ⟨w.heap.size, 2, none⟩ = some (.slice x.pa x.m x.pc) ∧ w'.cell? ⟨w.heap.size, 3, none⟩ = some (.slice x.ca x.mc x.cc)) ∧ (w'.cell? ⟨w.heap.size + 1, 0, none⟩ = some (.int .i64 y.L) ∧ w'.cell? ⟨w.heap.size + 1, 1, none⟩ = some (.int .i64 y.S) ∧ w'.cell? ⟨w.heap.size + 1, 2, none⟩ = some (.slice y.pa y.m y.pc) ∧ w'.cell? ⟨w.heap.size + 1, 3, none⟩ = some (.slice y.ca y.mc y.cc)) ∧ (w'.cell? ⟨w.heap.size + 2, 0, none⟩ = some (.int .i64 z.L) ∧ w'.cell? ⟨w.heap.size + 2, 1, none⟩ = some (.int .i64 z.S) ∧ w'.cell? ⟨w.heap.size + 2, 2, none⟩ = some (.slice z.pa z.m z.pc) ∧ w'.cell? ⟨w.heap.size + 2, 3, none⟩ = some (.slice z.ca z.mc z.cc)) ∧ (w'.cell? ⟨W1.heap.size + p1.os.size + 1 + p2.os.size + 1 + p3.os.size + 1 + p4.os.size, 0, none⟩ = some (.int .i64 x.L) ∧ w'.cell? ⟨W1.heap.size + p1.os.size + 1 + p2.os.size + 1 + p3.os.size + 1 + p4.os.size, 1, none⟩ = some (.int .i64 x.S) ∧ w'.cell? ⟨W1.heap.size + p1.os.size + 1 + p2.os.size + 1 + p3.os.size + 1 + p4.os.size, 2, none⟩ = some (.slice q4 N c4)) ∧ OwnIV 0 w' (.slice q4 N c4) (triP x x) ∧ IntsV w' (.slice q1 N c1) (triP x y) ∧ IntsV w' (.slice q2 N c2) (triP y z) ∧ IntsV w' (.slice q3 N c3) (triP x z) ∧ Below W1.heap.size W1 w' ∧ W1.heap.size + p1.os.size + 1 + p2.os.size + 1 + p3.os.size + 1 + p4.os.size < w'.heap.size) ⟨⟨(by (first | (simp [go_sem, k0, k1, k2, k3, j0, j1, j2, j3, i0, i1, i2, i3]; done) | simp [go_sem, k0, k1, k2, k3, j0, j1, j2, j3, i0, i1, i2, i3, ↓IntWalk.iteOmega])), (by (first | (simp [go_sem, k0, k1, k2, k3, j0, j1, j2, j3, i0, i1, i2, i3]; done) | simp [go_sem, k0, k1, k2, k3, j0, j1, j2, j3, i0, i1, i2, i3, ↓IntWalk.iteOmega])), (by (first | (simp [go_sem, k0, k1, k2, k3, j0, j1, j2, j3, i0, i1, i2, i3]; done) | simp [go_sem, k0, k1, k2, k3, j0, j1, j2, j3, i0, i1, i2, i3, ↓IntWalk.iteOmega])), (by (first | (simp [go_sem, k0, k1, k2, k3, j0, j1, j2, j3, i0, i1, i2, i3]; done) | simp [go_sem, k0, k1, k2, k3, j0, j1, j2, j3, i0, i1, i2, i3, ↓IntWalk.iteOmega]))⟩, ⟨(by (first | (simp [go_sem, k0, k1, k2, k3, j0, j1, j2, j3, i0, i1, i2, i3]; done) | simp [go_sem, k0, k1, k2, k3, j0, j1, j2, j3, i0, i1, i2, i3, ↓IntWalk.iteOmega])), (by (first | (simp [go_sem, k0, k1, k2, k3, j0, j1, j2, j3, i0, i1, i2, i3]; done) | simp [go_sem, k0, k1, k2, k3, j0, j1, j2, j3, i0, i1, i2, i3, ↓IntWalk.iteOmega])), (by (first | (simp [go_sem, k0, k1, k2, k3, j0, j1, j2, j3, i0, i1, i2, i3]; done) | simp [go_sem, k0, k1, k2, k3, j0, j1, j2, j3, i0, i1, i2, i3, ↓IntWalk.iteOmega])), (by (first | (simp [go_sem, k0, k1, k2, k3, j0, j1, j2, j3, i0, i1, i2, i3]; done) | simp [go_sem, k0, k1, k2, k3, j0, j1, j2, j3, i0, i1, i2, i3, ↓IntWalk.iteOmega]))⟩, ⟨(by (first | (simp [go_sem, k0, k1, k2, k3, j0, j1, j2, j3, i0, i1, i2, i3]; done) | simp [go_sem, k0, k1, k2, k3, j0, j1, j2, j3, i0, i1, i2, i3, ↓IntWalk.iteOmega])), (by (first | (simp [go_sem, k0, k1, k2, k3, j0, j1, j2, j3, i0, i1, i2, i3]; done) | simp [go_sem, k0, k1, k2, k3, j0, j1, j2, j3, i0, i1, i2, i3, ↓IntWalk.iteOmega])), (by (first | (simp [go_sem, k0, k1, k2, k3, j0, j1, j2, j3, i0, i1, i2, i3]; done) | simp [go_sem, k0, k1, k2, k3, j0, j1, j2, j3, i0, i1, i2, i3, ↓IntWalk.iteOmega])), (by (first | (simp [go_sem, k0, k1, k2, k3, j0, j1, j2, j3, i0, i1, i2, i3]; done) | simp [go_sem, k0, k1, k2, k3, j0, j1, j2, j3, i0, i1, i2, i3, ↓IntWalk.iteOmega]))⟩, ⟨(by (first | (simp [go_sem]; done) | simp [go_sem, ↓IntWalk.iteOmega])), (by (first | (simp [go_sem]; done) | simp [go_sem, ↓IntWalk.iteOmega])), (by (first | (simp [go_sem]; done) | simp [go_sem, ↓IntWalk.iteOmega]))⟩, OwnIV.mono (HO4.out.below (by (repeat' (first | with_reducible exact Below.refl _ _ | (with_reducible refine below_later_of ?_ ?_ _) | (with_reducible refine Below.alloc ?_ ?_ _) | (with_reducible refine Below.setCell ?_ ?_ _) | (with_reducible refine Below.drew ?_) | (simp; done) | (simp; omega) | omega)))) (Nat.zero_le _), (HO1.out.below (by (repeat' (first | with_reducible exact Below.refl _ _ | (with_reducible refine below_later_of ?_ ?_ _) | (with_reducible refine Below.alloc ?_ ?_ _) | (with_reducible refine Below.setCell ?_ ?_ _) | (with_reducible refine Below.drew ?_) | (simp; done) | (simp; omega) | omega)))).ints, (HO2.out.below (by (repeat' (first | with_reducible exact Below.refl _ _ | (with_reducible refine below_later_of ?_ ?_ _) | (with_reducible refine Below.alloc ?_ ?_ _) | (with_reducible refine Below.setCell ?_ ?_ _) | (with_reducible refine Below.drew ?_) | (simp; done) | (simp; omega) | omega)))).ints, (HO3.out.below (by (repeat' (first | with_reducible exact Below.refl _ _ | (with_reducible refine below_later_of ?_ ?_ _) | (with_reducible refine Below.alloc ?_ ?_ _) | (with_reducible refine Below.setCell ?_ ?_ _) | (with_reducible refine Below.drew ?_) | (simp; done) | (simp; omega) | omega)))).ints, (by (repeat' (first | with_reducible exact Below.refl _ _ | (with_reducible refine below_later_of ?_ ?_ _) | (with_reducible refine Below.alloc ?_ ?_ _) | (with_reducible refine Below.setCell ?_ ?_ _) | (with_reducible refine Below.drew ?_) | (simp; done) | (simp; omega) | omega))), (by first | (simp; done) | (simp <;> omega))⟩ ?_
      rintro W2 ⟨⟨k0, k1, k2, k3⟩, ⟨j0, j1, j2, j3⟩, ⟨i0, i1, i2, i3⟩, ⟨v0, v1, v2⟩, ho4, ho1, ho2, ho3, hb2, hB4⟩
      have HB2 := Lib.hid (HB1.out.trans (hb2.mono hs1))
      have hs2 := hb2.size
      have HO4 := Lib.hid ho4
      have HO1 := Lib.hid ho1
      have HO2 := Lib.hid ho2
      have HO3 := Lib.hid ho3
      clear hb2 ho1 ho2 ho3 ho4 HP1 HP2 HP3 HP4
      go_wp2_with (first | (go_at_call 28; (with_reducible refine (clo_det x.L x.S (triP x y) _ x.L x.S (triP y z) _ x.L x.S (triP x z) _ _ HO1.out (by rw [triP_length]; omega) HO2.out (by rw [triP_length]; omega) HO3.out (by rw [triP_length]; omega) HT3.out).mono ?_); rintro e w' ⟨r, cc, k5, q5, c5, rfl, hs, hb⟩; obtain ⟨rfl, rfl, hk5, hs5⟩ := hs.1 rfl; rw [hcl] at hk5; have hk6 := hk5.symm; clear hk5; subst hk6; have HO5 := Lib.hid hs5; clear hs hs5; obtain ⟨p5, rfl⟩ := later_of_below hb; clear hb))
      refine any_worldT (fun w' => (w'.cell? ⟨w.heap.size, 0, none⟩ = some (.int .i64 x.L) ∧ w'.cell? ⟨w.heap.size, 1, none⟩ = some (.int .i64 x.S) ∧ w'.cell? ⟨w.heap.size, 2, none⟩ = some (.slice x.pa x.m x.pc) ∧ w'.cell? ⟨w.heap.size, 3, none⟩ = some (.slice x.ca x.mc x.cc)) ∧ (w'.cell? ⟨w.heap.size + 1, 0, none⟩ = some (.int .i64 y.L) ∧ w'.cell? ⟨w.heap.size + 1, 1, none⟩ = some (.int .i64 y.S) ∧ w'.cell? ⟨w.heap.size + 1, 2, none⟩ = some (.slice y.pa y.m y.pc) ∧ w'.cell? ⟨w.heap.size + 1, 3, none⟩ = some (.slice y.ca y.mc y.cc)) ∧ (w'.cell? ⟨w.heap.size + 2, 0, none⟩ = some (.int .i64 z.L) ∧ w'.cell? ⟨w.heap.size + 2, 1, none⟩ = some (.int .i64 z.S) ∧ w'.cell? ⟨w.heap.size + 2, 2, none⟩ = some (.slice z.pa z.m z.pc) ∧ w'.cell? ⟨w.heap.size + 2, 3, none⟩ = some (.slice z.ca z.mc z.cc)) ∧ (w'.cell? ⟨W1.heap.size + p1.os.size + 1 + p2.os.size + 1 + p3.os.size + 1 + p4.os.size, 2, none⟩ = some (.slice q4 N c4)) ∧ (w'.cell? ⟨W2.heap.size + p5.os.size, 2, none⟩ = some (.slice q5 N c5)) ∧ IntsV w' (.slice q4 N c4) (triP x x) ∧ IntsV w' (.slice q5 N c5) (cloL x y z) ∧ Below W2.heap.size W2 w' ∧ W1.heap.size + p1.os.size + 1 + p2.os.size + 1 + p3.os.size + 1 + p4.os.size < w'.heap.size ∧ W2.heap.size + p5.os.size < w'.heap.size) ⟨⟨(by (first | (simp [go_sem, k0, k1, k2, k3, j0, j1, j2, j3, i0, i1, i2, i3]; done) | simp [go_sem, k0, k1, k2, k3, j0, j1, j2, j3, i0, i1, i2, i3, ↓IntWalk.iteOmega])), (by (first | (simp [go_sem, k0, k1, k2, k3, j0, j1, j2, j3, i0, i1, i2, i3]; done) | simp [go_sem, k0, k1, k2, k3, j0, j1, j2, j3, i0, i1, i2, i3, ↓IntWalk.iteOmega])), (by (first | (simp [go_sem, k0, k1, k2, k3, j0, j1, j2, j3, i0, i1, i2, i3]; done) | simp [go_sem, k0, k1, k2, k3, j0, j1, j2, j3, i0, i1, i2, i3, ↓IntWalk.iteOmega])), (by (first | (simp [go_sem, k0, k1, k2, k3, j0, j1, j2, j3, i0, i1, i2, i3]; done) | simp [go_sem, k0, k1, k2, k3, j0, j1, j2, j3, i0, i1, i2, i3, ↓IntWalk.iteOmega]))⟩, ⟨(by (first | (simp [go_sem, k0, k1, k2, k3, j0, j1, j2, j3, i0, i1, i2, i3]; done) | simp [go_sem, k0, k1, k2, k3, j0, j1, j2, j3, i0, i1, i2, i3, ↓IntWalk.iteOmega])), (by (first | (simp [go_sem, k0, k1, k2, k3, j0, j1, j2, j3, i0, i1, i2, i3]; done) | simp [go_sem, k0, k1, k2, k3, j0, j1, j2, j3, i0, i1, i2, i3, ↓IntWalk.iteOmega])), (by (first | (simp [go_sem, k0, k1, k2, k3, j0, j1, j2, j3, i0, i1, i2, i3]; done) | simp [go_sem, k0, k1, k2, k3, j0, j1, j2, j3, i0, i1, i2, i3, ↓IntWalk.iteOmega])), (by (first | (simp [go_sem, k0, k1, k2, k3, j0, j1, j2, j3, i0, i1, i2, i3]; done) | simp [go_sem, k0, k1, k2, k3, j0, j1, j2, j3, i0, i1, i2, i3, ↓IntWalk.iteOmega]))⟩, ⟨(by (first | (simp [go_sem, k0, k1, k2, k3, j0, j1, j2, j3, i0, i1, i2, i3]; done) | simp [go_sem, k0, k1, k2, k3, j0, j1, j2, j3, i0, i1, i2, i3, ↓IntWalk.iteOmega])), (by (first | (simp [go_sem, k0, k1, k2, k3, j0, j1, j2, j3, i0, i1, i2, i3]; done) | simp [go_sem, k0, k1, k2, k3, j0, j1, j2, j3, i0, i1, i2, i3, ↓IntWalk.iteOmega])), (by (first | (simp [go_sem, k0, k1, k2, k3, j0, j1, j2, j3, i0, i1, i2, i3]; done) | simp [go_sem, k0, k1, k2, k3, j0, j1, j2, j3, i0, i1, i2, i3, ↓IntWalk.iteOmega])), (by (first | (simp [go_sem, k0, k1, k2, k3, j0, j1, j2, j3, i0, i1, i2, i3]; done) | simp [go_sem, k0, k1, k2, k3, j0, j1, j2, j3, i0, i1, i2, i3, ↓IntWalk.iteOmega]))⟩, (by (first | (simp [go_sem, v0, v1, v2]; done) | simp [go_sem, v0, v1, v2, ↓IntWalk.iteOmega])), (by (first | (simp [go_sem]; done) | simp [go_sem, ↓IntWalk.iteOmega])), (HO4.out.below (by (repeat' (first | with_reducible exact Below.refl _ _ | (with_reducible refine below_later_of ?_ ?_ _) | (with_reducible refine Below.alloc ?_ ?_ _) | (with_reducible refine Below.setCell ?_ ?_ _) | (with_reducible refine Below.drew ?_) | (simp; done) | (simp; omega) | omega)))).ints, (HO5.out.below (by (repeat' (first | with_reducible exact Below.refl _ _ | (with_reducible refine below_later_of ?_ ?_ _) | (with_reducible refine Below.alloc ?_ ?_ _) | (with_reducible refine Below.setCell ?_ ?_ _) | (with_reducible refine Below.drew ?_) | (simp; done) | (simp; omega) | omega)))).ints, (by (repeat' (first | with_reducible exact Below.refl _ _ | (with_reducible refine below_later_of ?_ ?_ _) | (with_reducible refine Below.alloc ?_ ?_ _) | (with_reducible refine Below.setCell ?_ ?_ _) | (with_reducible refine Below.drew ?_) | (simp; done) | (simp; omega) | omega))), (by first | (simp; done) | (simp <;> omega)), (by first | (simp; done) | (simp <;> omega))⟩ ?_
      rintro W3 ⟨⟨k0, k1, k2, k3⟩, ⟨j0, j1, j2, j3⟩, ⟨i0, i1, i2, i3⟩, v2, u2, ho4, ho5, hb3, hB4, hB5⟩
      have HB3 := Lib.hid (HB2.out.trans (hb3.mono HB2.out.size))
      have hw3 : w.heap.size + 2 < W3.heap.size := by have := hb3.size; omega
      obtain ⟨g4, f4, rfl, hg4, hd4⟩ := ints_open ho4 hpos
      obtain ⟨g5, f5, rfl, hg5, hd5⟩ := ints_open ho5 hpos
      have HD4 := Lib.hid hd4
      have HD5 := Lib.hid hd5
      have HCX := Lib.hid (⟨k0, k1, k2, k3⟩ : let w' := W3; w'.cell? ⟨w.heap.size, 0, none⟩ = some (.int .i64 x.L) ∧ w'.cell? ⟨w.heap.size, 1, none⟩ = some (.int .i64 x.S) ∧ w'.cell? ⟨w.heap.size, 2, none⟩ = some (.slice x.pa x.m x.pc) ∧ w'.cell? ⟨w.heap.size, 3, none⟩ = some (.slice x.ca x.mc x.cc))
      have HCY := Lib.hid (⟨j0, j1, j2, j3⟩ : let w' := W3; w'.cell? ⟨w.heap.size + 1, 0, none⟩ = some (.int .i64 y.L) ∧ w'.cell? ⟨w.heap.size + 1, 1, none⟩ = some (.int .i64 y.S) ∧ w'.cell? ⟨w.heap.size + 1, 2, none⟩ = some (.slice y.pa y.m y.pc) ∧ w'.cell? ⟨w.heap.size + 1, 3, none⟩ = some (.slice y.ca y.mc y.cc))
      have HCZ := Lib.hid (⟨i0, i1, i2, i3⟩ : let w' := W3; w'.cell? ⟨w.heap.size + 2, 0, none⟩ = some (.int .i64 z.L) ∧ w'.cell? ⟨w.heap.size + 2, 1, none⟩ = some (.int .i64 z.S) ∧ w'.cell? ⟨w.heap.size + 2, 2, none⟩ = some (.slice z.pa z.m z.pc) ∧ w'.cell? ⟨w.heap.size + 2, 3, none⟩ = some (.slice z.ca z.mc z.cc))
      clear hb3 ho4 ho5 hd4 hd5 HO1 HO2 HO3 HO4 HO5 HT3 k0 k1 k2 k3 j0 j1 j2 j3 i0 i1 i2 i3
      go_loopw [17] (fun i wz => ∃ k : Nat, k ≤ N ∧ i = .int .i64 k ∧ Below W3.heap.size W3 wz) (fun i _ => N - (intOf i).toNat)
      case atStart => exact ⟨0, Nat.zero_le _, rfl, Below.refl _ _⟩
      case round =>
        obtain ⟨k, hk, rfl, hbz⟩ := hrel
        have HBZ := Lib.hid hbz
        have hsz := hbz.size
        have v2 := (hbz.cell (p := ⟨W1.heap.size + p1.os.size + 1 + p2.os.size + 1 + p3.os.size + 1 + p4.os.size, 2, none⟩) hB4).trans v2
        have u2 := (hbz.cell (p := ⟨W2.heap.size + p5.os.size, 2, none⟩) hB5).trans u2
        by_cases hlk : k < N
        · have hds : decide ((k : Int) < (N : Int)) = true := by simp; omega
          have hk0 : (0 : Int) ≤ (k : Int) := by omega
          have hk1 : (k : Int) < (N : Int) := by omega
          have e4 := (hbz.cell (p := ⟨g4, f4 + k, none⟩) hg4).trans (HD4.out k hlk)
          have e5 := (hbz.cell (p := ⟨g5, f5 + k, none⟩) hg5).trans (HD5.out k hlk)
          have n4 : W1.heap.size + p1.os.size + 1 + p2.os.size + 1 + p3.os.size + 1 + p4.os.size < wr.heap.size := by omega
          have n5 : W2.heap.size + p5.os.size < wr.heap.size := by omega
          have n6 : g4 < wr.heap.size := by omega
          have n7 : g5 < wr.heap.size := by omega
          have hwr : w.heap.size + 2 < wr.heap.size := by omega
          obtain ⟨k0, k1, k2, k3⟩ := HCX.out
          obtain ⟨j0, j1, j2, j3⟩ := HCY.out
          obtain ⟨i0, i1, i2, i3⟩ := HCZ.out
          replace k0 := (hbz.cell (p := ⟨w.heap.size, 0, none⟩) (by simp; omega)).trans k0
          replace k1 := (hbz.cell (p := ⟨w.heap.size, 1, none⟩) (by simp; omega)).trans k1
          replace k2 := (hbz.cell (p := ⟨w.heap.size, 2, none⟩) (by simp; omega)).trans k2
          replace k3 := (hbz.cell (p := ⟨w.heap.size, 3, none⟩) (by simp; omega)).trans k3
          replace j0 := (hbz.cell (p := ⟨w.heap.size + 1, 0, none⟩) (by simp; omega)).trans j0
          replace j1 := (hbz.cell (p := ⟨w.heap.size + 1, 1, none⟩) (by simp; omega)).trans j1
          replace j2 := (hbz.cell (p := ⟨w.heap.size + 1, 2, none⟩) (by simp; omega)).trans j2
          replace j3 := (hbz.cell (p := ⟨w.heap.size + 1, 3, none⟩) (by simp; omega)).trans j3
          replace i0 := (hbz.cell (p := ⟨w.heap.size + 2, 0, none⟩) (by simp; omega)).trans i0
          replace i1 := (hbz.cell (p := ⟨w.heap.size + 2, 1, none⟩) (by simp; omega)).trans i1
          replace i2 := (hbz.cell (p := ⟨w.heap.size + 2, 2, none⟩) (by simp; omega)).trans i2
          replace i3 := (hbz.cell (p := ⟨w.heap.size + 2, 3, none⟩) (by simp; omega)).trans i3
          have HIX := Lib.hid (show ∀ W, Below wr.heap.size wr W → _ from fun W hW => HIX0.out W (HB3.out.trans (hbz.trans (hW.mono hsz)|>.mono HB3.out.size)))
          have HIY := Lib.hid (show ∀ W, Below wr.heap.size wr W → _ from fun W hW => HIY0.out W (HB3.out.trans (hbz.trans (hW.mono hsz)|>.mono HB3.out.size)))
          have HIZ := Lib.hid (show ∀ W, Below wr.heap.size wr W → _ from fun W hW => HIZ0.out W (HB3.out.trans (hbz.trans (hW.mono hsz)|>.mono HB3.out.size)))
          have hx := HZX.out k hlk
          have hy := HZY.out k hlk
          have hz := HZZ.out k hlk
          have ho := HOK.out k hlk
          obtain ⟨c1, c2⟩ := HCK.out k hlk
          obtain ⟨fx, hfx⟩ : ∃ f, smp x.p = f := ⟨_, rfl⟩
          obtain ⟨fy, hfy⟩ : ∃ f, smp y.p = f := ⟨_, rfl⟩
          obtain ⟨fz, hfz⟩ : ∃ f, smp z.p = f := ⟨_, rfl⟩
          rw [hfx] at HIX hx
          rw [hfy] at HIY hy
          rw [hfz] at HIZ hz
          clear hbz HIX0 HIY0 HIZ0 HCX HCY HCZ HD4 HD5 HZX HZY HZZ HOK HCK hfx hfy hfz
          go_wp2_with fail
          go_cut [18, 19, 20] from 125 to 142 (fun X Y Z wx => X = .complex .f32 (fx k).1 (fx k).2 ∧ Y = .complex .f32 (fy k).1 (fy k).2 ∧ Z = .complex .f32 (fz k).1 (fz k).2 ∧ Below wr.heap.size wr wx)
          case first =>
            refine wp_region_held_drew (S := fun w' => (w'.cell? ⟨w.heap.size, 0, none⟩ = some (.int .i64 x.L) ∧ w'.cell? ⟨w.heap.size, 1, none⟩ = some (.int .i64 x.S) ∧ w'.cell? ⟨w.heap.size, 2, none⟩ = some (.slice x.pa x.m x.pc) ∧ w'.cell? ⟨w.heap.size, 3, none⟩ = some (.slice x.ca x.mc x.cc)) ∧ (w'.cell? ⟨w.heap.size + 1, 0, none⟩ = some (.int .i64 y.L) ∧ w'.cell? ⟨w.heap.size + 1, 1, none⟩ = some (.int .i64 y.S) ∧ w'.cell? ⟨w.heap.size + 1, 2, none⟩ = some (.slice y.pa y.m y.pc) ∧ w'.cell? ⟨w.heap.size + 1, 3, none⟩ = some (.slice y.ca y.mc y.cc)) ∧ (w'.cell? ⟨w.heap.size + 2, 0, none⟩ = some (.int .i64 z.L) ∧ w'.cell? ⟨w.heap.size + 2, 1, none⟩ = some (.int .i64 z.S) ∧ w'.cell? ⟨w.heap.size + 2, 2, none⟩ = some (.slice z.pa z.m z.pc) ∧ w'.cell? ⟨w.heap.size + 2, 3, none⟩ = some (.slice z.ca z.mc z.cc))) (by kernel_rfl) ?hS0 (fun hHeld => ?_)
            case hS0 => (first | exact ⟨⟨k0, k1, k2, k3⟩, ⟨j0, j1, j2, j3⟩, i0, i1, i2, i3⟩ | ((first | (simp [go_sem, k0, k1, k2, k3, j0, j1, j2, j3, i0, i1, i2, i3]; done) | simp [go_sem, k0, k1, k2, k3, j0, j1, j2, j3, i0, i1, i2, i3, ↓IntWalk.iteOmega]); done))
            refine wpAnyH_take (i := 0) (v := ?vv0) rfl (by kernel_rfl) (by kernel_rfl) (by kernel_rfl) (fun _ _ _ h => h) (Or.inl ⟨by rfl, ?hy0⟩) (by assumption) ?_
            case hy0 => (intro w1 hSw; (try dsimp only at hSw); first | (go_simp; done) | (go_simp; with_reducible rfl))
            try simp only [Act.put, List.setIfInBounds_toArray, List.set_cons_zero, List.set_cons_succ, List.getElem_toArray, List.getElem_cons_succ, List.getElem_cons_zero]
            refine wpAnyH_take (i := 6) (v := ?vv6) rfl (by kernel_rfl) (by kernel_rfl) (by kernel_rfl) (fun _ _ _ h => h) (Or.inl ⟨by rfl, ?hy6⟩) (by assumption) ?_
            case hy6 => (intro w1 hSw; (try dsimp only at hSw); first | (go_simp; done) | (go_simp; with_reducible rfl))
            try simp only [Act.put, List.setIfInBounds_toArray, List.set_cons_zero, List.set_cons_succ, List.getElem_toArray, List.getElem_cons_succ, List.getElem_cons_zero]
            refine wpAnyH_take (i := 12) (v := ?vv12) rfl (by kernel_rfl) (by kernel_rfl) (by kernel_rfl) (fun _ _ _ h => h) (Or.inl ⟨by rfl, ?hy12⟩) (by assumption) ?_
            case hy12 => (intro w1 hSw; (try dsimp only at hSw); first | (go_simp; done) | (go_simp; with_reducible rfl))
            try simp only [Act.put, List.setIfInBounds_toArray, List.set_cons_zero, List.set_cons_succ, List.getElem_toArray, List.getElem_cons_succ, List.getElem_cons_zero]
            refine wpAnyH_take (i := 3) (v := ?vv3) rfl (by kernel_rfl) (by kernel_rfl) (by kernel_rfl) (fun _ _ _ h => h) (Or.inl ⟨by rfl, ?hy3⟩) (by assumption) ?_
            case hy3 => (intro w1 hSw; (try dsimp only at hSw); first | (go_simp; done) | (go_simp; with_reducible rfl))
            try simp only [Act.put, List.setIfInBounds_toArray, List.set_cons_zero, List.set_cons_succ, List.getElem_toArray, List.getElem_cons_succ, List.getElem_cons_zero]
            refine wpAnyH_take (i := 9) (v := ?vv9) rfl (by kernel_rfl) (by kernel_rfl) (by kernel_rfl) (fun _ _ _ h => h) (Or.inl ⟨by rfl, ?hy9⟩) (by assumption) ?_
            case hy9 => (intro w1 hSw; (try dsimp only at hSw); first | (go_simp; done) | (go_simp; with_reducible rfl))
            try simp only [Act.put, List.setIfInBounds_toArray, List.set_cons_zero, List.set_cons_succ, List.getElem_toArray, List.getElem_cons_succ, List.getElem_cons_zero]
            refine wpAnyH_take (i := 15) (v := ?vv15) rfl (by kernel_rfl) (by kernel_rfl) (by kernel_rfl) (fun _ _ _ h => h) (Or.inl ⟨by rfl, ?hy15⟩) (by assumption) ?_
            case hy15 => (intro w1 hSw; (try dsimp only at hSw); first | (go_simp; done) | (go_simp; with_reducible rfl))
            try simp only [Act.put, List.setIfInBounds_toArray, List.set_cons_zero, List.set_cons_succ, List.getElem_toArray, List.getElem_cons_succ, List.getElem_cons_zero]
            refine wpAnyH_ready (rs := [1]) (by kernel_rfl) (by simp) ?_
            refine AllReadyH.cons rfl (fun K hK => ?_) AllReadyH.nil
            try simp only [List.getElem_toArray, List.getElem_cons_succ, List.getElem_cons_zero]
            rw [if_pos (by rfl)]
            go_simp
            (go_at_call 36; (with_reducible refine (HIX.out _ (by (repeat' (first | with_reducible exact Below.refl _ _ | (with_reducible refine below_later_of ?_ ?_ _) | (with_reducible refine Below.alloc ?_ ?_ _) | (with_reducible refine Below.setCell ?_ ?_ _) | (with_reducible refine Below.drew ?_) | (simp; done) | (simp; omega) | omega)))).mono ?_); rintro e w' ⟨a1, c1, rfl, ha, -, hb⟩; obtain ⟨g1, rfl, h10, h11, h12⟩ := ha hpos; have h1 := h12 k hlk; rw [Nat.zero_add] at h1; clear ha h12; obtain ⟨q1, rfl⟩ := later_of_below hb; clear hb; simp only [size_later] at h10 h11)
            refine hK.out _ _ ?hS11 (fun hHeld => ?_)
            case hS11 => exact (by first | exact ⟨⟨k0, k1, k2, k3⟩, ⟨j0, j1, j2, j3⟩, i0, i1, i2, i3⟩ | ((first | (simp [go_sem, k0, k1, k2, k3, j0, j1, j2, j3, i0, i1, i2, i3]; done) | simp [go_sem, k0, k1, k2, k3, j0, j1, j2, j3, i0, i1, i2, i3, ↓IntWalk.iteOmega]); done))
            clear hK K
            try simp only [Act.put, List.setIfInBounds_toArray, List.set_cons_zero, List.set_cons_succ, List.getElem_toArray, List.getElem_cons_succ, List.getElem_cons_zero]
            refine wpAnyH_more (S' := fun w' => ((w'.cell? ⟨w.heap.size, 0, none⟩ = some (.int .i64 x.L) ∧ w'.cell? ⟨w.heap.size, 1, none⟩ = some (.int .i64 x.S) ∧ w'.cell? ⟨w.heap.size, 2, none⟩ = some (.slice x.pa x.m x.pc) ∧ w'.cell? ⟨w.heap.size, 3, none⟩ = some (.slice x.ca x.mc x.cc)) ∧ (w'.cell? ⟨w.heap.size + 1, 0, none⟩ = some (.int .i64 y.L) ∧ w'.cell? ⟨w.heap.size + 1, 1, none⟩ = some (.int .i64 y.S) ∧ w'.cell? ⟨w.heap.size + 1, 2, none⟩ = some (.slice y.pa y.m y.pc) ∧ w'.cell? ⟨w.heap.size + 1, 3, none⟩ = some (.slice y.ca y.mc y.cc)) ∧ (w'.cell? ⟨w.heap.size + 2, 0, none⟩ = some (.int .i64 z.L) ∧ w'.cell? ⟨w.heap.size + 2, 1, none⟩ = some (.int .i64 z.S) ∧ w'.cell? ⟨w.heap.size + 2, 2, none⟩ = some (.slice z.pa z.m z.pc) ∧ w'.cell? ⟨w.heap.size + 2, 3, none⟩ = some (.slice z.ca z.mc z.cc))) ∧ w'.cell? ⟨g1, k, none⟩ = some (.complex .f32 (fx k).1 (fx k).2)) (fun _ h => h.1) _ _ _ _ ?_
            have hHeld1 := And.intro hHeld h1
            refine wpAnyH_take (i := 2) (v := ?vv2) rfl (by kernel_rfl) (by kernel_rfl) (by kernel_rfl) (fun _ _ _ h => h) (Or.inl ⟨by rfl, ?hy2⟩) (by assumption) ?_
            case hy2 => (intro w1 hSw; (try dsimp only at hSw); first | (go_simp; done) | (go_simp; with_reducible rfl))
            try simp only [Act.put, List.setIfInBounds_toArray, List.set_cons_zero, List.set_cons_succ, List.getElem_toArray, List.getElem_cons_succ, List.getElem_cons_zero]
            refine wpAnyH_take (i := 4) (v := ?vv4) rfl (by kernel_rfl) (by kernel_rfl) (by kernel_rfl) (fun _ _ _ h => h) (Or.inl ⟨by rfl, ?hy4⟩) (by assumption) ?_
            case hy4 => (intro w1 hSw; (try dsimp only at hSw); first | (go_simp; done) | (go_simp; with_reducible rfl))
            try simp only [Act.put, List.setIfInBounds_toArray, List.set_cons_zero, List.set_cons_succ, List.getElem_toArray, List.getElem_cons_succ, List.getElem_cons_zero]
            refine wpAnyH_take (i := 5) (v := ?vv5) rfl (by kernel_rfl) (by kernel_rfl) (by kernel_rfl) (fun _ _ _ h => h) (Or.inl ⟨by rfl, ?hy5⟩) (by assumption) ?_
            case hy5 => (intro w1 hSw; (try dsimp only at hSw); first | (go_simp; done) | (go_simp; with_reducible rfl))
            try simp only [Act.put, List.setIfInBounds_toArray, List.set_cons_zero, List.set_cons_succ, List.getElem_toArray, List.getElem_cons_succ, List.getElem_cons_zero]
            refine wpAnyH_ready (rs := [7]) (by kernel_rfl) (by simp) ?_
            refine AllReadyH.cons rfl (fun K hK => ?_) AllReadyH.nil
            try simp only [List.getElem_toArray, List.getElem_cons_succ, List.getElem_cons_zero]
            rw [if_pos (by rfl)]
            go_simp
            (go_at_call 36; (with_reducible refine (HIY.out _ (by (repeat' (first | with_reducible exact Below.refl _ _ | (with_reducible refine below_later_of ?_ ?_ _) | (with_reducible refine Below.alloc ?_ ?_ _) | (with_reducible refine Below.setCell ?_ ?_ _) | (with_reducible refine Below.drew ?_) | (simp; done) | (simp; omega) | omega)))).mono ?_); rintro e w' ⟨a2, c2, rfl, ha, -, hb⟩; obtain ⟨g2, rfl, h20, h21, h22⟩ := ha hpos; have h2 := h22 k hlk; rw [Nat.zero_add] at h2; clear ha h22; obtain ⟨q2, rfl⟩ := later_of_below hb; clear hb; simp only [size_later] at h20 h21)
            refine hK.out _ _ ?hS12 (fun hHeld => ?_)
            case hS12 => exact ⟨(by first | exact ⟨⟨k0, k1, k2, k3⟩, ⟨j0, j1, j2, j3⟩, i0, i1, i2, i3⟩ | ((first | (simp [go_sem, k0, k1, k2, k3, j0, j1, j2, j3, i0, i1, i2, i3]; done) | simp [go_sem, k0, k1, k2, k3, j0, j1, j2, j3, i0, i1, i2, i3, ↓IntWalk.iteOmega]); done)), cell_keep h1⟩
            clear hK K
            try simp only [Act.put, List.setIfInBounds_toArray, List.set_cons_zero, List.set_cons_succ, List.getElem_toArray, List.getElem_cons_succ, List.getElem_cons_zero]
            refine wpAnyH_more (S' := fun w' => (((w'.cell? ⟨w.heap.size, 0, none⟩ = some (.int .i64 x.L) ∧ w'.cell? ⟨w.heap.size, 1, none⟩ = some (.int .i64 x.S) ∧ w'.cell? ⟨w.heap.size, 2, none⟩ = some (.slice x.pa x.m x.pc) ∧ w'.cell? ⟨w.heap.size, 3, none⟩ = some (.slice x.ca x.mc x.cc)) ∧ (w'.cell? ⟨w.heap.size + 1, 0, none⟩ = some (.int .i64 y.L) ∧ w'.cell? ⟨w.heap.size + 1, 1, none⟩ = some (.int .i64 y.S) ∧ w'.cell? ⟨w.heap.size + 1, 2, none⟩ = some (.slice y.pa y.m y.pc) ∧ w'.cell? ⟨w.heap.size + 1, 3, none⟩ = some (.slice y.ca y.mc y.cc)) ∧ (w'.cell? ⟨w.heap.size + 2, 0, none⟩ = some (.int .i64 z.L) ∧ w'.cell? ⟨w.heap.size + 2, 1, none⟩ = some (.int .i64 z.S) ∧ w'.cell? ⟨w.heap.size + 2, 2, none⟩ = some (.slice z.pa z.m z.pc) ∧ w'.cell? ⟨w.heap.size + 2, 3, none⟩ = some (.slice z.ca z.mc z.cc))) ∧ w'.cell? ⟨g1, k, none⟩ = some (.complex .f32 (fx k).1 (fx k).2)) ∧ w'.cell? ⟨g2, k, none⟩ = some (.complex .f32 (fy k).1 (fy k).2)) (fun _ h => h.1) _ _ _ _ ?_
            have hHeld2 := And.intro hHeld h2
            refine wpAnyH_take (i := 8) (v := ?vv8) rfl (by kernel_rfl) (by kernel_rfl) (by kernel_rfl) (fun _ _ _ h => h) (Or.inl ⟨by rfl, ?hy8⟩) (by assumption) ?_
            case hy8 => (intro w1 hSw; (try dsimp only at hSw); first | (go_simp; done) | (go_simp; with_reducible rfl))
            try simp only [Act.put, List.setIfInBounds_toArray, List.set_cons_zero, List.set_cons_succ, List.getElem_toArray, List.getElem_cons_succ, List.getElem_cons_zero]
            refine wpAnyH_take (i := 10) (v := ?vv10) rfl (by kernel_rfl) (by kernel_rfl) (by kernel_rfl) (fun _ _ _ h => h) (Or.inl ⟨by rfl, ?hy10⟩) (by assumption) ?_
            case hy10 => (intro w1 hSw; (try dsimp only at hSw); first | (go_simp; done) | (go_simp; with_reducible rfl))
            try simp only [Act.put, List.setIfInBounds_toArray, List.set_cons_zero, List.set_cons_succ, List.getElem_toArray, List.getElem_cons_succ, List.getElem_cons_zero]
            refine wpAnyH_take (i := 11) (v := ?vv11) rfl (by kernel_rfl) (by kernel_rfl) (by kernel_rfl) (fun _ _ _ h => h) (Or.inl ⟨by rfl, ?hy11⟩) (by assumption) ?_
            case hy11 => (intro w1 hSw; (try dsimp only at hSw); first | (go_simp; done) | (go_simp; with_reducible rfl))
            try simp only [Act.put, List.setIfInBounds_toArray, List.set_cons_zero, List.set_cons_succ, List.getElem_toArray, List.getElem_cons_succ, List.getElem_cons_zero]
            refine wpAnyH_ready (rs := [13]) (by kernel_rfl) (by simp) ?_
            refine AllReadyH.cons rfl (fun K hK => ?_) AllReadyH.nil
            try simp only [List.getElem_toArray, List.getElem_cons_succ, List.getElem_cons_zero]
            rw [if_pos (by rfl)]
            go_simp
            (go_at_call 36; (with_reducible refine (HIZ.out _ (by (repeat' (first | with_reducible exact Below.refl _ _ | (with_reducible refine below_later_of ?_ ?_ _) | (with_reducible refine Below.alloc ?_ ?_ _) | (with_reducible refine Below.setCell ?_ ?_ _) | (with_reducible refine Below.drew ?_) | (simp; done) | (simp; omega) | omega)))).mono ?_); rintro e w' ⟨a3, c3, rfl, ha, -, hb⟩; obtain ⟨g3, rfl, h30, h31, h32⟩ := ha hpos; have h3 := h32 k hlk; rw [Nat.zero_add] at h3; clear ha h32; obtain ⟨q3, rfl⟩ := later_of_below hb; clear hb; simp only [size_later] at h30 h31)
            refine hK.out _ _ ?hS13 (fun hHeld => ?_)
            case hS13 => exact ⟨⟨(by first | exact ⟨⟨k0, k1, k2, k3⟩, ⟨j0, j1, j2, j3⟩, i0, i1, i2, i3⟩ | ((first | (simp [go_sem, k0, k1, k2, k3, j0, j1, j2, j3, i0, i1, i2, i3]; done) | simp [go_sem, k0, k1, k2, k3, j0, j1, j2, j3, i0, i1, i2, i3, ↓IntWalk.iteOmega]); done)), cell_keep (cell_keep h1)⟩, cell_keep h2⟩
            clear hK K
            try simp only [Act.put, List.setIfInBounds_toArray, List.set_cons_zero, List.set_cons_succ, List.getElem_toArray, List.getElem_cons_succ, List.getElem_cons_zero]
            refine wpAnyH_more (S' := fun w' => ((((w'.cell? ⟨w.heap.size, 0, none⟩ = some (.int .i64 x.L) ∧ w'.cell? ⟨w.heap.size, 1, none⟩ = some (.int .i64 x.S) ∧ w'.cell? ⟨w.heap.size, 2, none⟩ = some (.slice x.pa x.m x.pc) ∧ w'.cell? ⟨w.heap.size, 3, none⟩ = some (.slice x.ca x.mc x.cc)) ∧ (w'.cell? ⟨w.heap.size + 1, 0, none⟩ = some (.int .i64 y.L) ∧ w'.cell? ⟨w.heap.size + 1, 1, none⟩ = some (.int .i64 y.S) ∧ w'.cell? ⟨w.heap.size + 1, 2, none⟩ = some (.slice y.pa y.m y.pc) ∧ w'.cell? ⟨w.heap.size + 1, 3, none⟩ = some (.slice y.ca y.mc y.cc)) ∧ (w'.cell? ⟨w.heap.size + 2, 0, none⟩ = some (.int .i64 z.L) ∧ w'.cell? ⟨w.heap.size + 2, 1, none⟩ = some (.int .i64 z.S) ∧ w'.cell? ⟨w.heap.size + 2, 2, none⟩ = some (.slice z.pa z.m z.pc) ∧ w'.cell? ⟨w.heap.size + 2, 3, none⟩ = some (.slice z.ca z.mc z.cc))) ∧ w'.cell? ⟨g1, k, none⟩ = some (.complex .f32 (fx k).1 (fx k).2)) ∧ w'.cell? ⟨g2, k, none⟩ = some (.complex .f32 (fy k).1 (fy k).2)) ∧ w'.cell? ⟨g3, k, none⟩ = some (.complex .f32 (fz k).1 (fz k).2)) (fun _ h => h.1) _ _ _ _ ?_
            have hHeld3 := And.intro hHeld h3
            refine wpAnyH_take (i := 14) (v := ?vv14) rfl (by kernel_rfl) (by kernel_rfl) (by kernel_rfl) (fun _ _ _ h => h) (Or.inl ⟨by rfl, ?hy14⟩) (by assumption) ?_
            case hy14 => (intro w1 hSw; (try dsimp only at hSw); first | (go_simp; done) | (go_simp; with_reducible rfl))
            try simp only [Act.put, List.setIfInBounds_toArray, List.set_cons_zero, List.set_cons_succ, List.getElem_toArray, List.getElem_cons_succ, List.getElem_cons_zero]
            refine wpAnyH_take (i := 16) (v := ?vv16) rfl (by kernel_rfl) (by kernel_rfl) (by kernel_rfl) (fun _ _ _ h => h) (Or.inl ⟨by rfl, ?hy16⟩) (by assumption) ?_
            case hy16 => (intro w1 hSw; (try dsimp only at hSw); first | (go_simp; done) | (go_simp; with_reducible rfl))
            try simp only [Act.put, List.setIfInBounds_toArray, List.set_cons_zero, List.set_cons_succ, List.getElem_toArray, List.getElem_cons_succ, List.getElem_cons_zero]
            refine wpAnyH_take (i := 17) (v := ?vv17) rfl (by kernel_rfl) (by kernel_rfl) (by kernel_rfl) (fun _ _ _ h => h) (Or.inl ⟨by rfl, ?hy17⟩) (by assumption) ?_
            case hy17 => (intro w1 hSw; (try dsimp only at hSw); first | (go_simp; done) | (go_simp; with_reducible rfl))
            try simp only [Act.put, List.setIfInBounds_toArray, List.set_cons_zero, List.set_cons_succ, List.getElem_toArray, List.getElem_cons_succ, List.getElem_cons_zero]
            refine wpAnyH_take (i := 18) (v := ?vv18) rfl (by kernel_rfl) (by kernel_rfl) (by kernel_rfl) (fun _ _ _ h => h) (Or.inl ⟨by rfl, ?hy18⟩) (by assumption) ?_
            case hy18 => (intro w1 hSw; (try dsimp only at hSw); first | (go_simp; done) | (go_simp; with_reducible rfl))
            try simp only [Act.put, List.setIfInBounds_toArray, List.set_cons_zero, List.set_cons_succ, List.getElem_toArray, List.getElem_cons_succ, List.getElem_cons_zero]
            refine wpAnyH_take (i := 19) (v := ?vv19) rfl (by kernel_rfl) (by kernel_rfl) (by kernel_rfl) (fun _ _ _ h => h) (Or.inl ⟨by rfl, ?hy19⟩) (by assumption) ?_
            case hy19 => (intro w1 hSw; (try dsimp only at hSw); first | (go_simp; done) | (go_simp; with_reducible rfl))
            try simp only [Act.put, List.setIfInBounds_toArray, List.set_cons_zero, List.set_cons_succ, List.getElem_toArray, List.getElem_cons_succ, List.getElem_cons_zero]
            refine wpAnyH_take (i := 20) (v := ?vv20) rfl (by kernel_rfl) (by kernel_rfl) (by kernel_rfl) (fun _ _ _ h => h) (Or.inl ⟨by rfl, ?hy20⟩) (by assumption) ?_
            case hy20 => (intro w1 hSw; (try dsimp only at hSw); first | (go_simp; done) | (go_simp; with_reducible rfl))
            try simp only [Act.put, List.setIfInBounds_toArray, List.set_cons_zero, List.set_cons_succ, List.getElem_toArray, List.getElem_cons_succ, List.getElem_cons_zero]
            refine wpAnyH_done (by kernel_rfl) ?_ _
            go_wp2_with fail
            go_meet
            exact ⟨rfl, rfl, rfl, (by (repeat' (first | with_reducible exact Below.refl _ _ | (with_reducible refine below_later_of ?_ ?_ _) | (with_reducible refine Below.alloc ?_ ?_ _) | (with_reducible refine Below.setCell ?_ ?_ _) | (with_reducible refine Below.drew ?_) | (simp; done) | (simp; omega) | omega)))⟩
          case rest =>
            obtain ⟨rfl, rfl, rfl, hb⟩ := hcut
            obtain ⟨W4, hW4⟩ : ∃ W4 : World, W4 = wc := ⟨_, rfl⟩
            subst hW4
            have hs4 := hb.size
            have HB4 := Lib.hid (HBZ.out.trans (hb.mono hsz))
            replace v2 := (hb.cell (p := ⟨W1.heap.size + p1.os.size + 1 + p2.os.size + 1 + p3.os.size + 1 + p4.os.size, 2, none⟩) n4).trans v2
            replace u2 := (hb.cell (p := ⟨W2.heap.size + p5.os.size, 2, none⟩) n5).trans u2
            replace e4 := (hb.cell (p := ⟨g4, f4 + k, none⟩) n6).trans e4
            replace e5 := (hb.cell (p := ⟨g5, f5 + k, none⟩) n7).trans e5
            replace n4 : W1.heap.size + p1.os.size + 1 + p2.os.size + 1 + p3.os.size + 1 + p4.os.size < W4.heap.size := by omega
            replace n5 : W2.heap.size + p5.os.size < W4.heap.size := by omega
            replace n6 : g4 < W4.heap.size := by omega
            replace n7 : g5 < W4.heap.size := by omega
            generalize fx k = a at *
            generalize fy k = b at *
            generalize fz k = d at *
            obtain ⟨a1, a2⟩ := a
            obtain ⟨b1, b2⟩ := b
            obtain ⟨d1, d2⟩ := d
            dsimp only at hx hy hz ⊢
            clear hb HIX HIY HIZ k0 k1 k2 k3 j0 j1 j2 j3 i0 i1 i2 i3
            generalize intAt (cloL x y z) k = cv at *
            generalize intAt (triP x x) k = ov at *
            generalize zerB x k = zx at *
            generalize zerB y k = zy at *
            generalize zerB z k = zz at *
            cases zx
            · rw [if_neg (by decide)] at ho
              subst ho
              cases zy
              · cases zz
                · obtain ⟨q1, q2⟩ := c2 rfl
                  have HWI := Lib.hid (show inE (-2) 2 cv = true by unfold inE; simp; omega)
                  have hne : (cv == 1000000000000) = false := by simp; omega
                  clear c1 c2 q1 q2
                  go_wp2_with (first | (go_at_call 47; (with_reducible refine (bWithin _ _ _ _ HWI.out).mono ?_); rintro e w' ⟨rfl, rfl⟩))
                  go_roundw
                  case rel => exact ⟨k + 1, by omega, by go_num, HB4.out.trans (below_mono_of HB4.out.size (by (repeat' (first | with_reducible exact Below.refl _ _ | (with_reducible refine below_later_of ?_ ?_ _) | (with_reducible refine Below.alloc ?_ ?_ _) | (with_reducible refine Below.setCell ?_ ?_ _) | (with_reducible refine Below.drew ?_) | (simp; done) | (simp; omega) | omega))))⟩
                  case measure => simp [intOf]; omega
                · have hcv := c1 rfl
                  subst hcv
                  clear c1 c2
                  go_wp2_with (first | (go_at_call 47; (with_reducible refine (bWithin _ _ _ _ HWI.out).mono ?_); rintro e w' ⟨rfl, rfl⟩))
                  go_roundw
                  case rel => exact ⟨k + 1, by omega, by go_num, HB4.out.trans (below_mono_of HB4.out.size (by (repeat' (first | with_reducible exact Below.refl _ _ | (with_reducible refine below_later_of ?_ ?_ _) | (with_reducible refine Below.alloc ?_ ?_ _) | (with_reducible refine Below.setCell ?_ ?_ _) | (with_reducible refine Below.drew ?_) | (simp; done) | (simp; omega) | omega))))⟩
                  case measure => simp [intOf]; omega
              · have hcv := c1 rfl
                subst hcv
                clear c1 c2
                go_wp2_with (first | (go_at_call 47; (with_reducible refine (bWithin _ _ _ _ HWI.out).mono ?_); rintro e w' ⟨rfl, rfl⟩))
                go_roundw
                case rel => exact ⟨k + 1, by omega, by go_num, HB4.out.trans (below_mono_of HB4.out.size (by (repeat' (first | with_reducible exact Below.refl _ _ | (with_reducible refine below_later_of ?_ ?_ _) | (with_reducible refine Below.alloc ?_ ?_ _) | (with_reducible refine Below.setCell ?_ ?_ _) | (with_reducible refine Below.drew ?_) | (simp; done) | (simp; omega) | omega))))⟩
                case measure => simp [intOf]; omega
            · rw [if_pos rfl] at ho
              subst ho
              have hcv := c1 rfl
              subst hcv
              clear c1 c2
              go_wp2_with (first | (go_at_call 47; (with_reducible refine (bWithin _ _ _ _ HWI.out).mono ?_); rintro e w' ⟨rfl, rfl⟩))
              go_roundw
              case rel => exact ⟨k + 1, by omega, by go_num, HB4.out.trans (below_mono_of HB4.out.size (by (repeat' (first | with_reducible exact Below.refl _ _ | (with_reducible refine below_later_of ?_ ?_ _) | (with_reducible refine Below.alloc ?_ ?_ _) | (with_reducible refine Below.setCell ?_ ?_ _) | (with_reducible refine Below.drew ?_) | (simp; done) | (simp; omega) | omega))))⟩
              case measure => simp [intOf]; omega
        · obtain rfl : k = N := by omega
          have hds : decide ((k : Int) < (k : Int)) = false := by simp
          clear hbz
          go_wp2
          go_ret
          exact ⟨rfl, HB3.out.trans (HBZ.out.mono HB3.out.size)⟩
    · have hne : (E' != 0) = true := by simpa using h2
      have h00 : ((0 : Int) != 0) = false := rfl
      clear hx hy hz hE hE' h2
      go_enter Tryz.func10, Tryz.ntmps10
      go_wp2_with (first | (go_at_call 13; (with_reducible refine (awake4 _ (HT.out.below (by (repeat' (first | with_reducible exact Below.refl _ _ | (with_reducible refine below_later_of ?_ ?_ _) | (with_reducible refine Below.alloc ?_ ?_ _) | (with_reducible refine Below.setCell ?_ ?_ _) | (with_reducible refine Below.drew ?_) | (simp; done) | (simp; omega) | omega))))).mono ?_); rintro e w' ⟨rfl, hb⟩; obtain ⟨pp, rfl⟩ := later_of_below hb; clear hb) | (go_at_call 34; (with_reducible refine (HSX.out _).mono ?_); rintro e w' ⟨rfl, hb⟩; obtain ⟨pp, rfl⟩ := later_of_below hb; clear hb) | (go_at_call 34; (with_reducible refine (HSY.out _).mono ?_); rintro e w' ⟨rfl, hb⟩; obtain ⟨pp, rfl⟩ := later_of_below hb; clear hb) | (go_at_call 34; (with_reducible refine (HSZ.out _).mono ?_); rintro e w' ⟨rfl, hb⟩; obtain ⟨pp, rfl⟩ := later_of_below hb; clear hb) | (go_at_call 37; (with_reducible refine (HPA.out _ (by (repeat' (first | with_reducible exact Below.refl _ _ | (with_reducible refine below_later_of ?_ ?_ _) | (with_reducible refine Below.alloc ?_ ?_ _) | (with_reducible refine Below.setCell ?_ ?_ _) | (with_reducible refine Below.drew ?_) | (simp; done) | (simp; omega) | omega)))).mono ?_); rintro e w' ⟨rfl, hb⟩; obtain ⟨pp, rfl⟩ := later_of_below hb; clear hb) | (go_at_call 37; (with_reducible refine (HPB.out _ (by (repeat' (first | with_reducible exact Below.refl _ _ | (with_reducible refine below_later_of ?_ ?_ _) | (with_reducible refine Below.alloc ?_ ?_ _) | (with_reducible refine Below.setCell ?_ ?_ _) | (with_reducible refine Below.drew ?_) | (simp; done) | (simp; omega) | omega)))).mono ?_); rintro e w' ⟨rfl, hb⟩; obtain ⟨pp, rfl⟩ := later_of_below hb; clear hb))
      go_ret
      exact ⟨rfl, (by (repeat' (first | with_reducible exact Below.refl _ _ | (with_reducible refine below_later_of ?_ ?_ _) | (with_reducible refine Below.alloc ?_ ?_ _) | (with_reducible refine Below.setCell ?_ ?_ _) | (with_reducible refine Below.drew ?_) | (simp; done) | (simp; omega) | omega)))⟩
  · have hne : (E != 0) = true := by simpa using h1
    clear hx hy hz hE hE' h1
    go_enter Tryz.func10, Tryz.ntmps10
    go_wp2_with (first | (go_at_call 13; (with_reducible refine (awake4 _ (HT.out.below (by (repeat' (first | with_reducible exact Below.refl _ _ | (with_reducible refine below_later_of ?_ ?_ _) | (with_reducible refine Below.alloc ?_ ?_ _) | (with_reducible refine Below.setCell ?_ ?_ _) | (with_reducible refine Below.drew ?_) | (simp; done) | (simp; omega) | omega))))).mono ?_); rintro e w' ⟨rfl, hb⟩; obtain ⟨pp, rfl⟩ := later_of_below hb; clear hb) | (go_at_call 34; (with_reducible refine (HSX.out _).mono ?_); rintro e w' ⟨rfl, hb⟩; obtain ⟨pp, rfl⟩ := later_of_below hb; clear hb) | (go_at_call 34; (with_reducible refine (HSY.out _).mono ?_); rintro e w' ⟨rfl, hb⟩; obtain ⟨pp, rfl⟩ := later_of_below hb; clear hb) | (go_at_call 34; (with_reducible refine (HSZ.out _).mono ?_); rintro e w' ⟨rfl, hb⟩; obtain ⟨pp, rfl⟩ := later_of_below hb; clear hb) | (go_at_call 37; (with_reducible refine (HPA.out _ (by (repeat' (first | with_reducible exact Below.refl _ _ | (with_reducible refine below_later_of ?_ ?_ _) | (with_reducible refine Below.alloc ?_ ?_ _) | (with_reducible refine Below.setCell ?_ ?_ _) | (with_reducible refine Below.drew ?_) | (simp; done) | (simp; omega) | omega)))).mono ?_); rintro e w' ⟨rfl, hb⟩; obtain ⟨pp, rfl⟩ := later_of_below hb; clear hb) | (go_at_call 37; (with_reducible refine (HPB.out _ (by (repeat' (first | with_reducible exact Below.refl _ _ | (with_reducible refine below_later_of ?_ ?_ _) | (with_reducible refine Below.alloc ?_ ?_ _) | (with_reducible refine Below.setCell ?_ ?_ _) | (with_reducible refine Below.drew ?_) | (simp; done) | (simp; omega) | omega)))).mono ?_); rintro e w' ⟨rfl, hb⟩; obtain ⟨pp, rfl⟩ := later_of_below hb; clear hb))
    go_ret
    exact ⟨rfl, (by (repeat' (first | with_reducible exact Below.refl _ _ | (with_reducible refine below_later_of ?_ ?_ _) | (with_reducible refine Below.alloc ?_ ?_ _) | (with_reducible refine Below.setCell ?_ ?_ _) | (with_reducible refine Below.drew ?_) | (simp; done) | (simp; omega) | omega)))⟩
end Go.Proofs.YtfiioadmpjmmgaaGreatDoor
