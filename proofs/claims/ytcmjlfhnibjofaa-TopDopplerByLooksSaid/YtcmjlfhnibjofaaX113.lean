/- The law TopDopplerByLooks returns true. -/
import Derived.Test.YtcmjlfhnibjofaaX112
import Derived.Test.YtcmjlfhnibjofaaX111
import Derived.Test.YtcmjlfhnibjofaaZW
import Derived.Deep.CutRange
import Derived.Deep.RegionHeld3
namespace Go.Proofs.Ytcmjlfhnibjofaa
set_option linter.unusedVariables false
set_option linter.unusedSimpArgs false
open Go.RowKit Ieee Ntt
theorem ownS_fld2 {W : World} {B n : Nat} {L S : Int} {f : Nat → Nat × Nat} {a : Option Addr} (h : OwnS W B n f a) : FldAt W L S n f a := h.fld (Below.refl _ _)
theorem LdSay.mono7 {W : World} {B B' : Nat} {L S : Int} {n : Nat} {F : Nat → Nat × Nat} {E : Int} {l s : Int} {k : Nat} {a : Option Addr} (h : LdSay W B L S n F E l s k a) (hb : B' ≤ B) : LdSay W B' L S n F E l s k a :=
  ⟨fun e => by
    obtain ⟨h1, h2, h3, h4⟩ := h.ok e
    exact ⟨h1, h2, h3, h4.mono hb⟩, h.bad⟩
theorem dl_val {f : Nat → Nat × Nat} {L S : Nat} {n : Nat} (he : (imgE L S n f).2 = 0) (hL : (L : Int) ≠ 1) : psE L S n f = 0 ∧ dpE L S n f = (if nbR f S n = 0 ∧ nbI f S n = 0 then 31 else 0) ∧ (¬ (nbR f S n = 0 ∧ nbI f S n = 0) → dpV L S n f = phaseP (nbR f S n) (nbI f S n)) := by
  have h1 : psE L S n f = 0 := by unfold psE; rw [if_pos he, if_neg hL]
  have h2 : dpE L S n f = (if nbR f S n = 0 ∧ nbI f S n = 0 then 31 else 0) := by
    unfold dpE
    rw [if_pos h1]
    rfl
  refine ⟨h1, h2, fun h => ?_⟩
  unfold dpV
  rw [h2, if_neg h, if_pos rfl]
  rfl
set_option maxRecDepth 20000 in
set_option maxHeartbeats 40000000 in
theorem doppler_looks (x : Scn) (w : World) (hx : x.At w) :
    Calls Try.prog 5 #[.agg #[.int .i64 x.L, .int .i64 x.S, .slice x.pa x.m x.pc, .slice x.ca x.mc x.cc]] w fun e w' => e = .returned (.bool true) ∧ Below w.heap.size w w' := by
  rcases (show smallB x = false ∨ smallB x = true by cases smallB x <;> simp) with hq | hq
  · have HSX := Lib.hid (fun w => lSmall x w hq)
    clear hx hq
    go_enter Try.func5, Try.ntmps5
    go_wp2_with (first | (go_at_call 24; (with_reducible refine (fringed_any _).mono ?_); rintro e w' ⟨rfl, hb⟩; obtain ⟨pq, rfl⟩ := later_of_below hb; clear hb) | (go_at_call 25; (with_reducible refine (HSX.out _).mono ?_); rintro e w' ⟨rfl, hb⟩; obtain ⟨pq, rfl⟩ := later_of_below hb; clear hb))
    go_ret
    exact ⟨rfl, (by (repeat' (first | with_reducible exact Below.refl _ _ | (with_reducible refine below_later_of ?_ ?_ _) | (with_reducible refine Below.alloc ?_ ?_ _) | (with_reducible refine Below.setCell ?_ ?_ _) | (with_reducible refine Below.drew ?_) | (simp; done) | (simp; omega) | omega)))⟩
  · have HSX := Lib.hid (fun w => lSmall x w hq)
    obtain ⟨q1, q2⟩ := smallB_ok hq
    have HIX0 := Lib.hid (show ∀ W, Below w.heap.size w W → _ from fun W hW => lImage x W (by omega) (hx.below hW))
    have HIX := HIX0
    by_cases hz : psE x.L x.S (x.m / 2) (smp x.p) = 0
    · have he : (imgE x.L x.S (x.m / 2) (smp x.p)).2 = 0 := by
        unfold psE at hz
        split at hz
        · assumption
        · exact hz
      have hL1 : x.L ≠ 1 := fun h => by
        unfold psE at hz
        rw [if_pos he, if_pos h] at hz
        exact absurd hz (by decide)
      obtain ⟨s1, g1⟩ := imgE_zero he
      obtain ⟨⟨l1, l2⟩, ⟨l3, l4⟩, hn⟩ := sizeE_okU s1
      obtain ⟨L, hL⟩ := Int.eq_ofNat_of_zero_le (show 0 ≤ x.L by omega)
      obtain ⟨S, hS⟩ := Int.eq_ofNat_of_zero_le (show 0 ≤ x.S by omega)
      obtain ⟨n, hnn⟩ : ∃ n, x.m / 2 = n := ⟨_, rfl⟩
      obtain ⟨f, hf⟩ : ∃ f, smp x.p = f := ⟨_, rfl⟩
      rw [hnn, hf, hL, hS] at HIX0 HIX
      rw [hnn, hf, hL, hS] at he
      rw [hnn, hL, hS] at s1
      rw [hnn, hf] at g1
      rw [hnn, hL, hS] at hn
      rw [hL] at l1 l2 hL1
      rw [hS] at l3 l4
      have hn : n = L * S := by exact_mod_cast hn
      have hn5 : n ≤ 5000 := by have := Nat.mul_le_mul (show L ≤ 64 by omega) (show S ≤ 64 by omega); omega
      have hpos : 0 < n := by rw [hn]; exact Nat.mul_pos (by omega) (by omega)
      obtain ⟨v1, v2, v3⟩ := dl_val he hL1
      have hpf := pair_fld (pair_sh hn he)
      have hle := lk_err hn he
      have hlv := lk_val hn he
      obtain ⟨⟨b1, b2⟩, b3, b4⟩ := nb_small hn he
      obtain ⟨R, hR⟩ : ∃ R, nbR f S n = R := ⟨_, rfl⟩
      obtain ⟨I, hI⟩ : ∃ I, nbI f S n = I := ⟨_, rfl⟩
      have HPS := Lib.hid (show ∀ (c1 : Nat) (a1 : Option Addr) (W : World), n ≤ c1 → DataAt W L S n f a1 → Calls Try.prog 26 #[.agg #[.int .i64 L, .int .i64 S, .slice a1 n c1]] W fun e w' => e = .returned (.tuple #[.complex .f64 (f64I R) (f64I I), .int .i64 0]) ∧ Below W.heap.size W w' from
        fun c1 a1 W hc hd => by
          have := pairSum_ok L S n c1 f a1 W hn hc hd he (by intro h; exact hL1 (by rw [h]; rfl)) rfl
          rw [← hR, ← hI]
          exact this)
      rw [hR, hI] at v2 v3 hle hlv
      rw [hR] at b1 b2
      rw [hI] at b3 b4
      have hd0 : DataAt w L S n f none ∨ True := .inr trivial
      obtain ⟨dv, hdv⟩ : ∃ dv, dpV L S n f = dv := ⟨_, rfl⟩
      obtain ⟨de, hde⟩ : ∃ de, dpE L S n f = de := ⟨_, rfl⟩
      have HDP := Lib.hid (show ∀ (c1 : Nat) (a1 : Option Addr) (W : World), n ≤ c1 → DataAt W L S n f a1 → Calls Try.prog 28 #[.agg #[.int .i64 L, .int .i64 S, .slice a1 n c1]] W fun e w' => e = .returned (.tuple #[.int .i64 dv, .int .i64 de]) ∧ Below W.heap.size W w' from
        fun c1 a1 W hc hd => doppler_any L S n c1 f a1 W (by omega) hc hd hde hdv)
      rw [hde] at v2
      rw [hdv] at v3
      obtain ⟨g, hg⟩ : ∃ g, shB f L S 1 0 = g := ⟨_, rfl⟩
      have HSH := Lib.hid (show ∀ (c1 : Nat) (a1 : Option Addr) (W : World) (B : Nat) (Wa : World), (0 < n → ∃ g, a1 = some ⟨g, 0, none⟩ ∧ B ≤ g ∧ g < Wa.heap.size ∧ SamplesAt Wa g 0 n f) → Below Wa.heap.size Wa W → Calls Try.prog 29 #[.agg #[.int .i64 L, .int .i64 S, .slice a1 n c1], .agg #[.int .i64 1, .int .i64 0]] W fun e w' => ∃ a c, e = .returned (.tuple #[.agg #[.int .i64 L, .int .i64 S, .slice a n c], .int .i64 0]) ∧ OwnC w' W.heap.size n g a ∧ n ≤ c ∧ Below W.heap.size W w' from
        fun c1 a1 W B Wa h1 hb => by
          obtain ⟨p, rfl, -, hp, hs⟩ := h1 hpos
          have := shifted_ok L S p 0 n c1 f 1 0 W (by omega) (by omega) (by omega) (by omega) hn (by have := hb.size; omega) (hs.below hp hb) g1 (by decide) (by decide)
          rw [hg] at this
          exact this)
      have hpair : pairE L S n f L S n g = 0 := by rw [← hg]; exact pair_sh hn he
      rw [hg] at hpf hle hlv
      have HIF0 := Lib.hid hpair
      have HWD := Lib.hid (show Wide64 n (ifB f g) from fun k _ => ⟨f64I_lt _, f64I_lt _⟩)
      obtain ⟨F, hF⟩ : ∃ F, ifB f g = F := ⟨_, rfl⟩
      rw [hF] at hpf hle hlv HWD
      obtain ⟨E, hE⟩ : ∃ E, lkE L S n F L S = E := ⟨_, rfl⟩
      have hk1 : lkL (L : Int) (L : Int) = 1 := lkL_one (by omega)
      have hk2 : lkL (S : Int) (S : Int) = 1 := lkL_one (by omega)
      have HLO := Lib.hid (show ∀ (c a : _) (W : World), FldAt W L S n F a → Calls Try.prog 31 #[.agg #[.int .i64 L, .int .i64 S, .slice a n c], .agg #[.int .i64 L, .int .i64 S]] W (LkSay 1 1 1 (nmF (lkF F S L S)) E W) from
        fun c a W hd => by
          have := look_det (b0 := L) (b1 := S) (by omega) HWD.out hE W a c hd
          rw [hk1, hk2] at this
          exact this)
      rw [hE] at hle
      have HLE := Lib.hid hle
      have HLV := Lib.hid hlv
      have HV := Lib.hid (And.intro v2 v3)
      have HFF := Lib.hid hF
      clear hx hq hz he hL1 s1 g1 hnn hf hR hI hdv hde hg hpair hpf hle hlv v1 v2 v3 hE hk1 hk2 hd0 hF
      rw [hL, hS]
      rw [hL, hS] at HSX
      clear hL hS hn
      go_enter Try.func5, Try.ntmps5
      go_upto_region 9 with (first | (go_at_call 24; (with_reducible refine (fringed_any _).mono ?_); rintro e w' ⟨rfl, hb⟩; obtain ⟨pq, rfl⟩ := later_of_below hb; clear hb) | (go_at_call 25; (with_reducible refine (HSX.out _).mono ?_); rintro e w' ⟨rfl, hb⟩; obtain ⟨pq, rfl⟩ := later_of_below hb; clear hb) | (go_at_call 27; (with_reducible refine (HIX.out _ (by (repeat' (first | with_reducible exact Below.refl _ _ | (with_reducible refine below_later_of ?_ ?_ _) | (with_reducible refine Below.alloc ?_ ?_ _) | (with_reducible refine Below.setCell ?_ ?_ _) | (with_reducible refine Below.drew ?_) | (simp; done) | (simp; omega) | omega)))).mono ?_); rintro e w' ⟨a1, c1, rfl, ha, hc, hb⟩; have HA1 := Lib.hid ha; have HC1 := Lib.hid hc; clear ha hc; obtain ⟨pq, rfl⟩ := later_of_below hb; clear hb) | (go_at_call 26; (with_reducible refine (HPS.out c1 a1 _ HC1.out (dataAt_own HA1.out (by (repeat' (first | with_reducible exact Below.refl _ _ | (with_reducible refine below_later_of ?_ ?_ _) | (with_reducible refine Below.alloc ?_ ?_ _) | (with_reducible refine Below.setCell ?_ ?_ _) | (with_reducible refine Below.drew ?_) | (simp; done) | (simp; omega) | omega))))).mono ?_); rintro e w' ⟨rfl, hb⟩; obtain ⟨pq, rfl⟩ := later_of_below hb; clear hb) | (go_at_call 28; (with_reducible refine (HDP.out c1 a1 _ HC1.out (dataAt_own HA1.out (by (repeat' (first | with_reducible exact Below.refl _ _ | (with_reducible refine below_later_of ?_ ?_ _) | (with_reducible refine Below.alloc ?_ ?_ _) | (with_reducible refine Below.setCell ?_ ?_ _) | (with_reducible refine Below.drew ?_) | (simp; done) | (simp; omega) | omega))))).mono ?_); rintro e w' ⟨rfl, hb⟩; obtain ⟨pq, rfl⟩ := later_of_below hb; clear hb))
      refine any_worldF (fun w' => (w'.cell? ⟨w.heap.size, 0, none⟩ = some (.int .i64 L) ∧ w'.cell? ⟨w.heap.size, 1, none⟩ = some (.int .i64 S) ∧ w'.cell? ⟨w.heap.size, 2, none⟩ = some (.slice x.pa x.m x.pc) ∧ w'.cell? ⟨w.heap.size, 3, none⟩ = some (.slice x.ca x.mc x.cc)) ∧ Below w.heap.size w w' ∧ w.heap.size < w'.heap.size) ⟨⟨(by (first | (simp [go_sem]; done) | simp [go_sem, ↓IntWalk.iteOmega])), (by (first | (simp [go_sem]; done) | simp [go_sem, ↓IntWalk.iteOmega])), (by (first | (simp [go_sem]; done) | simp [go_sem, ↓IntWalk.iteOmega])), (by (first | (simp [go_sem]; done) | simp [go_sem, ↓IntWalk.iteOmega]))⟩, (by (repeat' (first | with_reducible exact Below.refl _ _ | (with_reducible refine below_later_of ?_ ?_ _) | (with_reducible refine Below.alloc ?_ ?_ _) | (with_reducible refine Below.setCell ?_ ?_ _) | (with_reducible refine Below.drew ?_) | (simp; done) | (simp; omega) | omega))), by simp; omega⟩ ?_
      rintro W1 ⟨⟨k0, k1, k2, k3⟩, hb1, hlt1⟩
      have HB1 := Lib.hid hb1
      have hs1 := hb1.size
      have HIX := Lib.hid (show ∀ W, Below W1.heap.size W1 W → _ from fun W hW => HIX0.out W (HB1.out.trans (hW.mono hs1)))
      clear hb1
      go_cut [7, 8] from 36 to 43 (fun X Y wx => ∃ B a c, X = .pointer (some ⟨B, 0, none⟩) ∧ Y = .int .i64 0 ∧ ImgBlk wx B L S a n c ∧ OwnC wx 0 n g a ∧ B < wx.heap.size ∧ Below W1.heap.size W1 wx)
      case first =>
        go_wp2_with (first | (go_at_call 27; (with_reducible refine (HIX.out _ (by (repeat' (first | with_reducible exact Below.refl _ _ | (with_reducible refine below_later_of ?_ ?_ _) | (with_reducible refine Below.alloc ?_ ?_ _) | (with_reducible refine Below.setCell ?_ ?_ _) | (with_reducible refine Below.drew ?_) | (simp; done) | (simp; omega) | omega)))).mono ?_); rintro e w' ⟨a1, c1, rfl, ha, hc, hb⟩; have HA1 := Lib.hid ha; have HC1 := Lib.hid hc; clear ha hc; obtain ⟨pq, rfl⟩ := later_of_below hb; clear hb) | (go_at_call 29; (with_reducible refine (HSH.out c1 a1 _ _ _ HA1.out (by (repeat' (first | with_reducible exact Below.refl _ _ | (with_reducible refine below_later_of ?_ ?_ _) | (with_reducible refine Below.alloc ?_ ?_ _) | (with_reducible refine Below.setCell ?_ ?_ _) | (with_reducible refine Below.drew ?_) | (simp; done) | (simp; omega) | omega)))).mono ?_); rintro e w' ⟨a2, c2, rfl, ho, -, hb⟩; have HO2 := Lib.hid ho; clear ho; obtain ⟨pq, rfl⟩ := later_of_below hb; clear hb))
        go_meet
        refine ⟨_, a2, c2, rfl, rfl, ⟨(by (first | (simp [go_sem]; done) | simp [go_sem, ↓IntWalk.iteOmega])), (by (first | (simp [go_sem]; done) | simp [go_sem, ↓IntWalk.iteOmega])), (by (first | (simp [go_sem]; done) | simp [go_sem, ↓IntWalk.iteOmega]))⟩, ?_, by simp <;> omega, (by (repeat' (first | with_reducible exact Below.refl _ _ | (with_reducible refine below_later_of ?_ ?_ _) | (with_reducible refine Below.alloc ?_ ?_ _) | (with_reducible refine Below.setCell ?_ ?_ _) | (with_reducible refine Below.drew ?_) | (simp; done) | (simp; omega) | omega)))⟩
        first
          | (refine (OwnC.below HO2.out ?_).mono (Nat.zero_le _); (repeat' (first | with_reducible exact Below.refl _ _ | (with_reducible refine below_later_of ?_ ?_ _) | (with_reducible refine Below.alloc ?_ ?_ _) | (with_reducible refine Below.setCell ?_ ?_ _) | (with_reducible refine Below.drew ?_) | (simp; done) | (simp; omega) | omega)); done)
          | (refine (OwnC.set (OwnC.set (OwnC.set HO2.out ?_ _) ?_ _) ?_ _).mono (Nat.zero_le _) <;> simp <;> omega)
      case rest =>
        obtain ⟨B7, a7, c7, rfl, rfl, ⟨i0, i1, i2⟩, ho7, hB7, hb⟩ := hcut
        obtain ⟨W2, hW2⟩ : ∃ W2 : World, W2 = wc := ⟨_, rfl⟩
        subst hW2
        have hs2 := hb.size
        have HB2 := Lib.hid (HB1.out.trans (hb.mono hs1))
        have m0 := (hb.cell (p := ⟨w.heap.size, 0, none⟩) hlt1).trans k0
        have m1 := (hb.cell (p := ⟨w.heap.size, 1, none⟩) hlt1).trans k1
        have m2 := (hb.cell (p := ⟨w.heap.size, 2, none⟩) hlt1).trans k2
        have m3 := (hb.cell (p := ⟨w.heap.size, 3, none⟩) hlt1).trans k3
        have hlt2 : w.heap.size < W2.heap.size := by omega
        have HO7 := Lib.hid (show 0 < n → ∃ g', a7 = some ⟨g', 0, none⟩ ∧ 0 ≤ g' ∧ g' < W2.heap.size ∧ SamplesAt W2 g' 0 n g from ho7)
        have HIX := Lib.hid (show ∀ W, Below W2.heap.size W2 W → _ from fun W hW => HIX0.out W (HB2.out.trans (hW.mono HB2.out.size)))
        clear hb ho7 k0 k1 k2 k3 hlt1 hs1 hs2
        go_wp2_with fail
        go_cut [9, 10] from 43 to 50 (fun X Y wx => ∃ B a c, X = .pointer (some ⟨B, 0, none⟩) ∧ Y = .int .i64 0 ∧ ImgBlk wx B L S a n c ∧ OwnS wx 0 n F a ∧ B < wx.heap.size ∧ Below W2.heap.size W2 wx)
        case first =>
          go_region_held3 (fun w' => (w'.cell? ⟨w.heap.size, 0, none⟩ = some (.int .i64 L) ∧ w'.cell? ⟨w.heap.size, 1, none⟩ = some (.int .i64 S) ∧ w'.cell? ⟨w.heap.size, 2, none⟩ = some (.slice x.pa x.m x.pc) ∧ w'.cell? ⟨w.heap.size, 3, none⟩ = some (.slice x.ca x.mc x.cc)) ∧ (w'.cell? ⟨B7, 0, none⟩ = some (.int .i64 L) ∧ w'.cell? ⟨B7, 1, none⟩ = some (.int .i64 S) ∧ w'.cell? ⟨B7, 2, none⟩ = some (.slice a7 n c7))) (first | exact ⟨⟨m0, m1, m2, m3⟩, i0, i1, i2⟩ | ((first | (simp [go_sem, m0, m1, m2, m3, i0, i1, i2]; done) | simp [go_sem, m0, m1, m2, m3, i0, i1, i2, ↓IntWalk.iteOmega]); done)) (first | (go_at_call 27; (with_reducible refine (HIX.out _ (by (repeat' (first | with_reducible exact Below.refl _ _ | (with_reducible refine below_later_of ?_ ?_ _) | (with_reducible refine Below.alloc ?_ ?_ _) | (with_reducible refine Below.setCell ?_ ?_ _) | (with_reducible refine Below.drew ?_) | (simp; done) | (simp; omega) | omega)))).mono ?_); rintro e w' ⟨a1, c1, rfl, ha, hc, hb⟩; have HA1 := Lib.hid ha; have HC1 := Lib.hid hc; clear ha hc; obtain ⟨pq, rfl⟩ := later_of_below hb; clear hb) | (go_at_call 30; (with_reducible refine (interfere_det (L : Int) (S : Int) n c1 f a1 (L : Int) (S : Int) n c7 g a7 _ (by omega) (by omega) (dataAt_own HA1.out (by (repeat' (first | with_reducible exact Below.refl _ _ | (with_reducible refine below_later_of ?_ ?_ _) | (with_reducible refine Below.alloc ?_ ?_ _) | (with_reducible refine Below.setCell ?_ ?_ _) | (with_reducible refine Below.drew ?_) | (simp; done) | (simp; omega) | omega)))) (dataAt_own HO7.out (by (repeat' (first | with_reducible exact Below.refl _ _ | (with_reducible refine below_later_of ?_ ?_ _) | (with_reducible refine Below.alloc ?_ ?_ _) | (with_reducible refine Below.setCell ?_ ?_ _) | (with_reducible refine Below.drew ?_) | (simp; done) | (simp; omega) | omega)))) HIF0.out).mono ?_); rintro e w' ⟨l5, s5, n5, a5, c5, rfl, hok0, -, hb⟩; obtain ⟨rfl, rfl, rfl, hok1⟩ := hok0.1 rfl; have HOK := Lib.hid hok1; clear hok0 hok1; obtain ⟨pq, rfl⟩ := later_of_below hb; clear hb))
          all_goals
            rename_i hheld
            clear hheld
            go_wp2_with fail
            go_meet
            have HOK9 := HOK.out
            rw [HFF.out] at HOK9
            refine ⟨_, a5, c5, rfl, rfl, ⟨(by (first | (simp [go_sem]; done) | simp [go_sem, ↓IntWalk.iteOmega])), (by (first | (simp [go_sem]; done) | simp [go_sem, ↓IntWalk.iteOmega])), (by (first | (simp [go_sem]; done) | simp [go_sem, ↓IntWalk.iteOmega]))⟩, ?_, by simp <;> omega, (by (repeat' (first | with_reducible exact Below.refl _ _ | (with_reducible refine below_later_of ?_ ?_ _) | (with_reducible refine Below.alloc ?_ ?_ _) | (with_reducible refine Below.setCell ?_ ?_ _) | (with_reducible refine Below.drew ?_) | (simp; done) | (simp; omega) | omega)))⟩
            first
              | (refine (HOK9.below ?_).mono (Nat.zero_le _); (repeat' (first | with_reducible exact Below.refl _ _ | (with_reducible refine below_later_of ?_ ?_ _) | (with_reducible refine Below.alloc ?_ ?_ _) | (with_reducible refine Below.setCell ?_ ?_ _) | (with_reducible refine Below.drew ?_) | (simp; done) | (simp; omega) | omega)); done)
              | (refine (OwnS.set (OwnS.set (OwnS.set HOK9 ?_ _) ?_ _) ?_ _).mono (Nat.zero_le _) <;> simp <;> omega)
        case rest =>
          obtain ⟨B9, a9, c9, rfl, rfl, ⟨j0, j1, j2⟩, ho9, hB9, hb⟩ := hcut
          obtain ⟨W3, hW3⟩ : ∃ W3 : World, W3 = wc := ⟨_, rfl⟩
          subst hW3
          have hs3 := hb.size
          have HB3 := Lib.hid (HB2.out.trans (hb.mono HB2.out.size))
          have k0 := (hb.cell (p := ⟨w.heap.size, 0, none⟩) hlt2).trans m0
          have k1 := (hb.cell (p := ⟨w.heap.size, 1, none⟩) hlt2).trans m1
          have hlt3 : w.heap.size < W3.heap.size := by omega
          have HFW := Lib.hid (show FldAt W3 L S n F a9 from ownS_fld2 ho9)
          clear hb ho9 m0 m1 m2 m3 i0 i1 i2 HIX hlt2 HO7
          go_upto_region 11 with (fail)
          go_cut [11, 12] from 50 to 60 (fun X Y wx => ∃ B l s k q c, X = .pointer (some ⟨B, 0, none⟩) ∧ Y = .int .i64 E ∧ ImgBlk wx B l s q k c ∧ LdSay wx 0 1 1 1 (nmF (lkF F S L S)) E l s k q ∧ B < wx.heap.size ∧ Below W3.heap.size W3 wx)
          case first =>
            go_wp2_with (first | (go_at_call 31; (with_reducible refine (HLO.out _ _ _ (HFW.out.below (by (repeat' (first | with_reducible exact Below.refl _ _ | (with_reducible refine below_later_of ?_ ?_ _) | (with_reducible refine Below.alloc ?_ ?_ _) | (with_reducible refine Below.setCell ?_ ?_ _) | (with_reducible refine Below.drew ?_) | (simp; done) | (simp; omega) | omega))))).mono ?_); rintro e w' ⟨l6, s6, n6, a6, c6, rfl, hld, hb⟩; have HLD := Lib.hid hld; clear hld; obtain ⟨pq, rfl⟩ := later_of_below hb; clear hb))
            go_meet
            refine ⟨_, l6, s6, n6, a6, c6, rfl, rfl, ⟨(by (first | (simp [go_sem]; done) | simp [go_sem, ↓IntWalk.iteOmega])), (by (first | (simp [go_sem]; done) | simp [go_sem, ↓IntWalk.iteOmega])), (by (first | (simp [go_sem]; done) | simp [go_sem, ↓IntWalk.iteOmega]))⟩, ?_, by simp <;> omega, (by (repeat' (first | with_reducible exact Below.refl _ _ | (with_reducible refine below_later_of ?_ ?_ _) | (with_reducible refine Below.alloc ?_ ?_ _) | (with_reducible refine Below.setCell ?_ ?_ _) | (with_reducible refine Below.drew ?_) | (simp; done) | (simp; omega) | omega)))⟩
            first
              | (refine (HLD.out.below ?_).mono7 (Nat.zero_le _); (repeat' (first | with_reducible exact Below.refl _ _ | (with_reducible refine below_later_of ?_ ?_ _) | (with_reducible refine Below.alloc ?_ ?_ _) | (with_reducible refine Below.setCell ?_ ?_ _) | (with_reducible refine Below.drew ?_) | (simp; done) | (simp; omega) | omega)); done)
              | (refine (LdSay.set (LdSay.set (LdSay.set HLD.out ?_ _) ?_ _) ?_ _).mono7 (Nat.zero_le _) <;> simp <;> omega)
          case rest =>
            obtain ⟨B11, l, s, k, q, c11, rfl, rfl, ⟨u0, u1, u2⟩, hld, hB11, hb⟩ := hcut
            obtain ⟨W4, hW4⟩ : ∃ W4 : World, W4 = wc := ⟨_, rfl⟩
            subst hW4
            have HB4 := Lib.hid (HB3.out.trans (hb.mono HB3.out.size))
            have hle := HLE.out
            have hlv := HLV.out
            clear hb k0 k1 j0 j1 j2 HFW
            rcases (show largeB (R, I) = true ∨ largeB (R, I) = false by cases largeB (R, I) <;> simp) with hlg | hlg
            · rw [hlg, if_pos rfl] at hle
              subst hle
              clear hld hlv
              go_wp2
              go_ret
              exact ⟨ret_bool (by simp), HB4.out⟩
            · rw [hlg, if_neg (by decide)] at hle
              subst hle
              obtain ⟨rfl, rfl, rfl, ho⟩ := hld.ok rfl
              obtain ⟨g11, rfl, -, hg11, hs11⟩ := ho (by decide)
              obtain ⟨w1, w2, w3⟩ := one_fld hlg hlv
              have hc11 : W4.cell? ⟨g11, 0, none⟩ = some (.complex .f64 (f64I R) (f64I I)) := by
                have := hs11 0 (by decide)
                unfold nmF at this
                rw [hlv] at this
                exact this
              have HCF := Lib.hid (show ∀ W, Below W4.heap.size W4 W → _ from fun W hW => copyFd_some 1 1 1 (nmF (lkF F S L S)) g11 0 c11 W (by decide) (by decide) (by have := hW.size; omega) (hs11.below hg11 hW))
              have HW1 := Lib.hid (show Wide64 1 (nmF (lkF F S L S)) from fun k _ => ⟨f64I_lt _, f64I_lt _⟩)
              have hph : (List.range 1).map (phsP (xD (nmF (lkF F S L S))) (yD (nmF (lkF F S L S)))) = [if R = 0 ∧ I = 0 then 1000000000000 else phaseP R I] := by
                show [phsP (xD (nmF (lkF F S L S))) (yD (nmF (lkF F S L S))) 0] = _
                unfold phsP
                rw [w2, w3]
              obtain ⟨ph, hph2⟩ : ∃ ph : Int, (if R = 0 ∧ I = 0 then 1000000000000 else phaseP R I) = ph := ⟨_, rfl⟩
              rw [hph2] at hph
              have HPH := Lib.hid (show ∀ (c8 : Nat) (a8 : Option Addr) (W : World), FldAt W 1 1 1 (nmF (lkF F S L S)) a8 → Calls Try.prog 32 #[.agg #[.int .i64 1, .int .i64 1, .slice a8 1 c8]] W fun e w' => ∃ q c, e = .returned (.tuple #[.agg #[.int .i64 1, .int .i64 1, .slice q 1 c], .int .i64 0]) ∧ OwnIV W.heap.size w' (.slice q 1 c) [ph] ∧ Below W.heap.size W w' from
                fun c8 a8 W hd => by
                  have := phasesOf_ok 1 1 1 c8 (nmF (lkF F S L S)) a8 W hd HW1.out (by decide) w1
                  rw [hph] at this
                  exact this)
              have HPV := Lib.hid hph2
              have HOS := Lib.hid hs11
              clear hld hlv ho w1 w2 w3 hph hph2 hs11 hlg
              go_upto_region 16 with (fail)
              go_cut [13, 14] from 70 to 76 (fun X Y wx => ∃ B q c, X = .pointer (some ⟨B, 0, none⟩) ∧ Y = .int .i64 0 ∧ wx.cell? ⟨B, 2, none⟩ = some (.slice q 1 c) ∧ IntsV wx (.slice q 1 c) [ph] ∧ B < wx.heap.size ∧ Below W4.heap.size W4 wx)
              case first =>
                go_wp2_with (first | (go_at_call 33; (with_reducible refine (HCF.out _ (by (repeat' (first | with_reducible exact Below.refl _ _ | (with_reducible refine below_later_of ?_ ?_ _) | (with_reducible refine Below.alloc ?_ ?_ _) | (with_reducible refine Below.setCell ?_ ?_ _) | (with_reducible refine Below.drew ?_) | (simp; done) | (simp; omega) | omega)))).mono ?_); rintro e w' ⟨a8, c8, rfl, ho, hb⟩; have HO8 := Lib.hid ho; clear ho; obtain ⟨pq, rfl⟩ := later_of_below hb; clear hb) | (go_at_call 32; (with_reducible refine (HPH.out c8 a8 _ (ownS_fld2 (HO8.out.below (by (repeat' (first | with_reducible exact Below.refl _ _ | (with_reducible refine below_later_of ?_ ?_ _) | (with_reducible refine Below.alloc ?_ ?_ _) | (with_reducible refine Below.setCell ?_ ?_ _) | (with_reducible refine Below.drew ?_) | (simp; done) | (simp; omega) | omega)))))).mono ?_); rintro e w' ⟨q9, c9, rfl, ho, hb⟩; have HO9 := Lib.hid ho; clear ho; obtain ⟨pq, rfl⟩ := later_of_below hb; clear hb))
                go_meet
                refine ⟨_, q9, c9, rfl, rfl, (by (first | (simp [go_sem]; done) | simp [go_sem, ↓IntWalk.iteOmega])), ?_, by simp <;> omega, (by (repeat' (first | with_reducible exact Below.refl _ _ | (with_reducible refine below_later_of ?_ ?_ _) | (with_reducible refine Below.alloc ?_ ?_ _) | (with_reducible refine Below.setCell ?_ ?_ _) | (with_reducible refine Below.drew ?_) | (simp; done) | (simp; omega) | omega)))⟩
                first
                  | (refine (HO9.out.below ?_).ints; (repeat' (first | with_reducible exact Below.refl _ _ | (with_reducible refine below_later_of ?_ ?_ _) | (with_reducible refine Below.alloc ?_ ?_ _) | (with_reducible refine Below.setCell ?_ ?_ _) | (with_reducible refine Below.drew ?_) | (simp; done) | (simp; omega) | omega)); done)
                  | (refine (OwnIV.set (OwnIV.set (OwnIV.set HO9.out ?_ _) ?_ _) ?_ _).ints <;> simp <;> omega)
              case rest =>
                obtain ⟨B13, q13, c13, rfl, rfl, t2, hv, hB13, hb⟩ := hcut
                obtain ⟨W5, hW5⟩ : ∃ W5 : World, W5 = wc := ⟨_, rfl⟩
                subst hW5
                have HB5 := Lib.hid (HB4.out.trans (hb.mono HB4.out.size))
                have hs5 := hb.size
                have z2 := (hb.cell (p := ⟨B11, 2, none⟩) hB11).trans u2
                have zc := (hb.cell (p := ⟨g11, 0, none⟩) hg11).trans hc11
                obtain ⟨-, aa, cc, he, hv2⟩ := hv
                cases he
                obtain ⟨b13, o13, rfl, hb13, hcell⟩ := hv2 (by simp)
                have hci := hcell 0 (by simp)
                rw [Nat.add_zero] at hci
                have hci : W5.cell? ⟨b13, o13, none⟩ = some (.int .i64 ph) := hci
                have hg5 : g11 < W5.heap.size := by omega
                have hB5 : B11 < W5.heap.size := by omega
                have f1 : (FloatKind.f64.format.order (f64I R) (f64I R) == some Ordering.eq) = true := by
                  rw [show FloatKind.f64.format.order (f64I R) (f64I R) = some (compare R R) from order_num _ (f64I_num (by omega)) (f64I_num (by omega)), beq_eq_iff]
                  simp
                have f2 : (FloatKind.f64.format.order (f64I I) (f64I I) == some Ordering.eq) = true := by
                  rw [show FloatKind.f64.format.order (f64I I) (f64I I) = some (compare I I) from order_num _ (f64I_num (by omega)) (f64I_num (by omega)), beq_eq_iff]
                  simp
                have f3 : (FloatKind.f64.format.order (f64I R) (f64I R) != some Ordering.eq) = false := by simp only [bne, f1]; rfl
                have f4 : (FloatKind.f64.format.order (f64I I) (f64I I) != some Ordering.eq) = false := by simp only [bne, f2]; rfl
                obtain ⟨v2, v3⟩ := HV.out
                have hph2 := HPV.out
                clear hb u0 u1 u2 hc11 hcell hv2
                generalize f64I R = re at *
                generalize f64I I = im at *
                by_cases hv0 : R = 0 ∧ I = 0
                · rw [if_pos hv0] at v2 hph2
                  subst v2 hph2
                  clear v3 HV HPV hv0
                  go_wp2
                  go_ret
                  exact ⟨ret_bool (by simp [intAt]), HB5.out⟩
                · rw [if_neg hv0] at v2 hph2
                  have v4 := v3 hv0
                  subst v2 hph2 v4
                  clear v3 HV HPV hv0
                  go_wp2
                  go_ret
                  exact ⟨ret_bool (by simp [intAt]), HB5.out⟩
    · obtain ⟨E, hE⟩ : ∃ E, psE x.L x.S (x.m / 2) (smp x.p) = E := ⟨_, rfl⟩
      rw [hE] at hz
      have HPE := Lib.hid hE
      have HNE := Lib.hid hz
      have HDE := Lib.hid (show dpE x.L x.S (x.m / 2) (smp x.p) = E by unfold dpE; rw [hE, if_neg hz])
      have HDV := Lib.hid (show dpV x.L x.S (x.m / 2) (smp x.p) = 0 by unfold dpV; rw [HDE.out, if_neg hz])
      have hne : (E != 0) = true := by simpa using hz
      clear hx hq hz hE
      go_enter Try.func5, Try.ntmps5
      go_wp2_with (first | (go_at_call 24; (with_reducible refine (fringed_any _).mono ?_); rintro e w' ⟨rfl, hb⟩; obtain ⟨pq, rfl⟩ := later_of_below hb; clear hb) | (go_at_call 25; (with_reducible refine (HSX.out _).mono ?_); rintro e w' ⟨rfl, hb⟩; obtain ⟨pq, rfl⟩ := later_of_below hb; clear hb) | (go_at_call 27; (with_reducible refine (HIX.out _ (by (repeat' (first | with_reducible exact Below.refl _ _ | (with_reducible refine below_later_of ?_ ?_ _) | (with_reducible refine Below.alloc ?_ ?_ _) | (with_reducible refine Below.setCell ?_ ?_ _) | (with_reducible refine Below.drew ?_) | (simp; done) | (simp; omega) | omega)))).mono ?_); rintro e w' ⟨a1, c1, rfl, ha, hc, hb⟩; have HA1 := Lib.hid ha; have HC1 := Lib.hid hc; clear ha hc; obtain ⟨pq, rfl⟩ := later_of_below hb; clear hb) | (go_at_call 26; (with_reducible refine (pairSum_bad x.L x.S (x.m / 2) c1 (smp x.p) a1 _ (by omega) (dataAt_own HA1.out (by (repeat' (first | with_reducible exact Below.refl _ _ | (with_reducible refine below_later_of ?_ ?_ _) | (with_reducible refine Below.alloc ?_ ?_ _) | (with_reducible refine Below.setCell ?_ ?_ _) | (with_reducible refine Below.drew ?_) | (simp; done) | (simp; omega) | omega)))) HPE.out HNE.out).mono ?_); rintro e w' ⟨rfl, hb⟩; obtain ⟨pq, rfl⟩ := later_of_below hb; clear hb) | (go_at_call 28; (with_reducible refine (doppler_any x.L x.S (x.m / 2) c1 (smp x.p) a1 _ (by omega) HC1.out (dataAt_own HA1.out (by (repeat' (first | with_reducible exact Below.refl _ _ | (with_reducible refine below_later_of ?_ ?_ _) | (with_reducible refine Below.alloc ?_ ?_ _) | (with_reducible refine Below.setCell ?_ ?_ _) | (with_reducible refine Below.drew ?_) | (simp; done) | (simp; omega) | omega)))) HDE.out HDV.out).mono ?_); rintro e w' ⟨rfl, hb⟩; obtain ⟨pq, rfl⟩ := later_of_below hb; clear hb))
      go_ret
      exact ⟨rfl, (by (repeat' (first | with_reducible exact Below.refl _ _ | (with_reducible refine below_later_of ?_ ?_ _) | (with_reducible refine Below.alloc ?_ ?_ _) | (with_reducible refine Below.setCell ?_ ?_ _) | (with_reducible refine Below.drew ?_) | (simp; done) | (simp; omega) | omega)))⟩
end Go.Proofs.Ytcmjlfhnibjofaa
