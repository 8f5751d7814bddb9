/- Chapter 1: PairSum, DopplerPhase. -/
import Derived.Test.YtcmjlfhnibjofaaZO
import Derived.Test.YtcmjlfhnibjofaaZK
namespace Go.Proofs.Ytcmjlfhnibjofaa
set_option linter.unusedVariables false
set_option linter.unusedSimpArgs false
open Go.RowKit Ieee Ntt
/-- One step of a sum of products of samples. -/
theorem step_cnum3 {a b c d e g sa sb : Nat} {x y u v s t : Int} (hz : CNum a b x y) (hc : CNum c d u v) (hs : BNum sa sb s t) (x1 : -2047 ≤ x ∧ x ≤ 2047) (y1 : -2047 ≤ y ∧ y ≤ 2047) (u1 : -2047 ≤ u ∧ u ≤ 2047) (v1 : -2047 ≤ v ∧ v ≤ 2047) (s1 : -90000000000 ≤ s ∧ s ≤ 90000000000) (t1 : -90000000000 ≤ t ∧ t ≤ 90000000000) (he : e = c) (hg : g = Op.negFloat .f64 d) :
    ∃ p q re im, cMulBits a b e g = some (p, q) ∧ cSumBits .add .f64 sa sb p q = some (re, im) ∧ BNum re im (s + (x * u + y * v)) (t + (y * u - x * v)) := by
  subst he hg
  have hn : CNum e (Op.negFloat .f64 d) u (-v) := ⟨hc.re, neg_num hc.lb hc.im, hc.la, by
    obtain ⟨sg, r, hr, rfl⟩ := word_of hc.lb
    rw [neg_word sg hr]
    unfold Format.word
    have : double.signWeight = 2 ^ 63 := rfl
    split <;> omega⟩
  have m1 := mul_bd2 (x := x) (y := u) (A := 2047) (B := 2047) x1 u1
  have m2 := mul_bd2 (x := y) (y := -v) (A := 2047) (B := 2047) y1 (by omega)
  have m3 := mul_bd2 (x := x) (y := -v) (A := 2047) (B := 2047) x1 (by omega)
  have m4 := mul_bd2 (x := y) (y := u) (A := 2047) (B := 2047) y1 u1
  simp only [Int.reduceMul] at m1 m2 m3 m4
  obtain ⟨p, q, h1, h2⟩ := cmul_num hz hn 4190209 (by decide) m1 m2 m3 m4
  obtain ⟨re, im, h3, h4⟩ := cadd_canon hs h2 (by omega) (by omega)
  refine ⟨p, q, re, im, h1, h3, ?_⟩
  have e1 : s + (x * u - y * -v) = s + (x * u + y * v) := by grind
  have e2 : t + (x * -v + y * u) = t + (y * u - x * v) := by grind
  rwa [e1, e2] at h4
/-- The sum of neighbouring lines: its parts, k products having come. -/
def psR (X Y : Nat → Int) (S k : Nat) : Int := sum k fun i => X (S + i) * X i + Y (S + i) * Y i
def psI (X Y : Nat → Int) (S k : Nat) : Int := sum k fun i => Y (S + i) * X i - X (S + i) * Y i
theorem ps_bd {n S k : Nat} {f : Nat → Nat × Nat} {X Y : Nat → Int} (hX : SmallS n f X Y 2047) (hk : S + k ≤ n) (hn : n ≤ 4096) : (-40000000000 ≤ psR X Y S k ∧ psR X Y S k ≤ 40000000000) ∧ -40000000000 ≤ psI X Y S k ∧ psI X Y S k ≤ 40000000000 := by
  have hb : ∀ j, j < k → (-8380418 ≤ X (S + j) * X j + Y (S + j) * Y j ∧ X (S + j) * X j + Y (S + j) * Y j ≤ 8380418) ∧ -8380418 ≤ Y (S + j) * X j - X (S + j) * Y j ∧ Y (S + j) * X j - X (S + j) * Y j ≤ 8380418 := fun j hj => by
    obtain ⟨-, x1, y1⟩ := hX (S + j) (by omega)
    obtain ⟨-, u1, v1⟩ := hX j (by omega)
    have m1 := mul_bd2 x1 u1
    have m2 := mul_bd2 y1 v1
    have m3 := mul_bd2 y1 u1
    have m4 := mul_bd2 x1 v1
    simp only [Int.reduceMul] at m1 m2 m3 m4
    omega
  have s1 := sum_bd (n := k) (f := fun j => X (S + j) * X j + Y (S + j) * Y j) (B := 8380418) (fun j hj => (hb j hj).1)
  have s2 := sum_bd (n := k) (f := fun j => Y (S + j) * X j - X (S + j) * Y j) (B := 8380418) (fun j hj => (hb j hj).2)
  unfold psR psI
  omega
/-- The error of PairSum. -/
def psE (L S : Int) (n : Nat) (f : Nat → Nat × Nat) : Int := if (imgE L S n f).2 = 0 then (if L = 1 then 10 else 0) else (imgE L S n f).2
theorem wp_worldD {P : Program} {c : Code} {Q : Exit → Act → World → Prop} {a : Act} {w : World} (F : World → Prop) (hf : F w) (h : ∀ W, F W → Code.wp P c Q a W) : Code.wp P c Q a w := h w hf
set_option maxRecDepth 20000 in
set_option maxHeartbeats 2000000 in
theorem pairSum_bad (L S : Int) (n cap : Nat) (f : Nat → Nat × Nat) (a : Option Addr) (w : World) (hn : n ≤ 100000) (hd : DataAt w L S n f a) {e0 : Int} (he : psE L S n f = e0) (h0 : e0 ≠ 0) :
    Calls Try.prog 26 #[.agg #[.int .i64 L, .int .i64 S, .slice a n cap]] w fun e w' => e = .returned (.tuple #[.complex .f64 0 0, .int .i64 e0]) ∧ Below w.heap.size w w' := by
  obtain ⟨z, hz⟩ : ∃ z, (imgE L S n f).2 = z := ⟨_, rfl⟩
  have HIM := Lib.hid (show ∀ W, Below w.heap.size w W → _ from fun W hW => imageErr_any L S n cap f a W hn (hd.below hW) hz)
  unfold psE at he
  rw [hz] at he
  by_cases h1 : z = 0
  · subst h1
    rw [if_pos rfl] at he
    by_cases h2 : L = 1
    · rw [if_pos h2] at he
      subst he h2
      clear hd hz h0
      go_enter Try.func26, Try.ntmps26
      go_wp2_with (first | (go_at_call 72; (with_reducible refine (HIM.out _ (by (repeat' (first | with_reducible exact Below.refl _ _ | (with_reducible refine below_later_of ?_ ?_ _) | (with_reducible refine Below.alloc ?_ ?_ _) | (with_reducible refine Below.setCell ?_ ?_ _) | (with_reducible refine Below.drew ?_) | (simp; done) | (simp; omega) | omega)))).mono ?_); rintro e w' ⟨rfl, hb⟩; obtain ⟨pp, rfl⟩ := later_of_below hb; clear hb))
      go_ret2
      exact ⟨rfl, (by (repeat' (first | with_reducible exact Below.refl _ _ | (with_reducible refine below_later_of ?_ ?_ _) | (with_reducible refine Below.alloc ?_ ?_ _) | (with_reducible refine Below.setCell ?_ ?_ _) | (with_reducible refine Below.drew ?_) | (simp; done) | (simp; omega) | omega)))⟩
    · rw [if_neg h2] at he
      exact absurd he.symm h0
  · rw [if_neg h1] at he
    subst he
    have hne : (z != 0) = true := by simpa using h1
    clear hd hz h0 h1
    go_enter Try.func26, Try.ntmps26
    go_wp2_with (first | (go_at_call 72; (with_reducible refine (HIM.out _ (by (repeat' (first | with_reducible exact Below.refl _ _ | (with_reducible refine below_later_of ?_ ?_ _) | (with_reducible refine Below.alloc ?_ ?_ _) | (with_reducible refine Below.setCell ?_ ?_ _) | (with_reducible refine Below.drew ?_) | (simp; done) | (simp; omega) | omega)))).mono ?_); rintro e w' ⟨rfl, hb⟩; obtain ⟨pp, rfl⟩ := later_of_below hb; clear hb))
    go_ret2
    exact ⟨rfl, (by (repeat' (first | with_reducible exact Below.refl _ _ | (with_reducible refine below_later_of ?_ ?_ _) | (with_reducible refine Below.alloc ?_ ?_ _) | (with_reducible refine Below.setCell ?_ ?_ _) | (with_reducible refine Below.drew ?_) | (simp; done) | (simp; omega) | omega)))⟩
set_option maxRecDepth 20000 in
set_option maxHeartbeats 2000000 in
theorem pairSum_ok (L S n cap : Nat) (f : Nat → Nat × Nat) (a : Option Addr) (w : World) (hn : n = L * S) (hcap : n ≤ cap) (hd : DataAt w L S n f a) (he : (imgE L S n f).2 = 0) (hL : L ≠ 1) {K : Nat} (hK : K = n - S) :
    Calls Try.prog 26 #[.agg #[.int .i64 L, .int .i64 S, .slice a n cap]] w fun e w' => e = .returned (.tuple #[.complex .f64 (f64I (psR (xB f) (yB f) S K)) (f64I (psI (xB f) (yB f) S K)), .int .i64 0]) ∧ Below w.heap.size w w' := by
  obtain ⟨hs, hg⟩ := imgE_zero he
  obtain ⟨⟨l1, l2⟩, ⟨s1, s2⟩, -⟩ := sizeE_zero hs
  obtain ⟨b, off, rfl, hbw, hf⟩ := hd hs
  have hn2 : n ≤ 4096 := by rw [hn]; exact Nat.mul_le_mul (show L ≤ 64 by omega) (show S ≤ 64 by omega)
  have hSn : S ≤ n := by rw [hn]; exact Nat.le_mul_of_pos_left S (by omega)
  have HIM := Lib.hid (show ∀ W, Below w.heap.size w W → _ from fun W hW => imageErr_any L S n cap f _ W (by omega) (fun h => ⟨b, off, rfl, by have := hW.size; omega, hf.below hbw hW⟩) he)
  have hX : SmallS n f (xB f) (yB f) 2047 := smallS_of (by decide) hg
  have HX := Lib.hid hX
  have HF := Lib.hid hf
  generalize xB f = X at HX ⊢
  generalize yB f = Y at HX ⊢
  have hL1 : ((L : Int) == 1) = false := by simp; omega
  have hSl : S < n := by
    rw [hn]
    have := Nat.mul_le_mul_right S (show 2 ≤ L by omega)
    omega
  have hSc : ¬ S = cap := by omega
  have hK0 : K ≤ 4096 := by omega
  have hSK : S + K ≤ n := by omega
  clear hs hg hX hf he hd hL hn
  go_enter Try.func26, Try.ntmps26
  go_wp2_with (first | (go_at_call 72; (with_reducible refine (HIM.out _ (by (repeat' (first | with_reducible exact Below.refl _ _ | (with_reducible refine below_later_of ?_ ?_ _) | (with_reducible refine Below.alloc ?_ ?_ _) | (with_reducible refine Below.setCell ?_ ?_ _) | (with_reducible refine Below.drew ?_) | (simp; done) | (simp; omega) | omega)))).mono ?_); rintro e w' ⟨rfl, hb⟩; obtain ⟨pp, rfl⟩ := later_of_below hb; clear hb))
  rw [← hK]
  refine wp_worldD (fun W => W.cell? ⟨w.heap.size, 2, none⟩ = some (.slice (some ⟨b, off, none⟩) n cap) ∧ SamplesAt W b off n f ∧ Below w.heap.size w W) ⟨by simp [go_sem], HF.out.below hbw (by (repeat' (first | with_reducible exact Below.refl _ _ | (with_reducible refine below_later_of ?_ ?_ _) | (with_reducible refine Below.alloc ?_ ?_ _) | (with_reducible refine Below.setCell ?_ ?_ _) | (with_reducible refine Below.drew ?_) | (simp; done) | (simp; omega) | omega))), (by (repeat' (first | with_reducible exact Below.refl _ _ | (with_reducible refine below_later_of ?_ ?_ _) | (with_reducible refine Below.alloc ?_ ?_ _) | (with_reducible refine Below.setCell ?_ ?_ _) | (with_reducible refine Below.drew ?_) | (simp; done) | (simp; omega) | omega)))⟩ ?_
  rintro W2 ⟨p2, hf2, hb2⟩
  have HF2 := Lib.hid hf2
  have HB2 := Lib.hid hb2
  have hkn : K < 9223372036854775808 := by omega
  clear hf2 hb2 HF HIM hK
  go_loop [5, 22] (fun z i => ∃ (k re im : Nat), k ≤ K ∧ i = .int .i64 k ∧ z = .complex .f64 re im ∧ BNum re im (psR X Y S k) (psI X Y S k)) (fun _ i => K - (intOf i).toNat)
  case atStart => exact ⟨0, 0, 0, Nat.zero_le _, rfl, rfl, zero_bnum⟩
  case round =>
    obtain ⟨k, re, im, hk, rfl, rfl, hz⟩ := hrel
    by_cases hkc : k < K
    · have hdk : decide ((k : Int) < (K : Int)) = true := by simp; omega
      have hkS : k < n - S := by omega
      have hin : S + k < n := by omega
      have hkn2 : k < n := by omega
      obtain ⟨sx, bx, by'⟩ := HX.out _ hin
      obtain ⟨su, bu, bv⟩ := HX.out _ hkn2
      obtain ⟨za, zb, hcv, hcn⟩ := wide_c sx
      obtain ⟨ca, cb', hcv2, hcn2⟩ := wide_c su
      obtain ⟨b1, b2⟩ := ps_bd (k := k) HX.out (show S + k ≤ n by omega) hn2
      obtain ⟨p, q, re', im', h1, h2, h3⟩ := step_cnum3 hcn hcn2 hz bx by' bu bv (by omega) (by omega) rfl rfl
      have cx : W2.cell? ⟨b, off + S + k, none⟩ = some (.complex .f32 (f (S + k)).1 (f (S + k)).2) := by rw [Nat.add_assoc]; exact HF2.out _ hin
      have cu := HF2.out k hkn2
      have cw := fun w => run_wide hcv w
      have cw2 := fun w => run_wide hcv2 w
      have fm := fun w => run_complex_mul (P := Try.prog) w 69 _ _ _ _ p q h1
      have fa := fun w => run_complex_sum (P := Try.prog) w .add (Or.inl rfl) 69 .f64 re im p q re' im' h2
      have H3 := Lib.hid (show BNum re' im' (psR X Y S (k + 1)) (psI X Y S (k + 1)) from h3)
      clear h1 h2 h3 hcv hcv2 hcn hcn2 sx su bx by' bu bv b1 b2 hz
      go_wp2_with (first | (go_at_call 73; (with_reducible refine (conj_any _ _ _).mono ?_); rintro e w' ⟨rfl, rfl⟩))
      go_round
      case rel => exact ⟨k + 1, re', im', by omega, by go_num, rfl, H3.out⟩
      case measure => simp [intOf]; omega
    · obtain rfl : k = K := by omega
      have hdk : decide ((k : Int) < (k : Int)) = false := by simp
      obtain ⟨hre, him, -, -⟩ := hz
      subst hre him
      go_wp2
      go_ret2
      exact ⟨rfl, HB2.out⟩
/-- The error of DopplerPhase, and its phase. -/
def dpE (L S : Int) (n : Nat) (f : Nat → Nat × Nat) : Int := if psE L S n f = 0 then (if psR (xB f) (yB f) S.toNat (n - S.toNat) = 0 ∧ psI (xB f) (yB f) S.toNat (n - S.toNat) = 0 then 31 else 0) else psE L S n f
def dpV (L S : Int) (n : Nat) (f : Nat → Nat × Nat) : Int := if dpE L S n f = 0 then phaseP (psR (xB f) (yB f) S.toNat (n - S.toNat)) (psI (xB f) (yB f) S.toNat (n - S.toNat)) else 0
set_option maxHeartbeats 2000000 in
theorem doppler_any (L S : Int) (n cap : Nat) (f : Nat → Nat × Nat) (a : Option Addr) (w : World) (hn : n ≤ 100000) (hcap : n ≤ cap) (hd : DataAt w L S n f a) {v0 e0 : Int} (he : dpE L S n f = e0) (hv : dpV L S n f = v0) :
    Calls Try.prog 28 #[.agg #[.int .i64 L, .int .i64 S, .slice a n cap]] w fun e w' => e = .returned (.tuple #[.int .i64 v0, .int .i64 e0]) ∧ Below w.heap.size w w' := by
  obtain ⟨z, hz⟩ : ∃ z, psE L S n f = z := ⟨_, rfl⟩
  by_cases h0 : z = 0
  · subst h0
    have hi : (imgE L S n f).2 = 0 := by
      unfold psE at hz
      split at hz
      · assumption
      · exact hz
    have hL1 : L ≠ 1 := by
      unfold psE at hz
      rw [if_pos hi] at hz
      intro h
      rw [if_pos h] at hz
      exact absurd hz (by decide)
    obtain ⟨hs, hg⟩ := imgE_zero hi
    obtain ⟨⟨l1, l2⟩, ⟨s1, s2⟩, hnn⟩ := sizeE_zero hs
    obtain ⟨L0, rfl⟩ := Int.eq_ofNat_of_zero_le (show 0 ≤ L by omega)
    obtain ⟨S0, rfl⟩ := Int.eq_ofNat_of_zero_le (show 0 ≤ S by omega)
    have hnn' : n = L0 * S0 := by exact_mod_cast hnn
    have hn2 : n ≤ 4096 := by rw [hnn']; exact Nat.mul_le_mul (show L0 ≤ 64 by omega) (show S0 ≤ 64 by omega)
    have hSn : S0 ≤ n := by rw [hnn']; exact Nat.le_mul_of_pos_left S0 (by omega)
    have hX : SmallS n f (xB f) (yB f) 2047 := smallS_of (by decide) hg
    obtain ⟨⟨b1, b2⟩, b3, b4⟩ := ps_bd (S := S0) (k := n - S0) hX (by omega) hn2
    have HPS := Lib.hid (show ∀ W, Below w.heap.size w W → _ from fun W hW => pairSum_ok L0 S0 n cap f a W hnn' hcap (hd.below hW) hi (by omega) rfl)
    have he' : (if psR (xB f) (yB f) S0 (n - S0) = 0 ∧ psI (xB f) (yB f) S0 (n - S0) = 0 then (31 : Int) else 0) = e0 := by rw [← he]; unfold dpE; rw [if_pos hz]; rfl
    have hv' : (if e0 = 0 then phaseP (psR (xB f) (yB f) S0 (n - S0)) (psI (xB f) (yB f) S0 (n - S0)) else 0) = v0 := by rw [← hv]; unfold dpV; rw [he]; rfl
    generalize psR (xB f) (yB f) S0 (n - S0) = x at b1 b2 HPS he' hv'
    generalize psI (xB f) (yB f) S0 (n - S0) = y at b3 b4 HPS he' hv'
    have z1 : (FloatKind.f64.format.order (f64I x) 0 == some Ordering.eq) = decide (x = 0) := by
      rw [show FloatKind.f64.format.order (f64I x) 0 = some (compare x 0) from order_num _ (f64I_num (by omega)) zero_double, beq_eq_iff]
    have z2 : (FloatKind.f64.format.order (f64I y) 0 == some Ordering.eq) = decide (y = 0) := by
      rw [show FloatKind.f64.format.order (f64I y) 0 = some (compare y 0) from order_num _ (f64I_num (by omega)) zero_double, beq_eq_iff]
    have HPH := Lib.hid (fun w => phaseOf_any (f64I x) (f64I y) x y w (f64I_num (by omega)) (f64I_num (by omega)) (by omega) (by omega) (by omega) (by omega))
    generalize f64I x = fx at HPS z1 HPH
    generalize f64I y = fy at HPS z2 HPH
    clear hd he hv hz hi hs hg hX hnn hnn' hn2 hSn
    by_cases c1 : x = 0
    · by_cases c2 : y = 0
      · rw [if_pos ⟨c1, c2⟩] at he'
        subst he'
        rw [if_neg (by decide)] at hv'
        subst hv'
        have y1 : (FloatKind.f64.format.order fx 0 == some Ordering.eq) = true := by rw [z1]; simpa using c1
        have y2 : (FloatKind.f64.format.order fy 0 == some Ordering.eq) = true := by rw [z2]; simpa using c2
        clear z1 z2 c1 c2
        go_enter Try.func28, Try.ntmps28
        go_wp2_with (first | (go_at_call 26; (with_reducible refine (HPS.out _ (by (repeat' (first | with_reducible exact Below.refl _ _ | (with_reducible refine below_later_of ?_ ?_ _) | (with_reducible refine Below.alloc ?_ ?_ _) | (with_reducible refine Below.setCell ?_ ?_ _) | (with_reducible refine Below.drew ?_) | (simp; done) | (simp; omega) | omega)))).mono ?_); rintro e w' ⟨rfl, hb⟩; obtain ⟨pp, rfl⟩ := later_of_below hb; clear hb))
        go_ret2
        exact ⟨rfl, (by (repeat' (first | with_reducible exact Below.refl _ _ | (with_reducible refine below_later_of ?_ ?_ _) | (with_reducible refine Below.alloc ?_ ?_ _) | (with_reducible refine Below.setCell ?_ ?_ _) | (with_reducible refine Below.drew ?_) | (simp; done) | (simp; omega) | omega)))⟩
      · rw [if_neg (fun h => c2 h.2)] at he'
        subst he'
        rw [if_pos rfl] at hv'
        subst hv'
        have y1 : (FloatKind.f64.format.order fx 0 == some Ordering.eq) = true := by rw [z1]; simpa using c1
        have y2 : (FloatKind.f64.format.order fy 0 == some Ordering.eq) = false := by rw [z2]; simpa using c2
        generalize phaseP x y = v at HPH ⊢
        clear z1 z2 c1 c2
        go_enter Try.func28, Try.ntmps28
        go_wp2_with (first | (go_at_call 26; (with_reducible refine (HPS.out _ (by (repeat' (first | with_reducible exact Below.refl _ _ | (with_reducible refine below_later_of ?_ ?_ _) | (with_reducible refine Below.alloc ?_ ?_ _) | (with_reducible refine Below.setCell ?_ ?_ _) | (with_reducible refine Below.drew ?_) | (simp; done) | (simp; omega) | omega)))).mono ?_); rintro e w' ⟨rfl, hb⟩; obtain ⟨pp, rfl⟩ := later_of_below hb; clear hb) | (go_at_call 74; (with_reducible refine (HPH.out _).mono ?_); rintro e w' ⟨rfl, hb⟩; obtain ⟨p2, rfl⟩ := later_of_below hb; clear hb))
        go_ret2
        exact ⟨rfl, (by (repeat' (first | with_reducible exact Below.refl _ _ | (with_reducible refine below_later_of ?_ ?_ _) | (with_reducible refine Below.alloc ?_ ?_ _) | (with_reducible refine Below.setCell ?_ ?_ _) | (with_reducible refine Below.drew ?_) | (simp; done) | (simp; omega) | omega)))⟩
    · rw [if_neg (fun h => c1 h.1)] at he'
      subst he'
      rw [if_pos rfl] at hv'
      subst hv'
      have y1 : (FloatKind.f64.format.order fx 0 == some Ordering.eq) = false := by rw [z1]; simpa using c1
      generalize phaseP x y = v at HPH ⊢
      clear z1 z2 c1
      go_enter Try.func28, Try.ntmps28
      go_wp2_with (first | (go_at_call 26; (with_reducible refine (HPS.out _ (by (repeat' (first | with_reducible exact Below.refl _ _ | (with_reducible refine below_later_of ?_ ?_ _) | (with_reducible refine Below.alloc ?_ ?_ _) | (with_reducible refine Below.setCell ?_ ?_ _) | (with_reducible refine Below.drew ?_) | (simp; done) | (simp; omega) | omega)))).mono ?_); rintro e w' ⟨rfl, hb⟩; obtain ⟨pp, rfl⟩ := later_of_below hb; clear hb) | (go_at_call 74; (with_reducible refine (HPH.out _).mono ?_); rintro e w' ⟨rfl, hb⟩; obtain ⟨p2, rfl⟩ := later_of_below hb; clear hb))
      go_ret2
      exact ⟨rfl, (by (repeat' (first | with_reducible exact Below.refl _ _ | (with_reducible refine below_later_of ?_ ?_ _) | (with_reducible refine Below.alloc ?_ ?_ _) | (with_reducible refine Below.setCell ?_ ?_ _) | (with_reducible refine Below.drew ?_) | (simp; done) | (simp; omega) | omega)))⟩
  · have he' : e0 = z := by rw [← he]; unfold dpE; rw [hz, if_neg h0]
    have hv' : v0 = 0 := by rw [← hv]; unfold dpV; rw [he, he', if_neg h0]
    subst he' hv'
    have HPS := Lib.hid (show ∀ W, Below w.heap.size w W → _ from fun W hW => pairSum_bad L S n cap f a W hn (hd.below hW) hz h0)
    have hne : (e0 != 0) = true := by simpa using h0
    clear hd he hv hz h0
    go_enter Try.func28, Try.ntmps28
    go_wp2_with (first | (go_at_call 26; (with_reducible refine (HPS.out _ (by (repeat' (first | with_reducible exact Below.refl _ _ | (with_reducible refine below_later_of ?_ ?_ _) | (with_reducible refine Below.alloc ?_ ?_ _) | (with_reducible refine Below.setCell ?_ ?_ _) | (with_reducible refine Below.drew ?_) | (simp; done) | (simp; omega) | omega)))).mono ?_); rintro e w' ⟨rfl, hb⟩; obtain ⟨pp, rfl⟩ := later_of_below hb; clear hb))
    go_ret2
    exact ⟨rfl, (by (repeat' (first | with_reducible exact Below.refl _ _ | (with_reducible refine below_later_of ?_ ?_ _) | (with_reducible refine Below.alloc ?_ ?_ _) | (with_reducible refine Below.setCell ?_ ?_ _) | (with_reducible refine Below.drew ?_) | (simp; done) | (simp; omega) | omega)))⟩
end Go.Proofs.Ytcmjlfhnibjofaa
