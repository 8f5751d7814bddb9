/- Chapter 1: the reference's Added. -/
import Derived.Test.YtakohhlmomgegaaDoorU98
namespace Go.Proofs.YtakohhlmomgegaaDoor
set_option linter.unusedVariables false
set_option linter.unusedSimpArgs false
open Go.RowKit Ntt
theorem wp_worldW101 {P : Program} {c : Code} {Q : Exit → Act → World → Prop} {a : Act} {w : World} (F : World → Prop) (hf : F w) (h : ∀ W, F W → Code.wp P c Q a W) : Code.wp P c Q a w := h w hf
/-- The sums of a sample are right. -/
def okS (f g : Nat → Nat × Nat) (i : Nat) : Bool := inE (-2047) 2047 (xB f i + xB g i) && inE (-2047) 2047 (yB f i + yB g i)
theorem gE_addB {f g : Nat → Nat × Nat} {n i : Nat} (hf : SmallS n f (xB f) (yB f) 2047) (hg : SmallS n g (xB g) (yB g) 2047) (hi : i < n) : gE (addB f g) 2047 i = if okS f g i then 0 else 2 := by
  obtain ⟨-, h1, h2⟩ := hf i hi
  obtain ⟨-, h3, h4⟩ := hg i hi
  obtain ⟨p1, p2⟩ := intB_of (num_nearest (n := xB f i + xB g i) (by omega))
  obtain ⟨p3, p4⟩ := intB_of (num_nearest (n := yB f i + yB g i) (by omega))
  unfold gE partE okS
  rw [show (addB f g i).1 = floatOfInt .f32 (xB f i + xB g i) from rfl, show (addB f g i).2 = floatOfInt .f32 (yB f i + yB g i) from rfl, p1, p2, p3, p4, if_pos (show (true && true) = true from rfl)]
/-- The error of a sum of right images of one size. -/
def sumE (n : Nat) (f g : Nat → Nat × Nat) : Int := if ∀ i, i < n → okS f g i = true then 0 else 8
theorem sumE_img {L S : Int} {f g : Nat → Nat × Nat} {n : Nat} (h0 : sizeE L S n = 0) (hf : SmallS n f (xB f) (yB f) 2047) (hg : SmallS n g (xB g) (yB g) 2047) : sumE n f g = if (imgE L S n (addB f g)).2 = 0 then 0 else 8 := by
  unfold sumE
  by_cases h : ∀ i, i < n → okS f g i = true
  · rw [if_pos h, if_pos]
    unfold imgE
    rw [if_pos h0, firstE_ok fun i hi => by rw [gE_addB hf hg hi, h i hi]; rfl]
  · rw [if_neg h, if_neg]
    intro h1
    refine h fun i hi => ?_
    have := (imgE_zero h1).2 i hi
    rw [gE_addB hf hg hi] at this
    rcases (show okS f g i = false ∨ okS f g i = true by cases okS f g i <;> simp) with h2 | h2
    · rw [h2] at this; exact absurd this (by decide)
    · exact h2
def RAdd (n : Nat) (G : Nat → Nat × Nat) (L S e0 : Int) (w : World) (e : Ending) (w' : World) : Prop :=
  ∃ l s n' a c, e = .returned (.tuple #[.agg #[.int .i64 l, .int .i64 s, .slice a n' c], .int .i64 e0]) ∧ (e0 = 0 → l = L ∧ s = S ∧ n' = n ∧ OwnC w' w.heap.size n G a) ∧ (e0 ≠ 0 → l = 0 ∧ s = 0 ∧ n' = 0) ∧ Below w.heap.size w w'
set_option maxHeartbeats 1000000 in
theorem rAdded_clash (L S L' S' : Int) (n cap m bcap : Nat) (a b : Option Addr) (w : World) (h : ¬ (L = L' ∧ S = S')) :
    Calls Tryd.prog 69 #[.agg #[.int .i64 L, .int .i64 S, .slice a n cap], .agg #[.int .i64 L', .int .i64 S', .slice b m bcap]] w fun e w' => e = .returned (.tuple #[.agg #[.int .i64 0, .int .i64 0, .slice none 0 0], .int .i64 13]) ∧ Below w.heap.size w w' := by
  by_cases h1 : L = L'
  · subst h1
    have h2 : (S != S') = true := by simp; intro h3; exact h ⟨rfl, h3⟩
    have h3 : (L != L) = false := by simp
    clear h
    go_enter Tryd.func69, Tryd.ntmps69
    go_wp2
    refine bodyPost_ret ?_ rfl ⟨rfl, (by (repeat' (first | with_reducible exact Below.refl _ _ | (with_reducible refine below_later_of ?_ ?_ _) | (with_reducible refine Below.alloc ?_ ?_ _) | (with_reducible refine Below.setCell ?_ ?_ _) | (with_reducible refine Below.drew ?_) | (simp; done) | (simp; omega) | omega)))⟩
    (first | ((first | (simp [results, Tryd.results69, go_sem]; done) | simp [results, Tryd.results69, go_sem, ↓IntWalk.iteOmega]); done) | simp [results, Tryd.results69, go_sem])
  · have h2 : (L != L') = true := by simpa using h1
    clear h h1
    go_enter Tryd.func69, Tryd.ntmps69
    go_wp2
    refine bodyPost_ret ?_ rfl ⟨rfl, (by (repeat' (first | with_reducible exact Below.refl _ _ | (with_reducible refine below_later_of ?_ ?_ _) | (with_reducible refine Below.alloc ?_ ?_ _) | (with_reducible refine Below.setCell ?_ ?_ _) | (with_reducible refine Below.drew ?_) | (simp; done) | (simp; omega) | omega)))⟩
    (first | ((first | (simp [results, Tryd.results69, go_sem]; done) | simp [results, Tryd.results69, go_sem, ↓IntWalk.iteOmega]); done) | simp [results, Tryd.results69, go_sem])
set_option maxRecDepth 20000 in
set_option maxHeartbeats 4000000 in
theorem rAdded (L S : Nat) (b off n cap c coff ccap : Nat) (f g : Nat → Nat × Nat) (w : World) (hn : n ≤ 4096) (hbw : b < w.heap.size) (hcw : c < w.heap.size) (hf : SamplesAt w b off n f) (hg : SamplesAt w c coff n g)
    (hsf : SmallS n f (xB f) (yB f) 2047) (hsg : SmallS n g (xB g) (yB g) 2047) {e0 : Int} (he0 : sumE n f g = e0) :
    Calls Tryd.prog 69 #[.agg #[.int .i64 L, .int .i64 S, .slice (some ⟨b, off, none⟩) n cap], .agg #[.int .i64 L, .int .i64 S, .slice (some ⟨c, coff, none⟩) n ccap]] w (RAdd n (addB f g) L S e0 w) := by
  obtain ⟨i0, hi0, hz0, hz1, hz2⟩ := info_parts infoC32
  have HF := Lib.hid hf
  have HG := Lib.hid hg
  have HSF := Lib.hid hsf
  have HSG := Lib.hid hsg
  have hll : (L != L) = false := by simp
  have hss : (S != S) = false := by simp
  obtain ⟨G, hG⟩ : ∃ G, addB f g = G := ⟨_, rfl⟩
  have HGG := Lib.hid (show ∀ i, G i = smpI (xB f i + xB g i) (yB f i + yB g i) from fun i => by rw [← hG]; rfl)
  have HE0 := Lib.hid he0
  rw [hG]
  clear hf hg hsf hsg hG he0
  go_enter Tryd.func69, Tryd.ntmps69
  go_wp2
  refine wp_worldW101 (fun W => ∃ W1, Below w.heap.size w W1 ∧ W1.heap.size = w.heap.size + 2 ∧ (W1.cell? ⟨w.heap.size, 2, none⟩ = some (.slice (some ⟨b, off, none⟩) n cap)) ∧ (W1.cell? ⟨w.heap.size + 1, 2, none⟩ = some (.slice (some ⟨c, coff, none⟩) n ccap)) ∧ TriSt W1 (w.heap.size + 2) (w.heap.size + 3) L S 63 (.slice none 0 0) (csF G 0) W)
    ⟨(w.alloc (.cells #[.int .i64 L, .int .i64 S, .slice (some ⟨b, off, none⟩) n cap] 38)).alloc (.cells #[.int .i64 L, .int .i64 S, .slice (some ⟨c, coff, none⟩) n ccap] 38), (by (repeat' (first | with_reducible exact Below.refl _ _ | (with_reducible refine below_later_of ?_ ?_ _) | (with_reducible refine Below.alloc ?_ ?_ _) | (with_reducible refine Below.setCell ?_ ?_ _) | (with_reducible refine Below.drew ?_) | (simp; done) | (simp; omega) | omega))), by simp, by simp [go_sem], by simp [go_sem], by simp [go_sem], by simp [go_sem], by simp [go_sem], by simp [go_sem], by simp [go_sem], by simp [go_sem], by simp [go_sem], by simp [go_sem], by simp [go_sem], by simp [go_sem], World.ownsRow_nil _ _ _ _, (by (repeat' (first | with_reducible exact Below.refl _ _ | (with_reducible refine below_later_of ?_ ?_ _) | (with_reducible refine Below.alloc ?_ ?_ _) | (with_reducible refine Below.setCell ?_ ?_ _) | (with_reducible refine Below.drew ?_) | (simp; done) | (simp; omega) | omega))), by simp, by omega⟩ ?_
  rintro W2 ⟨W1, hb1, hsz1, a2, b2, hst⟩
  have HST := Lib.hid hst
  have HB1 := Lib.hid hb1
  have HA := Lib.hid (And.intro a2 b2)
  clear hst hb1 a2 b2
  go_loopw [7] (fun i wr => ∃ (k : Nat) (v : Value), k ≤ n ∧ i = .int .i64 k ∧ TriSt W1 (w.heap.size + 2) (w.heap.size + 3) L S 63 v (csF G k) wr ∧ ∀ j, j < k → okS f g j = true) (fun i _ => n - (intOf i).toNat)
  case atStart => exact ⟨0, _, Nat.zero_le _, rfl, HST.out, fun j hj => absurd hj (Nat.not_lt_zero _)⟩
  case round =>
    obtain ⟨k, v, hk, rfl, hst, hz⟩ := hrel
    have HS2 := Lib.hid hst
    have HZ := Lib.hid hz
    have x2 := (hst.bel.cell (p := ⟨w.heap.size, 2, none⟩) (show w.heap.size < w.heap.size + 2 by omega)).trans HA.out.1
    have y2 := (hst.bel.cell (p := ⟨w.heap.size + 1, 2, none⟩) (show w.heap.size + 1 < w.heap.size + 2 by omega)).trans HA.out.2
    by_cases hlt : k < n
    · have hdk : decide ((k : Int) < (n : Int)) = true := by simp; omega
      have ci := (hst.bel.cell (p := ⟨b, off + k, none⟩) (show b < w.heap.size + 2 by omega)).trans ((HB1.out.cell (p := ⟨b, off + k, none⟩) hbw).trans (HF.out k hlt))
      have di := (hst.bel.cell (p := ⟨c, coff + k, none⟩) (show c < w.heap.size + 2 by omega)).trans ((HB1.out.cell (p := ⟨c, coff + k, none⟩) hcw).trans (HG.out k hlt))
      have hltO := hst.lt
      have r0 := hst.r0
      have r1 := hst.r1
      have r2 := hst.r2
      have g0 := hst.g0
      have g1 := hst.g1
      have g2 := hst.g2
      have hro := hst.ro
      have hg0 := HGG.out k
      obtain ⟨⟨u1, u2, u3, u4⟩, ⟨u5, u6⟩, u7, u8⟩ := HSF.out k hlt
      obtain ⟨⟨v1, v2, v3, v4⟩, ⟨v5, v6⟩, v7, v8⟩ := HSG.out k hlt
      have HP1 := Lib.hid (fun w => rParts (f k).1 (f k).2 _ _ w (flI_single u1 (by omega) (by omega)) (flI_single u2 (by omega) (by omega)))
      have HP2 := Lib.hid (fun w => rParts (g k).1 (g k).2 _ _ w (flI_single v1 (by omega) (by omega)) (flI_single v2 (by omega) (by omega)))
      have HOK := Lib.hid (show okS f g k = (inE (-2047) 2047 (xB f k + xB g k) && inE (-2047) 2047 (yB f k + yB g k)) from rfl)
      generalize xB f k = x1 at *
      generalize yB f k = y1 at *
      generalize xB g k = x3 at *
      generalize yB g k = y3 at *
      clear u1 u2 u3 u4 v1 v2 v3 v4
      obtain ⟨p, hp⟩ : ∃ p : Int, x1 + x3 = p := ⟨_, rfl⟩
      obtain ⟨q, hq⟩ : ∃ q : Int, y1 + y3 = q := ⟨_, rfl⟩
      rw [hp, hq] at HOK hg0
      have hp1 : -10000 ≤ p ∧ p ≤ 10000 := by omega
      have hq1 : -10000 ≤ q ∧ q ≤ 10000 := by omega
      have HG0 := Lib.hid hg0
      have hpw : IntKind.i64.wrap (x1 + x3) = p := by rw [hp]; exact IntWalk.i64_in _ (by omega)
      clear hst hz hg0
      rcases (show inE (-2047) 2047 p = false ∨ inE (-2047) 2047 p = true by cases inE (-2047) 2047 p <;> simp) with i1 | i1
      · have H1 := Lib.hid (fun w => bWithin p (-2047) 2047 w i1)
        have HE := Lib.hid (show e0 = 8 by
          rw [← HE0.out]
          unfold sumE
          rw [if_neg]
          intro h
          have := h k hlt
          rw [HOK.out, i1] at this
          exact absurd this (by simp))
        clear i1
        go_wp2_with (first | (go_at_call 84; (with_reducible refine (HP1.out _).mono ?_); rintro e w' ⟨rfl, rfl⟩) | (go_at_call 84; (with_reducible refine (HP2.out _).mono ?_); rintro e w' ⟨rfl, rfl⟩) | (go_at_call 30; (with_reducible refine (H1.out _).mono ?_); rintro e w' ⟨rfl, rfl⟩))
        refine bodyPost_ret ?_ rfl ⟨0, 0, 0, none, 0, rfl, fun h => absurd (HE.out.symm.trans h) (by decide), fun _ => ⟨rfl, rfl, rfl⟩, (HB1.out.trans (HS2.out.bel.mono (by omega))).trans (by (repeat' (first | with_reducible exact Below.refl _ _ | (with_reducible refine below_later_of ?_ ?_ _) | (with_reducible refine Below.alloc ?_ ?_ _) | (with_reducible refine Below.setCell ?_ ?_ _) | (with_reducible refine Below.drew ?_) | (simp; done) | (simp; omega) | omega)))⟩
        rw [HE.out]
        first | (simp [results, Tryd.results69, go_sem, r0, r1, r2]; done) | simp [results, Tryd.results69, go_sem, r0, r1, r2, ↓IntWalk.iteOmega]
      rcases (show inE (-2047) 2047 q = false ∨ inE (-2047) 2047 q = true by cases inE (-2047) 2047 q <;> simp) with i2 | i2
      · have H1 := Lib.hid (fun w => bWithin p (-2047) 2047 w i1)
        have H2 := Lib.hid (fun w => bWithin q (-2047) 2047 w i2)
        have HE := Lib.hid (show e0 = 8 by
          rw [← HE0.out]
          unfold sumE
          rw [if_neg]
          intro h
          have := h k hlt
          rw [HOK.out, i1, i2] at this
          exact absurd this (by simp))
        clear i1 i2
        go_wp2_with (first | (go_at_call 84; (with_reducible refine (HP1.out _).mono ?_); rintro e w' ⟨rfl, rfl⟩) | (go_at_call 84; (with_reducible refine (HP2.out _).mono ?_); rintro e w' ⟨rfl, rfl⟩) | (go_at_call 30; (with_reducible refine (H1.out _).mono ?_); rintro e w' ⟨rfl, rfl⟩) | (go_at_call 30; (with_reducible refine (H2.out _).mono ?_); rintro e w' ⟨rfl, rfl⟩))
        refine bodyPost_ret ?_ rfl ⟨0, 0, 0, none, 0, rfl, fun h => absurd (HE.out.symm.trans h) (by decide), fun _ => ⟨rfl, rfl, rfl⟩, (HB1.out.trans (HS2.out.bel.mono (by omega))).trans (by (repeat' (first | with_reducible exact Below.refl _ _ | (with_reducible refine below_later_of ?_ ?_ _) | (with_reducible refine Below.alloc ?_ ?_ _) | (with_reducible refine Below.setCell ?_ ?_ _) | (with_reducible refine Below.drew ?_) | (simp; done) | (simp; omega) | omega)))⟩
        rw [HE.out]
        first | (simp [results, Tryd.results69, go_sem, r0, r1, r2]; done) | simp [results, Tryd.results69, go_sem, r0, r1, r2, ↓IntWalk.iteOmega]
      · have H1 := Lib.hid (fun w => bWithin p (-2047) 2047 w i1)
        have H2 := Lib.hid (fun w => bWithin q (-2047) 2047 w i2)
        have HO := Lib.hid (show okS f g k = true by rw [HOK.out, i1, i2]; rfl)
        clear i1 i2
        go_wp2_with (first | (go_at_call 84; (with_reducible refine (HP1.out _).mono ?_); rintro e w' ⟨rfl, rfl⟩) | (go_at_call 84; (with_reducible refine (HP2.out _).mono ?_); rintro e w' ⟨rfl, rfl⟩) | (go_at_call 30; (with_reducible refine (H1.out _).mono ?_); rintro e w' ⟨rfl, rfl⟩) | (go_at_call 30; (with_reducible refine (H2.out _).mono ?_); rintro e w' ⟨rfl, rfl⟩))
        refine wp_worldW101 (fun W => TriSt W1 (w.heap.size + 2) (w.heap.size + 3) L S 63 v (csF G k) W) (HS2.out.below (by (repeat' (first | with_reducible exact Below.refl _ _ | (with_reducible refine below_later_of ?_ ?_ _) | (with_reducible refine Below.alloc ?_ ?_ _) | (with_reducible refine Below.setCell ?_ ?_ _) | (with_reducible refine Below.drew ?_) | (simp; done) | (simp; omega) | omega)))) ?_
        rintro W4 hst4
        have HS4 := Lib.hid hst4
        have hltO4 := hst4.lt
        have c2 := hst4.c2
        have f2 := hst4.f2
        have hg := HG0.out
        have HSM := Lib.hid (show ∀ w, Calls Tryd.prog 41 #[.int .i64 (IntKind.i64.wrap p), .int .i64 (IntKind.i64.wrap q)] w fun e w' => e = .returned (.complex .f32 (smpI p q).1 (smpI p q).2) ∧ w = w' from fun w => by
          have := bSample p q w hp1 hq1
          rw [show IntKind.i64.wrap p = p from IntWalk.i64_in _ (by omega), show IntKind.i64.wrap q = q from IntWalk.i64_in _ (by omega)]
          exact this)
        obtain ⟨re, hre⟩ : ∃ re, (smpI p q).1 = re := ⟨_, rfl⟩
        obtain ⟨im, him⟩ : ∃ im, (smpI p q).2 = im := ⟨_, rfl⟩
        have hg2 : G k = (re, im) := by rw [hg, ← hre, ← him]
        rw [hre, him] at HSM
        have hown0 := hst4.own
        rw [csF_len] at hown0
        have HOW2 := Lib.hid hown0
        have HSN := Lib.hid (show ∀ (g' cc' : Nat) (w1 : World) (o : Obj), w1.ownsRow (w.heap.size + 3 + 1) 63 1 (.slice (some ⟨g', 0, none⟩) (k + 1) cc') (k + 1) (csF G k ++ [.complex .f32 re im]) → (W4.drew.alloc o).grownBy w1 v.ownBlock → TriSt W1 (w.heap.size + 2) (w.heap.size + 3) L S 63 (.slice (some ⟨g', 0, none⟩) (k + 1) cc') (csF G (k + 1)) (w1.setCell ⟨w.heap.size + 3, 2, none⟩ (.slice (some ⟨g', 0, none⟩) (k + 1) cc')) from fun g' cc' w1 o h1 h2 => by
          rw [csF_snoc, hg2]
          exact (HS4.out.below (Below.refl _ _).drew).put (by rw [csF_len]; exact h1) h2)
        have HSL := Lib.hid (show ∀ (w1 : World) (o : Obj), (W4.drew.alloc o).grownBy w1 v.ownBlock → w1.cell? ⟨w.heap.size + 3, 2, none⟩ = some v ∧ w1.frozen? ⟨w.heap.size + 3, 2, none⟩ = false from fun w1 o h => (HS4.out.below (Below.refl _ _).drew).still h)
        have hlen : k ≤ 10000 := by omega
        clear hst4 hg hg2 hre him hown0 x2 y2 r0 r1 r2 g0 g1 g2
        go_wp2_with fail
        go_region_law (first | (refine step_append_lies _ rfl (.tmp 69) (.tmp 77) 30 rfl (w.heap.size + 3 + 1) 63 i0 (.complex .f32 0 0) 1 8 Tryd.underlying30 hi0 hz0 hz1 hz2 rfl (by decide) v k (csF G k) (by simp [Act.eval, Act.put]) (by first | exact (HOW2.out.alloc _).drew | exact HOW2.out.drew.alloc _) ⟨W4.heap.size, 0, none⟩ 1 1 [.complex .f32 re im] (by simp [Act.eval, Act.put]) rfl (by intro j u hj; rcases j with _ | j; (focus (simp at hj; subst hj; (first | (simp [Addr.add, go_sem]; done) | simp [Addr.add, go_sem, ↓IntWalk.iteOmega]))); (focus (simp at hj))) (by intro u hu; simp at hu; subst hu; rfl) (by decide) (by unfold maxLen; omega) (by omega) (by first | omega | (simp; omega)) _ rfl ?_; intro g' cc' w1 hown' hgrow _ _; have HN2 := Lib.hid (HSN.out _ _ _ _ hown' hgrow); obtain ⟨hcb, hfb⟩ := HSL.out _ _ hgrow; clear hown' hgrow) | (go_simp; (go_at_call 41; (with_reducible refine (HSM.out _).mono ?_); rintro e w' ⟨rfl, rfl⟩)))
        all_goals
          go_wp2
          go_roundw
          case rel => exact ⟨k + 1, _, by omega, by go_num, HN2.out, fun j hj => by rcases Nat.lt_succ_iff_lt_or_eq.1 hj with h | rfl; exact HZ.out j h; exact HO.out⟩
          case measure => simp [intOf]; omega
    · obtain rfl : k = n := by omega
      have hdk : decide ((k : Int) < (k : Int)) = false := by simp
      have HE := Lib.hid (show e0 = 0 by rw [← HE0.out]; unfold sumE; rw [if_pos HZ.out])
      have hown := hst.own
      rw [csF_len] at hown
      obtain ⟨a', c', rfl⟩ := own_slice hown
      obtain ⟨o0, o1, o2, -, r0, r1, r2, g0, g1, g2, -, hbel, -, -⟩ := hst
      have HOW := Lib.hid hown
      have HBE := Lib.hid (HB1.out.trans (hbel.mono (by omega)))
      clear hown hbel hz
      go_wp2
      refine bodyPost_ret ?_ rfl ⟨_, _, _, a', c', rfl, fun _ => ⟨rfl, rfl, rfl, OwnC.mono (OwnC.set (OwnC.set (OwnC.set (ownC_row HOW.out) ?_ _) ?_ _) ?_ _) ?_⟩, fun h => absurd HE.out h, HBE.out.trans (by (repeat' (first | with_reducible exact Below.refl _ _ | (with_reducible refine below_later_of ?_ ?_ _) | (with_reducible refine Below.alloc ?_ ?_ _) | (with_reducible refine Below.setCell ?_ ?_ _) | (with_reducible refine Below.drew ?_) | (simp; done) | (simp; omega) | omega)))⟩
      · rw [HE.out]
        first | (simp [results, Tryd.results69, go_sem, r0, r1, r2]; done) | simp [results, Tryd.results69, go_sem, r0, r1, r2, ↓IntWalk.iteOmega]
      all_goals first | omega | (simp <;> omega)
end Go.Proofs.YtakohhlmomgegaaDoor
