import Derived.Test.YtakohhlmomgegaaDoorZJ
/- Chapter 1: CheckField, fieldErr. -/
namespace Go.Proofs.YtakohhlmomgegaaDoor
set_option linter.unusedVariables false
set_option linter.unusedSimpArgs false
open Go.RowKit
theorem num_maxField : FNum Ieee.double 4741671816366391296 1000000000 := ⟨false, 8388608000000000, -23, 1000000000, by decide, by unfold Mag; decide, by decide⟩
/-- The number of a sample, and the error of a field. -/
def fldE (L S : Int) (n : Nat) (f : Nat → Nat × Nat) : Nat × Int := if sizeE L S n = 0 then firstE n (gD f 1000000000) else (0, sizeE L S n)
/-- Where the numbers of a field lie, if it has the right size. -/
def FldAt (W : World) (L S : Int) (n : Nat) (f : Nat → Nat × Nat) (a : Option Addr) : Prop := sizeE L S n = 0 → ∃ b off, a = some ⟨b, off, none⟩ ∧ b < W.heap.size ∧ SumsAt W b off n f
theorem FldAt.below {W W' : World} {L S : Int} {n : Nat} {f : Nat → Nat × Nat} {a : Option Addr} (h : FldAt W L S n f a) (hb : Below W.heap.size W W') : FldAt W' L S n f a := fun h0 => by
  obtain ⟨b, off, h1, h2, h3⟩ := h h0
  exact ⟨b, off, h1, by have := hb.size; omega, h3.below h2 hb⟩
def Wide64 (n : Nat) (f : Nat → Nat × Nat) : Prop := ∀ k, k < n → (f k).1 < 2 ^ 64 ∧ (f k).2 < 2 ^ 64
set_option maxHeartbeats 1000000 in
theorem checkField_any (L S : Int) (n cap : Nat) (f : Nat → Nat × Nat) (a : Option Addr) (w : World) (hl : n ≤ 100000) (hd : FldAt w L S n f a) (hw : Wide64 n f) {i0 : Nat} {e0 : Int} (he : fldE L S n f = (i0, e0)) :
    Calls Tryd.prog 60 #[.agg #[.int .i64 L, .int .i64 S, .slice a n cap]] w fun e w' => e = .returned (.tuple #[.int .i64 i0, .int .i64 e0]) ∧ Below w.heap.size w w' := by
  obtain ⟨z, hz⟩ : ∃ z, sizeE L S n = z := ⟨_, rfl⟩
  have HS := Lib.hid (fun w => sizeErr_any L S n w hz)
  by_cases h0 : z = 0
  · subst h0
    obtain ⟨b, off, rfl, hbw, hf⟩ := hd hz
    have he' : firstE n (gD f 1000000000) = (i0, e0) := by rw [← he]; unfold fldE; rw [if_pos hz]
    have HV := Lib.hid (show ∀ W, Below w.heap.size w W → _ from fun W hW => samplesErrD_any n b off cap _ 1000000000 f W num_maxField hl (by have := hW.size; omega) (hf.below hbw hW) hw he')
    clear hz hd he he' hf hw
    go_enter Tryd.func60, Tryd.ntmps60
    go_wp2_with (first | (go_at_call 111; (with_reducible refine (HS.out _).mono ?_); rintro e w' ⟨rfl, rfl⟩) | (go_at_call 115; (with_reducible refine (HV.out _ (by (repeat' (first | with_reducible exact Below.refl _ _ | (with_reducible refine below_later_of ?_ ?_ _) | (with_reducible refine Below.alloc ?_ ?_ _) | (with_reducible refine Below.setCell ?_ ?_ _) | (with_reducible refine Below.drew ?_) | (simp; done) | (simp; omega) | omega)))).mono ?_); rintro e w' ⟨rfl, hb⟩; obtain ⟨pp, rfl⟩ := later_of_below hb; clear hb))
    go_ret2
    exact ⟨rfl, (by (repeat' (first | with_reducible exact Below.refl _ _ | (with_reducible refine below_later_of ?_ ?_ _) | (with_reducible refine Below.alloc ?_ ?_ _) | (with_reducible refine Below.setCell ?_ ?_ _) | (with_reducible refine Below.drew ?_) | (simp; done) | (simp; omega) | omega)))⟩
  · have he' : (0, z) = (i0, e0) := by rw [← he]; unfold fldE; rw [hz, if_neg h0]
    obtain ⟨rfl, rfl⟩ := Prod.mk.inj he'
    have hne : (z != 0) = true := by simpa using h0
    clear hz hd he he' h0 hw
    go_enter Tryd.func60, Tryd.ntmps60
    go_wp2_with (first | (go_at_call 111; (with_reducible refine (HS.out _).mono ?_); rintro e w' ⟨rfl, rfl⟩))
    go_ret2
    exact ⟨rfl, (by (repeat' (first | with_reducible exact Below.refl _ _ | (with_reducible refine below_later_of ?_ ?_ _) | (with_reducible refine Below.alloc ?_ ?_ _) | (with_reducible refine Below.setCell ?_ ?_ _) | (with_reducible refine Below.drew ?_) | (simp; done) | (simp; omega) | omega)))⟩
set_option maxHeartbeats 1000000 in
theorem fieldErr_any (L S : Int) (n cap : Nat) (f : Nat → Nat × Nat) (a : Option Addr) (w : World) (hl : n ≤ 100000) (hd : FldAt w L S n f a) (hw : Wide64 n f) {e0 : Int} (he : (fldE L S n f).2 = e0) :
    Calls Tryd.prog 105 #[.agg #[.int .i64 L, .int .i64 S, .slice a n cap]] w fun e w' => e = .returned (.int .i64 e0) ∧ Below w.heap.size w w' := by
  have HI := Lib.hid (show ∀ W, Below w.heap.size w W → _ from fun W hW => checkField_any L S n cap f a W hl (hd.below hW) hw (i0 := (fldE L S n f).1) (e0 := e0) (by rw [← he]))
  clear hd he
  generalize (fldE L S n f).1 = i0 at HI
  go_enter Tryd.func105, Tryd.ntmps105
  go_wp2_with (first | (go_at_call 60; (with_reducible refine (HI.out _ (by (repeat' (first | with_reducible exact Below.refl _ _ | (with_reducible refine below_later_of ?_ ?_ _) | (with_reducible refine Below.alloc ?_ ?_ _) | (with_reducible refine Below.setCell ?_ ?_ _) | (with_reducible refine Below.drew ?_) | (simp; done) | (simp; omega) | omega)))).mono ?_); rintro e w' ⟨rfl, hb⟩; obtain ⟨pp, rfl⟩ := later_of_below hb; clear hb))
  go_ret
  exact ⟨rfl, (by (repeat' (first | with_reducible exact Below.refl _ _ | (with_reducible refine below_later_of ?_ ?_ _) | (with_reducible refine Below.alloc ?_ ?_ _) | (with_reducible refine Below.setCell ?_ ?_ _) | (with_reducible refine Below.drew ?_) | (simp; done) | (simp; omega) | omega)))⟩
def xD (f : Nat → Nat × Nat) (k : Nat) : Int := intD (f k).1
def yD (f : Nat → Nat × Nat) (k : Nat) : Int := intD (f k).2
/-- Numbers of a field whose parts are whole and of at most B. -/
def SmallD (n : Nat) (f : Nat → Nat × Nat) (X Y : Nat → Int) (B : Int) : Prop := ∀ k, k < n → CNum (f k).1 (f k).2 (X k) (Y k) ∧ (-B ≤ X k ∧ X k ≤ B) ∧ -B ≤ Y k ∧ Y k ≤ B
theorem smallD_of {n : Nat} {f : Nat → Nat × Nat} {m : Int} (hw : Wide64 n f) (h : ∀ k, k < n → gD f m k = 0) : SmallD n f (xD f) (yD f) m := fun k hk => by
  obtain ⟨⟨h1, h2, h3⟩, h4, h5, h6⟩ := partD_ok (h k hk)
  exact ⟨⟨h1, h4, (hw k hk).1, (hw k hk).2⟩, ⟨h2, h3⟩, h5, h6⟩
theorem fldE_zero {L S : Int} {n : Nat} {f : Nat → Nat × Nat} (h : (fldE L S n f).2 = 0) : sizeE L S n = 0 ∧ ∀ k, k < n → gD f 1000000000 k = 0 := by
  unfold fldE at h
  by_cases h0 : sizeE L S n = 0
  · rw [if_pos h0] at h
    exact ⟨h0, firstE_zero h⟩
  · rw [if_neg h0] at h
    exact absurd h h0
end Go.Proofs.YtakohhlmomgegaaDoor

/- Chapter 1: the sums of Focus. -/
namespace Go.Proofs.YtakohhlmomgegaaDoor
set_option linter.unusedVariables false
set_option linter.unusedSimpArgs false
open Go.RowKit Ieee Ntt
def reF (X Y U V : Nat → Int) (S l s K : Nat) : Int := sum K fun k => X ((l + k) * S + s) * U k + Y ((l + k) * S + s) * V k
def imF (X Y U V : Nat → Int) (S l s K : Nat) : Int := sum K fun k => Y ((l + k) * S + s) * U k - X ((l + k) * S + s) * V k
theorem reF_succ (X Y U V : Nat → Int) (S l s K : Nat) : reF X Y U V S l s (K + 1) = reF X Y U V S l s K + (X ((l + K) * S + s) * U K + Y ((l + K) * S + s) * V K) := rfl
theorem imF_succ (X Y U V : Nat → Int) (S l s K : Nat) : imF X Y U V S l s (K + 1) = imF X Y U V S l s K + (Y ((l + K) * S + s) * U K - X ((l + K) * S + s) * V K) := rfl
/-- One step of a sum: product and sum as the walk meets them; for the numbers of a field. -/
theorem step_cnum2 {a b c d e g sa sb : Nat} {x y u v s t : Int} (hz : CNum a b x y) (hc : CNum c d u v) (hs : BNum sa sb s t) (x1 : -1000000000 ≤ x ∧ x ≤ 1000000000) (y1 : -1000000000 ≤ y ∧ y ≤ 1000000000) (u1 : -3 ≤ u ∧ u ≤ 3) (v1 : -3 ≤ v ∧ v ≤ 3) (s1 : -1000000000000 ≤ s ∧ s ≤ 1000000000000) (t1 : -1000000000000 ≤ t ∧ t ≤ 1000000000000) (he : e = c) (hg : g = Op.negFloat .f64 d) :
    ∃ p q re im, cMulBits a b e g = some (p, q) ∧ cSumBits .add .f64 sa sb p q = some (re, im) ∧ BNum re im (s + (x * u + y * v)) (t + (y * u - x * v)) := by
  subst he hg
  have hn : CNum e (Op.negFloat .f64 d) u (-v) := ⟨hc.re, neg_num hc.lb hc.im, hc.la, by
    obtain ⟨sg, r, hr, rfl⟩ := word_of hc.lb
    rw [neg_word sg hr]
    unfold Format.word
    have : double.signWeight = 2 ^ 63 := rfl
    split <;> omega⟩
  have m1 := mul_bd2 (x := x) (y := u) (A := 1000000000) (B := 3) x1 u1
  have m2 := mul_bd2 (x := y) (y := -v) (A := 1000000000) (B := 3) y1 (by omega)
  have m3 := mul_bd2 (x := x) (y := -v) (A := 1000000000) (B := 3) x1 (by omega)
  have m4 := mul_bd2 (x := y) (y := u) (A := 1000000000) (B := 3) y1 u1
  simp only [Int.reduceMul] at m1 m2 m3 m4
  obtain ⟨p, q, h1, h2⟩ := cmul_num hz hn 3000000000 (by decide) m1 m2 m3 m4
  obtain ⟨re, im, h3, h4⟩ := cadd_canon hs h2 (by omega) (by omega)
  refine ⟨p, q, re, im, h1, h3, ?_⟩
  have e1 : s + (x * u - y * -v) = s + (x * u + y * v) := by grind
  have e2 : t + (x * -v + y * u) = t + (y * u - x * v) := by grind
  rwa [e1, e2] at h4
/-- The numbers of a focused field: S of them in a line. -/
def DOkF (X Y U V : Nat → Int) (S C : Nat) (D : List (Nat × Nat)) : Prop := ∀ i z, D[i]? = some z → BNum z.1 z.2 (reF X Y U V S (i / S) (i % S) C) (imF X Y U V S (i / S) (i % S) C)
theorem DOkF.snoc {X Y U V : Nat → Int} {S C l s re im : Nat} {D : List (Nat × Nat)} (h : DOkF X Y U V S C D) (hs : s < S) (hl : D.length = l * S + s) (hz : BNum re im (reF X Y U V S l s C) (imF X Y U V S l s C)) : DOkF X Y U V S C (D ++ [(re, im)]) := fun i z hi => by
  rcases Nat.lt_or_ge i D.length with c | c
  · rw [List.getElem?_append_left c] at hi
    exact h i z hi
  · rw [List.getElem?_append_right c] at hi
    have e : i = D.length := by
      rcases Nat.eq_or_lt_of_le c with c | c
      · exact c.symm
      · rw [List.getElem?_eq_none (by simp; omega)] at hi; cases hi
    subst e
    simp at hi
    subst hi
    have e1 : D.length / S = l := by rw [hl, Nat.mul_comm, Nat.mul_add_div (by omega), Nat.div_eq_of_lt hs, Nat.add_zero]
    have e2 : D.length % S = s := by rw [hl, Nat.mul_comm, Nat.mul_add_mod, Nat.mod_eq_of_lt hs]
    rw [e1, e2]
    exact hz
theorem idx_lt {l k L C L0 S s n : Nat} (hL : L + C = L0 + 1) (hl : l < L) (hk : k < C) (hs : s < S) (hn : n = L0 * S) : (l + k) * S + s < n := by
  have h1 : (l + k + 1) * S ≤ L0 * S := Nat.mul_le_mul_right _ (by omega)
  rw [Nat.add_mul, Nat.one_mul] at h1
  omega
theorem reF_bd {n C L L0 S l s k : Nat} {f fc : Nat → Nat × Nat} {X Y U V : Nat → Int} (hX : SmallD n f X Y 1000000000) (hU : SmallS C fc U V 3) (hL : L + C = L0 + 1) (hl : l < L) (hs : s < S) (hn : n = L0 * S) (hk : k ≤ C) (h64 : k ≤ 64) :
    (-1000000000000 ≤ reF X Y U V S l s k ∧ reF X Y U V S l s k ≤ 1000000000000) ∧ -1000000000000 ≤ imF X Y U V S l s k ∧ imF X Y U V S l s k ≤ 1000000000000 := by
  have hb : ∀ j, j < k → (-6000000000 ≤ X ((l + j) * S + s) * U j + Y ((l + j) * S + s) * V j ∧ X ((l + j) * S + s) * U j + Y ((l + j) * S + s) * V j ≤ 6000000000) ∧ -6000000000 ≤ Y ((l + j) * S + s) * U j - X ((l + j) * S + s) * V j ∧ Y ((l + j) * S + s) * U j - X ((l + j) * S + s) * V j ≤ 6000000000 := fun j hj => by
    obtain ⟨-, x1, y1⟩ := hX ((l + j) * S + s) (idx_lt hL hl (by omega) hs hn)
    obtain ⟨-, u1, v1⟩ := hU j (by omega)
    have m1 := mul_bd2 x1 u1
    have m2 := mul_bd2 y1 v1
    have m3 := mul_bd2 y1 u1
    have m4 := mul_bd2 x1 v1
    simp only [Int.reduceMul] at m1 m2 m3 m4
    omega
  have s1 := sum_bd (n := k) (f := fun j => X ((l + j) * S + s) * U j + Y ((l + j) * S + s) * V j) (B := 6000000000) (fun j hj => (hb j hj).1)
  have s2 := sum_bd (n := k) (f := fun j => Y ((l + j) * S + s) * U j - X ((l + j) * S + s) * V j) (B := 6000000000) (fun j hj => (hb j hj).2)
  unfold reF imF
  omega
set_option maxHeartbeats 1000000 in
theorem focus1 (B b off n cap : Nat) (lines samples : Int) (f : Nat → Nat × Nat) (l s k i : Nat) (w : World) (hi : ImgBlk w B lines samples (some ⟨b, off, none⟩) n cap) (hf : SumsAt w b off n f)
    (h1 : 1 ≤ samples) (h2 : samples ≤ 64) (hl : l ≤ 64) (hs : s ≤ 64) (hk : k ≤ 64) (hx : ((l : Int) + k) * samples + s = (i : Int)) (hn : i < n) :
    Calls Tryd.prog 106 #[.int .i64 l, .int .i64 s, .int .i64 k, .pointer (some ⟨B, 0, none⟩)] w fun e w' => e = .returned (.complex .f64 (f i).1 (f i).2) ∧ w = w' := by
  obtain ⟨c0, c1, c2⟩ := hi
  have ci := hf i hn
  have hp : 0 ≤ ((l : Int) + k) * samples ∧ ((l : Int) + k) * samples ≤ 8192 := by
    refine ⟨Int.mul_nonneg (by omega) (by omega), ?_⟩
    have := Int.mul_le_mul (show (l : Int) + k ≤ 128 by omega) h2 (by omega) (by decide)
    omega
  obtain ⟨p1, p2⟩ := hp
  clear hf
  go_enter Tryd.func106, Tryd.ntmps106
  go_wp2
  go_ret
  exact ⟨rfl, rfl⟩
def FocPost (L S C : Nat) (X Y U V : Nat → Int) (w : World) (e : Ending) (w' : World) : Prop :=
  ∃ a c D, e = .returned (.agg #[.int .i64 L, .int .i64 S, .slice a D.length c]) ∧ D.length = L * S ∧ DOkF X Y U V S C D ∧ FieldAt w' (w.heap.size + 2) a D ∧ Below w.heap.size w w'
set_option maxRecDepth 20000 in
set_option maxHeartbeats 4000000 in
theorem sums_f (L S C L0 : Nat) (B b off n cap cb coff ccap : Nat) (lines : Int) (f fc : Nat → Nat × Nat) (X Y U V : Nat → Int) (w : World) (hL : L + C = L0 + 1) (hC : 1 ≤ C) (hL0 : L0 ≤ 64) (hS : S ≤ 64) (hn : n = L0 * S)
    (hB : B < w.heap.size) (hbw : b < w.heap.size) (hcw : cb < w.heap.size) (hi : ImgBlk w B lines S (some ⟨b, off, none⟩) n cap) (hf : SumsAt w b off n f) (hfc : SamplesAt w cb coff C fc) (hX : SmallD n f X Y 1000000000) (hU : SmallS C fc U V 3) :
    Calls Tryd.prog 80 #[.int .i64 L, .int .i64 S, .slice (some ⟨cb, coff, none⟩) C ccap, .func (.func 106) #[] #[.pointer (some ⟨B, 0, none⟩)]] w (FocPost L S C X Y U V w) := by
  obtain ⟨i0, hi0, hz0, hz1, hz2⟩ := info_parts infoC
  have HI := Lib.hid hi
  have HF := Lib.hid hf
  have HFC := Lib.hid hfc
  have HX := Lib.hid hX
  have HU := Lib.hid hU
  have HN := Lib.hid hn
  have hs2 : L + C ≤ L0 + 1 := by omega
  have hs3 : L0 + 1 ≤ L + C := by omega
  clear hi hf hfc hX hU hn hL
  go_enter Tryd.func80, Tryd.ntmps80
  go_wp2
  refine wp_worldV (fun W => SumSt w L S [] (.slice none 0 0) W) ⟨by simp [go_sem], by simp [go_sem], by simp [go_sem], by simp [go_sem], by simp [go_sem], by simp [go_sem], by simp [go_sem], by simp [go_sem], by simp [go_sem], by simp [go_sem], World.ownsRow_nil _ _ _ _, (by (repeat' (first | with_reducible exact Below.refl _ _ | (with_reducible refine below_later_of ?_ ?_ _) | (with_reducible refine Below.alloc ?_ ?_ _) | (with_reducible refine Below.setCell ?_ ?_ _) | (with_reducible refine Below.drew ?_) | (simp; done) | (simp; omega) | omega))), by simp⟩ ?_
  rintro W2 hst
  have HST := Lib.hid hst
  clear hst
  go_loopw [19] (fun i wr => ∃ (l : Nat) (D : List (Nat × Nat)) (v : Value), l ≤ L ∧ i = .int .i64 l ∧ D.length = l * S ∧ DOkF X Y U V S C D ∧ SumSt w L S D v wr) (fun i _ => L - (intOf i).toNat)
  case atStart => exact ⟨0, [], _, Nat.zero_le _, rfl, by simp, fun i z hi => by simp at hi, HST.out⟩
  case round =>
    obtain ⟨l, D, v, hl, rfl, hD, hok, hst⟩ := hrel
    have HD := Lib.hid hD
    have HOK := Lib.hid hok
    have HS1 := Lib.hid hst
    clear hD hok hst
    by_cases hlt : l < L
    · have hdl : decide ((l : Int) < (L : Int)) = true := by simp; omega
      go_wp2
      go_loopw [23] (fun i wr => ∃ (s : Nat) (D : List (Nat × Nat)) (v : Value), s ≤ S ∧ i = .int .i64 s ∧ D.length = l * S + s ∧ DOkF X Y U V S C D ∧ SumSt w L S D v wr) (fun i _ => S - (intOf i).toNat)
      case atStart => exact ⟨0, D, v, Nat.zero_le _, rfl, HD.out, HOK.out, HS1.out⟩
      case round =>
        obtain ⟨s, D, v, hs, rfl, hD, hok, hst⟩ := hrel
        have HD2 := Lib.hid hD
        have HOK2 := Lib.hid hok
        have HS2 := Lib.hid hst
        clear hD hok
        by_cases hst2 : s < S
        · have hds : decide ((s : Int) < (S : Int)) = true := by simp; omega
          go_wp2
          go_loop [12, 28] (fun z i => ∃ (k re im : Nat), k ≤ C ∧ i = .int .i64 k ∧ z = .complex .f64 re im ∧ BNum re im (reF X Y U V S l s k) (imF X Y U V S l s k)) (fun _ i => C - (intOf i).toNat)
          case atStart => exact ⟨0, 0, 0, Nat.zero_le _, rfl, rfl, zero_bnum⟩
          case round =>
            obtain ⟨k, re, im, hk, rfl, rfl, hz⟩ := hrel
            by_cases hkc : k < C
            · have hdk : decide ((k : Int) < (C : Int)) = true := by simp; omega
              have hin : (l + k) * S + s < n := idx_lt (by omega) hlt hkc hst2 HN.out
              obtain ⟨sx, bx, by'⟩ := HX.out _ hin
              obtain ⟨su, bu, bv⟩ := HU.out _ hkc
              obtain ⟨ca, cb', hcv2, hcn2⟩ := wide_c su
              obtain ⟨b1, b2⟩ := reF_bd (k := k) HX.out HU.out (show L + C = L0 + 1 by omega) hlt hst2 HN.out hk (by omega)
              obtain ⟨p, q, re', im', h1, h2, h3⟩ := step_cnum2 sx hcn2 hz bx by' bu bv b1 b2 rfl rfl
              have HCL := Lib.hid (focus1 B b off n cap lines S f l s k ((l + k) * S + s) wr (HI.out.below hB hst.bel) (HF.out.below hbw hst.bel) (by omega) (by omega) (by omega) (by omega) (by omega) (by rw [Int.natCast_add, Int.natCast_mul, Int.natCast_add]) hin)
              generalize (f ((l + k) * S + s)).1 = za at HCL h1
              generalize (f ((l + k) * S + s)).2 = zb at HCL h1
              have ck := (hst.bel.cell (p := ⟨cb, coff + k, none⟩) hcw).trans (HFC.out k hkc)
              have cw := fun w => run_wide hcv2 w
              have fm := fun w => run_complex_mul (P := Tryd.prog) w 49 _ _ _ _ p q h1
              have fa := fun w => run_complex_sum (P := Tryd.prog) w .add (Or.inl rfl) 49 .f64 re im p q re' im' h2
              have H3 := Lib.hid h3
              clear h1 h2 h3 hcv2 hcn2 sx su bx by' bu bv b1 b2 hz hin hst
              go_wp2_with (first | (go_at_call 106; (with_reducible refine (HCL.out).mono ?_); rintro e w' ⟨rfl, rfl⟩) | (go_at_call 129; (with_reducible refine (conj_any _ _ _).mono ?_); rintro e w' ⟨rfl, rfl⟩))
              go_round
              case rel => exact ⟨k + 1, re', im', by omega, by go_num, rfl, by rw [reF_succ, imF_succ]; exact H3.out⟩
              case measure => simp [intOf]; omega
            · obtain rfl : k = C := by omega
              have hdk : decide ((k : Int) < (k : Int)) = false := by simp
              have HZ := Lib.hid hz
              have hlen : D.length ≤ 10000 := by
                have h1 : l * S ≤ 64 * 64 := Nat.mul_le_mul (by omega) hS
                have h2 := HD2.out
                omega
              have hc2 := hst.c2
              have hf2 := hst.f2
              have hlt2 := hst.lt
              clear hst hz
              go_wp2_with (first | (at_builtin; refine wpList_append_own _ rfl _ _ 32 rfl (w.heap.size + 2) 49 i0 (.complex .f64 0 0) 1 16 Tryd.underlying32 hi0 hz0 hz1 hz2 rfl (by decide) _ _ _ rfl (HS2.out.own.alloc _) ⟨wr.heap.size, 0, none⟩ 1 1 [.complex .f64 re im] rfl rfl ?d1 ?d2 ?d3 ?d4 ?d5 ?_))
              case d2 => first | rfl | (intro u hu; simp at hu; subst hu; rfl)
              case d3 => unfold maxLen; omega
              case d4 => omega
              case d5 => first | omega | (simp; omega)
              intro v' w1 hown' hgrow _
              obtain ⟨g', cc', rfl⟩ := row_slice hown' (by omega)
              have HN2 := Lib.hid (HS2.out.put (re := re) (im := im) hown' hgrow)
              obtain ⟨hcb, hfb⟩ := HS2.out.still hgrow
              clear hown' hgrow hlen
              go_wp2
              go_roundw
              case rel => exact ⟨s + 1, _, _, by omega, by go_num, by rw [List.length_append, HD2.out]; simp; omega, HOK2.out.snoc hst2 HD2.out HZ.out, HN2.out⟩
              case measure => simp [intOf]; omega
        · obtain rfl : s = S := by omega
          have hds : decide ((s : Int) < (s : Int)) = false := by simp
          clear hst
          go_wp2
          go_roundw
          case rel => exact ⟨l + 1, D, v, by omega, by go_num, by rw [HD2.out, Nat.add_mul, Nat.one_mul], HOK2.out, HS2.out⟩
          case measure => simp [intOf]; omega
    · obtain rfl : l = L := by omega
      have hdl : decide ((l : Int) < (l : Int)) = false := by simp
      have hst := HS1.out
      have hown := hst.own
      obtain ⟨a', c', rfl⟩ := own_slice hown
      obtain ⟨e0, e1, e2, -, r0, r1, r2, g0, g1, g2, -, hbel, -⟩ := hst
      have HOW := Lib.hid hown
      have HBE := Lib.hid hbel
      clear hown hbel
      go_wp2
      refine bodyPost_ret ?_ rfl ⟨a', c', D, rfl, HD.out, HOK.out, fieldAt_own (ownsRow_setCell_below (ownsRow_setCell_below (ownsRow_setCell_below HOW.out (by simp) _) (by simp) _) (by simp) _) rfl, HBE.out.trans (by (repeat' (first | with_reducible exact Below.refl _ _ | (with_reducible refine below_later_of ?_ ?_ _) | (with_reducible refine Below.alloc ?_ ?_ _) | (with_reducible refine Below.setCell ?_ ?_ _) | (with_reducible refine Below.drew ?_) | (simp; done) | (simp; omega) | omega)))⟩
      first | (simp [results, Tryd.results80, go_sem, r0, r1, r2]; done) | simp [results, Tryd.results80, go_sem, r0, r1, r2, ↓IntWalk.iteOmega]
end Go.Proofs.YtakohhlmomgegaaDoor

/- Chapter 1: Focus. -/
namespace Go.Proofs.YtakohhlmomgegaaDoor
set_option linter.unusedVariables false
set_option linter.unusedSimpArgs false
open Go.RowKit Ntt
/-- The numbers of a focused field, as they are written. -/
def focB (X Y U V : Nat → Int) (S C : Nat) (i : Nat) : Nat × Nat := (f64I (reF X Y U V S (i / S) (i % S) C), f64I (imF X Y U V S (i / S) (i % S) C))
def OwnS (W : World) (base n : Nat) (f : Nat → Nat × Nat) (a : Option Addr) : Prop := 0 < n → ∃ g, a = some ⟨g, 0, none⟩ ∧ base ≤ g ∧ g < W.heap.size ∧ SumsAt W g 0 n f
theorem OwnS.of {W : World} {base n : Nat} {a : Option Addr} {D : List (Nat × Nat)} {f : Nat → Nat × Nat} (h : FieldAt W base a D) (hl : D.length = n) (hf : ∀ i z, D[i]? = some z → z = f i) : OwnS W base n f a := fun h0 => by
  obtain ⟨g, h1, h2, h3, h4⟩ := h (by omega)
  refine ⟨g, h1, h2, h3, fun k hk => ?_⟩
  have e : D[k]? = some D[k] := List.getElem?_eq_getElem (by omega)
  rw [Nat.zero_add, h4 k _ e, hf k _ e]
theorem OwnS.mono {W : World} {b b' n : Nat} {a : Option Addr} {f : Nat → Nat × Nat} (h : OwnS W b n f a) (hb : b' ≤ b) : OwnS W b' n f a := fun h0 => by
  obtain ⟨g, h1, h2, h3, h4⟩ := h h0
  exact ⟨g, h1, by omega, h3, h4⟩
theorem OwnS.below {W W' : World} {b n : Nat} {a : Option Addr} {f : Nat → Nat × Nat} (h : OwnS W b n f a) (hb : Below W.heap.size W W') : OwnS W' b n f a := fun h0 => by
  obtain ⟨g, h1, h2, h3, h4⟩ := h h0
  exact ⟨g, h1, h2, by have := hb.size; omega, h4.below h3 hb⟩
theorem OwnS.set {W : World} {b n : Nat} {a : Option Addr} {f : Nat → Nat × Nat} (h : OwnS W b n f a) {p : Addr} (hp : p.block < b) (v : Value) : OwnS (W.setCell p v) b n f a := fun h0 => by
  obtain ⟨g, h1, h2, h3, h4⟩ := h h0
  refine ⟨g, h1, h2, by simpa using h3, fun k hk => ?_⟩
  rw [World.cell?_setCell_other _ _ _ _ (by intro e; rw [e] at hp; simp at hp; omega)]
  exact h4 k hk
theorem OwnS.fld {W W' : World} {B n : Nat} {L S : Int} {a : Option Addr} {f : Nat → Nat × Nat} (h : OwnS W B n f a) (hb : Below W.heap.size W W') : FldAt W' L S n f a := fun hs => by
  obtain ⟨⟨l1, l2⟩, ⟨s1, s2⟩, hn⟩ := sizeE_zero hs
  have h0 : 0 < L * S := Int.mul_pos (by omega) (by omega)
  obtain ⟨g, h1, -, h3, h4⟩ := h (by omega)
  exact ⟨g, 0, h1, by have := hb.size; omega, h4.below h3 hb⟩
theorem focB_wide (n : Nat) (X Y U V : Nat → Int) (S C : Nat) : Wide64 n (focB X Y U V S C) := fun _ _ => ⟨f64I_lt _, f64I_lt _⟩
/-- A field of its own, in memory from some block on. -/
def FoPost (B : Nat) (L S : Int) (n : Nat) (g : Nat → Nat × Nat) (w : World) (e : Ending) (w' : World) : Prop :=
  ∃ a c, e = .returned (.agg #[.int .i64 L, .int .i64 S, .slice a n c]) ∧ OwnS w' B n g a ∧ Below w.heap.size w w'
theorem sums_f2 (L S C L0 : Nat) (B b off n cap cb coff ccap : Nat) (lines : Int) (f fc : Nat → Nat × Nat) (X Y U V : Nat → Int) (w : World) (hL : L + C = L0 + 1) (hC : 1 ≤ C) (hL0 : L0 ≤ 64) (hS : S ≤ 64) (hn : n = L0 * S)
    (hB : B < w.heap.size) (hbw : b < w.heap.size) (hcw : cb < w.heap.size) (hi : ImgBlk w B lines S (some ⟨b, off, none⟩) n cap) (hf : SumsAt w b off n f) (hfc : SamplesAt w cb coff C fc) (hX : SmallD n f X Y 1000000000) (hU : SmallS C fc U V 3) {N : Nat} (hN : N = L * S) :
    Calls Tryd.prog 80 #[.int .i64 L, .int .i64 S, .slice (some ⟨cb, coff, none⟩) C ccap, .func (.func 106) #[] #[.pointer (some ⟨B, 0, none⟩)]] w (FoPost (w.heap.size + 2) L S N (focB X Y U V S C) w) := by
  subst hN
  refine (sums_f L S C L0 B b off n cap cb coff ccap lines f fc X Y U V w hL hC hL0 hS hn hB hbw hcw hi hf hfc hX hU).mono ?_
  rintro e w' ⟨a, c, D, rfl, hD, hok, hfa, hb⟩
  refine ⟨a, c, by rw [hD], OwnS.of hfa hD (fun i z hz => ?_), hb⟩
  have b := hok i z hz
  exact Prod.ext b.re b.im
set_option maxHeartbeats 2000000 in
theorem focus_bad (L S : Int) (n cap C ccap : Nat) (f fc : Nat → Nat × Nat) (a ca : Option Addr) (w : World) (hn : n ≤ 100000) (hC : C ≤ 100000) (hd : FldAt w L S n f a) (hw : Wide64 n f) (hc : CodeAt w C fc ca) {e0 : Int} (he : first2 (fldE L S n f).2 (codeE C fc).2 = e0) (h0 : e0 ≠ 0) :
    Calls Tryd.prog 47 #[.agg #[.int .i64 L, .int .i64 S, .slice a n cap], .slice ca C ccap] w fun e w' => e = .returned (.tuple #[.agg #[.int .i64 0, .int .i64 0, .slice none 0 0], .int .i64 e0]) ∧ Below w.heap.size w w' := by
  have HIM := Lib.hid (show ∀ W, Below w.heap.size w W → _ from fun W hW => fieldErr_any L S n cap f a W hn (hd.below hW) hw rfl)
  have HCO := Lib.hid (show ∀ W, Below w.heap.size w W → _ from fun W hW => codeErr_any C ccap fc ca W hC (hc.below hW) rfl)
  have HF := Lib.hid he
  have hne : (e0 != 0) = true := by simpa using h0
  clear he h0 hd hc hw
  generalize (fldE L S n f).2 = z1 at HIM HF
  generalize (codeE C fc).2 = z2 at HCO HF
  go_enter Tryd.func47, Tryd.ntmps47
  go_wp2_with (first | (go_at_call 105; (with_reducible refine (HIM.out _ (by (repeat' (first | with_reducible exact Below.refl _ _ | (with_reducible refine below_later_of ?_ ?_ _) | (with_reducible refine Below.alloc ?_ ?_ _) | (with_reducible refine Below.setCell ?_ ?_ _) | (with_reducible refine Below.drew ?_) | (simp; done) | (simp; omega) | omega)))).mono ?_); rintro e w' ⟨rfl, hb⟩; obtain ⟨pp, rfl⟩ := later_of_below hb; clear hb) | (go_at_call 79; (with_reducible refine (HCO.out _ (by (repeat' (first | with_reducible exact Below.refl _ _ | (with_reducible refine below_later_of ?_ ?_ _) | (with_reducible refine Below.alloc ?_ ?_ _) | (with_reducible refine Below.setCell ?_ ?_ _) | (with_reducible refine Below.drew ?_) | (simp; done) | (simp; omega) | omega)))).mono ?_); rintro e w' ⟨rfl, hb⟩; obtain ⟨pp2, rfl⟩ := later_of_below hb; clear hb) | (go_at_call 77; refine (first_e _ _ _ _ HF.out (by (first | (simp [go_sem]; done) | simp [go_sem, ↓IntWalk.iteOmega])) (by (first | (simp [go_sem]; done) | simp [go_sem, ↓IntWalk.iteOmega]))).mono ?_; rintro e w' ⟨rfl, rfl⟩))
  refine bodyPost_ret ?_ rfl ⟨rfl, (by (repeat' (first | with_reducible exact Below.refl _ _ | (with_reducible refine below_later_of ?_ ?_ _) | (with_reducible refine Below.alloc ?_ ?_ _) | (with_reducible refine Below.setCell ?_ ?_ _) | (with_reducible refine Below.drew ?_) | (simp; done) | (simp; omega) | omega)))⟩
  first | (simp [results, Tryd.results47, go_sem]; done) | simp [results, Tryd.results47, go_sem, ↓IntWalk.iteOmega]
set_option maxHeartbeats 2000000 in
theorem focus_short (L S : Int) (n cap C ccap : Nat) (f fc : Nat → Nat × Nat) (a ca : Option Addr) (w : World) (hn : n ≤ 100000) (hC : C ≤ 100000) (hd : FldAt w L S n f a) (hw : Wide64 n f) (hc : CodeAt w C fc ca) (he : first2 (fldE L S n f).2 (codeE C fc).2 = 0) (h0 : L < C) :
    Calls Tryd.prog 47 #[.agg #[.int .i64 L, .int .i64 S, .slice a n cap], .slice ca C ccap] w fun e w' => e = .returned (.tuple #[.agg #[.int .i64 0, .int .i64 0, .slice none 0 0], .int .i64 10]) ∧ Below w.heap.size w w' := by
  have HIM := Lib.hid (show ∀ W, Below w.heap.size w W → _ from fun W hW => fieldErr_any L S n cap f a W hn (hd.below hW) hw rfl)
  have HCO := Lib.hid (show ∀ W, Below w.heap.size w W → _ from fun W hW => codeErr_any C ccap fc ca W hC (hc.below hW) rfl)
  have HF := Lib.hid he
  have hdl : decide (L < (C : Int)) = true := by simpa using h0
  clear he h0 hd hc hw
  generalize (fldE L S n f).2 = z1 at HIM HF
  generalize (codeE C fc).2 = z2 at HCO HF
  go_enter Tryd.func47, Tryd.ntmps47
  go_wp2_with (first | (go_at_call 105; (with_reducible refine (HIM.out _ (by (repeat' (first | with_reducible exact Below.refl _ _ | (with_reducible refine below_later_of ?_ ?_ _) | (with_reducible refine Below.alloc ?_ ?_ _) | (with_reducible refine Below.setCell ?_ ?_ _) | (with_reducible refine Below.drew ?_) | (simp; done) | (simp; omega) | omega)))).mono ?_); rintro e w' ⟨rfl, hb⟩; obtain ⟨pp, rfl⟩ := later_of_below hb; clear hb) | (go_at_call 79; (with_reducible refine (HCO.out _ (by (repeat' (first | with_reducible exact Below.refl _ _ | (with_reducible refine below_later_of ?_ ?_ _) | (with_reducible refine Below.alloc ?_ ?_ _) | (with_reducible refine Below.setCell ?_ ?_ _) | (with_reducible refine Below.drew ?_) | (simp; done) | (simp; omega) | omega)))).mono ?_); rintro e w' ⟨rfl, hb⟩; obtain ⟨pp2, rfl⟩ := later_of_below hb; clear hb) | (go_at_call 77; refine (first_e _ _ _ _ HF.out (by (first | (simp [go_sem]; done) | simp [go_sem, ↓IntWalk.iteOmega])) (by (first | (simp [go_sem]; done) | simp [go_sem, ↓IntWalk.iteOmega]))).mono ?_; rintro e w' ⟨rfl, rfl⟩))
  refine bodyPost_ret ?_ rfl ⟨rfl, (by (repeat' (first | with_reducible exact Below.refl _ _ | (with_reducible refine below_later_of ?_ ?_ _) | (with_reducible refine Below.alloc ?_ ?_ _) | (with_reducible refine Below.setCell ?_ ?_ _) | (with_reducible refine Below.drew ?_) | (simp; done) | (simp; omega) | omega)))⟩
  first | (simp [results, Tryd.results47, go_sem]; done) | simp [results, Tryd.results47, go_sem, ↓IntWalk.iteOmega]
theorem first2_zero {x y : Int} (h : first2 x y = 0) : x = 0 ∧ y = 0 := by
  unfold first2 at h
  split at h
  · exact ⟨‹_›, h⟩
  · exact absurd h ‹_›
set_option maxHeartbeats 2000000 in
theorem focus_large (L0 S n cap C ccap : Nat) (f fc : Nat → Nat × Nat) (a ca : Option Addr) (w : World) (hn : n ≤ 100000) (hC : C ≤ 100000) (hd : FldAt w L0 S n f a) (hw : Wide64 n f) (hc : CodeAt w C fc ca) (he : first2 (fldE L0 S n f).2 (codeE C fc).2 = 0) {L N : Nat} (hL : L + C = L0 + 1) (h1 : 1 ≤ L) (hN : N = L * S) {e1 : Int} (h0 : (fldE L S N (focB (xD f) (yD f) (xB fc) (yB fc) S C)).2 = e1) (hne' : e1 ≠ 0) :
    Calls Tryd.prog 47 #[.agg #[.int .i64 L0, .int .i64 S, .slice a n cap], .slice ca C ccap] w fun e w' => e = .returned (.tuple #[.agg #[.int .i64 0, .int .i64 0, .slice none 0 0], .int .i64 8]) ∧ Below w.heap.size w w' := by
  have hne : (e1 != 0) = true := by simpa using hne'
  clear hne'
  have HIM := Lib.hid (show ∀ W, Below w.heap.size w W → _ from fun W hW => fieldErr_any L0 S n cap f a W hn (hd.below hW) hw rfl)
  have HCO := Lib.hid (show ∀ W, Below w.heap.size w W → _ from fun W hW => codeErr_any C ccap fc ca W hC (hc.below hW) rfl)
  have HF := Lib.hid he
  obtain ⟨he1, he2⟩ := first2_zero he
  obtain ⟨hs, hg⟩ := fldE_zero he1
  obtain ⟨hC0, hC1, hgc, -⟩ := codeE_zero he2
  obtain ⟨⟨l1, l2⟩, ⟨s1, s2⟩, hnn⟩ := sizeE_zero hs
  obtain ⟨b, off, rfl, hbw, hf⟩ := hd hs
  obtain ⟨cb, coff, rfl, hcw, hfc⟩ := hc hC0
  have hLi : (L0 : Int) - C + 1 = L := by omega
  have HSU := Lib.hid (show ∀ W, Below w.heap.size w W → w.heap.size < W.heap.size → ImgBlk W w.heap.size L0 S (some ⟨b, off, none⟩) n cap → Calls Tryd.prog 80 #[.int .i64 L, .int .i64 S, .slice (some ⟨cb, coff, none⟩) C ccap, .func (.func 106) #[] #[.pointer (some ⟨w.heap.size, 0, none⟩)]] W (FoPost (W.heap.size + 2) L S N (focB (xD f) (yD f) (xB fc) (yB fc) S C) W) from fun W hW hlt hi => by
    have hsz := hW.size
    exact sums_f2 L S C L0 w.heap.size b off n cap cb coff ccap L0 f fc _ _ _ _ W hL hC0 (by omega) (by omega) (by exact_mod_cast hnn) hlt (by omega) (by omega) hi (hf.below hbw hW) (hfc.below hcw hW) (smallD_of hw hg) (smallS_of (by decide) hgc) hN)
  have hN2 : N ≤ 100000 := by have := Nat.mul_le_mul (show L ≤ 64 by omega) (show S ≤ 64 by omega); omega
  have HFE := Lib.hid (show ∀ W a c, FldAt W L S N (focB (xD f) (yD f) (xB fc) (yB fc) S C) a → _ from fun W a c h => fieldErr_any L S N c _ a W hN2 h (focB_wide N _ _ _ _ S C) h0)
  have hdl : decide (L0 < C) = false := by simp; omega
  clear he he1 he2 hs hg hgc hnn hf hfc hd hc h0 hw hN
  generalize (fldE L0 S n f).2 = z1 at HIM HF
  generalize (codeE C fc).2 = z2 at HCO HF
  go_enter Tryd.func47, Tryd.ntmps47
  go_wp2_with (first | (go_at_call 80; (with_reducible refine (HSU.out _ (by (repeat' (first | with_reducible exact Below.refl _ _ | (with_reducible refine below_later_of ?_ ?_ _) | (with_reducible refine Below.alloc ?_ ?_ _) | (with_reducible refine Below.setCell ?_ ?_ _) | (with_reducible refine Below.drew ?_) | (simp; done) | (simp; omega) | omega))) (by simp; omega) (ImgBlk.mk' (by (first | (simp [go_sem]; done) | simp [go_sem, ↓IntWalk.iteOmega])) (by (first | (simp [go_sem]; done) | simp [go_sem, ↓IntWalk.iteOmega])) (by (first | (simp [go_sem]; done) | simp [go_sem, ↓IntWalk.iteOmega])))).mono ?_); rintro e w' ⟨a', c', rfl, hfa, hb⟩; have HFA := Lib.hid hfa; clear hfa; obtain ⟨pp3, rfl⟩ := later_of_below hb; clear hb) | (go_at_call 105; (with_reducible refine (HFE.out _ _ _ (OwnS.fld HFA.out (by (repeat' (first | with_reducible exact Below.refl _ _ | (with_reducible refine below_later_of ?_ ?_ _) | (with_reducible refine Below.alloc ?_ ?_ _) | (with_reducible refine Below.setCell ?_ ?_ _) | (with_reducible refine Below.drew ?_) | (simp; done) | (simp; omega) | omega))))).mono ?_); rintro e w' ⟨rfl, hb⟩; obtain ⟨pp4, rfl⟩ := later_of_below hb; clear hb) | (go_at_call 105; (with_reducible refine (HIM.out _ (by (repeat' (first | with_reducible exact Below.refl _ _ | (with_reducible refine below_later_of ?_ ?_ _) | (with_reducible refine Below.alloc ?_ ?_ _) | (with_reducible refine Below.setCell ?_ ?_ _) | (with_reducible refine Below.drew ?_) | (simp; done) | (simp; omega) | omega)))).mono ?_); rintro e w' ⟨rfl, hb⟩; obtain ⟨pp, rfl⟩ := later_of_below hb; clear hb) | (go_at_call 79; (with_reducible refine (HCO.out _ (by (repeat' (first | with_reducible exact Below.refl _ _ | (with_reducible refine below_later_of ?_ ?_ _) | (with_reducible refine Below.alloc ?_ ?_ _) | (with_reducible refine Below.setCell ?_ ?_ _) | (with_reducible refine Below.drew ?_) | (simp; done) | (simp; omega) | omega)))).mono ?_); rintro e w' ⟨rfl, hb⟩; obtain ⟨pp2, rfl⟩ := later_of_below hb; clear hb) | (go_at_call 77; refine (first_e _ _ _ _ HF.out (by (first | (simp [go_sem]; done) | simp [go_sem, ↓IntWalk.iteOmega])) (by (first | (simp [go_sem]; done) | simp [go_sem, ↓IntWalk.iteOmega]))).mono ?_; rintro e w' ⟨rfl, rfl⟩))
  refine bodyPost_ret ?_ rfl ⟨rfl, (by (repeat' (first | with_reducible exact Below.refl _ _ | (with_reducible refine below_later_of ?_ ?_ _) | (with_reducible refine Below.alloc ?_ ?_ _) | (with_reducible refine Below.setCell ?_ ?_ _) | (with_reducible refine Below.drew ?_) | (simp; done) | (simp; omega) | omega)))⟩
  first | (simp [results, Tryd.results47, go_sem]; done) | simp [results, Tryd.results47, go_sem, ↓IntWalk.iteOmega]
/-- The field that Focus returns. -/
def FocOkPost (L S : Int) (n : Nat) (g : Nat → Nat × Nat) (w : World) (e : Ending) (w' : World) : Prop :=
  ∃ a c, e = .returned (.tuple #[.agg #[.int .i64 L, .int .i64 S, .slice a n c], .int .i64 0]) ∧ OwnS w' w.heap.size n g a ∧ Below w.heap.size w w'
set_option maxHeartbeats 2000000 in
theorem focus_ok (L0 S n cap C ccap : Nat) (f fc : Nat → Nat × Nat) (a ca : Option Addr) (w : World) (hn : n ≤ 100000) (hC : C ≤ 100000) (hd : FldAt w L0 S n f a) (hw : Wide64 n f) (hc : CodeAt w C fc ca) (he : first2 (fldE L0 S n f).2 (codeE C fc).2 = 0) {L N : Nat} (hL : L + C = L0 + 1) (h1 : 1 ≤ L) (hN : N = L * S) (h0 : (fldE L S N (focB (xD f) (yD f) (xB fc) (yB fc) S C)).2 = 0) :
    Calls Tryd.prog 47 #[.agg #[.int .i64 L0, .int .i64 S, .slice a n cap], .slice ca C ccap] w (FocOkPost L S N (focB (xD f) (yD f) (xB fc) (yB fc) S C) w) := by
  have HIM := Lib.hid (show ∀ W, Below w.heap.size w W → _ from fun W hW => fieldErr_any L0 S n cap f a W hn (hd.below hW) hw rfl)
  have HCO := Lib.hid (show ∀ W, Below w.heap.size w W → _ from fun W hW => codeErr_any C ccap fc ca W hC (hc.below hW) rfl)
  have HF := Lib.hid he
  obtain ⟨he1, he2⟩ := first2_zero he
  obtain ⟨hs, hg⟩ := fldE_zero he1
  obtain ⟨hC0, hC1, hgc, -⟩ := codeE_zero he2
  obtain ⟨⟨l1, l2⟩, ⟨s1, s2⟩, hnn⟩ := sizeE_zero hs
  obtain ⟨b, off, rfl, hbw, hf⟩ := hd hs
  obtain ⟨cb, coff, rfl, hcw, hfc⟩ := hc hC0
  have hLi : (L0 : Int) - C + 1 = L := by omega
  have HSU := Lib.hid (show ∀ W, Below w.heap.size w W → w.heap.size < W.heap.size → ImgBlk W w.heap.size L0 S (some ⟨b, off, none⟩) n cap → Calls Tryd.prog 80 #[.int .i64 L, .int .i64 S, .slice (some ⟨cb, coff, none⟩) C ccap, .func (.func 106) #[] #[.pointer (some ⟨w.heap.size, 0, none⟩)]] W (FoPost (W.heap.size + 2) L S N (focB (xD f) (yD f) (xB fc) (yB fc) S C) W) from fun W hW hlt hi => by
    have hsz := hW.size
    exact sums_f2 L S C L0 w.heap.size b off n cap cb coff ccap L0 f fc _ _ _ _ W hL hC0 (by omega) (by omega) (by exact_mod_cast hnn) hlt (by omega) (by omega) hi (hf.below hbw hW) (hfc.below hcw hW) (smallD_of hw hg) (smallS_of (by decide) hgc) hN)
  have hN2 : N ≤ 100000 := by have := Nat.mul_le_mul (show L ≤ 64 by omega) (show S ≤ 64 by omega); omega
  have HFE := Lib.hid (show ∀ W a c, FldAt W L S N (focB (xD f) (yD f) (xB fc) (yB fc) S C) a → _ from fun W a c h => fieldErr_any L S N c _ a W hN2 h (focB_wide N _ _ _ _ S C) h0)
  have hdl : decide (L0 < C) = false := by simp; omega
  clear he he1 he2 hs hg hgc hnn hf hfc hd hc h0 hw hN
  generalize (fldE L0 S n f).2 = z1 at HIM HF
  generalize (codeE C fc).2 = z2 at HCO HF
  go_enter Tryd.func47, Tryd.ntmps47
  go_wp2_with (first | (go_at_call 80; (with_reducible refine (HSU.out _ (by (repeat' (first | with_reducible exact Below.refl _ _ | (with_reducible refine below_later_of ?_ ?_ _) | (with_reducible refine Below.alloc ?_ ?_ _) | (with_reducible refine Below.setCell ?_ ?_ _) | (with_reducible refine Below.drew ?_) | (simp; done) | (simp; omega) | omega))) (by simp; omega) (ImgBlk.mk' (by (first | (simp [go_sem]; done) | simp [go_sem, ↓IntWalk.iteOmega])) (by (first | (simp [go_sem]; done) | simp [go_sem, ↓IntWalk.iteOmega])) (by (first | (simp [go_sem]; done) | simp [go_sem, ↓IntWalk.iteOmega])))).mono ?_); rintro e w' ⟨a', c', rfl, hfa, hb⟩; have HFA := Lib.hid hfa; clear hfa; obtain ⟨pp3, rfl⟩ := later_of_below hb; clear hb) | (go_at_call 105; (with_reducible refine (HFE.out _ _ _ (OwnS.fld HFA.out (by (repeat' (first | with_reducible exact Below.refl _ _ | (with_reducible refine below_later_of ?_ ?_ _) | (with_reducible refine Below.alloc ?_ ?_ _) | (with_reducible refine Below.setCell ?_ ?_ _) | (with_reducible refine Below.drew ?_) | (simp; done) | (simp; omega) | omega))))).mono ?_); rintro e w' ⟨rfl, hb⟩; obtain ⟨pp4, rfl⟩ := later_of_below hb; clear hb) | (go_at_call 105; (with_reducible refine (HIM.out _ (by (repeat' (first | with_reducible exact Below.refl _ _ | (with_reducible refine below_later_of ?_ ?_ _) | (with_reducible refine Below.alloc ?_ ?_ _) | (with_reducible refine Below.setCell ?_ ?_ _) | (with_reducible refine Below.drew ?_) | (simp; done) | (simp; omega) | omega)))).mono ?_); rintro e w' ⟨rfl, hb⟩; obtain ⟨pp, rfl⟩ := later_of_below hb; clear hb) | (go_at_call 79; (with_reducible refine (HCO.out _ (by (repeat' (first | with_reducible exact Below.refl _ _ | (with_reducible refine below_later_of ?_ ?_ _) | (with_reducible refine Below.alloc ?_ ?_ _) | (with_reducible refine Below.setCell ?_ ?_ _) | (with_reducible refine Below.drew ?_) | (simp; done) | (simp; omega) | omega)))).mono ?_); rintro e w' ⟨rfl, hb⟩; obtain ⟨pp2, rfl⟩ := later_of_below hb; clear hb) | (go_at_call 77; refine (first_e _ _ _ _ HF.out (by (first | (simp [go_sem]; done) | simp [go_sem, ↓IntWalk.iteOmega])) (by (first | (simp [go_sem]; done) | simp [go_sem, ↓IntWalk.iteOmega]))).mono ?_; rintro e w' ⟨rfl, rfl⟩))
  refine bodyPost_ret ?_ rfl ⟨a', c', rfl, ?_, (by (repeat' (first | with_reducible exact Below.refl _ _ | (with_reducible refine below_later_of ?_ ?_ _) | (with_reducible refine Below.alloc ?_ ?_ _) | (with_reducible refine Below.setCell ?_ ?_ _) | (with_reducible refine Below.drew ?_) | (simp; done) | (simp; omega) | omega)))⟩
  · first | (simp [results, Tryd.results47, go_sem]; done) | simp [results, Tryd.results47, go_sem, ↓IntWalk.iteOmega]
  · refine OwnS.mono (OwnS.set (OwnS.set (OwnS.set (OwnS.below HFA.out (by (repeat' (first | with_reducible exact Below.refl _ _ | (with_reducible refine below_later_of ?_ ?_ _) | (with_reducible refine Below.alloc ?_ ?_ _) | (with_reducible refine Below.setCell ?_ ?_ _) | (with_reducible refine Below.drew ?_) | (simp; done) | (simp; omega) | omega)))) ?_ _) ?_ _) ?_ _) ?_ <;> simp <;> omega
end Go.Proofs.YtakohhlmomgegaaDoor

/- Chapter 1: Compress and Focus by their answers, with the bits of the fields; focusing is linear (plain). -/
namespace Go.Proofs.YtakohhlmomgegaaDoor
set_option linter.unusedVariables false
set_option linter.unusedSimpArgs false
open Go.RowKit Ntt
/-- The numbers of a compressed field, as they are written. -/
def compB (X Y U V : Nat → Int) (S S0 C : Nat) (i : Nat) : Nat × Nat := (f64I (reP X Y U V (i / S * S0 + i % S) C), f64I (imP X Y U V (i / S * S0 + i % S) C))
theorem compB_wide (n : Nat) (X Y U V : Nat → Int) (S S0 C : Nat) : Wide64 n (compB X Y U V S S0 C) := fun _ _ => ⟨f64I_lt _, f64I_lt _⟩
/-- What a compression says if it answers OK, by the bits. -/
def CompOkB (W : World) (base : Nat) (L S : Int) (n C : Nat) (f fc : Nat → Nat × Nat) (l s : Int) (n' : Nat) (a : Option Addr) : Prop :=
  ∃ L0 S0 : Nat, L = L0 ∧ S = S0 ∧ (1 ≤ L0 ∧ L0 ≤ 64 ∧ 1 ≤ C ∧ C ≤ S0 ∧ S0 ≤ 64 ∧ C ≤ 32) ∧ n = L0 * S0 ∧ l = L0 ∧ s = ((S0 + 1 - C : Nat) : Int) ∧ n' = L0 * (S0 + 1 - C) ∧ SmallS n f (xB f) (yB f) 2047 ∧ SmallS C fc (xB fc) (yB fc) 3 ∧
    OwnS W base n' (compB (xB f) (yB f) (xB fc) (yB fc) (S0 + 1 - C) S0 C) a
def CompAnyB (L S : Int) (n C : Nat) (f fc : Nat → Nat × Nat) (w : World) (e : Ending) (w' : World) : Prop :=
  ∃ l s n' a c e0, e = .returned (.tuple #[.agg #[.int .i64 l, .int .i64 s, .slice a n' c], .int .i64 e0]) ∧ (e0 = 0 → CompOkB w' w.heap.size L S n C f fc l s n' a) ∧ Below w.heap.size w w'
theorem compress_lawB (L S : Int) (n cap C ccap : Nat) (f fc : Nat → Nat × Nat) (a ca : Option Addr) (w : World) (hn : n ≤ 100000) (hC : C ≤ 100000) (hd : DataAt w L S n f a) (hc : CodeAt w C fc ca) :
    Calls Tryd.prog 21 #[.agg #[.int .i64 L, .int .i64 S, .slice a n cap], .slice ca C ccap] w (CompAnyB L S n C f fc w) := by
  refine (compress_law L S n cap C ccap f fc a ca w hn hC hd hc).mono ?_
  rintro e w' ⟨l, s, n', a', c', e0, rfl, hok, hb⟩
  refine ⟨l, s, n', a', c', e0, rfl, fun h0 => ?_, hb⟩
  obtain ⟨L0, S0, h1, h2, h3, h4, h5, h6, h7, h8, h9, D, d1, d2, d3⟩ := hok h0
  exact ⟨L0, S0, h1, h2, h3, h4, h5, h6, h7, h8, h9, OwnS.of d3 d1 fun i z hz => Prod.ext (d2 i z hz).re (d2 i z hz).im⟩
/-- What a focusing says if it answers OK. -/
def FocOk (W : World) (base : Nat) (L S : Int) (n C : Nat) (f fc : Nat → Nat × Nat) (l s : Int) (n' : Nat) (a : Option Addr) : Prop :=
  ∃ L0 S0 : Nat, L = L0 ∧ S = S0 ∧ (L0 ≤ 64 ∧ 1 ≤ C ∧ C ≤ L0 ∧ 1 ≤ S0 ∧ S0 ≤ 64 ∧ C ≤ 32) ∧ n = L0 * S0 ∧ l = ((L0 + 1 - C : Nat) : Int) ∧ s = S0 ∧ n' = (L0 + 1 - C) * S0 ∧ SmallD n f (xD f) (yD f) 1000000000 ∧ SmallS C fc (xB fc) (yB fc) 3 ∧
    OwnS W base n' (focB (xD f) (yD f) (xB fc) (yB fc) S0 C) a
def FocAny (L S : Int) (n C : Nat) (f fc : Nat → Nat × Nat) (w : World) (e : Ending) (w' : World) : Prop :=
  ∃ l s n' a c e0, e = .returned (.tuple #[.agg #[.int .i64 l, .int .i64 s, .slice a n' c], .int .i64 e0]) ∧ (e0 = 0 → FocOk w' w.heap.size L S n C f fc l s n' a) ∧ Below w.heap.size w w'
theorem focus_law (L S : Int) (n cap C ccap : Nat) (f fc : Nat → Nat × Nat) (a ca : Option Addr) (w : World) (hn : n ≤ 100000) (hC : C ≤ 100000) (hd : FldAt w L S n f a) (hw : Wide64 n f) (hc : CodeAt w C fc ca) :
    Calls Tryd.prog 47 #[.agg #[.int .i64 L, .int .i64 S, .slice a n cap], .slice ca C ccap] w (FocAny L S n C f fc w) := by
  by_cases he : first2 (fldE L S n f).2 (codeE C fc).2 = 0
  · obtain ⟨he1, he2⟩ := first2_zero he
    obtain ⟨hs, hg⟩ := fldE_zero he1
    obtain ⟨hC0, hC1, hgc, -⟩ := codeE_zero he2
    obtain ⟨⟨l1, l2⟩, ⟨s1, s2⟩, hnn⟩ := sizeE_zero hs
    by_cases h0 : L < C
    · refine (focus_short L S n cap C ccap f fc a ca w hn hC hd hw hc he h0).mono ?_
      rintro e w' ⟨rfl, hb⟩
      exact ⟨0, 0, 0, none, 0, 10, rfl, fun h => absurd h (by decide), hb⟩
    · obtain ⟨L0, rfl⟩ := Int.eq_ofNat_of_zero_le (show 0 ≤ L by omega)
      obtain ⟨S0, rfl⟩ := Int.eq_ofNat_of_zero_le (show 0 ≤ S by omega)
      by_cases h1 : (fldE ((L0 + 1 - C : Nat) : Int) S0 ((L0 + 1 - C) * S0) (focB (xD f) (yD f) (xB fc) (yB fc) S0 C)).2 = 0
      · refine (focus_ok L0 S0 n cap C ccap f fc a ca w hn hC hd hw hc he (by omega) (by omega) rfl h1).mono ?_
        rintro e w' ⟨a', c', rfl, ho, hb⟩
        exact ⟨_, _, _, a', c', 0, rfl, fun _ => ⟨L0, S0, rfl, rfl, by omega, by exact_mod_cast hnn, rfl, rfl, rfl, smallD_of hw hg, smallS_of (by decide) hgc, ho⟩, hb⟩
      · refine (focus_large L0 S0 n cap C ccap f fc a ca w hn hC hd hw hc he (by omega) (by omega) rfl rfl h1).mono ?_
        rintro e w' ⟨rfl, hb⟩
        exact ⟨0, 0, 0, none, 0, 8, rfl, fun h => absurd h (by decide), hb⟩
  · refine (focus_bad L S n cap C ccap f fc a ca w hn hC hd hw hc rfl he).mono ?_
    rintro e w' ⟨rfl, hb⟩
    exact ⟨0, 0, 0, none, 0, _, rfl, fun h => absurd h he, hb⟩
theorem intD_f64I {n : Int} (h : n.natAbs < 2 ^ 53) : intD (f64I n) = n := (intD_of (f64I_num h)).2
theorem place_lt {L S S0 C i n : Nat} (hS : S + C = S0 + 1) (hn : n = L * S0) (hi : i < L * S) (hC : 1 ≤ C) : i / S * S0 + i % S + C ≤ n := by
  have hS1 : 0 < S := by
    rcases Nat.eq_zero_or_pos S with h | h
    · subst h; simp at hi
    · exact h
  have h1 : i / S < L := (Nat.div_lt_iff_lt_mul hS1).2 hi
  have h2 := Nat.mod_lt i hS1
  have h3 : (i / S + 1) * S0 ≤ L * S0 := Nat.mul_le_mul_right _ h1
  rw [Nat.add_mul, Nat.one_mul] at h3
  omega
/-- The numbers of a compressed field are the sums. -/
theorem comp_parts {n C L S S0 i : Nat} {f fc : Nat → Nat × Nat} (hX : SmallS n f (xB f) (yB f) 2047) (hU : SmallS C fc (xB fc) (yB fc) 3) (hS : S + C = S0 + 1) (hn : n = L * S0) (hC : 1 ≤ C) (h64 : C ≤ 64) (hi : i < L * S) :
    xD (compB (xB f) (yB f) (xB fc) (yB fc) S S0 C) i = reP (xB f) (yB f) (xB fc) (yB fc) (i / S * S0 + i % S) C ∧ yD (compB (xB f) (yB f) (xB fc) (yB fc) S S0 C) i = imP (xB f) (yB f) (xB fc) (yB fc) (i / S * S0 + i % S) C := by
  obtain ⟨h1, h2⟩ := reP_bd (k := C) hX hU (place_lt hS hn hi hC) (Nat.le_refl _) h64
  exact ⟨intD_f64I (by omega), intD_f64I (by omega)⟩
theorem reP_add {X0 Y0 X1 Y1 X2 Y2 U V : Nat → Int} {i K : Nat} (h : ∀ k, k < K → X2 (i + k) = X0 (i + k) + X1 (i + k) ∧ Y2 (i + k) = Y0 (i + k) + Y1 (i + k)) :
    reP X2 Y2 U V i K = reP X0 Y0 U V i K + reP X1 Y1 U V i K ∧ imP X2 Y2 U V i K = imP X0 Y0 U V i K + imP X1 Y1 U V i K := by
  unfold reP imP
  rw [← sum_add, ← sum_add]
  refine ⟨sum_eq fun k hk => ?_, sum_eq fun k hk => ?_⟩ <;> rw [(h k hk).1, (h k hk).2] <;> grind
theorem reF_add {X0 Y0 X1 Y1 X2 Y2 U V : Nat → Int} {S l s K : Nat} (h : ∀ k, k < K → X2 ((l + k) * S + s) = X0 ((l + k) * S + s) + X1 ((l + k) * S + s) ∧ Y2 ((l + k) * S + s) = Y0 ((l + k) * S + s) + Y1 ((l + k) * S + s)) :
    reF X2 Y2 U V S l s K = reF X0 Y0 U V S l s K + reF X1 Y1 U V S l s K ∧ imF X2 Y2 U V S l s K = imF X0 Y0 U V S l s K + imF X1 Y1 U V S l s K := by
  unfold reF imF
  rw [← sum_add, ← sum_add]
  refine ⟨sum_eq fun k hk => ?_, sum_eq fun k hk => ?_⟩ <;> rw [(h k hk).1, (h k hk).2] <;> grind
/-- The numbers of an image that is compressed along and across. -/
def bothB (f fc fa : Nat → Nat × Nat) (S S0 C CA : Nat) : Nat → Nat × Nat := focB (xD (compB (xB f) (yB f) (xB fc) (yB fc) S S0 C)) (yD (compB (xB f) (yB f) (xB fc) (yB fc) S S0 C)) (xB fa) (yB fa) S CA
theorem both_linear {n C CA L S S0 LF i : Nat} {f0 f1 f2 fc fa : Nat → Nat × Nat} (h0 : SmallS n f0 (xB f0) (yB f0) 2047) (h1 : SmallS n f1 (xB f1) (yB f1) 2047) (h2 : SmallS n f2 (xB f2) (yB f2) 2047) (hsum : ∀ k, k < n → xB f2 k = xB f0 k + xB f1 k ∧ yB f2 k = yB f0 k + yB f1 k)
    (hU : SmallS C fc (xB fc) (yB fc) 3) (hA : SmallS CA fa (xB fa) (yB fa) 3) (hS : S + C = S0 + 1) (hL : LF + CA = L + 1) (hn : n = L * S0) (hC : 1 ≤ C) (h64 : C ≤ 64) (hCA : 1 ≤ CA) (hA64 : CA ≤ 64) (hi : i < LF * S)
    (d0 : SmallD (L * S) (compB (xB f0) (yB f0) (xB fc) (yB fc) S S0 C) (xD (compB (xB f0) (yB f0) (xB fc) (yB fc) S S0 C)) (yD (compB (xB f0) (yB f0) (xB fc) (yB fc) S S0 C)) 1000000000)
    (d1 : SmallD (L * S) (compB (xB f1) (yB f1) (xB fc) (yB fc) S S0 C) (xD (compB (xB f1) (yB f1) (xB fc) (yB fc) S S0 C)) (yD (compB (xB f1) (yB f1) (xB fc) (yB fc) S S0 C)) 1000000000) :
    cSumBits .add .f64 (bothB f0 fc fa S S0 C CA i).1 (bothB f0 fc fa S S0 C CA i).2 (bothB f1 fc fa S S0 C CA i).1 (bothB f1 fc fa S S0 C CA i).2 = some ((bothB f2 fc fa S S0 C CA i).1, (bothB f2 fc fa S S0 C CA i).2) ∧
      ∃ x y, CNum (bothB f2 fc fa S S0 C CA i).1 (bothB f2 fc fa S S0 C CA i).2 x y := by
  have hS1 : 0 < S := by
    rcases Nat.eq_zero_or_pos S with h | h
    · subst h; simp at hi
    · exact h
  have hl : i / S < LF := (Nat.div_lt_iff_lt_mul hS1).2 hi
  have hs := Nat.mod_lt i hS1
  obtain ⟨b1, b2⟩ := reF_bd (k := CA) d0 hA hL hl hs rfl (Nat.le_refl _) hA64
  obtain ⟨b3, b4⟩ := reF_bd (k := CA) d1 hA hL hl hs rfl (Nat.le_refl _) hA64
  have hlin := reF_add (X0 := xD (compB (xB f0) (yB f0) (xB fc) (yB fc) S S0 C)) (Y0 := yD (compB (xB f0) (yB f0) (xB fc) (yB fc) S S0 C)) (X1 := xD (compB (xB f1) (yB f1) (xB fc) (yB fc) S S0 C)) (Y1 := yD (compB (xB f1) (yB f1) (xB fc) (yB fc) S S0 C))
    (X2 := xD (compB (xB f2) (yB f2) (xB fc) (yB fc) S S0 C)) (Y2 := yD (compB (xB f2) (yB f2) (xB fc) (yB fc) S S0 C)) (U := xB fa) (V := yB fa) (S := S) (l := i / S) (s := i % S) (K := CA) (fun k hk => by
      have hj : (i / S + k) * S + i % S < L * S := idx_lt hL hl hk hs rfl
      rw [(comp_parts h0 hU hS hn hC h64 hj).1, (comp_parts h0 hU hS hn hC h64 hj).2, (comp_parts h1 hU hS hn hC h64 hj).1, (comp_parts h1 hU hS hn hC h64 hj).2, (comp_parts h2 hU hS hn hC h64 hj).1, (comp_parts h2 hU hS hn hC h64 hj).2]
      exact reP_add fun m hm => hsum _ (by have := place_lt hS hn hj hC; omega))
  obtain ⟨e1, e2⟩ := hlin
  unfold bothB focB
  dsimp only
  rw [e1, e2]
  generalize reF (xD (compB (xB f0) (yB f0) (xB fc) (yB fc) S S0 C)) (yD (compB (xB f0) (yB f0) (xB fc) (yB fc) S S0 C)) (xB fa) (yB fa) S (i / S) (i % S) CA = p at b1 ⊢
  generalize imF (xD (compB (xB f0) (yB f0) (xB fc) (yB fc) S S0 C)) (yD (compB (xB f0) (yB f0) (xB fc) (yB fc) S S0 C)) (xB fa) (yB fa) S (i / S) (i % S) CA = q at b2 ⊢
  generalize reF (xD (compB (xB f1) (yB f1) (xB fc) (yB fc) S S0 C)) (yD (compB (xB f1) (yB f1) (xB fc) (yB fc) S S0 C)) (xB fa) (yB fa) S (i / S) (i % S) CA = u at b3 ⊢
  generalize imF (xD (compB (xB f1) (yB f1) (xB fc) (yB fc) S S0 C)) (yD (compB (xB f1) (yB f1) (xB fc) (yB fc) S S0 C)) (xB fa) (yB fa) S (i / S) (i % S) CA = v at b4 ⊢
  have m1 : BNum (f64I p) (f64I q) p q := ⟨rfl, rfl, by omega, by omega⟩
  have m2 : BNum (f64I u) (f64I v) u v := ⟨rfl, rfl, by omega, by omega⟩
  obtain ⟨re, im, h3, h4⟩ := cadd_canon m1 m2.cnum (by omega) (by omega)
  refine ⟨?_, p + u, q + v, ?_⟩
  · rw [h3, h4.re, h4.im]
  · rw [← h4.re, ← h4.im]; exact h4.cnum
end Go.Proofs.YtakohhlmomgegaaDoor
