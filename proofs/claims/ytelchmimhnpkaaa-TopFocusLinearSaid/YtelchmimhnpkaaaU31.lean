/- Chapter 1: Compress. -/
import Derived.Test.YtelchmimhnpkaaaU30
namespace Go.Proofs.Ytelchmimhnpkaaa
set_option linter.unusedVariables false
open Go.RowKit Ntt
/-- The field that Compress returns, in memory of its own. -/
def CompPost (L S S0 C : Nat) (X Y U V : Nat → Int) (w : World) (e : Ending) (w' : World) : Prop :=
  ∃ a c D, e = .returned (.tuple #[.agg #[.int .i64 L, .int .i64 S, .slice a D.length c], .int .i64 0]) ∧ D.length = L * S ∧ DOk X Y U V S S0 C D ∧ FieldAt w' w.heap.size a D ∧ Below w.heap.size w w'
def xB (f : Nat → Nat × Nat) (k : Nat) : Int := intB (f k).1
def yB (f : Nat → Nat × Nat) (k : Nat) : Int := intB (f k).2
theorem smallS_of {n : Nat} {f : Nat → Nat × Nat} {m : Int} (hm : m ≤ 1000000) (h : ∀ k, k < n → gE f m k = 0) : SmallS n f (xB f) (yB f) m := fun k hk => by
  obtain ⟨⟨h1, h2, h3⟩, h4, h5, h6⟩ := partE_ok (h k hk)
  refine ⟨⟨h1, h4, ?_, ?_⟩, ⟨h2, h3⟩, h5, h6⟩
  · show -1000000 ≤ intB (f k).1 ∧ intB (f k).1 ≤ 1000000
    omega
  · show -1000000 ≤ intB (f k).2 ∧ intB (f k).2 ≤ 1000000
    omega
theorem imgE_zero {L S : Int} {n : Nat} {f : Nat → Nat × Nat} (h : (imgE L S n f).2 = 0) : sizeE L S n = 0 ∧ ∀ k, k < n → gE f 2047 k = 0 := by
  unfold imgE at h
  by_cases h0 : sizeE L S n = 0
  · rw [if_pos h0] at h
    exact ⟨h0, firstE_zero h⟩
  · rw [if_neg h0] at h
    exact absurd h h0
theorem sizeE_zero {L S : Int} {n : Nat} (h : sizeE L S n = 0) : (1 ≤ L ∧ L ≤ 64) ∧ (1 ≤ S ∧ S ≤ 64) ∧ (n : Int) = L * S := by
  unfold sizeE at h
  by_cases h0 : (inE 1 64 L && inE 1 64 S) = true
  · rw [if_pos h0] at h
    simp only [Bool.and_eq_true] at h0
    split at h
    · exact ⟨inE_iff.1 h0.1, inE_iff.1 h0.2, ‹_›⟩
    · exact absurd h (by decide)
  · rw [if_neg h0] at h
    exact absurd h (by decide)
theorem codeE_zero {n : Nat} {f : Nat → Nat × Nat} (h : (codeE n f).2 = 0) : 0 < n ∧ n ≤ 32 ∧ (∀ k, k < n → gE f 3 k = 0) ∧ anyC n f = true := by
  unfold codeE at h
  by_cases h0 : n = 0
  · rw [if_pos h0] at h; exact absurd h (by decide)
  · rw [if_neg h0] at h
    by_cases h1 : 32 < n
    · rw [if_pos h1] at h; exact absurd h (by decide)
    · rw [if_neg h1] at h
      by_cases h2 : (firstE n (gE f 3)).2 = 0
      · rw [if_pos h2] at h
        refine ⟨by omega, by omega, firstE_zero h2, ?_⟩
        cases hc : anyC n f
        · rw [hc] at h; exact absurd h (by decide)
        · rfl
      · rw [if_neg h2] at h
        exact absurd h h2
/-- Where a code lies. -/
def CodeAt (W : World) (n : Nat) (f : Nat → Nat × Nat) (a : Option Addr) : Prop := 0 < n → ∃ b off, a = some ⟨b, off, none⟩ ∧ b < W.heap.size ∧ SamplesAt W b off n f
theorem CodeAt.below {W W' : World} {n : Nat} {f : Nat → Nat × Nat} {a : Option Addr} (h : CodeAt W n f a) (hb : Below W.heap.size W W') : CodeAt W' n f a := fun h0 => by
  obtain ⟨b, off, h1, h2, h3⟩ := h h0
  exact ⟨b, off, h1, by have := hb.size; omega, h3.below h2 hb⟩
set_option maxHeartbeats 2000000 in
theorem compress_bad (L S : Int) (n cap C ccap : Nat) (f fc : Nat → Nat × Nat) (a ca : Option Addr) (w : World) (hn : n ≤ 100000) (hC : C ≤ 100000) (hd : DataAt w L S n f a) (hc : CodeAt w C fc ca) {e0 : Int} (he : first2 (imgE L S n f).2 (codeE C fc).2 = e0) (h0 : e0 ≠ 0) :
    Calls Try.prog 13 #[.agg #[.int .i64 L, .int .i64 S, .slice a n cap], .slice ca C ccap] w fun e w' => e = .returned (.tuple #[.agg #[.int .i64 0, .int .i64 0, .slice none 0 0], .int .i64 e0]) ∧ Below w.heap.size w w' := by
  have HIM := Lib.hid (show ∀ W, Below w.heap.size w W → _ from fun W hW => imageErr_any L S n cap f a W hn (hd.below hW) rfl)
  have HCO := Lib.hid (show ∀ W, Below w.heap.size w W → _ from fun W hW => codeErr_any C ccap fc ca W hC (hc.below hW) rfl)
  have HF := Lib.hid he
  have hne : (e0 != 0) = true := by simpa using h0
  clear he h0 hd hc
  generalize (imgE L S n f).2 = z1 at HIM HF
  generalize (codeE C fc).2 = z2 at HCO HF
  go_enter Try.func13, Try.ntmps13
  go_wp2_with (first | (go_at_call 58; (with_reducible refine (HIM.out _ (by (repeat' (first | with_reducible exact Below.refl _ _ | (with_reducible refine below_later_of ?_ ?_ _) | (with_reducible refine Below.alloc ?_ ?_ _) | (with_reducible refine Below.setCell ?_ ?_ _) | (with_reducible refine Below.drew ?_) | (simp; done) | (simp; omega) | omega)))).mono ?_); rintro e w' ⟨rfl, hb⟩; obtain ⟨pp, rfl⟩ := later_of_below hb; clear hb) | (go_at_call 59; (with_reducible refine (HCO.out _ (by (repeat' (first | with_reducible exact Below.refl _ _ | (with_reducible refine below_later_of ?_ ?_ _) | (with_reducible refine Below.alloc ?_ ?_ _) | (with_reducible refine Below.setCell ?_ ?_ _) | (with_reducible refine Below.drew ?_) | (simp; done) | (simp; omega) | omega)))).mono ?_); rintro e w' ⟨rfl, hb⟩; obtain ⟨pp2, rfl⟩ := later_of_below hb; clear hb) | (go_at_call 57; refine (first_e _ _ _ _ HF.out (by (first | (simp [go_sem]; done) | simp [go_sem, ↓IntWalk.iteOmega])) (by (first | (simp [go_sem]; done) | simp [go_sem, ↓IntWalk.iteOmega]))).mono ?_; rintro e w' ⟨rfl, rfl⟩))
  refine bodyPost_ret ?_ rfl ⟨rfl, (by (repeat' (first | with_reducible exact Below.refl _ _ | (with_reducible refine below_later_of ?_ ?_ _) | (with_reducible refine Below.alloc ?_ ?_ _) | (with_reducible refine Below.setCell ?_ ?_ _) | (with_reducible refine Below.drew ?_) | (simp; done) | (simp; omega) | omega)))⟩
  first | (simp [results, Try.results13, go_sem]; done) | simp [results, Try.results13, go_sem, ↓IntWalk.iteOmega]
set_option maxHeartbeats 2000000 in
theorem compress_short (L S : Int) (n cap C ccap : Nat) (f fc : Nat → Nat × Nat) (a ca : Option Addr) (w : World) (hn : n ≤ 100000) (hC : C ≤ 100000) (hd : DataAt w L S n f a) (hc : CodeAt w C fc ca) (he : first2 (imgE L S n f).2 (codeE C fc).2 = 0) (h0 : S < C) :
    Calls Try.prog 13 #[.agg #[.int .i64 L, .int .i64 S, .slice a n cap], .slice ca C ccap] w fun e w' => e = .returned (.tuple #[.agg #[.int .i64 0, .int .i64 0, .slice none 0 0], .int .i64 10]) ∧ Below w.heap.size w w' := by
  have HIM := Lib.hid (show ∀ W, Below w.heap.size w W → _ from fun W hW => imageErr_any L S n cap f a W hn (hd.below hW) rfl)
  have HCO := Lib.hid (show ∀ W, Below w.heap.size w W → _ from fun W hW => codeErr_any C ccap fc ca W hC (hc.below hW) rfl)
  have HF := Lib.hid he
  have hdl : decide (S < (C : Int)) = true := by simpa using h0
  clear he h0 hd hc
  generalize (imgE L S n f).2 = z1 at HIM HF
  generalize (codeE C fc).2 = z2 at HCO HF
  go_enter Try.func13, Try.ntmps13
  go_wp2_with (first | (go_at_call 58; (with_reducible refine (HIM.out _ (by (repeat' (first | with_reducible exact Below.refl _ _ | (with_reducible refine below_later_of ?_ ?_ _) | (with_reducible refine Below.alloc ?_ ?_ _) | (with_reducible refine Below.setCell ?_ ?_ _) | (with_reducible refine Below.drew ?_) | (simp; done) | (simp; omega) | omega)))).mono ?_); rintro e w' ⟨rfl, hb⟩; obtain ⟨pp, rfl⟩ := later_of_below hb; clear hb) | (go_at_call 59; (with_reducible refine (HCO.out _ (by (repeat' (first | with_reducible exact Below.refl _ _ | (with_reducible refine below_later_of ?_ ?_ _) | (with_reducible refine Below.alloc ?_ ?_ _) | (with_reducible refine Below.setCell ?_ ?_ _) | (with_reducible refine Below.drew ?_) | (simp; done) | (simp; omega) | omega)))).mono ?_); rintro e w' ⟨rfl, hb⟩; obtain ⟨pp2, rfl⟩ := later_of_below hb; clear hb) | (go_at_call 57; refine (first_e _ _ _ _ HF.out (by (first | (simp [go_sem]; done) | simp [go_sem, ↓IntWalk.iteOmega])) (by (first | (simp [go_sem]; done) | simp [go_sem, ↓IntWalk.iteOmega]))).mono ?_; rintro e w' ⟨rfl, rfl⟩))
  refine bodyPost_ret ?_ rfl ⟨rfl, (by (repeat' (first | with_reducible exact Below.refl _ _ | (with_reducible refine below_later_of ?_ ?_ _) | (with_reducible refine Below.alloc ?_ ?_ _) | (with_reducible refine Below.setCell ?_ ?_ _) | (with_reducible refine Below.drew ?_) | (simp; done) | (simp; omega) | omega)))⟩
  first | (simp [results, Try.results13, go_sem]; done) | simp [results, Try.results13, go_sem, ↓IntWalk.iteOmega]
theorem ImgBlk.mk' {W : World} {B : Nat} {lines samples : Int} {a : Option Addr} {n cap : Nat} (h0 : W.cell? ⟨B, 0, none⟩ = some (.int .i64 lines)) (h1 : W.cell? ⟨B, 1, none⟩ = some (.int .i64 samples)) (h2 : W.cell? ⟨B, 2, none⟩ = some (.slice a n cap)) : ImgBlk W B lines samples a n cap := ⟨h0, h1, h2⟩
theorem FieldAt.mono {W : World} {b b' : Nat} {a : Option Addr} {D : List (Nat × Nat)} (h : FieldAt W b a D) (hb : b' ≤ b) : FieldAt W b' a D := fun h0 => by
  obtain ⟨g, h1, h2, h3, h4⟩ := h h0
  exact ⟨g, h1, by omega, h3, h4⟩
theorem FieldAt.below {W W' : World} {b : Nat} {a : Option Addr} {D : List (Nat × Nat)} (h : FieldAt W b a D) (hb : Below W.heap.size W W') : FieldAt W' b a D := fun h0 => by
  obtain ⟨g, h1, h2, h3, h4⟩ := h h0
  exact ⟨g, h1, h2, by have := hb.size; omega, fun k z hz => (hb.cell (p := ⟨g, k, none⟩) h3).trans (h4 k z hz)⟩
/-- A store into a block below the field's leaves it as it is. -/
theorem FieldAt.set {W : World} {b : Nat} {a : Option Addr} {D : List (Nat × Nat)} (h : FieldAt W b a D) {p : Addr} (hp : p.block < b) (v : Value) : FieldAt (W.setCell p v) b a D := fun h0 => by
  obtain ⟨g, h1, h2, h3, h4⟩ := h h0
  refine ⟨g, h1, h2, by simpa using h3, fun k z hz => ?_⟩
  rw [World.cell?_setCell_other _ _ _ _ (by intro e; rw [e] at hp; simp at hp; omega)]
  exact h4 k z hz
set_option maxHeartbeats 2000000 in
theorem compress_ok (L S0 n cap C ccap : Nat) (f fc : Nat → Nat × Nat) (a ca : Option Addr) (w : World) (hn : n ≤ 100000) (hC : C ≤ 100000) (hd : DataAt w L S0 n f a) (hc : CodeAt w C fc ca) (he : first2 (imgE L S0 n f).2 (codeE C fc).2 = 0) (h0 : C ≤ S0) :
    Calls Try.prog 13 #[.agg #[.int .i64 L, .int .i64 S0, .slice a n cap], .slice ca C ccap] w (CompPost L (S0 + 1 - C) S0 C (xB f) (yB f) (xB fc) (yB fc) w) := by
  have HIM := Lib.hid (show ∀ W, Below w.heap.size w W → _ from fun W hW => imageErr_any L S0 n cap f a W hn (hd.below hW) rfl)
  have HCO := Lib.hid (show ∀ W, Below w.heap.size w W → _ from fun W hW => codeErr_any C ccap fc ca W hC (hc.below hW) rfl)
  have HF := Lib.hid he
  have he1 : (imgE L S0 n f).2 = 0 := by
    unfold first2 at he
    split at he
    · assumption
    · exact absurd he ‹_›
  have he2 : (codeE C fc).2 = 0 := by
    unfold first2 at he
    rwa [if_pos he1] at he
  obtain ⟨hs, hg⟩ := imgE_zero he1
  obtain ⟨hC0, hC1, hgc, -⟩ := codeE_zero he2
  obtain ⟨⟨l1, l2⟩, ⟨s1, s2⟩, hnn⟩ := sizeE_zero hs
  obtain ⟨b, off, rfl, hbw, hf⟩ := hd hs
  obtain ⟨cb, coff, rfl, hcw, hfc⟩ := hc hC0
  obtain ⟨S, hS⟩ : ∃ S, S = S0 + 1 - C := ⟨_, rfl⟩
  have hSi : (S0 : Int) - C + 1 = S := by omega
  have HSU := Lib.hid (show ∀ W, Below w.heap.size w W → w.heap.size < W.heap.size → ImgBlk W w.heap.size L S0 (some ⟨b, off, none⟩) n cap → Calls Try.prog 60 #[.int .i64 L, .int .i64 ((S0 : Int) - C + 1), .slice (some ⟨cb, coff, none⟩) C ccap, .func (.func 61) #[] #[.pointer (some ⟨w.heap.size, 0, none⟩)]] W (SumsPost L S S0 C (xB f) (yB f) (xB fc) (yB fc) W) from fun W hW hlt hi => by
    rw [hSi]
    have hsz := hW.size
    exact sums_c L S C S0 w.heap.size b off n cap cb coff ccap L f fc _ _ _ _ W (by omega) (by omega) hC0 (by omega) (by exact_mod_cast hnn) hlt (by omega) (by omega) hi (hf.below hbw hW) (hfc.below hcw hW) (smallS_of (by decide) hg) (smallS_of (by decide) hgc))
  have hdl : decide (S0 < C) = false := by simp; omega
  rw [← hS]
  have HS := Lib.hid hS
  clear he he1 he2 hs hg hgc hnn hf hfc hS hSi hd hc
  generalize (imgE L S0 n f).2 = z1 at HIM HF
  generalize (codeE C fc).2 = z2 at HCO HF
  go_enter Try.func13, Try.ntmps13
  go_wp2_with (first | (go_at_call 58; (with_reducible refine (HIM.out _ (by (repeat' (first | with_reducible exact Below.refl _ _ | (with_reducible refine below_later_of ?_ ?_ _) | (with_reducible refine Below.alloc ?_ ?_ _) | (with_reducible refine Below.setCell ?_ ?_ _) | (with_reducible refine Below.drew ?_) | (simp; done) | (simp; omega) | omega)))).mono ?_); rintro e w' ⟨rfl, hb⟩; obtain ⟨pp, rfl⟩ := later_of_below hb; clear hb) | (go_at_call 59; (with_reducible refine (HCO.out _ (by (repeat' (first | with_reducible exact Below.refl _ _ | (with_reducible refine below_later_of ?_ ?_ _) | (with_reducible refine Below.alloc ?_ ?_ _) | (with_reducible refine Below.setCell ?_ ?_ _) | (with_reducible refine Below.drew ?_) | (simp; done) | (simp; omega) | omega)))).mono ?_); rintro e w' ⟨rfl, hb⟩; obtain ⟨pp2, rfl⟩ := later_of_below hb; clear hb) | (go_at_call 57; refine (first_e _ _ _ _ HF.out (by (first | (simp [go_sem]; done) | simp [go_sem, ↓IntWalk.iteOmega])) (by (first | (simp [go_sem]; done) | simp [go_sem, ↓IntWalk.iteOmega]))).mono ?_; rintro e w' ⟨rfl, rfl⟩) | (go_at_call 60; (with_reducible refine (HSU.out _ (by (repeat' (first | with_reducible exact Below.refl _ _ | (with_reducible refine below_later_of ?_ ?_ _) | (with_reducible refine Below.alloc ?_ ?_ _) | (with_reducible refine Below.setCell ?_ ?_ _) | (with_reducible refine Below.drew ?_) | (simp; done) | (simp; omega) | omega))) (by simp; omega) (ImgBlk.mk' (by (first | (simp [go_sem]; done) | simp [go_sem, ↓IntWalk.iteOmega])) (by (first | (simp [go_sem]; done) | simp [go_sem, ↓IntWalk.iteOmega])) (by (first | (simp [go_sem]; done) | simp [go_sem, ↓IntWalk.iteOmega])))).mono ?_); rintro e w' ⟨a', c', D, rfl, hD, hok, hfa, hb⟩; have HD := Lib.hid hD; have HOK := Lib.hid hok; have HFA := Lib.hid hfa; clear hD hok hfa; obtain ⟨pp3, rfl⟩ := later_of_below hb; clear hb))
  refine bodyPost_ret ?_ rfl ⟨a', c', D, rfl, HD.out, HOK.out, ?_, (by (repeat' (first | with_reducible exact Below.refl _ _ | (with_reducible refine below_later_of ?_ ?_ _) | (with_reducible refine Below.alloc ?_ ?_ _) | (with_reducible refine Below.setCell ?_ ?_ _) | (with_reducible refine Below.drew ?_) | (simp; done) | (simp; omega) | omega)))⟩
  · first | (simp [results, Try.results13, go_sem]; done) | simp [results, Try.results13, go_sem, ↓IntWalk.iteOmega]
  · refine FieldAt.mono (FieldAt.set (FieldAt.set (FieldAt.set HFA.out ?_ _) ?_ _) ?_ _) ?_ <;> simp <;> omega
/-- What a compression says if it answers OK. -/
def CompOk (W : World) (base : Nat) (L S : Int) (n C : Nat) (f fc : Nat → Nat × Nat) (l s : Int) (n' : Nat) (a : Option Addr) : Prop :=
  ∃ L0 S0 : Nat, L = L0 ∧ S = S0 ∧ (1 ≤ L0 ∧ L0 ≤ 64 ∧ 1 ≤ C ∧ C ≤ S0 ∧ S0 ≤ 64 ∧ C ≤ 32) ∧ n = L0 * S0 ∧ l = L0 ∧ s = ((S0 + 1 - C : Nat) : Int) ∧ n' = L0 * (S0 + 1 - C) ∧ SmallS n f (xB f) (yB f) 2047 ∧ SmallS C fc (xB fc) (yB fc) 3 ∧
    ∃ D, D.length = n' ∧ DOk (xB f) (yB f) (xB fc) (yB fc) (S0 + 1 - C) S0 C D ∧ FieldAt W base a D
theorem CompOk.below {W W' : World} {base : Nat} {L S : Int} {n C : Nat} {f fc : Nat → Nat × Nat} {l s : Int} {n' : Nat} {a : Option Addr} (h : CompOk W base L S n C f fc l s n' a) (hb : Below W.heap.size W W') : CompOk W' base L S n C f fc l s n' a := by
  obtain ⟨L0, S0, h1, h2, h3, h4, h5, h6, h7, h8, h9, D, d1, d2, d3⟩ := h
  exact ⟨L0, S0, h1, h2, h3, h4, h5, h6, h7, h8, h9, D, d1, d2, d3.below hb⟩
theorem CompOk.set {W : World} {base : Nat} {L S : Int} {n C : Nat} {f fc : Nat → Nat × Nat} {l s : Int} {n' : Nat} {a : Option Addr} (h : CompOk W base L S n C f fc l s n' a) {p : Addr} (hp : p.block < base) (v : Value) : CompOk (W.setCell p v) base L S n C f fc l s n' a := by
  obtain ⟨L0, S0, h1, h2, h3, h4, h5, h6, h7, h8, h9, D, d1, d2, d3⟩ := h
  exact ⟨L0, S0, h1, h2, h3, h4, h5, h6, h7, h8, h9, D, d1, d2, d3.set hp v⟩
theorem CompOk.mono {W : World} {base base' : Nat} {L S : Int} {n C : Nat} {f fc : Nat → Nat × Nat} {l s : Int} {n' : Nat} {a : Option Addr} (h : CompOk W base L S n C f fc l s n' a) (hb : base' ≤ base) : CompOk W base' L S n C f fc l s n' a := by
  obtain ⟨L0, S0, h1, h2, h3, h4, h5, h6, h7, h8, h9, D, d1, d2, d3⟩ := h
  exact ⟨L0, S0, h1, h2, h3, h4, h5, h6, h7, h8, h9, D, d1, d2, d3.mono hb⟩
theorem dataAt_own {W W' : World} {B n : Nat} {L S : Int} {a : Option Addr} {f : Nat → Nat × Nat} (h : 0 < n → ∃ g, a = some ⟨g, 0, none⟩ ∧ B ≤ g ∧ g < W.heap.size ∧ SamplesAt W g 0 n f) (hb : Below W.heap.size W W') : DataAt W' L S n f a := fun hs => by
  obtain ⟨⟨l1, l2⟩, ⟨s1, s2⟩, hn⟩ := sizeE_zero hs
  have h0 : 0 < L * S := Int.mul_pos (by omega) (by omega)
  obtain ⟨g, h1, -, h3, h4⟩ := h (by omega)
  exact ⟨g, 0, h1, by have := hb.size; omega, h4.below h3 hb⟩
def CompAny (L S : Int) (n C : Nat) (f fc : Nat → Nat × Nat) (w : World) (e : Ending) (w' : World) : Prop :=
  ∃ l s n' a c e0, e = .returned (.tuple #[.agg #[.int .i64 l, .int .i64 s, .slice a n' c], .int .i64 e0]) ∧ (e0 = 0 → CompOk w' w.heap.size L S n C f fc l s n' a) ∧ Below w.heap.size w w'
theorem compress_law (L S : Int) (n cap C ccap : Nat) (f fc : Nat → Nat × Nat) (a ca : Option Addr) (w : World) (hn : n ≤ 100000) (hC : C ≤ 100000) (hd : DataAt w L S n f a) (hc : CodeAt w C fc ca) :
    Calls Try.prog 13 #[.agg #[.int .i64 L, .int .i64 S, .slice a n cap], .slice ca C ccap] w (CompAny L S n C f fc w) := by
  by_cases he : first2 (imgE L S n f).2 (codeE C fc).2 = 0
  · have he1 : (imgE L S n f).2 = 0 := by
      unfold first2 at he
      split at he
      · assumption
      · exact absurd he ‹_›
    have he2 : (codeE C fc).2 = 0 := by
      unfold first2 at he
      rwa [if_pos he1] at he
    obtain ⟨hs, hg⟩ := imgE_zero he1
    obtain ⟨hC0, hC1, hgc, -⟩ := codeE_zero he2
    obtain ⟨⟨l1, l2⟩, ⟨s1, s2⟩, hnn⟩ := sizeE_zero hs
    by_cases h0 : S < C
    · refine (compress_short L S n cap C ccap f fc a ca w hn hC hd hc he h0).mono ?_
      rintro e w' ⟨rfl, hb⟩
      exact ⟨0, 0, 0, none, 0, 10, rfl, fun h => absurd h (by decide), hb⟩
    · obtain ⟨L0, rfl⟩ := Int.eq_ofNat_of_zero_le (show 0 ≤ L by omega)
      obtain ⟨S0, rfl⟩ := Int.eq_ofNat_of_zero_le (show 0 ≤ S by omega)
      refine (compress_ok L0 S0 n cap C ccap f fc a ca w hn hC hd hc he (by omega)).mono ?_
      rintro e w' ⟨a', c', D, rfl, hD, hok, hfa, hb⟩
      exact ⟨_, _, _, a', c', 0, rfl, fun _ => ⟨L0, S0, rfl, rfl, by omega, by exact_mod_cast hnn, rfl, rfl, hD, smallS_of (by decide) hg, smallS_of (by decide) hgc, D, rfl, hok, hfa⟩, hb⟩
  · refine (compress_bad L S n cap C ccap f fc a ca w hn hC hd hc rfl he).mono ?_
    rintro e w' ⟨rfl, hb⟩
    exact ⟨0, 0, 0, none, 0, _, rfl, fun h => absurd h he, hb⟩
end Go.Proofs.Ytelchmimhnpkaaa
