/- Chapter 1: Focus. -/
import Derived.Test.YtelchmimhnpkaaaU42
namespace Go.Proofs.Ytelchmimhnpkaaa
set_option linter.unusedVariables false
open Go.RowKit Ntt
/-- The numbers of a focused field, as they are written. -/
def focB (X Y U V : Nat → Int) (S C : Nat) (i : Nat) : Nat × Nat := (f64I (reF X Y U V S (i / S) (i % S) C), f64I (imF X Y U V S (i / S) (i % S) C))
def OwnS (W : World) (base n : Nat) (f : Nat → Nat × Nat) (a : Option Addr) : Prop := 0 < n → ∃ g, a = some ⟨g, 0, none⟩ ∧ base ≤ g ∧ g < W.heap.size ∧ SumsAt W g 0 n f
theorem OwnS.of {W : World} {base n : Nat} {a : Option Addr} {D : List (Nat × Nat)} {f : Nat → Nat × Nat} (h : FieldAt W base a D) (hl : D.length = n) (hf : ∀ i z, D[i]? = some z → z = f i) : OwnS W base n f a := fun h0 => by
  obtain ⟨g, h1, h2, h3, h4⟩ := h (by omega)
  refine ⟨g, h1, h2, h3, fun k hk => ?_⟩
  have e : D[k]? = some D[k] := List.getElem?_eq_getElem (by omega)
  rw [Nat.zero_add, h4 k _ e, hf k _ e]
theorem OwnS.mono {W : World} {b b' n : Nat} {a : Option Addr} {f : Nat → Nat × Nat} (h : OwnS W b n f a) (hb : b' ≤ b) : OwnS W b' n f a := fun h0 => by
  obtain ⟨g, h1, h2, h3, h4⟩ := h h0
  exact ⟨g, h1, by omega, h3, h4⟩
theorem OwnS.below {W W' : World} {b n : Nat} {a : Option Addr} {f : Nat → Nat × Nat} (h : OwnS W b n f a) (hb : Below W.heap.size W W') : OwnS W' b n f a := fun h0 => by
  obtain ⟨g, h1, h2, h3, h4⟩ := h h0
  exact ⟨g, h1, h2, by have := hb.size; omega, h4.below h3 hb⟩
theorem OwnS.set {W : World} {b n : Nat} {a : Option Addr} {f : Nat → Nat × Nat} (h : OwnS W b n f a) {p : Addr} (hp : p.block < b) (v : Value) : OwnS (W.setCell p v) b n f a := fun h0 => by
  obtain ⟨g, h1, h2, h3, h4⟩ := h h0
  refine ⟨g, h1, h2, by simpa using h3, fun k hk => ?_⟩
  rw [World.cell?_setCell_other _ _ _ _ (by intro e; rw [e] at hp; simp at hp; omega)]
  exact h4 k hk
theorem OwnS.fld {W W' : World} {B n : Nat} {L S : Int} {a : Option Addr} {f : Nat → Nat × Nat} (h : OwnS W B n f a) (hb : Below W.heap.size W W') : FldAt W' L S n f a := fun hs => by
  obtain ⟨⟨l1, l2⟩, ⟨s1, s2⟩, hn⟩ := sizeE_zero hs
  have h0 : 0 < L * S := Int.mul_pos (by omega) (by omega)
  obtain ⟨g, h1, -, h3, h4⟩ := h (by omega)
  exact ⟨g, 0, h1, by have := hb.size; omega, h4.below h3 hb⟩
theorem focB_wide (n : Nat) (X Y U V : Nat → Int) (S C : Nat) : Wide64 n (focB X Y U V S C) := fun _ _ => ⟨f64I_lt _, f64I_lt _⟩
/-- A field of its own, in memory from some block on. -/
def FoPost (B : Nat) (L S : Int) (n : Nat) (g : Nat → Nat × Nat) (w : World) (e : Ending) (w' : World) : Prop :=
  ∃ a c, e = .returned (.agg #[.int .i64 L, .int .i64 S, .slice a n c]) ∧ OwnS w' B n g a ∧ Below w.heap.size w w'
theorem sums_f2 (L S C L0 : Nat) (B b off n cap cb coff ccap : Nat) (lines : Int) (f fc : Nat → Nat × Nat) (X Y U V : Nat → Int) (w : World) (hL : L + C = L0 + 1) (hC : 1 ≤ C) (hL0 : L0 ≤ 64) (hS : S ≤ 64) (hn : n = L0 * S)
    (hB : B < w.heap.size) (hbw : b < w.heap.size) (hcw : cb < w.heap.size) (hi : ImgBlk w B lines S (some ⟨b, off, none⟩) n cap) (hf : SumsAt w b off n f) (hfc : SamplesAt w cb coff C fc) (hX : SmallD n f X Y 1000000000) (hU : SmallS C fc U V 3) {N : Nat} (hN : N = L * S) :
    Calls Try.prog 60 #[.int .i64 L, .int .i64 S, .slice (some ⟨cb, coff, none⟩) C ccap, .func (.func 71) #[] #[.pointer (some ⟨B, 0, none⟩)]] w (FoPost (w.heap.size + 2) L S N (focB X Y U V S C) w) := by
  subst hN
  refine (sums_f L S C L0 B b off n cap cb coff ccap lines f fc X Y U V w hL hC hL0 hS hn hB hbw hcw hi hf hfc hX hU).mono ?_
  rintro e w' ⟨a, c, D, rfl, hD, hok, hfa, hb⟩
  refine ⟨a, c, by rw [hD], OwnS.of hfa hD (fun i z hz => ?_), hb⟩
  have b := hok i z hz
  exact Prod.ext b.re b.im
set_option maxHeartbeats 2000000 in
theorem focus_bad (L S : Int) (n cap C ccap : Nat) (f fc : Nat → Nat × Nat) (a ca : Option Addr) (w : World) (hn : n ≤ 100000) (hC : C ≤ 100000) (hd : FldAt w L S n f a) (hw : Wide64 n f) (hc : CodeAt w C fc ca) {e0 : Int} (he : first2 (fldE L S n f).2 (codeE C fc).2 = e0) (h0 : e0 ≠ 0) :
    Calls Try.prog 21 #[.agg #[.int .i64 L, .int .i64 S, .slice a n cap], .slice ca C ccap] w fun e w' => e = .returned (.tuple #[.agg #[.int .i64 0, .int .i64 0, .slice none 0 0], .int .i64 e0]) ∧ Below w.heap.size w w' := by
  have HIM := Lib.hid (show ∀ W, Below w.heap.size w W → _ from fun W hW => fieldErr_any L S n cap f a W hn (hd.below hW) hw rfl)
  have HCO := Lib.hid (show ∀ W, Below w.heap.size w W → _ from fun W hW => codeErr_any C ccap fc ca W hC (hc.below hW) rfl)
  have HF := Lib.hid he
  have hne : (e0 != 0) = true := by simpa using h0
  clear he h0 hd hc hw
  generalize (fldE L S n f).2 = z1 at HIM HF
  generalize (codeE C fc).2 = z2 at HCO HF
  go_enter Try.func21, Try.ntmps21
  go_wp2_with (first | (go_at_call 70; (with_reducible refine (HIM.out _ (by (repeat' (first | with_reducible exact Below.refl _ _ | (with_reducible refine below_later_of ?_ ?_ _) | (with_reducible refine Below.alloc ?_ ?_ _) | (with_reducible refine Below.setCell ?_ ?_ _) | (with_reducible refine Below.drew ?_) | (simp; done) | (simp; omega) | omega)))).mono ?_); rintro e w' ⟨rfl, hb⟩; obtain ⟨pp, rfl⟩ := later_of_below hb; clear hb) | (go_at_call 59; (with_reducible refine (HCO.out _ (by (repeat' (first | with_reducible exact Below.refl _ _ | (with_reducible refine below_later_of ?_ ?_ _) | (with_reducible refine Below.alloc ?_ ?_ _) | (with_reducible refine Below.setCell ?_ ?_ _) | (with_reducible refine Below.drew ?_) | (simp; done) | (simp; omega) | omega)))).mono ?_); rintro e w' ⟨rfl, hb⟩; obtain ⟨pp2, rfl⟩ := later_of_below hb; clear hb) | (go_at_call 57; refine (first_e _ _ _ _ HF.out (by (first | (simp [go_sem]; done) | simp [go_sem, ↓IntWalk.iteOmega])) (by (first | (simp [go_sem]; done) | simp [go_sem, ↓IntWalk.iteOmega]))).mono ?_; rintro e w' ⟨rfl, rfl⟩))
  refine bodyPost_ret ?_ rfl ⟨rfl, (by (repeat' (first | with_reducible exact Below.refl _ _ | (with_reducible refine below_later_of ?_ ?_ _) | (with_reducible refine Below.alloc ?_ ?_ _) | (with_reducible refine Below.setCell ?_ ?_ _) | (with_reducible refine Below.drew ?_) | (simp; done) | (simp; omega) | omega)))⟩
  first | (simp [results, Try.results21, go_sem]; done) | simp [results, Try.results21, go_sem, ↓IntWalk.iteOmega]
set_option maxHeartbeats 2000000 in
theorem focus_short (L S : Int) (n cap C ccap : Nat) (f fc : Nat → Nat × Nat) (a ca : Option Addr) (w : World) (hn : n ≤ 100000) (hC : C ≤ 100000) (hd : FldAt w L S n f a) (hw : Wide64 n f) (hc : CodeAt w C fc ca) (he : first2 (fldE L S n f).2 (codeE C fc).2 = 0) (h0 : L < C) :
    Calls Try.prog 21 #[.agg #[.int .i64 L, .int .i64 S, .slice a n cap], .slice ca C ccap] w fun e w' => e = .returned (.tuple #[.agg #[.int .i64 0, .int .i64 0, .slice none 0 0], .int .i64 10]) ∧ Below w.heap.size w w' := by
  have HIM := Lib.hid (show ∀ W, Below w.heap.size w W → _ from fun W hW => fieldErr_any L S n cap f a W hn (hd.below hW) hw rfl)
  have HCO := Lib.hid (show ∀ W, Below w.heap.size w W → _ from fun W hW => codeErr_any C ccap fc ca W hC (hc.below hW) rfl)
  have HF := Lib.hid he
  have hdl : decide (L < (C : Int)) = true := by simpa using h0
  clear he h0 hd hc hw
  generalize (fldE L S n f).2 = z1 at HIM HF
  generalize (codeE C fc).2 = z2 at HCO HF
  go_enter Try.func21, Try.ntmps21
  go_wp2_with (first | (go_at_call 70; (with_reducible refine (HIM.out _ (by (repeat' (first | with_reducible exact Below.refl _ _ | (with_reducible refine below_later_of ?_ ?_ _) | (with_reducible refine Below.alloc ?_ ?_ _) | (with_reducible refine Below.setCell ?_ ?_ _) | (with_reducible refine Below.drew ?_) | (simp; done) | (simp; omega) | omega)))).mono ?_); rintro e w' ⟨rfl, hb⟩; obtain ⟨pp, rfl⟩ := later_of_below hb; clear hb) | (go_at_call 59; (with_reducible refine (HCO.out _ (by (repeat' (first | with_reducible exact Below.refl _ _ | (with_reducible refine below_later_of ?_ ?_ _) | (with_reducible refine Below.alloc ?_ ?_ _) | (with_reducible refine Below.setCell ?_ ?_ _) | (with_reducible refine Below.drew ?_) | (simp; done) | (simp; omega) | omega)))).mono ?_); rintro e w' ⟨rfl, hb⟩; obtain ⟨pp2, rfl⟩ := later_of_below hb; clear hb) | (go_at_call 57; refine (first_e _ _ _ _ HF.out (by (first | (simp [go_sem]; done) | simp [go_sem, ↓IntWalk.iteOmega])) (by (first | (simp [go_sem]; done) | simp [go_sem, ↓IntWalk.iteOmega]))).mono ?_; rintro e w' ⟨rfl, rfl⟩))
  refine bodyPost_ret ?_ rfl ⟨rfl, (by (repeat' (first | with_reducible exact Below.refl _ _ | (with_reducible refine below_later_of ?_ ?_ _) | (with_reducible refine Below.alloc ?_ ?_ _) | (with_reducible refine Below.setCell ?_ ?_ _) | (with_reducible refine Below.drew ?_) | (simp; done) | (simp; omega) | omega)))⟩
  first | (simp [results, Try.results21, go_sem]; done) | simp [results, Try.results21, go_sem, ↓IntWalk.iteOmega]
theorem first2_zero {x y : Int} (h : first2 x y = 0) : x = 0 ∧ y = 0 := by
  unfold first2 at h
  split at h
  · exact ⟨‹_›, h⟩
  · exact absurd h ‹_›
set_option maxHeartbeats 2000000 in
theorem focus_large (L0 S n cap C ccap : Nat) (f fc : Nat → Nat × Nat) (a ca : Option Addr) (w : World) (hn : n ≤ 100000) (hC : C ≤ 100000) (hd : FldAt w L0 S n f a) (hw : Wide64 n f) (hc : CodeAt w C fc ca) (he : first2 (fldE L0 S n f).2 (codeE C fc).2 = 0) {L N : Nat} (hL : L + C = L0 + 1) (h1 : 1 ≤ L) (hN : N = L * S) {e1 : Int} (h0 : (fldE L S N (focB (xD f) (yD f) (xB fc) (yB fc) S C)).2 = e1) (hne' : e1 ≠ 0) :
    Calls Try.prog 21 #[.agg #[.int .i64 L0, .int .i64 S, .slice a n cap], .slice ca C ccap] w fun e w' => e = .returned (.tuple #[.agg #[.int .i64 0, .int .i64 0, .slice none 0 0], .int .i64 8]) ∧ Below w.heap.size w w' := by
  have hne : (e1 != 0) = true := by simpa using hne'
  clear hne'
  have HIM := Lib.hid (show ∀ W, Below w.heap.size w W → _ from fun W hW => fieldErr_any L0 S n cap f a W hn (hd.below hW) hw rfl)
  have HCO := Lib.hid (show ∀ W, Below w.heap.size w W → _ from fun W hW => codeErr_any C ccap fc ca W hC (hc.below hW) rfl)
  have HF := Lib.hid he
  obtain ⟨he1, he2⟩ := first2_zero he
  obtain ⟨hs, hg⟩ := fldE_zero he1
  obtain ⟨hC0, hC1, hgc, -⟩ := codeE_zero he2
  obtain ⟨⟨l1, l2⟩, ⟨s1, s2⟩, hnn⟩ := sizeE_zero hs
  obtain ⟨b, off, rfl, hbw, hf⟩ := hd hs
  obtain ⟨cb, coff, rfl, hcw, hfc⟩ := hc hC0
  have hLi : (L0 : Int) - C + 1 = L := by omega
  have HSU := Lib.hid (show ∀ W, Below w.heap.size w W → w.heap.size < W.heap.size → ImgBlk W w.heap.size L0 S (some ⟨b, off, none⟩) n cap → Calls Try.prog 60 #[.int .i64 L, .int .i64 S, .slice (some ⟨cb, coff, none⟩) C ccap, .func (.func 71) #[] #[.pointer (some ⟨w.heap.size, 0, none⟩)]] W (FoPost (W.heap.size + 2) L S N (focB (xD f) (yD f) (xB fc) (yB fc) S C) W) from fun W hW hlt hi => by
    have hsz := hW.size
    exact sums_f2 L S C L0 w.heap.size b off n cap cb coff ccap L0 f fc _ _ _ _ W hL hC0 (by omega) (by omega) (by exact_mod_cast hnn) hlt (by omega) (by omega) hi (hf.below hbw hW) (hfc.below hcw hW) (smallD_of hw hg) (smallS_of (by decide) hgc) hN)
  have hN2 : N ≤ 100000 := by have := Nat.mul_le_mul (show L ≤ 64 by omega) (show S ≤ 64 by omega); omega
  have HFE := Lib.hid (show ∀ W a c, FldAt W L S N (focB (xD f) (yD f) (xB fc) (yB fc) S C) a → _ from fun W a c h => fieldErr_any L S N c _ a W hN2 h (focB_wide N _ _ _ _ S C) h0)
  have hdl : decide (L0 < C) = false := by simp; omega
  clear he he1 he2 hs hg hgc hnn hf hfc hd hc h0 hw hN
  generalize (fldE L0 S n f).2 = z1 at HIM HF
  generalize (codeE C fc).2 = z2 at HCO HF
  go_enter Try.func21, Try.ntmps21
  go_wp2_with (first | (go_at_call 60; (with_reducible refine (HSU.out _ (by (repeat' (first | with_reducible exact Below.refl _ _ | (with_reducible refine below_later_of ?_ ?_ _) | (with_reducible refine Below.alloc ?_ ?_ _) | (with_reducible refine Below.setCell ?_ ?_ _) | (with_reducible refine Below.drew ?_) | (simp; done) | (simp; omega) | omega))) (by simp; omega) (ImgBlk.mk' (by (first | (simp [go_sem]; done) | simp [go_sem, ↓IntWalk.iteOmega])) (by (first | (simp [go_sem]; done) | simp [go_sem, ↓IntWalk.iteOmega])) (by (first | (simp [go_sem]; done) | simp [go_sem, ↓IntWalk.iteOmega])))).mono ?_); rintro e w' ⟨a', c', rfl, hfa, hb⟩; have HFA := Lib.hid hfa; clear hfa; obtain ⟨pp3, rfl⟩ := later_of_below hb; clear hb) | (go_at_call 70; (with_reducible refine (HFE.out _ _ _ (OwnS.fld HFA.out (by (repeat' (first | with_reducible exact Below.refl _ _ | (with_reducible refine below_later_of ?_ ?_ _) | (with_reducible refine Below.alloc ?_ ?_ _) | (with_reducible refine Below.setCell ?_ ?_ _) | (with_reducible refine Below.drew ?_) | (simp; done) | (simp; omega) | omega))))).mono ?_); rintro e w' ⟨rfl, hb⟩; obtain ⟨pp4, rfl⟩ := later_of_below hb; clear hb) | (go_at_call 70; (with_reducible refine (HIM.out _ (by (repeat' (first | with_reducible exact Below.refl _ _ | (with_reducible refine below_later_of ?_ ?_ _) | (with_reducible refine Below.alloc ?_ ?_ _) | (with_reducible refine Below.setCell ?_ ?_ _) | (with_reducible refine Below.drew ?_) | (simp; done) | (simp; omega) | omega)))).mono ?_); rintro e w' ⟨rfl, hb⟩; obtain ⟨pp, rfl⟩ := later_of_below hb; clear hb) | (go_at_call 59; (with_reducible refine (HCO.out _ (by (repeat' (first | with_reducible exact Below.refl _ _ | (with_reducible refine below_later_of ?_ ?_ _) | (with_reducible refine Below.alloc ?_ ?_ _) | (with_reducible refine Below.setCell ?_ ?_ _) | (with_reducible refine Below.drew ?_) | (simp; done) | (simp; omega) | omega)))).mono ?_); rintro e w' ⟨rfl, hb⟩; obtain ⟨pp2, rfl⟩ := later_of_below hb; clear hb) | (go_at_call 57; refine (first_e _ _ _ _ HF.out (by (first | (simp [go_sem]; done) | simp [go_sem, ↓IntWalk.iteOmega])) (by (first | (simp [go_sem]; done) | simp [go_sem, ↓IntWalk.iteOmega]))).mono ?_; rintro e w' ⟨rfl, rfl⟩))
  refine bodyPost_ret ?_ rfl ⟨rfl, (by (repeat' (first | with_reducible exact Below.refl _ _ | (with_reducible refine below_later_of ?_ ?_ _) | (with_reducible refine Below.alloc ?_ ?_ _) | (with_reducible refine Below.setCell ?_ ?_ _) | (with_reducible refine Below.drew ?_) | (simp; done) | (simp; omega) | omega)))⟩
  first | (simp [results, Try.results21, go_sem]; done) | simp [results, Try.results21, go_sem, ↓IntWalk.iteOmega]
/-- The field that Focus returns. -/
def FocOkPost (L S : Int) (n : Nat) (g : Nat → Nat × Nat) (w : World) (e : Ending) (w' : World) : Prop :=
  ∃ a c, e = .returned (.tuple #[.agg #[.int .i64 L, .int .i64 S, .slice a n c], .int .i64 0]) ∧ OwnS w' w.heap.size n g a ∧ Below w.heap.size w w'
set_option maxHeartbeats 2000000 in
theorem focus_ok (L0 S n cap C ccap : Nat) (f fc : Nat → Nat × Nat) (a ca : Option Addr) (w : World) (hn : n ≤ 100000) (hC : C ≤ 100000) (hd : FldAt w L0 S n f a) (hw : Wide64 n f) (hc : CodeAt w C fc ca) (he : first2 (fldE L0 S n f).2 (codeE C fc).2 = 0) {L N : Nat} (hL : L + C = L0 + 1) (h1 : 1 ≤ L) (hN : N = L * S) (h0 : (fldE L S N (focB (xD f) (yD f) (xB fc) (yB fc) S C)).2 = 0) :
    Calls Try.prog 21 #[.agg #[.int .i64 L0, .int .i64 S, .slice a n cap], .slice ca C ccap] w (FocOkPost L S N (focB (xD f) (yD f) (xB fc) (yB fc) S C) w) := by
  have HIM := Lib.hid (show ∀ W, Below w.heap.size w W → _ from fun W hW => fieldErr_any L0 S n cap f a W hn (hd.below hW) hw rfl)
  have HCO := Lib.hid (show ∀ W, Below w.heap.size w W → _ from fun W hW => codeErr_any C ccap fc ca W hC (hc.below hW) rfl)
  have HF := Lib.hid he
  obtain ⟨he1, he2⟩ := first2_zero he
  obtain ⟨hs, hg⟩ := fldE_zero he1
  obtain ⟨hC0, hC1, hgc, -⟩ := codeE_zero he2
  obtain ⟨⟨l1, l2⟩, ⟨s1, s2⟩, hnn⟩ := sizeE_zero hs
  obtain ⟨b, off, rfl, hbw, hf⟩ := hd hs
  obtain ⟨cb, coff, rfl, hcw, hfc⟩ := hc hC0
  have hLi : (L0 : Int) - C + 1 = L := by omega
  have HSU := Lib.hid (show ∀ W, Below w.heap.size w W → w.heap.size < W.heap.size → ImgBlk W w.heap.size L0 S (some ⟨b, off, none⟩) n cap → Calls Try.prog 60 #[.int .i64 L, .int .i64 S, .slice (some ⟨cb, coff, none⟩) C ccap, .func (.func 71) #[] #[.pointer (some ⟨w.heap.size, 0, none⟩)]] W (FoPost (W.heap.size + 2) L S N (focB (xD f) (yD f) (xB fc) (yB fc) S C) W) from fun W hW hlt hi => by
    have hsz := hW.size
    exact sums_f2 L S C L0 w.heap.size b off n cap cb coff ccap L0 f fc _ _ _ _ W hL hC0 (by omega) (by omega) (by exact_mod_cast hnn) hlt (by omega) (by omega) hi (hf.below hbw hW) (hfc.below hcw hW) (smallD_of hw hg) (smallS_of (by decide) hgc) hN)
  have hN2 : N ≤ 100000 := by have := Nat.mul_le_mul (show L ≤ 64 by omega) (show S ≤ 64 by omega); omega
  have HFE := Lib.hid (show ∀ W a c, FldAt W L S N (focB (xD f) (yD f) (xB fc) (yB fc) S C) a → _ from fun W a c h => fieldErr_any L S N c _ a W hN2 h (focB_wide N _ _ _ _ S C) h0)
  have hdl : decide (L0 < C) = false := by simp; omega
  clear he he1 he2 hs hg hgc hnn hf hfc hd hc h0 hw hN
  generalize (fldE L0 S n f).2 = z1 at HIM HF
  generalize (codeE C fc).2 = z2 at HCO HF
  go_enter Try.func21, Try.ntmps21
  go_wp2_with (first | (go_at_call 60; (with_reducible refine (HSU.out _ (by (repeat' (first | with_reducible exact Below.refl _ _ | (with_reducible refine below_later_of ?_ ?_ _) | (with_reducible refine Below.alloc ?_ ?_ _) | (with_reducible refine Below.setCell ?_ ?_ _) | (with_reducible refine Below.drew ?_) | (simp; done) | (simp; omega) | omega))) (by simp; omega) (ImgBlk.mk' (by (first | (simp [go_sem]; done) | simp [go_sem, ↓IntWalk.iteOmega])) (by (first | (simp [go_sem]; done) | simp [go_sem, ↓IntWalk.iteOmega])) (by (first | (simp [go_sem]; done) | simp [go_sem, ↓IntWalk.iteOmega])))).mono ?_); rintro e w' ⟨a', c', rfl, hfa, hb⟩; have HFA := Lib.hid hfa; clear hfa; obtain ⟨pp3, rfl⟩ := later_of_below hb; clear hb) | (go_at_call 70; (with_reducible refine (HFE.out _ _ _ (OwnS.fld HFA.out (by (repeat' (first | with_reducible exact Below.refl _ _ | (with_reducible refine below_later_of ?_ ?_ _) | (with_reducible refine Below.alloc ?_ ?_ _) | (with_reducible refine Below.setCell ?_ ?_ _) | (with_reducible refine Below.drew ?_) | (simp; done) | (simp; omega) | omega))))).mono ?_); rintro e w' ⟨rfl, hb⟩; obtain ⟨pp4, rfl⟩ := later_of_below hb; clear hb) | (go_at_call 70; (with_reducible refine (HIM.out _ (by (repeat' (first | with_reducible exact Below.refl _ _ | (with_reducible refine below_later_of ?_ ?_ _) | (with_reducible refine Below.alloc ?_ ?_ _) | (with_reducible refine Below.setCell ?_ ?_ _) | (with_reducible refine Below.drew ?_) | (simp; done) | (simp; omega) | omega)))).mono ?_); rintro e w' ⟨rfl, hb⟩; obtain ⟨pp, rfl⟩ := later_of_below hb; clear hb) | (go_at_call 59; (with_reducible refine (HCO.out _ (by (repeat' (first | with_reducible exact Below.refl _ _ | (with_reducible refine below_later_of ?_ ?_ _) | (with_reducible refine Below.alloc ?_ ?_ _) | (with_reducible refine Below.setCell ?_ ?_ _) | (with_reducible refine Below.drew ?_) | (simp; done) | (simp; omega) | omega)))).mono ?_); rintro e w' ⟨rfl, hb⟩; obtain ⟨pp2, rfl⟩ := later_of_below hb; clear hb) | (go_at_call 57; refine (first_e _ _ _ _ HF.out (by (first | (simp [go_sem]; done) | simp [go_sem, ↓IntWalk.iteOmega])) (by (first | (simp [go_sem]; done) | simp [go_sem, ↓IntWalk.iteOmega]))).mono ?_; rintro e w' ⟨rfl, rfl⟩))
  refine bodyPost_ret ?_ rfl ⟨a', c', rfl, ?_, (by (repeat' (first | with_reducible exact Below.refl _ _ | (with_reducible refine below_later_of ?_ ?_ _) | (with_reducible refine Below.alloc ?_ ?_ _) | (with_reducible refine Below.setCell ?_ ?_ _) | (with_reducible refine Below.drew ?_) | (simp; done) | (simp; omega) | omega)))⟩
  · first | (simp [results, Try.results21, go_sem]; done) | simp [results, Try.results21, go_sem, ↓IntWalk.iteOmega]
  · refine OwnS.mono (OwnS.set (OwnS.set (OwnS.set (OwnS.below HFA.out (by (repeat' (first | with_reducible exact Below.refl _ _ | (with_reducible refine below_later_of ?_ ?_ _) | (with_reducible refine Below.alloc ?_ ?_ _) | (with_reducible refine Below.setCell ?_ ?_ _) | (with_reducible refine Below.drew ?_) | (simp; done) | (simp; omega) | omega)))) ?_ _) ?_ _) ?_ _) ?_ <;> simp <;> omega
end Go.Proofs.Ytelchmimhnpkaaa
