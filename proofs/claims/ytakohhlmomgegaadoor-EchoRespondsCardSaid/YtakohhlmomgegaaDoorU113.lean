/- Chapter 1: Response. -/
import Derived.Test.YtakohhlmomgegaaDoorU112
import Derived.Test.YtakohhlmomgegaaDoorU87
namespace Go.Proofs.YtakohhlmomgegaaDoor
set_option linter.unusedVariables false
set_option linter.unusedSimpArgs false
open Go.RowKit Ieee Ntt
/-- The greatest energy outside a range. -/
def sideP (E : Nat → Int) (lo hi : Int) : Nat → Int
  | 0 => 0
  | k + 1 => if inE lo hi k then sideP E lo hi k else max (sideP E lo hi k) (E k)
theorem sideP_le {E : Nat → Int} {lo hi e0 : Int} (h0 : 0 ≤ e0) : ∀ k, (∀ j, j < k → E j ≤ e0) → 0 ≤ sideP E lo hi k ∧ sideP E lo hi k ≤ e0
  | 0, _ => ⟨Int.le_refl _, h0⟩
  | k + 1, h => by
    have h1 := sideP_le (lo := lo) (hi := hi) h0 k fun j hj => h j (by omega)
    have h2 := h k (by omega)
    unfold sideP
    split <;> omega
/-- The cells of a point. -/
def pt7 (a0 a1 a2 a3 a4 a5 a6 : Int) : Nat → Int
  | 0 => a0
  | 1 => a1
  | 2 => a2
  | 3 => a3
  | 4 => a4
  | 5 => a5
  | _ => a6
/-- A point in a variable, a result cell, and a third cell. -/
structure PtSt (w : World) (Ro Rb Pb : Nat) (rv : Value) (c : Nat → Int) (wr : World) : Prop where
  cel : ∀ j, j < 7 → wr.cell? ⟨Pb, j, none⟩ = some (.int .i64 (c j))
  frz : ∀ j, j < 7 → wr.frozen? ⟨Pb, j, none⟩ = false
  res : ∀ j, j < 7 → wr.cell? ⟨Ro, j, none⟩ = some (.int .i64 0)
  rfz : ∀ j, j < 7 → wr.frozen? ⟨Ro, j, none⟩ = false
  row : wr.cell? ⟨Rb, 0, none⟩ = some rv
  bel : Below w.heap.size w wr
  lt : Pb < wr.heap.size
  ro : Ro < Pb
  rb : Rb < Pb
  wo : w.heap.size ≤ Ro
theorem PtSt.below {w wr W : World} {Ro Rb Pb : Nat} {rv : Value} {c : Nat → Int} (h : PtSt w Ro Rb Pb rv c wr) (hb : Below wr.heap.size wr W) : PtSt w Ro Rb Pb rv c W := by
  have hlt := h.lt
  have hro := h.ro
  have hrb := h.rb
  have hwo := h.wo
  have hs := hb.size
  exact ⟨fun j hj => (hb.cell (p := ⟨Pb, j, none⟩) hlt).trans (h.cel j hj), fun j hj => (hb.frozen (p := ⟨Pb, j, none⟩) hlt).trans (h.frz j hj), fun j hj => (hb.cell (p := ⟨Ro, j, none⟩) (show Ro < wr.heap.size by omega)).trans (h.res j hj), fun j hj => (hb.frozen (p := ⟨Ro, j, none⟩) (show Ro < wr.heap.size by omega)).trans (h.rfz j hj),
    (hb.cell (p := ⟨Rb, 0, none⟩) (show Rb < wr.heap.size by omega)).trans h.row, h.bel.trans (hb.mono (by omega)), by omega, hro, hrb, hwo⟩
theorem PtSt.put {w wr : World} {Ro Rb Pb : Nat} {rv : Value} {c c' : Nat → Int} (h : PtSt w Ro Rb Pb rv c wr) (j : Nat) (v : Int) (hc : ∀ i, i < 7 → c' i = if i = j then v else c i) : PtSt w Ro Rb Pb rv c' (wr.setCell ⟨Pb, j, none⟩ (.int .i64 v)) := by
  have hro := h.ro
  have hrb := h.rb
  have hwo := h.wo
  refine ⟨fun i hi => ?_, fun i hi => ?_, fun i hi => ?_, fun i hi => ?_, ?_, h.bel.setCell (p := ⟨Pb, j, none⟩) (show w.heap.size ≤ Pb by omega) _, by simpa [World.setCell] using h.lt, hro, hrb, hwo⟩
  · rw [hc i hi]
    by_cases e : i = j
    · subst e
      rw [if_pos rfl]
      exact World.cell?_setCell_same _ _ _ (h.cel i hi)
    · rw [if_neg e, World.cell?_setCell_other _ _ _ _ (by simp <;> omega)]
      exact h.cel i hi
  · simpa using h.frz i hi
  · rw [World.cell?_setCell_other _ _ _ _ (by simp <;> omega)]
    exact h.res i hi
  · simpa using h.rfz i hi
  · rw [World.cell?_setCell_other _ _ _ _ (by simp <;> omega)]
    exact h.row
theorem any_worldS {G : World → Prop} {w : World} (F : World → Prop) (hf : F w) (h : ∀ W, F W → G W) : G w := h w hf
/-- The error of Response. -/
def respE (L S : Int) (n : Nat) (f : Nat → Nat × Nat) (l : Int) : Int := if (fldE L S n f).2 = 0 then (if inE 0 (L - 1) l then 0 else 2) else (fldE L S n f).2
set_option maxHeartbeats 1000000 in
theorem response_bad (L S : Int) (n cap : Nat) (f : Nat → Nat × Nat) (a : Option Addr) (l : Int) (w : World) (hn : n ≤ 100000) (hd : FldAt w L S n f a) (hw : Wide64 n f) {e0 : Int} (hE : respE L S n f l = e0) (h0 : e0 ≠ 0) :
    Calls Tryd.prog 70 #[.agg #[.int .i64 L, .int .i64 S, .slice a n cap], .int .i64 l] w fun e w' => e = .returned (.tuple #[.agg #[.int .i64 0, .int .i64 0, .int .i64 0, .int .i64 0, .int .i64 0, .int .i64 0, .int .i64 0], .int .i64 e0]) ∧ Below w.heap.size w w' := by
  obtain ⟨z, hz⟩ : ∃ z, (fldE L S n f).2 = z := ⟨_, rfl⟩
  have HIM := Lib.hid (show ∀ W, Below w.heap.size w W → _ from fun W hW => fieldErr_any L S n cap f a W hn (hd.below hW) hw hz)
  unfold respE at hE
  rw [hz] at hE
  by_cases h1 : z = 0
  · subst h1
    rw [if_pos rfl] at hE
    rcases (show inE 0 (L - 1) l = false ∨ inE 0 (L - 1) l = true by cases inE 0 (L - 1) l <;> simp) with h2 | h2
    · obtain rfl : e0 = 2 := by rw [h2] at hE; exact hE.symm
      obtain ⟨⟨l1, l2⟩, -, -⟩ := sizeE_zero (fldE_zero hz).1
      have HW1 := Lib.hid h2
      clear hz hd hE h2 h0
      go_enter Tryd.func70, Tryd.ntmps70
      go_wp2_with (first | (go_at_call 105; (with_reducible refine (HIM.out _ (by (repeat' (first | with_reducible exact Below.refl _ _ | (with_reducible refine below_later_of ?_ ?_ _) | (with_reducible refine Below.alloc ?_ ?_ _) | (with_reducible refine Below.setCell ?_ ?_ _) | (with_reducible refine Below.drew ?_) | (simp; done) | (simp; omega) | omega)))).mono ?_); rintro e w' ⟨rfl, hb⟩; obtain ⟨pe, rfl⟩ := later_of_below hb; clear hb) | (go_at_call 99; (with_reducible refine (within_e _ _ _ _ HW1.out).mono ?_); rintro e w' ⟨rfl, rfl⟩))
      refine bodyPost_ret ?_ rfl ⟨rfl, (by (repeat' (first | with_reducible exact Below.refl _ _ | (with_reducible refine below_later_of ?_ ?_ _) | (with_reducible refine Below.alloc ?_ ?_ _) | (with_reducible refine Below.setCell ?_ ?_ _) | (with_reducible refine Below.drew ?_) | (simp; done) | (simp; omega) | omega)))⟩
      (first | (simp [results, Tryd.results70, go_sem]; done) | simp [results, Tryd.results70, go_sem, ↓IntWalk.iteOmega])
    · rw [h2] at hE
      exact absurd hE.symm h0
  · rw [if_neg h1] at hE
    subst hE
    have hne : (z != 0) = true := by simpa using h1
    clear hz hd h1 h0
    go_enter Tryd.func70, Tryd.ntmps70
    go_wp2_with (first | (go_at_call 105; (with_reducible refine (HIM.out _ (by (repeat' (first | with_reducible exact Below.refl _ _ | (with_reducible refine below_later_of ?_ ?_ _) | (with_reducible refine Below.alloc ?_ ?_ _) | (with_reducible refine Below.setCell ?_ ?_ _) | (with_reducible refine Below.drew ?_) | (simp; done) | (simp; omega) | omega)))).mono ?_); rintro e w' ⟨rfl, hb⟩; obtain ⟨pe, rfl⟩ := later_of_below hb; clear hb))
    refine bodyPost_ret ?_ rfl ⟨rfl, (by (repeat' (first | with_reducible exact Below.refl _ _ | (with_reducible refine below_later_of ?_ ?_ _) | (with_reducible refine Below.alloc ?_ ?_ _) | (with_reducible refine Below.setCell ?_ ?_ _) | (with_reducible refine Below.drew ?_) | (simp; done) | (simp; omega) | omega)))⟩
    (first | (simp [results, Tryd.results70, go_sem]; done) | simp [results, Tryd.results70, go_sem, ↓IntWalk.iteOmega])
/-- The energies of a line. -/
def lineF (f : Nat → Nat × Nat) (S l : Nat) (s : Nat) : Nat × Nat := f (l * S + s)
/-- The answer of Response for a right line. -/
def RespPost (E : Nat → Int) (S : Nat) (w : World) (e : Ending) (w' : World) : Prop :=
  (grP E S).2 = 0 ∧ e = .returned (.tuple #[.agg #[.int .i64 0, .int .i64 0, .int .i64 0, .int .i64 0, .int .i64 0, .int .i64 0, .int .i64 0], .int .i64 12]) ∧ Below w.heap.size w w' ∨
  (grP E S).2 ≠ 0 ∧ e = .returned (.tuple #[.agg #[.int .i64 (grP E S).1, .int .i64 (grP E S).2, .int .i64 (downP (gH E (grP E S).2) (grP E S).1), .int .i64 (raiseP (gH E (grP E S).2) (S - 1 - (grP E S).1) (grP E S).1), .int .i64 (downP (gL E) (grP E S).1), .int .i64 (raiseP (gL E) (S - 1 - (grP E S).1) (grP E S).1), .int .i64 (sideP E (downP (gL E) (grP E S).1) (raiseP (gL E) (S - 1 - (grP E S).1) (grP E S).1) S)], .int .i64 0]) ∧ Below w.heap.size w w'
set_option maxRecDepth 20000 in
set_option maxHeartbeats 4000000 in
theorem response_ok (L S n cap b off l : Nat) (f : Nat → Nat × Nat) (w : World) (hcn : n ≤ cap) (hbw : b < w.heap.size) (hf : SumsAt w b off n f) (hw : Wide64 n f) (hE : (fldE L S n f).2 = 0) (hl : l < L) :
    Calls Tryd.prog 70 #[.agg #[.int .i64 L, .int .i64 S, .slice (some ⟨b, off, none⟩) n cap], .int .i64 l] w (RespPost (eng (lineF f S l)) S w) := by
  obtain ⟨hs, hg⟩ := fldE_zero hE
  obtain ⟨⟨l1, l2⟩, ⟨s1, s2⟩, hnn⟩ := sizeE_zero hs
  have hn : n = L * S := by exact_mod_cast hnn
  have hL : L ≤ 64 := by omega
  have hS : S ≤ 64 := by omega
  have hS1 : 1 ≤ S := by omega
  have hn4 : n ≤ 4096 := by rw [hn]; exact Nat.mul_le_mul hL hS
  have hX := smallD_of hw hg
  have HIM := Lib.hid (show ∀ W, Below w.heap.size w W → _ from fun W hW => fieldErr_any L S n cap f (some ⟨b, off, none⟩) W (by omega) (fun _ => ⟨b, off, rfl, by have := hW.size; omega, hf.below hbw hW⟩) hw hE)
  have HW1 := Lib.hid (show inE 0 ((L : Int) - 1) (l : Int) = true from inE_iff.2 (by omega))
  obtain ⟨lS, hlS⟩ : ∃ lS, l * S = lS := ⟨_, rfl⟩
  have hrow : lS + S ≤ n := by
    have h1 : (l + 1) * S ≤ L * S := Nat.mul_le_mul_right _ hl
    rw [Nat.add_mul, Nat.one_mul] at h1
    omega
  have m1 : (l : Int) * (S : Int) = (lS : Int) := by rw [← hlS, Int.natCast_mul]
  have m2 : ((l : Int) + 1) * (S : Int) = (lS : Int) + (S : Int) := by rw [Int.add_mul, m1, Int.one_mul]
  have HFR := Lib.hid (show ∀ W, Below w.heap.size w W → SumsAt W b (off + lS) S (lineF f S l) from fun W hW j hj => by
    have := (hW.cell (p := ⟨b, off + (lS + j), none⟩) hbw).trans (hf (lS + j) (by omega))
    rw [← Nat.add_assoc] at this
    unfold lineF
    rw [hlS]
    exact this)
  have HXR := Lib.hid (show SmallD S (lineF f S l) (xD (lineF f S l)) (yD (lineF f S l)) 1000000000 from fun j hj => by
    have := hX (lS + j) (by omega)
    unfold lineF xD yD
    rw [hlS]
    exact this)
  obtain ⟨pk, e0, hpe⟩ : ∃ pk e0, grP (eng (lineF f S l)) S = (pk, e0) := ⟨_, _, rfl⟩
  have hgl := grP_lt (eng (lineF f S l)) (n := S) hS1 S (Nat.le_refl _)
  rw [hpe] at hgl
  obtain ⟨hpk, -⟩ := hgl
  have HGR := Lib.hid (show ∀ W, Below w.heap.size w W → _ from fun W hW => greatest_any S b (off + lS) (cap - lS) (lineF f S l) W hS1 (by omega) (HFR.out W hW) HXR.out hpe)
  unfold RespPost
  rw [hpe]
  have HEB := Lib.hid (fun j (hj : j < S) => eng_bd HXR.out hj)
  have HEA := Lib.hid (fun j (hj : j < S) => show ∀ w, _ from fun w => energy_any HXR.out hj w (rfl : eng (lineF f S l) j = eng (lineF f S l) j))
  generalize lineF f S l = F at *
  have hcap : lS + S ≤ cap := by omega
  clear hf hw hE hs hg hnn hn hX hlS hpe
  go_enter Tryd.func70, Tryd.ntmps70
  go_upto_region 8 with (first | (go_at_call 105; (with_reducible refine (HIM.out _ (by (repeat' (first | with_reducible exact Below.refl _ _ | (with_reducible refine below_later_of ?_ ?_ _) | (with_reducible refine Below.alloc ?_ ?_ _) | (with_reducible refine Below.setCell ?_ ?_ _) | (with_reducible refine Below.drew ?_) | (simp; done) | (simp; omega) | omega)))).mono ?_); rintro e w' ⟨rfl, hb⟩; obtain ⟨pe, rfl⟩ := later_of_below hb; clear hb) | (go_at_call 99; (with_reducible refine (within_e _ _ _ _ HW1.out).mono ?_); rintro e w' ⟨rfl, rfl⟩))
  refine any_worldS (fun W => PtSt w (w.heap.size + 1) (w.heap.size + 1 + 1 + pe.os.size) (w.heap.size + 1 + 1 + pe.os.size + 1) (.slice (some ⟨b, off + lS, none⟩) S (cap - lS)) (pt7 0 0 0 0 0 0 0) W) ⟨(fun j hj => by rcases j with _ | _ | _ | _ | _ | _ | _ | j <;> first | (simp [go_sem, pt7]; done) | ((first | (simp [go_sem, pt7]; done) | simp [go_sem, pt7, ↓IntWalk.iteOmega]); done) | omega), (fun j hj => by rcases j with _ | _ | _ | _ | _ | _ | _ | j <;> first | (simp [go_sem, pt7]; done) | ((first | (simp [go_sem, pt7]; done) | simp [go_sem, pt7, ↓IntWalk.iteOmega]); done) | omega), (fun j hj => by rcases j with _ | _ | _ | _ | _ | _ | _ | j <;> first | (simp [go_sem, pt7]; done) | ((first | (simp [go_sem, pt7]; done) | simp [go_sem, pt7, ↓IntWalk.iteOmega]); done) | omega), (fun j hj => by rcases j with _ | _ | _ | _ | _ | _ | _ | j <;> first | (simp [go_sem, pt7]; done) | ((first | (simp [go_sem, pt7]; done) | simp [go_sem, pt7, ↓IntWalk.iteOmega]); done) | omega), by simp [go_sem], (by (repeat' (first | with_reducible exact Below.refl _ _ | (with_reducible refine below_later_of ?_ ?_ _) | (with_reducible refine Below.alloc ?_ ?_ _) | (with_reducible refine Below.setCell ?_ ?_ _) | (with_reducible refine Below.drew ?_) | (simp; done) | (simp; omega) | omega))), by simp, by omega, by omega, by omega⟩ ?_
  rintro W3 hst
  obtain ⟨Rb, hRb⟩ : ∃ Rb, w.heap.size + 1 + 1 + pe.os.size = Rb := ⟨_, rfl⟩
  rw [hRb] at hst
  simp only [hRb]
  have HST := Lib.hid hst
  have row3 := hst.row
  have c0 : W3.cell? ⟨Rb + 1, 0, none⟩ = some (.int .i64 0) := hst.cel 0 (by decide)
  have c1 : W3.cell? ⟨Rb + 1, 1, none⟩ = some (.int .i64 0) := hst.cel 1 (by decide)
  have f0 := hst.frz 0 (by decide)
  have f1 := hst.frz 1 (by decide)
  have hlt3 := hst.lt
  have HG3 := Lib.hid (HGR.out W3 hst.bel)
  clear hst HIM HW1 HGR hRb
  go_upto_region 9 with (first | (go_at_call 116; (with_reducible refine (HG3.out).mono ?_); rintro e w' ⟨rfl, rfl⟩))
  refine any_worldS (fun W => PtSt w (w.heap.size + 1) Rb (Rb + 1) (.slice (some ⟨b, off + lS, none⟩) S (cap - lS)) (pt7 pk e0 0 0 0 0 0) W) ((HST.out.put (c' := pt7 pk 0 0 0 0 0 0) 0 pk (by intro i hi; rcases i with _ | _ | _ | _ | _ | _ | _ | i <;> first | rfl | omega)).put 1 e0 (by intro i hi; rcases i with _ | _ | _ | _ | _ | _ | _ | i <;> first | rfl | omega)) ?_
  rintro W4 hst
  have HS4 := Lib.hid hst
  have c0 : W4.cell? ⟨Rb + 1, 0, none⟩ = some (.int .i64 pk) := hst.cel 0 (by decide)
  have c1 : W4.cell? ⟨Rb + 1, 1, none⟩ = some (.int .i64 e0) := hst.cel 1 (by decide)
  have row4 := hst.row
  have hlt4 := hst.lt
  have hrb4 := hst.rb
  have hro4 := hst.ro
  have hbel4 := hst.bel
  have HB4 := Lib.hid hbel4
  have hsz4 := hbel4.size
  clear HG3 HST
  by_cases h0 : e0 = 0
  · have hd : (e0 == 0) = true := by simpa using h0
    have H0 := Lib.hid h0
    have r0 := hst.res 0 (by decide)
    have r1 := hst.res 1 (by decide)
    have r2 := hst.res 2 (by decide)
    have r3 := hst.res 3 (by decide)
    have r4 := hst.res 4 (by decide)
    have r5 := hst.res 5 (by decide)
    have r6 := hst.res 6 (by decide)
    have q0 := hst.rfz 0 (by decide)
    have q1 := hst.rfz 1 (by decide)
    have q2 := hst.rfz 2 (by decide)
    have q3 := hst.rfz 3 (by decide)
    have q4 := hst.rfz 4 (by decide)
    have q5 := hst.rfz 5 (by decide)
    have q6 := hst.rfz 6 (by decide)
    clear hst hbel4 h0
    go_wp2
    refine bodyPost_ret ?_ rfl (.inl ⟨H0.out, rfl, HB4.out.trans (by (repeat' (first | with_reducible exact Below.refl _ _ | (with_reducible refine below_later_of ?_ ?_ _) | (with_reducible refine Below.alloc ?_ ?_ _) | (with_reducible refine Below.setCell ?_ ?_ _) | (with_reducible refine Below.drew ?_) | (simp; done) | (simp; omega) | omega)))⟩)
    first | (simp [results, Tryd.results70, go_sem, r0, r1, r2, r3, r4, r5, r6]; done) | simp [results, Tryd.results70, go_sem, r0, r1, r2, r3, r4, r5, r6, ↓IntWalk.iteOmega]
  · have hd : (e0 == 0) = false := by simpa using h0
    have H0 := Lib.hid h0
    have HA1 := Lib.hid (around1 Rb (Rb + 1) e0 b (off + lS) S (cap - lS) F pk ((S : Int) - 1) W4 rfl hS hpk row4 (by omega) (by omega) (HFR.out W4 hbel4) HXR.out hlt4 c1)
    obtain ⟨h1, hh1⟩ : ∃ x, downP (gH (eng F) e0) pk = x := ⟨_, rfl⟩
    obtain ⟨h2, hh2⟩ : ∃ x, raiseP (gH (eng F) e0) (S - 1 - pk) pk = x := ⟨_, rfl⟩
    rw [hh1, hh2] at HA1
    have HH := Lib.hid (And.intro hh1 hh2)
    have c2 : W4.cell? ⟨Rb + 1, 2, none⟩ = some (.int .i64 0) := hst.cel 2 (by decide)
    have c3 : W4.cell? ⟨Rb + 1, 3, none⟩ = some (.int .i64 0) := hst.cel 3 (by decide)
    have f2 := hst.frz 2 (by decide)
    have f3 := hst.frz 3 (by decide)
    clear hst hbel4 h0 hh1 hh2
    go_upto_region 12 with (first | (go_at_call 120; (with_reducible refine (HA1.out).mono ?_); rintro e w' ⟨rfl, hb⟩; obtain ⟨pq, rfl⟩ := later_of_below hb; clear hb))
    refine any_worldS (fun W => PtSt w (w.heap.size + 1) Rb (Rb + 1) (.slice (some ⟨b, off + lS, none⟩) S (cap - lS)) (pt7 pk e0 h1 h2 0 0 0) W) (((HS4.out.below (by (repeat' (first | with_reducible exact Below.refl _ _ | (with_reducible refine below_later_of ?_ ?_ _) | (with_reducible refine Below.alloc ?_ ?_ _) | (with_reducible refine Below.setCell ?_ ?_ _) | (with_reducible refine Below.drew ?_) | (simp; done) | (simp; omega) | omega)))).put (c' := pt7 pk e0 h1 0 0 0 0) 2 h1 (by intro i hi; rcases i with _ | _ | _ | _ | _ | _ | _ | i <;> first | rfl | omega)).put 3 h2 (by intro i hi; rcases i with _ | _ | _ | _ | _ | _ | _ | i <;> first | rfl | omega)) ?_
    rintro W5 hst
    have HS5 := Lib.hid hst
    have c0 : W5.cell? ⟨Rb + 1, 0, none⟩ = some (.int .i64 pk) := hst.cel 0 (by decide)
    have row5 := hst.row
    have hlt5 := hst.lt
    have hbel5 := hst.bel
    have hsz5 := hbel5.size
    have HA2 := Lib.hid (around2 Rb b (off + lS) S (cap - lS) F pk ((S : Int) - 1) W5 rfl hS hpk row5 (by omega) (by omega) (HFR.out W5 hbel5) HXR.out)
    obtain ⟨g1, hg1⟩ : ∃ x, downP (gL (eng F)) pk = x := ⟨_, rfl⟩
    obtain ⟨g2, hg2⟩ : ∃ x, raiseP (gL (eng F)) (S - 1 - pk) pk = x := ⟨_, rfl⟩
    rw [hg1, hg2] at HA2
    have HG := Lib.hid (And.intro hg1 hg2)
    have c4 : W5.cell? ⟨Rb + 1, 4, none⟩ = some (.int .i64 0) := hst.cel 4 (by decide)
    have c5 : W5.cell? ⟨Rb + 1, 5, none⟩ = some (.int .i64 0) := hst.cel 5 (by decide)
    have f4 := hst.frz 4 (by decide)
    have f5 := hst.frz 5 (by decide)
    clear hst hbel5 hg1 hg2 HA1 HS4 c1 c2 c3 f2 f3 row4
    go_upto_region 13 with (first | (go_at_call 120; (with_reducible refine (HA2.out).mono ?_); rintro e w' ⟨rfl, hb⟩; obtain ⟨pq, rfl⟩ := later_of_below hb; clear hb))
    refine any_worldS (fun W => PtSt w (w.heap.size + 1) Rb (Rb + 1) (.slice (some ⟨b, off + lS, none⟩) S (cap - lS)) (pt7 pk e0 h1 h2 g1 g2 0) W) (((HS5.out.below (by (repeat' (first | with_reducible exact Below.refl _ _ | (with_reducible refine below_later_of ?_ ?_ _) | (with_reducible refine Below.alloc ?_ ?_ _) | (with_reducible refine Below.setCell ?_ ?_ _) | (with_reducible refine Below.drew ?_) | (simp; done) | (simp; omega) | omega)))).put (c' := pt7 pk e0 h1 h2 g1 0 0) 4 g1 (by intro i hi; rcases i with _ | _ | _ | _ | _ | _ | _ | i <;> first | rfl | omega)).put 5 g2 (by intro i hi; rcases i with _ | _ | _ | _ | _ | _ | _ | i <;> first | rfl | omega)) ?_
    rintro W6 hst
    have HS6 := Lib.hid hst
    have row6 := hst.row
    clear hst HA2 HS5 c0 c4 c5 f4 f5 row5
    go_wp2
    go_loopw [65] (fun i wr => ∃ k : Nat, k ≤ S ∧ i = .int .i64 k ∧ PtSt w (w.heap.size + 1) Rb (Rb + 1) (.slice (some ⟨b, off + lS, none⟩) S (cap - lS)) (pt7 pk e0 h1 h2 g1 g2 (sideP (eng F) g1 g2 k)) wr) (fun i _ => S - (intOf i).toNat)
    case atStart => exact ⟨0, Nat.zero_le _, rfl, HS6.out⟩
    case round =>
      obtain ⟨k, hk, rfl, hst⟩ := hrel
      have HS7 := Lib.hid hst
      have hbel7 := hst.bel
      have hlt7 := hst.lt
      have hsz7 := hbel7.size
      have HB7 := Lib.hid hbel7
      have c4 : wr.cell? ⟨Rb + 1, 4, none⟩ = some (.int .i64 g1) := hst.cel 4 (by decide)
      have c5 : wr.cell? ⟨Rb + 1, 5, none⟩ = some (.int .i64 g2) := hst.cel 5 (by decide)
      have HSP := Lib.hid (show sideP (eng F) g1 g2 (k + 1) = if inE g1 g2 k then sideP (eng F) g1 g2 k else max (sideP (eng F) g1 g2 k) (eng F k) from rfl)
      obtain ⟨sd, hsd⟩ : ∃ x, sideP (eng F) g1 g2 k = x := ⟨_, rfl⟩
      rw [hsd] at HSP HS7
      have c6 : wr.cell? ⟨Rb + 1, 6, none⟩ = some (.int .i64 sd) := by rw [← hsd]; exact hst.cel 6 (by decide)
      have f6 := hst.frz 6 (by decide)
      by_cases hlt : k < S
      · have hdk : decide ((k : Int) < (S : Int)) = true := by simp; omega
        have ck := HFR.out wr hbel7 k hlt
        have hbr : b < wr.heap.size := by omega
        clear hst hbel7 hsd
        rcases (show inE g1 g2 k = true ∨ inE g1 g2 k = false by cases inE g1 g2 k <;> simp) with hi | hi
        · have HWI := Lib.hid hi
          have HSE := Lib.hid (show sideP (eng F) g1 g2 (k + 1) = sd by rw [HSP.out, hi]; rfl)
          clear hi
          go_wp2_with (first | (go_at_call 99; (with_reducible refine (within_e _ _ _ _ HWI.out).mono ?_); rintro e w' ⟨rfl, rfl⟩))
          go_roundw
          case rel => exact ⟨k + 1, by omega, by go_num, by rw [HSE.out]; exact HS7.out.below (by (repeat' (first | with_reducible exact Below.refl _ _ | (with_reducible refine below_later_of ?_ ?_ _) | (with_reducible refine Below.alloc ?_ ?_ _) | (with_reducible refine Below.setCell ?_ ?_ _) | (with_reducible refine Below.drew ?_) | (simp; done) | (simp; omega) | omega)))⟩
          case measure => simp [intOf]; omega
        · have HWI := Lib.hid hi
          have HSE := Lib.hid (show sideP (eng F) g1 g2 (k + 1) = max sd (eng F k) by rw [HSP.out, hi]; rfl)
          obtain ⟨z, hz⟩ : ∃ z, eng F k = z := ⟨_, rfl⟩
          have HEN := Lib.hid (fun w => energy_any HXR.out hlt w hz)
          rw [hz] at HSE
          clear hi hz
          go_wp2_with (first | (go_at_call 99; (with_reducible refine (within_e _ _ _ _ HWI.out).mono ?_); rintro e w' ⟨rfl, rfl⟩))
          refine wp_region_calm_tail 6 (by kernel_rfl) (by kernel_rfl) ?_
          simp only [List.take_succ_cons, List.take_zero, List.drop_succ_cons, List.drop_zero]
          repeat (go_big_quiet_step (first | (go_at_call 117; with_reducible exact calm_same (HEN.out _))))
          refine wpQuiet_nil ?_
          rintro _ ⟨pq, rfl⟩
          go_wp2
          go_roundw
          case rel => exact ⟨k + 1, by omega, by go_num, by rw [HSE.out]; exact (HS7.out.below (by (repeat' (first | with_reducible exact Below.refl _ _ | (with_reducible refine below_later_of ?_ ?_ _) | (with_reducible refine Below.alloc ?_ ?_ _) | (with_reducible refine Below.setCell ?_ ?_ _) | (with_reducible refine Below.drew ?_) | (simp; done) | (simp; omega) | omega)))).put 6 _ (by intro i hi; rcases i with _ | _ | _ | _ | _ | _ | _ | i <;> first | rfl | omega)⟩
          case measure => simp [intOf]; omega
      · obtain rfl : k = S := by omega
        have hdk : decide ((k : Int) < (k : Int)) = false := by simp
        have c0 : wr.cell? ⟨Rb + 1, 0, none⟩ = some (.int .i64 pk) := hst.cel 0 (by decide)
        have c1 : wr.cell? ⟨Rb + 1, 1, none⟩ = some (.int .i64 e0) := hst.cel 1 (by decide)
        have c2 : wr.cell? ⟨Rb + 1, 2, none⟩ = some (.int .i64 h1) := hst.cel 2 (by decide)
        have c3 : wr.cell? ⟨Rb + 1, 3, none⟩ = some (.int .i64 h2) := hst.cel 3 (by decide)
        have r0 := hst.res 0 (by decide)
        have r1 := hst.res 1 (by decide)
        have r2 := hst.res 2 (by decide)
        have r3 := hst.res 3 (by decide)
        have r4 := hst.res 4 (by decide)
        have r5 := hst.res 5 (by decide)
        have r6 := hst.res 6 (by decide)
        have q0 := hst.rfz 0 (by decide)
        have q1 := hst.rfz 1 (by decide)
        have q2 := hst.rfz 2 (by decide)
        have q3 := hst.rfz 3 (by decide)
        have q4 := hst.rfz 4 (by decide)
        have q5 := hst.rfz 5 (by decide)
        have q6 := hst.rfz 6 (by decide)
        have HSD := Lib.hid hsd
        clear hst hbel7 hsd
        go_wp2
        refine bodyPost_ret ?_ rfl (.inr ⟨H0.out, by rw [HH.out.1, HH.out.2, HG.out.1, HG.out.2, HSD.out], HB7.out.trans (by (repeat' (first | with_reducible exact Below.refl _ _ | (with_reducible refine below_later_of ?_ ?_ _) | (with_reducible refine Below.alloc ?_ ?_ _) | (with_reducible refine Below.setCell ?_ ?_ _) | (with_reducible refine Below.drew ?_) | (simp; done) | (simp; omega) | omega)))⟩)
        first | (simp [results, Tryd.results70, go_sem, r0, r1, r2, r3, r4, r5, r6]; done) | simp [results, Tryd.results70, go_sem, r0, r1, r2, r3, r4, r5, r6, ↓IntWalk.iteOmega]
end Go.Proofs.YtakohhlmomgegaaDoor
