/- Polygons: the program's 'crosses'. -/
import Derived.Test.YtokpdmlmlkkekaaZX
import Derived.Deep.CutRange
import Derived.Deep.RegionHeld3
import Derived.OwnWalk
namespace Go.Proofs.Ytokpdmlmlkkekaa
set_option linter.unusedVariables false
open Go.RowKit
@[go_sem] theorem idx_area0 (a b c d : Value) (w : World) : (Instr.index 186 (.agg #[a, b, c, d]) (.int .i64 0)).run Try.prog w = .ok (.agg #[a, b]) w := by kernel_rfl
@[go_sem] theorem idx_area1 (a b c d : Value) (w : World) : (Instr.index 186 (.agg #[a, b, c, d]) (.int .i64 1)).run Try.prog w = .ok (.agg #[c, d]) w := by kernel_rfl
theorem wp_worldX {P : Program} {c : Code} {Q : Exit → Act → World → Prop} {a : Act} {w : World} (F : World → Prop) (hf : F w) (h : ∀ W, F W → Code.wp P c Q a W) : Code.wp P c Q a w := h w hf
/-- Block B holds four numbers, or two that may be written. -/
def Own4 (W : World) (B : Nat) (a b c d : Int) : Prop := W.cell? ⟨B, 0, none⟩ = some (.int .i64 a) ∧ W.cell? ⟨B, 1, none⟩ = some (.int .i64 b) ∧ W.cell? ⟨B, 2, none⟩ = some (.int .i64 c) ∧ W.cell? ⟨B, 3, none⟩ = some (.int .i64 d)
theorem Own4.below {w w' : World} {B C : Nat} {a b c d : Int} (h : Own4 w B a b c d) (hB : B < C) (hw : Below C w w') : Own4 w' B a b c d :=
  ⟨(hw.cell hB).trans h.1, (hw.cell hB).trans h.2.1, (hw.cell hB).trans h.2.2.1, (hw.cell hB).trans h.2.2.2⟩
def OwnFr (W : World) (B : Nat) (p : Fr) : Prop := W.cell? ⟨B, 0, none⟩ = some (.int .i64 p.n) ∧ W.cell? ⟨B, 1, none⟩ = some (.int .i64 p.d) ∧ W.frozen? ⟨B, 0, none⟩ = false ∧ W.frozen? ⟨B, 1, none⟩ = false
theorem OwnFr.below {w w' : World} {B C : Nat} {p : Fr} (h : OwnFr w B p) (hB : B < C) (hw : Below C w w') : OwnFr w' B p :=
  ⟨(hw.cell hB).trans h.1, (hw.cell hB).trans h.2.1, (hw.frozen hB).trans h.2.2.1, (hw.frozen hB).trans h.2.2.2⟩
theorem OwnFr.put {W : World} {B : Nat} {p q : Fr} (h : OwnFr W B p) : OwnFr ((W.setCell ⟨B, 0, none⟩ (.int .i64 q.n)).setCell ⟨B, 1, none⟩ (.int .i64 q.d)) B q := by
  obtain ⟨h1, h2, h3, h4⟩ := h
  refine ⟨?_, ?_, ?_, ?_⟩ <;> simp [go_sem, h1, h2, h3, h4]
theorem OwnFr.keep {W : World} {B B' : Nat} {p : Fr} {a b : Value} (hne : B ≠ B') (h : OwnFr W B p) : OwnFr ((W.setCell ⟨B', 0, none⟩ a).setCell ⟨B', 1, none⟩ b) B p := by
  obtain ⟨h1, h2, h3, h4⟩ := h
  have hne' : B' ≠ B := fun e => hne e.symm
  refine ⟨?_, ?_, ?_, ?_⟩ <;> simp [go_sem, h1, h2, h3, h4]
theorem OwnFr.then {W : World} {B : Nat} {p : Fr} {x : Regrown} (hB : B < W.heap.size) (h : OwnFr W B p) : OwnFr (later W x) B p := h.below hB (below_later W x)
def lowK (s : Sd) (lx ly hx hy : Int) : Nat → Fr
  | 0 => low0
  | 1 => axLow s.x1 s.x2 lx hx low0
  | _ => axLow s.y1 s.y2 ly hy (axLow s.x1 s.x2 lx hx low0)
def highK (s : Sd) (lx ly hx hy : Int) : Nat → Fr
  | 0 => high0
  | 1 => axHigh s.x1 s.x2 lx hx high0
  | _ => axHigh s.y1 s.y2 ly hy (axHigh s.x1 s.x2 lx hx high0)
theorem ax_fit {f t lo hi : Int} (h1 : Mid f) (h2 : Mid t) (h3 : Mid lo) (h4 : Mid hi) : (axF f t lo hi).Fit ∧ (axT f t lo hi).Fit := by
  unfold axF axT Fr.Fit Mid Wide at *
  split <;> (dsimp only; omega)
theorem frMax_fit {p q : Fr} (hp : p.Fit) (hq : q.Fit) : (frMax p q).Fit := by unfold frMax; split <;> assumption
theorem frMin_fit {p q : Fr} (hp : p.Fit) (hq : q.Fit) : (frMin p q).Fit := by unfold frMin; split <;> assumption
theorem axLow_fit {f t lo hi : Int} {low : Fr} (h1 : Mid f) (h2 : Mid t) (h3 : Mid lo) (h4 : Mid hi) (hl : low.Fit) : (axLow f t lo hi low).Fit := by
  by_cases h : t - f = 0
  · unfold axLow; rw [if_pos h]; exact hl
  · rw [axLow_eq _ h]; exact frMax_fit hl (ax_fit h1 h2 h3 h4).1
theorem axHigh_fit {f t lo hi : Int} {high : Fr} (h1 : Mid f) (h2 : Mid t) (h3 : Mid lo) (h4 : Mid hi) (hl : high.Fit) : (axHigh f t lo hi high).Fit := by
  by_cases h : t - f = 0
  · unfold axHigh; rw [if_pos h]; exact hl
  · rw [axHigh_eq _ h]; exact frMin_fit (ax_fit h1 h2 h3 h4).2 hl
set_option maxRecDepth 20000 in
set_option maxHeartbeats 32000000 in
theorem crosses_any (s : Sd) (lx ly hx hy : Int) (w : World) (hs : s.Fit) (m1 : Mid lx) (m2 : Mid ly) (m3 : Mid hx) (m4 : Mid hy) {c : Bool} (hc : crossesP s lx ly hx hy = c) :
    Calls Try.prog 136 #[.agg #[.int .i64 s.x1, .int .i64 s.y1, .int .i64 s.x2, .int .i64 s.y2], .agg #[.int .i64 lx, .int .i64 hx, .int .i64 ly, .int .i64 hy]] w fun e w' => e = .returned (.bool c) ∧ Below w.heap.size w w' := by
  subst hc
  have hnx : axNo s.x1 s.x2 lx hx = true → crossesP s lx ly hx hy = false := fun h => by unfold crossesP; rw [h]; rfl
  have hny : axNo s.x1 s.x2 lx hx = false → axNo s.y1 s.y2 ly hy = true → crossesP s lx ly hx hy = false := fun h h2 => by unfold crossesP; rw [h, h2]; rfl
  have hend : axNo s.x1 s.x2 lx hx = false → axNo s.y1 s.y2 ly hy = false → crossesP s lx ly hx hy = endB (lowK s lx ly hx hy 2) (highK s lx ly hx hy 2) := fun h h2 => by unfold crossesP; rw [h, h2]; rfl
  have HNX := Lib.hid hnx
  have HNY := Lib.hid hny
  have HEND := Lib.hid hend
  clear hnx hny hend
  have k00 : lowK s lx ly hx hy 0 = low0 := rfl
  have k01 : lowK s lx ly hx hy 1 = axLow s.x1 s.x2 lx hx low0 := rfl
  have k02 : lowK s lx ly hx hy 2 = axLow s.y1 s.y2 ly hy (axLow s.x1 s.x2 lx hx low0) := rfl
  have k10 : highK s lx ly hx hy 0 = high0 := rfl
  have k11 : highK s lx ly hx hy 1 = axHigh s.x1 s.x2 lx hx high0 := rfl
  have k12 : highK s lx ly hx hy 2 = axHigh s.y1 s.y2 ly hy (axHigh s.x1 s.x2 lx hx high0) := rfl
  have K := Lib.hid (And.intro k00 (And.intro k01 (And.intro k02 (And.intro k10 (And.intro k11 k12)))))
  clear k00 k01 k02 k10 k11 k12
  obtain ⟨x1, y1, x2, y2⟩ := s
  obtain ⟨s1, s2, s3, s4⟩ := hs
  dsimp only at *
  have HM := Lib.hid (And.intro s1 (And.intro s2 (And.intro s3 (And.intro s4 (And.intro m1 (And.intro m2 (And.intro m3 m4)))))))
  unfold Mid at s1 s2 s3 s4 m1 m2 m3 m4
  go_enter Try.func136, Try.ntmps136
  go_wp2
  refine wp_worldX (fun W => Own4 W w.heap.size x1 y1 x2 y2 ∧ OwnFr W (w.heap.size + 1 + 1) ⟨-1, 1⟩ ∧ OwnFr W (w.heap.size + 1 + 1 + 1) ⟨2, 1⟩ ∧ Below w.heap.size w W ∧ w.heap.size + 1 + 1 + 1 < W.heap.size) ⟨⟨(by (first | (simp [go_sem]; done) | simp [go_sem, ↓IntWalk.iteOmega])), (by (first | (simp [go_sem]; done) | simp [go_sem, ↓IntWalk.iteOmega])), (by (first | (simp [go_sem]; done) | simp [go_sem, ↓IntWalk.iteOmega])), (by (first | (simp [go_sem]; done) | simp [go_sem, ↓IntWalk.iteOmega]))⟩, ⟨(by (first | (simp [go_sem]; done) | simp [go_sem, ↓IntWalk.iteOmega])), (by (first | (simp [go_sem]; done) | simp [go_sem, ↓IntWalk.iteOmega])), (by (first | (simp [go_sem]; done) | simp [go_sem, ↓IntWalk.iteOmega])), (by (first | (simp [go_sem]; done) | simp [go_sem, ↓IntWalk.iteOmega]))⟩, ⟨(by (first | (simp [go_sem]; done) | simp [go_sem, ↓IntWalk.iteOmega])), (by (first | (simp [go_sem]; done) | simp [go_sem, ↓IntWalk.iteOmega])), (by (first | (simp [go_sem]; done) | simp [go_sem, ↓IntWalk.iteOmega])), (by (first | (simp [go_sem]; done) | simp [go_sem, ↓IntWalk.iteOmega]))⟩, (by (repeat' (first | with_reducible exact Below.refl _ _ | (with_reducible refine below_later_of ?_ ?_ _) | (with_reducible refine Below.alloc ?_ ?_ _) | (with_reducible refine Below.setCell ?_ ?_ _) | (with_reducible refine Below.drew ?_) | (simp; done) | (simp; omega) | omega))), by (simp <;> omega)⟩ ?_
  rintro W2 ⟨ss, ll, hh, hb, hs2⟩
  have SS0 := Lib.hid ss
  have LL0 := Lib.hid (show OwnFr W2 (w.heap.size + 1 + 1) low0 from ll)
  have HH0 := Lib.hid (show OwnFr W2 (w.heap.size + 1 + 1 + 1) high0 from hh)
  have HB2 := Lib.hid hb
  clear ss ll hh hb
  go_loopw [15] (fun i wr => ∃ k : Nat, k ≤ 2 ∧ i = .int .i64 k ∧ Own4 wr w.heap.size x1 y1 x2 y2 ∧ OwnFr wr (w.heap.size + 1 + 1) (lowK ⟨x1, y1, x2, y2⟩ lx ly hx hy k) ∧ OwnFr wr (w.heap.size + 1 + 1 + 1) (highK ⟨x1, y1, x2, y2⟩ lx ly hx hy k) ∧ w.heap.size + 1 + 1 + 1 < wr.heap.size ∧ Below w.heap.size w wr ∧ ((1 ≤ k → axNo x1 x2 lx hx = false) ∧ (2 ≤ k → axNo y1 y2 ly hy = false))) (fun i _ => 2 - (intOf i).toNat)
  case atStart => exact ⟨0, by omega, rfl, SS0.out, by rw [K.out.1]; exact LL0.out, by rw [K.out.2.2.2.1]; exact HH0.out, hs2, HB2.out, fun h => by omega, fun h => by omega⟩
  case round =>
    obtain ⟨k, hk, rfl, ss, ll, hh, hsl, hnx, no1, no2⟩ := hrel
    have SS := Lib.hid ss
    have HX := Lib.hid hnx
    have hsz := hnx.size
    have hsw : w.heap.size < wr.heap.size := by omega
    have N1 := Lib.hid no1
    have N2 := Lib.hid no2
    clear hnx no1 no2
    obtain ⟨c0, c1, c2, c3⟩ := ss
    by_cases hlt : k < 2
    · obtain rfl | rfl : k = 0 ∨ k = 1 := by omega
      · rw [K.out.1] at ll
        rw [K.out.2.2.2.1] at hh
        have HNO := Lib.hid (HNX.out)
        obtain ⟨low, hlow⟩ : ∃ p, p = low0 := ⟨_, rfl⟩
        obtain ⟨high, hhigh⟩ : ∃ p, p = high0 := ⟨_, rfl⟩
        have lf : low.Fit := by rw [hlow]; unfold Fr.Fit Wide low0; dsimp only; omega
        have hf : high.Fit := by rw [hhigh]; unfold Fr.Fit Wide high0; dsimp only; omega
        rw [← hlow] at ll
        rw [← hhigh] at hh
        have LF := Lib.hid lf
        have HF := Lib.hid hf
        have LL := Lib.hid ll
        have HH := Lib.hid hh
        have HLW := Lib.hid hlow
        have HHG := Lib.hid hhigh
        obtain ⟨l0, l1, l2, l3⟩ := ll
        obtain ⟨h0, h1, h2, h3⟩ := hh
        clear lf hf hlow hhigh
        have KL := Lib.hid (show lowK ⟨x1, y1, x2, y2⟩ lx ly hx hy 1 = axLow x1 x2 lx hx low by rw [HLW.out]; exact K.out.2.1)
        have KH := Lib.hid (show highK ⟨x1, y1, x2, y2⟩ lx ly hx hy 1 = axHigh x1 x2 lx hx high by rw [HHG.out]; exact K.out.2.2.2.2.1)
        go_wp2
        refine wp_region_calm (by kernel_rfl) (by kernel_rfl) ?_
        repeat (go_big_quiet_step (fail))
        refine wpQuiet_nil ?_
        rintro _ ⟨q1, rfl⟩
        by_cases hd : x2 - x1 = 0
        · have b1 : (x2 - x1 == 0) = true := by simpa using hd
          by_cases h1 : x1 ≤ lx
          · have d1 : decide (x1 ≤ lx) = true := by simpa using h1
            have HR := Lib.hid (HNO.out (by unfold axNo; rw [decide_eq_true hd, d1]; rfl))
            go_wp2
            refine wp_region_calm (by kernel_rfl) (by kernel_rfl) ?_
            repeat (go_big_quiet_step (fail))
            refine wpQuiet_nil ?_
            rintro _ ⟨q2, rfl⟩
            go_wp2
            go_ret
            exact ⟨ret_bool HR.out.symm, HX.out.trans (below_mono_of hsz (by (repeat' (first | with_reducible exact Below.refl _ _ | (with_reducible refine below_later_of ?_ ?_ _) | (with_reducible refine Below.alloc ?_ ?_ _) | (with_reducible refine Below.setCell ?_ ?_ _) | (with_reducible refine Below.drew ?_) | (simp; done) | (simp; omega) | omega))))⟩
          · have d1 : decide (x1 ≤ lx) = false := by simpa using h1
            by_cases h2 : hx ≤ x1
            · have d2 : decide (hx ≤ x1) = true := by simpa using h2
              have HR := Lib.hid (HNO.out (by unfold axNo; rw [decide_eq_true hd, d1, d2]; rfl))
              go_wp2
              refine wp_region_calm (by kernel_rfl) (by kernel_rfl) ?_
              repeat (go_big_quiet_step (fail))
              refine wpQuiet_nil ?_
              rintro _ ⟨q2, rfl⟩
              go_wp2
              go_ret
              exact ⟨ret_bool HR.out.symm, HX.out.trans (below_mono_of hsz (by (repeat' (first | with_reducible exact Below.refl _ _ | (with_reducible refine below_later_of ?_ ?_ _) | (with_reducible refine Below.alloc ?_ ?_ _) | (with_reducible refine Below.setCell ?_ ?_ _) | (with_reducible refine Below.drew ?_) | (simp; done) | (simp; omega) | omega))))⟩
            · have d2 : decide (hx ≤ x1) = false := by simpa using h2
              have HR := Lib.hid (show axNo x1 x2 lx hx = false by unfold axNo; rw [d1, d2]; simp)
              have HL0 := Lib.hid (show axLow x1 x2 lx hx low = low by unfold axLow; rw [if_pos hd])
              have HH0 := Lib.hid (show axHigh x1 x2 lx hx high = high by unfold axHigh; rw [if_pos hd])
              go_wp2
              refine wp_region_calm (by kernel_rfl) (by kernel_rfl) ?_
              repeat (go_big_quiet_step (fail))
              refine wpQuiet_nil ?_
              rintro _ ⟨q2, rfl⟩
              go_wp2
              go_roundw
              case rel => exact ⟨1, by omega, by go_num, SS.out.below (C := wr.heap.size) (by omega) (by (repeat' (first | with_reducible exact Below.refl _ _ | (with_reducible refine below_later_of ?_ ?_ _) | (with_reducible refine Below.alloc ?_ ?_ _) | (with_reducible refine Below.setCell ?_ ?_ _) | (with_reducible refine Below.drew ?_) | (simp; done) | (simp; omega) | omega))), by rw [KL.out, HL0.out]; exact LL.out.below (C := wr.heap.size) (by omega) (by (repeat' (first | with_reducible exact Below.refl _ _ | (with_reducible refine below_later_of ?_ ?_ _) | (with_reducible refine Below.alloc ?_ ?_ _) | (with_reducible refine Below.setCell ?_ ?_ _) | (with_reducible refine Below.drew ?_) | (simp; done) | (simp; omega) | omega))), by rw [KH.out, HH0.out]; exact HH.out.below (C := wr.heap.size) (by omega) (by (repeat' (first | with_reducible exact Below.refl _ _ | (with_reducible refine below_later_of ?_ ?_ _) | (with_reducible refine Below.alloc ?_ ?_ _) | (with_reducible refine Below.setCell ?_ ?_ _) | (with_reducible refine Below.drew ?_) | (simp; done) | (simp; omega) | omega))), by (simp <;> omega), HX.out.trans (below_mono_of hsz (by (repeat' (first | with_reducible exact Below.refl _ _ | (with_reducible refine below_later_of ?_ ?_ _) | (with_reducible refine Below.alloc ?_ ?_ _) | (with_reducible refine Below.setCell ?_ ?_ _) | (with_reducible refine Below.drew ?_) | (simp; done) | (simp; omega) | omega)))), fun _ => HR.out, fun h => by omega⟩
              case measure => simp [intOf]
        · have b1 : (x2 - x1 == 0) = false := by simpa using hd
          have HLO := Lib.hid (axLow_eq (lo := lx) (hi := hx) low hd)
          have HHI := Lib.hid (axHigh_eq (lo := lx) (hi := hx) high hd)
          have HR := Lib.hid (axNo_ne (lo := lx) (hi := hx) hd)
          have hff := ax_fit (f := x1) (t := x2) (lo := lx) (hi := hx) (by assumption) (by assumption) (by assumption) (by assumption)
          have hF1 : axF x1 x2 lx hx = if x2 - x1 < 0 then ⟨x1 - hx, x1 - x2⟩ else ⟨lx - x1, x2 - x1⟩ := rfl
          have hT1 : axT x1 x2 lx hx = if x2 - x1 < 0 then ⟨x1 - lx, x1 - x2⟩ else ⟨hx - x1, x2 - x1⟩ := rfl
          generalize axF x1 x2 lx hx = pF at *
          generalize axT x1 x2 lx hx = pT at *
          have FF := Lib.hid hff.1
          have FT := Lib.hid hff.2
          clear hff
          have hp1 : frOf (lx - x1) (x2 - x1) = if x2 - x1 < 0 then pT else pF := by
            rw [hF1, hT1]
            unfold frOf
            split
            · rw [fr_ext (show -(lx - x1) = x1 - lx by omega) (show -(x2 - x1) = x1 - x2 by omega)]
            · rfl
          have hp2 : frOf (hx - x1) (x2 - x1) = if x2 - x1 < 0 then pF else pT := by
            rw [hF1, hT1]
            unfold frOf
            split
            · rw [fr_ext (show -(hx - x1) = x1 - hx by omega) (show -(x2 - x1) = x1 - x2 by omega)]
            · rfl
          generalize hq1 : frOf (lx - x1) (x2 - x1) = q1' at *
          generalize hq2 : frOf (hx - x1) (x2 - x1) = q2' at *
          have HC1 := Lib.hid (show ∀ w, Calls Try.prog 148 #[.int .i64 (IntKind.i64.wrap (lx - x1)), .int .i64 (x2 - x1)] w fun e w' => e = .returned (.agg #[.int .i64 q1'.n, .int .i64 q1'.d]) ∧ Below w.heap.size w w' from fun w => by rw [IntWalk.i64_in _ (by omega)]; exact partOf_any _ _ w (by unfold Wide; omega) (by unfold Wide; omega) hq1)
          have HC2 := Lib.hid (show ∀ w, Calls Try.prog 148 #[.int .i64 (IntKind.i64.wrap (hx - x1)), .int .i64 (x2 - x1)] w fun e w' => e = .returned (.agg #[.int .i64 q2'.n, .int .i64 q2'.d]) ∧ Below w.heap.size w w' from fun w => by rw [IntWalk.i64_in _ (by omega)]; exact partOf_any _ _ w (by unfold Wide; omega) (by unfold Wide; omega) hq2)
          have HP1 := Lib.hid hp1
          have HP2 := Lib.hid hp2
          clear hp1 hp2 hF1 hT1 hq1 hq2
          go_wp2
          obtain ⟨B8, hB8⟩ : ∃ B8, B8 = wr.heap.size := ⟨_, rfl⟩
          refine wp_worldX (fun W => (W.cell? ⟨B8, 0, none⟩ = some (.int .i64 lx) ∧ W.cell? ⟨B8, 1, none⟩ = some (.int .i64 hx)) ∧ Below wr.heap.size wr W ∧ B8 < W.heap.size) ⟨by subst hB8; exact ⟨(by (first | (simp [go_sem]; done) | simp [go_sem, ↓IntWalk.iteOmega])), (by (first | (simp [go_sem]; done) | simp [go_sem, ↓IntWalk.iteOmega]))⟩, (by (repeat' (first | with_reducible exact Below.refl _ _ | (with_reducible refine below_later_of ?_ ?_ _) | (with_reducible refine Below.alloc ?_ ?_ _) | (with_reducible refine Below.setCell ?_ ?_ _) | (with_reducible refine Below.drew ?_) | (simp; done) | (simp; omega) | omega))), by subst hB8; (simp <;> omega)⟩ ?_
          rw [← hB8]
          rintro W8 ⟨⟨a0, a1⟩, hb8, hs8⟩
          have hsz8 := hb8.size
          have SS8 := Lib.hid (SS.out.below (C := B8) (by omega) hb8)
          have LL8 := Lib.hid (LL.out.below (C := B8) (by omega) hb8)
          have HH8 := Lib.hid (HH.out.below (C := B8) (by omega) hb8)
          have HCS := Lib.hid (show ∀ W', Below W8.heap.size W8 W' → W'.cell? ⟨w.heap.size, 0, none⟩ = some (.int .i64 x1) ∧ W'.cell? ⟨B8, 0, none⟩ = some (.int .i64 lx) ∧ W'.cell? ⟨B8, 1, none⟩ = some (.int .i64 hx) from fun W' hb => ⟨(hb.cell (show w.heap.size < W8.heap.size by omega)).trans ((hb8.cell (show w.heap.size < B8 by omega)).trans c0), (hb.cell hs8).trans a0, (hb.cell hs8).trans a1⟩)
          have HX8 := Lib.hid (HX.out.trans (hb8.mono (show w.heap.size ≤ B8 by omega)))
          obtain ⟨a2, -, -⟩ := HCS.out W8 (Below.refl _ _)
          clear c0 c1 c2 c3 l0 l1 l2 l3 h0 h1 h2 h3 b1 hb8 hB8
          go_cut [10, 11] from 46 to 63 (fun X Y wx => ∃ B10 B11, X = .pointer (some ⟨B10, 0, none⟩) ∧ Y = .pointer (some ⟨B11, 0, none⟩) ∧ OwnFr wx B10 q1' ∧ OwnFr wx B11 q2' ∧ Below W8.heap.size W8 wx ∧ (W8.heap.size ≤ B10 ∧ W8.heap.size ≤ B11 ∧ B10 ≠ B11) ∧ B10 < wx.heap.size ∧ B11 < wx.heap.size)
          case first =>
            go_region_held3 (fun W' => W'.cell? ⟨w.heap.size, 0, none⟩ = some (.int .i64 x1) ∧ W'.cell? ⟨B8, 0, none⟩ = some (.int .i64 lx) ∧ W'.cell? ⟨B8, 1, none⟩ = some (.int .i64 hx)) (exact HCS.out _ (by (repeat' (first | with_reducible exact Below.refl _ _ | (with_reducible refine below_later_of ?_ ?_ _) | (with_reducible refine Below.alloc ?_ ?_ _) | (with_reducible refine Below.setCell ?_ ?_ _) | (with_reducible refine Below.drew ?_) | (simp; done) | (simp; omega) | omega)))) (first | (go_at_call 148; (with_reducible refine (HC1.out _).mono ?_); rintro e w' ⟨rfl, hb⟩; obtain ⟨pp, rfl⟩ := later_of_below hb; clear hb) | (go_at_call 148; (with_reducible refine (HC2.out _).mono ?_); rintro e w' ⟨rfl, hb⟩; obtain ⟨pp, rfl⟩ := later_of_below hb; clear hb))
            all_goals
              go_wp2_with fail
              go_meet
              exact ⟨_, _, rfl, rfl, ⟨(by (first | (simp [go_sem]; done) | simp [go_sem, ↓IntWalk.iteOmega])), (by (first | (simp [go_sem]; done) | simp [go_sem, ↓IntWalk.iteOmega])), (by (first | (simp [go_sem]; done) | simp [go_sem, ↓IntWalk.iteOmega])), (by (first | (simp [go_sem]; done) | simp [go_sem, ↓IntWalk.iteOmega]))⟩, ⟨(by (first | (simp [go_sem]; done) | simp [go_sem, ↓IntWalk.iteOmega])), (by (first | (simp [go_sem]; done) | simp [go_sem, ↓IntWalk.iteOmega])), (by (first | (simp [go_sem]; done) | simp [go_sem, ↓IntWalk.iteOmega])), (by (first | (simp [go_sem]; done) | simp [go_sem, ↓IntWalk.iteOmega]))⟩, (by (repeat' (first | with_reducible exact Below.refl _ _ | (with_reducible refine below_later_of ?_ ?_ _) | (with_reducible refine Below.alloc ?_ ?_ _) | (with_reducible refine Below.setCell ?_ ?_ _) | (with_reducible refine Below.drew ?_) | (simp; done) | (simp; omega) | omega))), by (simp <;> omega), by (simp <;> omega), by (simp <;> omega)⟩
          case rest =>
            obtain ⟨B10, B11, rfl, rfl, ff, tt, hb, ⟨hs1, hs2', hs3⟩, hs10, hs11⟩ := hcut
            obtain ⟨f0, f1, f2, f3⟩ := ff
            obtain ⟨t0, t1, t2, t3⟩ := tt
            obtain ⟨c0, c1, c2, c3⟩ := SS8.out.below (C := W8.heap.size) (by omega) hb
            obtain ⟨l0, l1, l2, l3⟩ := LL8.out.below (C := W8.heap.size) (by omega) hb
            obtain ⟨h0, h1, h2, h3⟩ := HH8.out.below (C := W8.heap.size) (by omega) hb
            have hszc := hb.size
            have SSc := Lib.hid (show Own4 wc w.heap.size x1 y1 x2 y2 from ⟨c0, c1, c2, c3⟩)
            have LLc := Lib.hid (show OwnFr wc (w.heap.size + 1 + 1) low from ⟨l0, l1, l2, l3⟩)
            have HHc := Lib.hid (show OwnFr wc (w.heap.size + 1 + 1 + 1) high from ⟨h0, h1, h2, h3⟩)
            have HXC := Lib.hid (HX8.out.trans (hb.mono (show w.heap.size ≤ W8.heap.size by omega)))
            clear a0 a1 a2
            clear hb
            by_cases hn : x2 - x1 < 0
            · have g1 : q1' = pT := by rw [HP1.out, if_pos hn]
              have g2 : q2' = pF := by rw [HP2.out, if_pos hn]
              subst g1 g2
              cases hb1 : low.lt q2' <;> cases hb2 : q1'.lt high
              · have HB1 := Lib.hid hb1
                have HB2 := Lib.hid hb2
                have HL1 := Lib.hid (show frMax low q2' = low by unfold frMax; rw [hb1]; rfl)
                have HH1 := Lib.hid (show frMin q1' high = high by unfold frMin; rw [hb2]; rfl)
                clear hb1 hb2
                go_wp2_with (first | (go_at_call 149; (with_reducible refine (below_any low q2' _ LF.out FF.out HB1.out).mono ?_); rintro e w' ⟨rfl, hb⟩; obtain ⟨pp, rfl⟩ := later_of_below hb; clear hb) | (go_at_call 149; (with_reducible refine (below_any q1' high _ FT.out HF.out HB2.out).mono ?_); rintro e w' ⟨rfl, hb⟩; obtain ⟨pp, rfl⟩ := later_of_below hb; clear hb))
                go_roundw
                case rel =>
                  have ll := LLc.out
                  have hh := HHc.out
                  refine ⟨1, by omega, by go_num, SSc.out.below (C := w.heap.size + 1 + 1) (by omega) (by (repeat' (first | with_reducible exact Below.refl _ _ | (with_reducible refine below_later_of ?_ ?_ _) | (with_reducible refine Below.alloc ?_ ?_ _) | (with_reducible refine Below.setCell ?_ ?_ _) | (with_reducible refine Below.drew ?_) | (simp; done) | (simp; omega) | omega))), ?_, ?_, by (simp <;> omega), HXC.out.trans (by (repeat' (first | with_reducible exact Below.refl _ _ | (with_reducible refine below_later_of ?_ ?_ _) | (with_reducible refine Below.alloc ?_ ?_ _) | (with_reducible refine Below.setCell ?_ ?_ _) | (with_reducible refine Below.drew ?_) | (simp; done) | (simp; omega) | omega))), fun _ => HR.out, fun h => by omega⟩
                  · rw [KL.out, HLO.out, HL1.out]
                    (repeat' (first | with_reducible assumption | with_reducible refine OwnFr.put (p := low) ?_ | (with_reducible refine OwnFr.keep ?_ ?_) | (with_reducible refine OwnFr.then ?_ ?_) | omega | (simp; omega)))
                  · rw [KH.out, HHI.out, HH1.out]
                    (repeat' (first | with_reducible assumption | with_reducible refine OwnFr.put (p := high) ?_ | (with_reducible refine OwnFr.keep ?_ ?_) | (with_reducible refine OwnFr.then ?_ ?_) | omega | (simp; omega)))
                case measure => simp [intOf]
              · have HB1 := Lib.hid hb1
                have HB2 := Lib.hid hb2
                have HL1 := Lib.hid (show frMax low q2' = low by unfold frMax; rw [hb1]; rfl)
                have HH1 := Lib.hid (show frMin q1' high = q1' by unfold frMin; rw [hb2]; rfl)
                clear hb1 hb2
                go_wp2_with (first | (go_at_call 149; (with_reducible refine (below_any low q2' _ LF.out FF.out HB1.out).mono ?_); rintro e w' ⟨rfl, hb⟩; obtain ⟨pp, rfl⟩ := later_of_below hb; clear hb) | (go_at_call 149; (with_reducible refine (below_any q1' high _ FT.out HF.out HB2.out).mono ?_); rintro e w' ⟨rfl, hb⟩; obtain ⟨pp, rfl⟩ := later_of_below hb; clear hb))
                go_roundw
                case rel =>
                  have ll := LLc.out
                  have hh := HHc.out
                  refine ⟨1, by omega, by go_num, SSc.out.below (C := w.heap.size + 1 + 1) (by omega) (by (repeat' (first | with_reducible exact Below.refl _ _ | (with_reducible refine below_later_of ?_ ?_ _) | (with_reducible refine Below.alloc ?_ ?_ _) | (with_reducible refine Below.setCell ?_ ?_ _) | (with_reducible refine Below.drew ?_) | (simp; done) | (simp; omega) | omega))), ?_, ?_, by (simp <;> omega), HXC.out.trans (by (repeat' (first | with_reducible exact Below.refl _ _ | (with_reducible refine below_later_of ?_ ?_ _) | (with_reducible refine Below.alloc ?_ ?_ _) | (with_reducible refine Below.setCell ?_ ?_ _) | (with_reducible refine Below.drew ?_) | (simp; done) | (simp; omega) | omega))), fun _ => HR.out, fun h => by omega⟩
                  · rw [KL.out, HLO.out, HL1.out]
                    (repeat' (first | with_reducible assumption | with_reducible refine OwnFr.put (p := low) ?_ | (with_reducible refine OwnFr.keep ?_ ?_) | (with_reducible refine OwnFr.then ?_ ?_) | omega | (simp; omega)))
                  · rw [KH.out, HHI.out, HH1.out]
                    (repeat' (first | with_reducible assumption | with_reducible refine OwnFr.put (p := high) ?_ | (with_reducible refine OwnFr.keep ?_ ?_) | (with_reducible refine OwnFr.then ?_ ?_) | omega | (simp; omega)))
                case measure => simp [intOf]
              · have HB1 := Lib.hid hb1
                have HB2 := Lib.hid hb2
                have HL1 := Lib.hid (show frMax low q2' = q2' by unfold frMax; rw [hb1]; rfl)
                have HH1 := Lib.hid (show frMin q1' high = high by unfold frMin; rw [hb2]; rfl)
                clear hb1 hb2
                go_wp2_with (first | (go_at_call 149; (with_reducible refine (below_any low q2' _ LF.out FF.out HB1.out).mono ?_); rintro e w' ⟨rfl, hb⟩; obtain ⟨pp, rfl⟩ := later_of_below hb; clear hb) | (go_at_call 149; (with_reducible refine (below_any q1' high _ FT.out HF.out HB2.out).mono ?_); rintro e w' ⟨rfl, hb⟩; obtain ⟨pp, rfl⟩ := later_of_below hb; clear hb))
                go_roundw
                case rel =>
                  have ll := LLc.out
                  have hh := HHc.out
                  refine ⟨1, by omega, by go_num, SSc.out.below (C := w.heap.size + 1 + 1) (by omega) (by (repeat' (first | with_reducible exact Below.refl _ _ | (with_reducible refine below_later_of ?_ ?_ _) | (with_reducible refine Below.alloc ?_ ?_ _) | (with_reducible refine Below.setCell ?_ ?_ _) | (with_reducible refine Below.drew ?_) | (simp; done) | (simp; omega) | omega))), ?_, ?_, by (simp <;> omega), HXC.out.trans (by (repeat' (first | with_reducible exact Below.refl _ _ | (with_reducible refine below_later_of ?_ ?_ _) | (with_reducible refine Below.alloc ?_ ?_ _) | (with_reducible refine Below.setCell ?_ ?_ _) | (with_reducible refine Below.drew ?_) | (simp; done) | (simp; omega) | omega))), fun _ => HR.out, fun h => by omega⟩
                  · rw [KL.out, HLO.out, HL1.out]
                    (repeat' (first | with_reducible assumption | with_reducible refine OwnFr.put (p := low) ?_ | (with_reducible refine OwnFr.keep ?_ ?_) | (with_reducible refine OwnFr.then ?_ ?_) | omega | (simp; omega)))
                  · rw [KH.out, HHI.out, HH1.out]
                    (repeat' (first | with_reducible assumption | with_reducible refine OwnFr.put (p := high) ?_ | (with_reducible refine OwnFr.keep ?_ ?_) | (with_reducible refine OwnFr.then ?_ ?_) | omega | (simp; omega)))
                case measure => simp [intOf]
              · have HB1 := Lib.hid hb1
                have HB2 := Lib.hid hb2
                have HL1 := Lib.hid (show frMax low q2' = q2' by unfold frMax; rw [hb1]; rfl)
                have HH1 := Lib.hid (show frMin q1' high = q1' by unfold frMin; rw [hb2]; rfl)
                clear hb1 hb2
                go_wp2_with (first | (go_at_call 149; (with_reducible refine (below_any low q2' _ LF.out FF.out HB1.out).mono ?_); rintro e w' ⟨rfl, hb⟩; obtain ⟨pp, rfl⟩ := later_of_below hb; clear hb) | (go_at_call 149; (with_reducible refine (below_any q1' high _ FT.out HF.out HB2.out).mono ?_); rintro e w' ⟨rfl, hb⟩; obtain ⟨pp, rfl⟩ := later_of_below hb; clear hb))
                go_roundw
                case rel =>
                  have ll := LLc.out
                  have hh := HHc.out
                  refine ⟨1, by omega, by go_num, SSc.out.below (C := w.heap.size + 1 + 1) (by omega) (by (repeat' (first | with_reducible exact Below.refl _ _ | (with_reducible refine below_later_of ?_ ?_ _) | (with_reducible refine Below.alloc ?_ ?_ _) | (with_reducible refine Below.setCell ?_ ?_ _) | (with_reducible refine Below.drew ?_) | (simp; done) | (simp; omega) | omega))), ?_, ?_, by (simp <;> omega), HXC.out.trans (by (repeat' (first | with_reducible exact Below.refl _ _ | (with_reducible refine below_later_of ?_ ?_ _) | (with_reducible refine Below.alloc ?_ ?_ _) | (with_reducible refine Below.setCell ?_ ?_ _) | (with_reducible refine Below.drew ?_) | (simp; done) | (simp; omega) | omega))), fun _ => HR.out, fun h => by omega⟩
                  · rw [KL.out, HLO.out, HL1.out]
                    (repeat' (first | with_reducible assumption | with_reducible refine OwnFr.put (p := low) ?_ | (with_reducible refine OwnFr.keep ?_ ?_) | (with_reducible refine OwnFr.then ?_ ?_) | omega | (simp; omega)))
                  · rw [KH.out, HHI.out, HH1.out]
                    (repeat' (first | with_reducible assumption | with_reducible refine OwnFr.put (p := high) ?_ | (with_reducible refine OwnFr.keep ?_ ?_) | (with_reducible refine OwnFr.then ?_ ?_) | omega | (simp; omega)))
                case measure => simp [intOf]
            · have g1 : q1' = pF := by rw [HP1.out, if_neg hn]
              have g2 : q2' = pT := by rw [HP2.out, if_neg hn]
              subst g1 g2
              cases hb1 : low.lt q1' <;> cases hb2 : q2'.lt high
              · have HB1 := Lib.hid hb1
                have HB2 := Lib.hid hb2
                have HL1 := Lib.hid (show frMax low q1' = low by unfold frMax; rw [hb1]; rfl)
                have HH1 := Lib.hid (show frMin q2' high = high by unfold frMin; rw [hb2]; rfl)
                clear hb1 hb2
                go_wp2_with (first | (go_at_call 149; (with_reducible refine (below_any low q1' _ LF.out FF.out HB1.out).mono ?_); rintro e w' ⟨rfl, hb⟩; obtain ⟨pp, rfl⟩ := later_of_below hb; clear hb) | (go_at_call 149; (with_reducible refine (below_any q2' high _ FT.out HF.out HB2.out).mono ?_); rintro e w' ⟨rfl, hb⟩; obtain ⟨pp, rfl⟩ := later_of_below hb; clear hb))
                go_roundw
                case rel =>
                  have ll := LLc.out
                  have hh := HHc.out
                  refine ⟨1, by omega, by go_num, SSc.out.below (C := w.heap.size + 1 + 1) (by omega) (by (repeat' (first | with_reducible exact Below.refl _ _ | (with_reducible refine below_later_of ?_ ?_ _) | (with_reducible refine Below.alloc ?_ ?_ _) | (with_reducible refine Below.setCell ?_ ?_ _) | (with_reducible refine Below.drew ?_) | (simp; done) | (simp; omega) | omega))), ?_, ?_, by (simp <;> omega), HXC.out.trans (by (repeat' (first | with_reducible exact Below.refl _ _ | (with_reducible refine below_later_of ?_ ?_ _) | (with_reducible refine Below.alloc ?_ ?_ _) | (with_reducible refine Below.setCell ?_ ?_ _) | (with_reducible refine Below.drew ?_) | (simp; done) | (simp; omega) | omega))), fun _ => HR.out, fun h => by omega⟩
                  · rw [KL.out, HLO.out, HL1.out]
                    (repeat' (first | with_reducible assumption | with_reducible refine OwnFr.put (p := low) ?_ | (with_reducible refine OwnFr.keep ?_ ?_) | (with_reducible refine OwnFr.then ?_ ?_) | omega | (simp; omega)))
                  · rw [KH.out, HHI.out, HH1.out]
                    (repeat' (first | with_reducible assumption | with_reducible refine OwnFr.put (p := high) ?_ | (with_reducible refine OwnFr.keep ?_ ?_) | (with_reducible refine OwnFr.then ?_ ?_) | omega | (simp; omega)))
                case measure => simp [intOf]
              · have HB1 := Lib.hid hb1
                have HB2 := Lib.hid hb2
                have HL1 := Lib.hid (show frMax low q1' = low by unfold frMax; rw [hb1]; rfl)
                have HH1 := Lib.hid (show frMin q2' high = q2' by unfold frMin; rw [hb2]; rfl)
                clear hb1 hb2
                go_wp2_with (first | (go_at_call 149; (with_reducible refine (below_any low q1' _ LF.out FF.out HB1.out).mono ?_); rintro e w' ⟨rfl, hb⟩; obtain ⟨pp, rfl⟩ := later_of_below hb; clear hb) | (go_at_call 149; (with_reducible refine (below_any q2' high _ FT.out HF.out HB2.out).mono ?_); rintro e w' ⟨rfl, hb⟩; obtain ⟨pp, rfl⟩ := later_of_below hb; clear hb))
                go_roundw
                case rel =>
                  have ll := LLc.out
                  have hh := HHc.out
                  refine ⟨1, by omega, by go_num, SSc.out.below (C := w.heap.size + 1 + 1) (by omega) (by (repeat' (first | with_reducible exact Below.refl _ _ | (with_reducible refine below_later_of ?_ ?_ _) | (with_reducible refine Below.alloc ?_ ?_ _) | (with_reducible refine Below.setCell ?_ ?_ _) | (with_reducible refine Below.drew ?_) | (simp; done) | (simp; omega) | omega))), ?_, ?_, by (simp <;> omega), HXC.out.trans (by (repeat' (first | with_reducible exact Below.refl _ _ | (with_reducible refine below_later_of ?_ ?_ _) | (with_reducible refine Below.alloc ?_ ?_ _) | (with_reducible refine Below.setCell ?_ ?_ _) | (with_reducible refine Below.drew ?_) | (simp; done) | (simp; omega) | omega))), fun _ => HR.out, fun h => by omega⟩
                  · rw [KL.out, HLO.out, HL1.out]
                    (repeat' (first | with_reducible assumption | with_reducible refine OwnFr.put (p := low) ?_ | (with_reducible refine OwnFr.keep ?_ ?_) | (with_reducible refine OwnFr.then ?_ ?_) | omega | (simp; omega)))
                  · rw [KH.out, HHI.out, HH1.out]
                    (repeat' (first | with_reducible assumption | with_reducible refine OwnFr.put (p := high) ?_ | (with_reducible refine OwnFr.keep ?_ ?_) | (with_reducible refine OwnFr.then ?_ ?_) | omega | (simp; omega)))
                case measure => simp [intOf]
              · have HB1 := Lib.hid hb1
                have HB2 := Lib.hid hb2
                have HL1 := Lib.hid (show frMax low q1' = q1' by unfold frMax; rw [hb1]; rfl)
                have HH1 := Lib.hid (show frMin q2' high = high by unfold frMin; rw [hb2]; rfl)
                clear hb1 hb2
                go_wp2_with (first | (go_at_call 149; (with_reducible refine (below_any low q1' _ LF.out FF.out HB1.out).mono ?_); rintro e w' ⟨rfl, hb⟩; obtain ⟨pp, rfl⟩ := later_of_below hb; clear hb) | (go_at_call 149; (with_reducible refine (below_any q2' high _ FT.out HF.out HB2.out).mono ?_); rintro e w' ⟨rfl, hb⟩; obtain ⟨pp, rfl⟩ := later_of_below hb; clear hb))
                go_roundw
                case rel =>
                  have ll := LLc.out
                  have hh := HHc.out
                  refine ⟨1, by omega, by go_num, SSc.out.below (C := w.heap.size + 1 + 1) (by omega) (by (repeat' (first | with_reducible exact Below.refl _ _ | (with_reducible refine below_later_of ?_ ?_ _) | (with_reducible refine Below.alloc ?_ ?_ _) | (with_reducible refine Below.setCell ?_ ?_ _) | (with_reducible refine Below.drew ?_) | (simp; done) | (simp; omega) | omega))), ?_, ?_, by (simp <;> omega), HXC.out.trans (by (repeat' (first | with_reducible exact Below.refl _ _ | (with_reducible refine below_later_of ?_ ?_ _) | (with_reducible refine Below.alloc ?_ ?_ _) | (with_reducible refine Below.setCell ?_ ?_ _) | (with_reducible refine Below.drew ?_) | (simp; done) | (simp; omega) | omega))), fun _ => HR.out, fun h => by omega⟩
                  · rw [KL.out, HLO.out, HL1.out]
                    (repeat' (first | with_reducible assumption | with_reducible refine OwnFr.put (p := low) ?_ | (with_reducible refine OwnFr.keep ?_ ?_) | (with_reducible refine OwnFr.then ?_ ?_) | omega | (simp; omega)))
                  · rw [KH.out, HHI.out, HH1.out]
                    (repeat' (first | with_reducible assumption | with_reducible refine OwnFr.put (p := high) ?_ | (with_reducible refine OwnFr.keep ?_ ?_) | (with_reducible refine OwnFr.then ?_ ?_) | omega | (simp; omega)))
                case measure => simp [intOf]
              · have HB1 := Lib.hid hb1
                have HB2 := Lib.hid hb2
                have HL1 := Lib.hid (show frMax low q1' = q1' by unfold frMax; rw [hb1]; rfl)
                have HH1 := Lib.hid (show frMin q2' high = q2' by unfold frMin; rw [hb2]; rfl)
                clear hb1 hb2
                go_wp2_with (first | (go_at_call 149; (with_reducible refine (below_any low q1' _ LF.out FF.out HB1.out).mono ?_); rintro e w' ⟨rfl, hb⟩; obtain ⟨pp, rfl⟩ := later_of_below hb; clear hb) | (go_at_call 149; (with_reducible refine (below_any q2' high _ FT.out HF.out HB2.out).mono ?_); rintro e w' ⟨rfl, hb⟩; obtain ⟨pp, rfl⟩ := later_of_below hb; clear hb))
                go_roundw
                case rel =>
                  have ll := LLc.out
                  have hh := HHc.out
                  refine ⟨1, by omega, by go_num, SSc.out.below (C := w.heap.size + 1 + 1) (by omega) (by (repeat' (first | with_reducible exact Below.refl _ _ | (with_reducible refine below_later_of ?_ ?_ _) | (with_reducible refine Below.alloc ?_ ?_ _) | (with_reducible refine Below.setCell ?_ ?_ _) | (with_reducible refine Below.drew ?_) | (simp; done) | (simp; omega) | omega))), ?_, ?_, by (simp <;> omega), HXC.out.trans (by (repeat' (first | with_reducible exact Below.refl _ _ | (with_reducible refine below_later_of ?_ ?_ _) | (with_reducible refine Below.alloc ?_ ?_ _) | (with_reducible refine Below.setCell ?_ ?_ _) | (with_reducible refine Below.drew ?_) | (simp; done) | (simp; omega) | omega))), fun _ => HR.out, fun h => by omega⟩
                  · rw [KL.out, HLO.out, HL1.out]
                    (repeat' (first | with_reducible assumption | with_reducible refine OwnFr.put (p := low) ?_ | (with_reducible refine OwnFr.keep ?_ ?_) | (with_reducible refine OwnFr.then ?_ ?_) | omega | (simp; omega)))
                  · rw [KH.out, HHI.out, HH1.out]
                    (repeat' (first | with_reducible assumption | with_reducible refine OwnFr.put (p := high) ?_ | (with_reducible refine OwnFr.keep ?_ ?_) | (with_reducible refine OwnFr.then ?_ ?_) | omega | (simp; omega)))
                case measure => simp [intOf]
      · rw [K.out.2.1] at ll
        rw [K.out.2.2.2.2.1] at hh
        have HNO := Lib.hid (HNY.out (N1.out (by omega)))
        have lf : (axLow x1 x2 lx hx low0).Fit := axLow_fit HM.out.1 HM.out.2.2.1 HM.out.2.2.2.2.1 HM.out.2.2.2.2.2.2.1 (by unfold Fr.Fit Wide low0; dsimp only; omega)
        have hf : (axHigh x1 x2 lx hx high0).Fit := axHigh_fit HM.out.1 HM.out.2.2.1 HM.out.2.2.2.2.1 HM.out.2.2.2.2.2.2.1 (by unfold Fr.Fit Wide high0; dsimp only; omega)
        obtain ⟨low, hlow⟩ : ∃ p, p = axLow x1 x2 lx hx low0 := ⟨_, rfl⟩
        obtain ⟨high, hhigh⟩ : ∃ p, p = axHigh x1 x2 lx hx high0 := ⟨_, rfl⟩
        rw [← hlow] at lf
        rw [← hhigh] at hf
        rw [← hlow] at ll
        rw [← hhigh] at hh
        have LF := Lib.hid lf
        have HF := Lib.hid hf
        have LL := Lib.hid ll
        have HH := Lib.hid hh
        have HLW := Lib.hid hlow
        have HHG := Lib.hid hhigh
        obtain ⟨l0, l1, l2, l3⟩ := ll
        obtain ⟨h0, h1, h2, h3⟩ := hh
        clear lf hf hlow hhigh
        have KL := Lib.hid (show lowK ⟨x1, y1, x2, y2⟩ lx ly hx hy 2 = axLow y1 y2 ly hy low by rw [HLW.out]; exact K.out.2.2.1)
        have KH := Lib.hid (show highK ⟨x1, y1, x2, y2⟩ lx ly hx hy 2 = axHigh y1 y2 ly hy high by rw [HHG.out]; exact K.out.2.2.2.2.2)
        go_wp2
        refine wp_region_calm (by kernel_rfl) (by kernel_rfl) ?_
        repeat (go_big_quiet_step (fail))
        refine wpQuiet_nil ?_
        rintro _ ⟨q1, rfl⟩
        by_cases hd : y2 - y1 = 0
        · have b1 : (y2 - y1 == 0) = true := by simpa using hd
          by_cases h1 : y1 ≤ ly
          · have d1 : decide (y1 ≤ ly) = true := by simpa using h1
            have HR := Lib.hid (HNO.out (by unfold axNo; rw [decide_eq_true hd, d1]; rfl))
            go_wp2
            refine wp_region_calm (by kernel_rfl) (by kernel_rfl) ?_
            repeat (go_big_quiet_step (fail))
            refine wpQuiet_nil ?_
            rintro _ ⟨q2, rfl⟩
            go_wp2
            go_ret
            exact ⟨ret_bool HR.out.symm, HX.out.trans (below_mono_of hsz (by (repeat' (first | with_reducible exact Below.refl _ _ | (with_reducible refine below_later_of ?_ ?_ _) | (with_reducible refine Below.alloc ?_ ?_ _) | (with_reducible refine Below.setCell ?_ ?_ _) | (with_reducible refine Below.drew ?_) | (simp; done) | (simp; omega) | omega))))⟩
          · have d1 : decide (y1 ≤ ly) = false := by simpa using h1
            by_cases h2 : hy ≤ y1
            · have d2 : decide (hy ≤ y1) = true := by simpa using h2
              have HR := Lib.hid (HNO.out (by unfold axNo; rw [decide_eq_true hd, d1, d2]; rfl))
              go_wp2
              refine wp_region_calm (by kernel_rfl) (by kernel_rfl) ?_
              repeat (go_big_quiet_step (fail))
              refine wpQuiet_nil ?_
              rintro _ ⟨q2, rfl⟩
              go_wp2
              go_ret
              exact ⟨ret_bool HR.out.symm, HX.out.trans (below_mono_of hsz (by (repeat' (first | with_reducible exact Below.refl _ _ | (with_reducible refine below_later_of ?_ ?_ _) | (with_reducible refine Below.alloc ?_ ?_ _) | (with_reducible refine Below.setCell ?_ ?_ _) | (with_reducible refine Below.drew ?_) | (simp; done) | (simp; omega) | omega))))⟩
            · have d2 : decide (hy ≤ y1) = false := by simpa using h2
              have HR := Lib.hid (show axNo y1 y2 ly hy = false by unfold axNo; rw [d1, d2]; simp)
              have HL0 := Lib.hid (show axLow y1 y2 ly hy low = low by unfold axLow; rw [if_pos hd])
              have HH0 := Lib.hid (show axHigh y1 y2 ly hy high = high by unfold axHigh; rw [if_pos hd])
              go_wp2
              refine wp_region_calm (by kernel_rfl) (by kernel_rfl) ?_
              repeat (go_big_quiet_step (fail))
              refine wpQuiet_nil ?_
              rintro _ ⟨q2, rfl⟩
              go_wp2
              go_roundw
              case rel => exact ⟨2, by omega, by go_num, SS.out.below (C := wr.heap.size) (by omega) (by (repeat' (first | with_reducible exact Below.refl _ _ | (with_reducible refine below_later_of ?_ ?_ _) | (with_reducible refine Below.alloc ?_ ?_ _) | (with_reducible refine Below.setCell ?_ ?_ _) | (with_reducible refine Below.drew ?_) | (simp; done) | (simp; omega) | omega))), by rw [KL.out, HL0.out]; exact LL.out.below (C := wr.heap.size) (by omega) (by (repeat' (first | with_reducible exact Below.refl _ _ | (with_reducible refine below_later_of ?_ ?_ _) | (with_reducible refine Below.alloc ?_ ?_ _) | (with_reducible refine Below.setCell ?_ ?_ _) | (with_reducible refine Below.drew ?_) | (simp; done) | (simp; omega) | omega))), by rw [KH.out, HH0.out]; exact HH.out.below (C := wr.heap.size) (by omega) (by (repeat' (first | with_reducible exact Below.refl _ _ | (with_reducible refine below_later_of ?_ ?_ _) | (with_reducible refine Below.alloc ?_ ?_ _) | (with_reducible refine Below.setCell ?_ ?_ _) | (with_reducible refine Below.drew ?_) | (simp; done) | (simp; omega) | omega))), by (simp <;> omega), HX.out.trans (below_mono_of hsz (by (repeat' (first | with_reducible exact Below.refl _ _ | (with_reducible refine below_later_of ?_ ?_ _) | (with_reducible refine Below.alloc ?_ ?_ _) | (with_reducible refine Below.setCell ?_ ?_ _) | (with_reducible refine Below.drew ?_) | (simp; done) | (simp; omega) | omega)))), fun _ => N1.out (by omega), fun _ => HR.out⟩
              case measure => simp [intOf]
        · have b1 : (y2 - y1 == 0) = false := by simpa using hd
          have HLO := Lib.hid (axLow_eq (lo := ly) (hi := hy) low hd)
          have HHI := Lib.hid (axHigh_eq (lo := ly) (hi := hy) high hd)
          have HR := Lib.hid (axNo_ne (lo := ly) (hi := hy) hd)
          have hff := ax_fit (f := y1) (t := y2) (lo := ly) (hi := hy) (by assumption) (by assumption) (by assumption) (by assumption)
          have hF1 : axF y1 y2 ly hy = if y2 - y1 < 0 then ⟨y1 - hy, y1 - y2⟩ else ⟨ly - y1, y2 - y1⟩ := rfl
          have hT1 : axT y1 y2 ly hy = if y2 - y1 < 0 then ⟨y1 - ly, y1 - y2⟩ else ⟨hy - y1, y2 - y1⟩ := rfl
          generalize axF y1 y2 ly hy = pF at *
          generalize axT y1 y2 ly hy = pT at *
          have FF := Lib.hid hff.1
          have FT := Lib.hid hff.2
          clear hff
          have hp1 : frOf (ly - y1) (y2 - y1) = if y2 - y1 < 0 then pT else pF := by
            rw [hF1, hT1]
            unfold frOf
            split
            · rw [fr_ext (show -(ly - y1) = y1 - ly by omega) (show -(y2 - y1) = y1 - y2 by omega)]
            · rfl
          have hp2 : frOf (hy - y1) (y2 - y1) = if y2 - y1 < 0 then pF else pT := by
            rw [hF1, hT1]
            unfold frOf
            split
            · rw [fr_ext (show -(hy - y1) = y1 - hy by omega) (show -(y2 - y1) = y1 - y2 by omega)]
            · rfl
          generalize hq1 : frOf (ly - y1) (y2 - y1) = q1' at *
          generalize hq2 : frOf (hy - y1) (y2 - y1) = q2' at *
          have HC1 := Lib.hid (show ∀ w, Calls Try.prog 148 #[.int .i64 (IntKind.i64.wrap (ly - y1)), .int .i64 (y2 - y1)] w fun e w' => e = .returned (.agg #[.int .i64 q1'.n, .int .i64 q1'.d]) ∧ Below w.heap.size w w' from fun w => by rw [IntWalk.i64_in _ (by omega)]; exact partOf_any _ _ w (by unfold Wide; omega) (by unfold Wide; omega) hq1)
          have HC2 := Lib.hid (show ∀ w, Calls Try.prog 148 #[.int .i64 (IntKind.i64.wrap (hy - y1)), .int .i64 (y2 - y1)] w fun e w' => e = .returned (.agg #[.int .i64 q2'.n, .int .i64 q2'.d]) ∧ Below w.heap.size w w' from fun w => by rw [IntWalk.i64_in _ (by omega)]; exact partOf_any _ _ w (by unfold Wide; omega) (by unfold Wide; omega) hq2)
          have HP1 := Lib.hid hp1
          have HP2 := Lib.hid hp2
          clear hp1 hp2 hF1 hT1 hq1 hq2
          go_wp2
          obtain ⟨B8, hB8⟩ : ∃ B8, B8 = wr.heap.size := ⟨_, rfl⟩
          refine wp_worldX (fun W => (W.cell? ⟨B8, 0, none⟩ = some (.int .i64 ly) ∧ W.cell? ⟨B8, 1, none⟩ = some (.int .i64 hy)) ∧ Below wr.heap.size wr W ∧ B8 < W.heap.size) ⟨by subst hB8; exact ⟨(by (first | (simp [go_sem]; done) | simp [go_sem, ↓IntWalk.iteOmega])), (by (first | (simp [go_sem]; done) | simp [go_sem, ↓IntWalk.iteOmega]))⟩, (by (repeat' (first | with_reducible exact Below.refl _ _ | (with_reducible refine below_later_of ?_ ?_ _) | (with_reducible refine Below.alloc ?_ ?_ _) | (with_reducible refine Below.setCell ?_ ?_ _) | (with_reducible refine Below.drew ?_) | (simp; done) | (simp; omega) | omega))), by subst hB8; (simp <;> omega)⟩ ?_
          rw [← hB8]
          rintro W8 ⟨⟨a0, a1⟩, hb8, hs8⟩
          have hsz8 := hb8.size
          have SS8 := Lib.hid (SS.out.below (C := B8) (by omega) hb8)
          have LL8 := Lib.hid (LL.out.below (C := B8) (by omega) hb8)
          have HH8 := Lib.hid (HH.out.below (C := B8) (by omega) hb8)
          have HCS := Lib.hid (show ∀ W', Below W8.heap.size W8 W' → W'.cell? ⟨w.heap.size, 1, none⟩ = some (.int .i64 y1) ∧ W'.cell? ⟨B8, 0, none⟩ = some (.int .i64 ly) ∧ W'.cell? ⟨B8, 1, none⟩ = some (.int .i64 hy) from fun W' hb => ⟨(hb.cell (show w.heap.size < W8.heap.size by omega)).trans ((hb8.cell (show w.heap.size < B8 by omega)).trans c1), (hb.cell hs8).trans a0, (hb.cell hs8).trans a1⟩)
          have HX8 := Lib.hid (HX.out.trans (hb8.mono (show w.heap.size ≤ B8 by omega)))
          obtain ⟨a2, -, -⟩ := HCS.out W8 (Below.refl _ _)
          clear c0 c1 c2 c3 l0 l1 l2 l3 h0 h1 h2 h3 b1 hb8 hB8
          go_cut [10, 11] from 46 to 63 (fun X Y wx => ∃ B10 B11, X = .pointer (some ⟨B10, 0, none⟩) ∧ Y = .pointer (some ⟨B11, 0, none⟩) ∧ OwnFr wx B10 q1' ∧ OwnFr wx B11 q2' ∧ Below W8.heap.size W8 wx ∧ (W8.heap.size ≤ B10 ∧ W8.heap.size ≤ B11 ∧ B10 ≠ B11) ∧ B10 < wx.heap.size ∧ B11 < wx.heap.size)
          case first =>
            go_region_held3 (fun W' => W'.cell? ⟨w.heap.size, 1, none⟩ = some (.int .i64 y1) ∧ W'.cell? ⟨B8, 0, none⟩ = some (.int .i64 ly) ∧ W'.cell? ⟨B8, 1, none⟩ = some (.int .i64 hy)) (exact HCS.out _ (by (repeat' (first | with_reducible exact Below.refl _ _ | (with_reducible refine below_later_of ?_ ?_ _) | (with_reducible refine Below.alloc ?_ ?_ _) | (with_reducible refine Below.setCell ?_ ?_ _) | (with_reducible refine Below.drew ?_) | (simp; done) | (simp; omega) | omega)))) (first | (go_at_call 148; (with_reducible refine (HC1.out _).mono ?_); rintro e w' ⟨rfl, hb⟩; obtain ⟨pp, rfl⟩ := later_of_below hb; clear hb) | (go_at_call 148; (with_reducible refine (HC2.out _).mono ?_); rintro e w' ⟨rfl, hb⟩; obtain ⟨pp, rfl⟩ := later_of_below hb; clear hb))
            all_goals
              go_wp2_with fail
              go_meet
              exact ⟨_, _, rfl, rfl, ⟨(by (first | (simp [go_sem]; done) | simp [go_sem, ↓IntWalk.iteOmega])), (by (first | (simp [go_sem]; done) | simp [go_sem, ↓IntWalk.iteOmega])), (by (first | (simp [go_sem]; done) | simp [go_sem, ↓IntWalk.iteOmega])), (by (first | (simp [go_sem]; done) | simp [go_sem, ↓IntWalk.iteOmega]))⟩, ⟨(by (first | (simp [go_sem]; done) | simp [go_sem, ↓IntWalk.iteOmega])), (by (first | (simp [go_sem]; done) | simp [go_sem, ↓IntWalk.iteOmega])), (by (first | (simp [go_sem]; done) | simp [go_sem, ↓IntWalk.iteOmega])), (by (first | (simp [go_sem]; done) | simp [go_sem, ↓IntWalk.iteOmega]))⟩, (by (repeat' (first | with_reducible exact Below.refl _ _ | (with_reducible refine below_later_of ?_ ?_ _) | (with_reducible refine Below.alloc ?_ ?_ _) | (with_reducible refine Below.setCell ?_ ?_ _) | (with_reducible refine Below.drew ?_) | (simp; done) | (simp; omega) | omega))), by (simp <;> omega), by (simp <;> omega), by (simp <;> omega)⟩
          case rest =>
            obtain ⟨B10, B11, rfl, rfl, ff, tt, hb, ⟨hs1, hs2', hs3⟩, hs10, hs11⟩ := hcut
            obtain ⟨f0, f1, f2, f3⟩ := ff
            obtain ⟨t0, t1, t2, t3⟩ := tt
            obtain ⟨c0, c1, c2, c3⟩ := SS8.out.below (C := W8.heap.size) (by omega) hb
            obtain ⟨l0, l1, l2, l3⟩ := LL8.out.below (C := W8.heap.size) (by omega) hb
            obtain ⟨h0, h1, h2, h3⟩ := HH8.out.below (C := W8.heap.size) (by omega) hb
            have hszc := hb.size
            have SSc := Lib.hid (show Own4 wc w.heap.size x1 y1 x2 y2 from ⟨c0, c1, c2, c3⟩)
            have LLc := Lib.hid (show OwnFr wc (w.heap.size + 1 + 1) low from ⟨l0, l1, l2, l3⟩)
            have HHc := Lib.hid (show OwnFr wc (w.heap.size + 1 + 1 + 1) high from ⟨h0, h1, h2, h3⟩)
            have HXC := Lib.hid (HX8.out.trans (hb.mono (show w.heap.size ≤ W8.heap.size by omega)))
            clear a0 a1 a2
            clear hb
            by_cases hn : y2 - y1 < 0
            · have g1 : q1' = pT := by rw [HP1.out, if_pos hn]
              have g2 : q2' = pF := by rw [HP2.out, if_pos hn]
              subst g1 g2
              cases hb1 : low.lt q2' <;> cases hb2 : q1'.lt high
              · have HB1 := Lib.hid hb1
                have HB2 := Lib.hid hb2
                have HL1 := Lib.hid (show frMax low q2' = low by unfold frMax; rw [hb1]; rfl)
                have HH1 := Lib.hid (show frMin q1' high = high by unfold frMin; rw [hb2]; rfl)
                clear hb1 hb2
                go_wp2_with (first | (go_at_call 149; (with_reducible refine (below_any low q2' _ LF.out FF.out HB1.out).mono ?_); rintro e w' ⟨rfl, hb⟩; obtain ⟨pp, rfl⟩ := later_of_below hb; clear hb) | (go_at_call 149; (with_reducible refine (below_any q1' high _ FT.out HF.out HB2.out).mono ?_); rintro e w' ⟨rfl, hb⟩; obtain ⟨pp, rfl⟩ := later_of_below hb; clear hb))
                go_roundw
                case rel =>
                  have ll := LLc.out
                  have hh := HHc.out
                  refine ⟨2, by omega, by go_num, SSc.out.below (C := w.heap.size + 1 + 1) (by omega) (by (repeat' (first | with_reducible exact Below.refl _ _ | (with_reducible refine below_later_of ?_ ?_ _) | (with_reducible refine Below.alloc ?_ ?_ _) | (with_reducible refine Below.setCell ?_ ?_ _) | (with_reducible refine Below.drew ?_) | (simp; done) | (simp; omega) | omega))), ?_, ?_, by (simp <;> omega), HXC.out.trans (by (repeat' (first | with_reducible exact Below.refl _ _ | (with_reducible refine below_later_of ?_ ?_ _) | (with_reducible refine Below.alloc ?_ ?_ _) | (with_reducible refine Below.setCell ?_ ?_ _) | (with_reducible refine Below.drew ?_) | (simp; done) | (simp; omega) | omega))), fun _ => N1.out (by omega), fun _ => HR.out⟩
                  · rw [KL.out, HLO.out, HL1.out]
                    (repeat' (first | with_reducible assumption | with_reducible refine OwnFr.put (p := low) ?_ | (with_reducible refine OwnFr.keep ?_ ?_) | (with_reducible refine OwnFr.then ?_ ?_) | omega | (simp; omega)))
                  · rw [KH.out, HHI.out, HH1.out]
                    (repeat' (first | with_reducible assumption | with_reducible refine OwnFr.put (p := high) ?_ | (with_reducible refine OwnFr.keep ?_ ?_) | (with_reducible refine OwnFr.then ?_ ?_) | omega | (simp; omega)))
                case measure => simp [intOf]
              · have HB1 := Lib.hid hb1
                have HB2 := Lib.hid hb2
                have HL1 := Lib.hid (show frMax low q2' = low by unfold frMax; rw [hb1]; rfl)
                have HH1 := Lib.hid (show frMin q1' high = q1' by unfold frMin; rw [hb2]; rfl)
                clear hb1 hb2
                go_wp2_with (first | (go_at_call 149; (with_reducible refine (below_any low q2' _ LF.out FF.out HB1.out).mono ?_); rintro e w' ⟨rfl, hb⟩; obtain ⟨pp, rfl⟩ := later_of_below hb; clear hb) | (go_at_call 149; (with_reducible refine (below_any q1' high _ FT.out HF.out HB2.out).mono ?_); rintro e w' ⟨rfl, hb⟩; obtain ⟨pp, rfl⟩ := later_of_below hb; clear hb))
                go_roundw
                case rel =>
                  have ll := LLc.out
                  have hh := HHc.out
                  refine ⟨2, by omega, by go_num, SSc.out.below (C := w.heap.size + 1 + 1) (by omega) (by (repeat' (first | with_reducible exact Below.refl _ _ | (with_reducible refine below_later_of ?_ ?_ _) | (with_reducible refine Below.alloc ?_ ?_ _) | (with_reducible refine Below.setCell ?_ ?_ _) | (with_reducible refine Below.drew ?_) | (simp; done) | (simp; omega) | omega))), ?_, ?_, by (simp <;> omega), HXC.out.trans (by (repeat' (first | with_reducible exact Below.refl _ _ | (with_reducible refine below_later_of ?_ ?_ _) | (with_reducible refine Below.alloc ?_ ?_ _) | (with_reducible refine Below.setCell ?_ ?_ _) | (with_reducible refine Below.drew ?_) | (simp; done) | (simp; omega) | omega))), fun _ => N1.out (by omega), fun _ => HR.out⟩
                  · rw [KL.out, HLO.out, HL1.out]
                    (repeat' (first | with_reducible assumption | with_reducible refine OwnFr.put (p := low) ?_ | (with_reducible refine OwnFr.keep ?_ ?_) | (with_reducible refine OwnFr.then ?_ ?_) | omega | (simp; omega)))
                  · rw [KH.out, HHI.out, HH1.out]
                    (repeat' (first | with_reducible assumption | with_reducible refine OwnFr.put (p := high) ?_ | (with_reducible refine OwnFr.keep ?_ ?_) | (with_reducible refine OwnFr.then ?_ ?_) | omega | (simp; omega)))
                case measure => simp [intOf]
              · have HB1 := Lib.hid hb1
                have HB2 := Lib.hid hb2
                have HL1 := Lib.hid (show frMax low q2' = q2' by unfold frMax; rw [hb1]; rfl)
                have HH1 := Lib.hid (show frMin q1' high = high by unfold frMin; rw [hb2]; rfl)
                clear hb1 hb2
                go_wp2_with (first | (go_at_call 149; (with_reducible refine (below_any low q2' _ LF.out FF.out HB1.out).mono ?_); rintro e w' ⟨rfl, hb⟩; obtain ⟨pp, rfl⟩ := later_of_below hb; clear hb) | (go_at_call 149; (with_reducible refine (below_any q1' high _ FT.out HF.out HB2.out).mono ?_); rintro e w' ⟨rfl, hb⟩; obtain ⟨pp, rfl⟩ := later_of_below hb; clear hb))
                go_roundw
                case rel =>
                  have ll := LLc.out
                  have hh := HHc.out
                  refine ⟨2, by omega, by go_num, SSc.out.below (C := w.heap.size + 1 + 1) (by omega) (by (repeat' (first | with_reducible exact Below.refl _ _ | (with_reducible refine below_later_of ?_ ?_ _) | (with_reducible refine Below.alloc ?_ ?_ _) | (with_reducible refine Below.setCell ?_ ?_ _) | (with_reducible refine Below.drew ?_) | (simp; done) | (simp; omega) | omega))), ?_, ?_, by (simp <;> omega), HXC.out.trans (by (repeat' (first | with_reducible exact Below.refl _ _ | (with_reducible refine below_later_of ?_ ?_ _) | (with_reducible refine Below.alloc ?_ ?_ _) | (with_reducible refine Below.setCell ?_ ?_ _) | (with_reducible refine Below.drew ?_) | (simp; done) | (simp; omega) | omega))), fun _ => N1.out (by omega), fun _ => HR.out⟩
                  · rw [KL.out, HLO.out, HL1.out]
                    (repeat' (first | with_reducible assumption | with_reducible refine OwnFr.put (p := low) ?_ | (with_reducible refine OwnFr.keep ?_ ?_) | (with_reducible refine OwnFr.then ?_ ?_) | omega | (simp; omega)))
                  · rw [KH.out, HHI.out, HH1.out]
                    (repeat' (first | with_reducible assumption | with_reducible refine OwnFr.put (p := high) ?_ | (with_reducible refine OwnFr.keep ?_ ?_) | (with_reducible refine OwnFr.then ?_ ?_) | omega | (simp; omega)))
                case measure => simp [intOf]
              · have HB1 := Lib.hid hb1
                have HB2 := Lib.hid hb2
                have HL1 := Lib.hid (show frMax low q2' = q2' by unfold frMax; rw [hb1]; rfl)
                have HH1 := Lib.hid (show frMin q1' high = q1' by unfold frMin; rw [hb2]; rfl)
                clear hb1 hb2
                go_wp2_with (first | (go_at_call 149; (with_reducible refine (below_any low q2' _ LF.out FF.out HB1.out).mono ?_); rintro e w' ⟨rfl, hb⟩; obtain ⟨pp, rfl⟩ := later_of_below hb; clear hb) | (go_at_call 149; (with_reducible refine (below_any q1' high _ FT.out HF.out HB2.out).mono ?_); rintro e w' ⟨rfl, hb⟩; obtain ⟨pp, rfl⟩ := later_of_below hb; clear hb))
                go_roundw
                case rel =>
                  have ll := LLc.out
                  have hh := HHc.out
                  refine ⟨2, by omega, by go_num, SSc.out.below (C := w.heap.size + 1 + 1) (by omega) (by (repeat' (first | with_reducible exact Below.refl _ _ | (with_reducible refine below_later_of ?_ ?_ _) | (with_reducible refine Below.alloc ?_ ?_ _) | (with_reducible refine Below.setCell ?_ ?_ _) | (with_reducible refine Below.drew ?_) | (simp; done) | (simp; omega) | omega))), ?_, ?_, by (simp <;> omega), HXC.out.trans (by (repeat' (first | with_reducible exact Below.refl _ _ | (with_reducible refine below_later_of ?_ ?_ _) | (with_reducible refine Below.alloc ?_ ?_ _) | (with_reducible refine Below.setCell ?_ ?_ _) | (with_reducible refine Below.drew ?_) | (simp; done) | (simp; omega) | omega))), fun _ => N1.out (by omega), fun _ => HR.out⟩
                  · rw [KL.out, HLO.out, HL1.out]
                    (repeat' (first | with_reducible assumption | with_reducible refine OwnFr.put (p := low) ?_ | (with_reducible refine OwnFr.keep ?_ ?_) | (with_reducible refine OwnFr.then ?_ ?_) | omega | (simp; omega)))
                  · rw [KH.out, HHI.out, HH1.out]
                    (repeat' (first | with_reducible assumption | with_reducible refine OwnFr.put (p := high) ?_ | (with_reducible refine OwnFr.keep ?_ ?_) | (with_reducible refine OwnFr.then ?_ ?_) | omega | (simp; omega)))
                case measure => simp [intOf]
            · have g1 : q1' = pF := by rw [HP1.out, if_neg hn]
              have g2 : q2' = pT := by rw [HP2.out, if_neg hn]
              subst g1 g2
              cases hb1 : low.lt q1' <;> cases hb2 : q2'.lt high
              · have HB1 := Lib.hid hb1
                have HB2 := Lib.hid hb2
                have HL1 := Lib.hid (show frMax low q1' = low by unfold frMax; rw [hb1]; rfl)
                have HH1 := Lib.hid (show frMin q2' high = high by unfold frMin; rw [hb2]; rfl)
                clear hb1 hb2
                go_wp2_with (first | (go_at_call 149; (with_reducible refine (below_any low q1' _ LF.out FF.out HB1.out).mono ?_); rintro e w' ⟨rfl, hb⟩; obtain ⟨pp, rfl⟩ := later_of_below hb; clear hb) | (go_at_call 149; (with_reducible refine (below_any q2' high _ FT.out HF.out HB2.out).mono ?_); rintro e w' ⟨rfl, hb⟩; obtain ⟨pp, rfl⟩ := later_of_below hb; clear hb))
                go_roundw
                case rel =>
                  have ll := LLc.out
                  have hh := HHc.out
                  refine ⟨2, by omega, by go_num, SSc.out.below (C := w.heap.size + 1 + 1) (by omega) (by (repeat' (first | with_reducible exact Below.refl _ _ | (with_reducible refine below_later_of ?_ ?_ _) | (with_reducible refine Below.alloc ?_ ?_ _) | (with_reducible refine Below.setCell ?_ ?_ _) | (with_reducible refine Below.drew ?_) | (simp; done) | (simp; omega) | omega))), ?_, ?_, by (simp <;> omega), HXC.out.trans (by (repeat' (first | with_reducible exact Below.refl _ _ | (with_reducible refine below_later_of ?_ ?_ _) | (with_reducible refine Below.alloc ?_ ?_ _) | (with_reducible refine Below.setCell ?_ ?_ _) | (with_reducible refine Below.drew ?_) | (simp; done) | (simp; omega) | omega))), fun _ => N1.out (by omega), fun _ => HR.out⟩
                  · rw [KL.out, HLO.out, HL1.out]
                    (repeat' (first | with_reducible assumption | with_reducible refine OwnFr.put (p := low) ?_ | (with_reducible refine OwnFr.keep ?_ ?_) | (with_reducible refine OwnFr.then ?_ ?_) | omega | (simp; omega)))
                  · rw [KH.out, HHI.out, HH1.out]
                    (repeat' (first | with_reducible assumption | with_reducible refine OwnFr.put (p := high) ?_ | (with_reducible refine OwnFr.keep ?_ ?_) | (with_reducible refine OwnFr.then ?_ ?_) | omega | (simp; omega)))
                case measure => simp [intOf]
              · have HB1 := Lib.hid hb1
                have HB2 := Lib.hid hb2
                have HL1 := Lib.hid (show frMax low q1' = low by unfold frMax; rw [hb1]; rfl)
                have HH1 := Lib.hid (show frMin q2' high = q2' by unfold frMin; rw [hb2]; rfl)
                clear hb1 hb2
                go_wp2_with (first | (go_at_call 149; (with_reducible refine (below_any low q1' _ LF.out FF.out HB1.out).mono ?_); rintro e w' ⟨rfl, hb⟩; obtain ⟨pp, rfl⟩ := later_of_below hb; clear hb) | (go_at_call 149; (with_reducible refine (below_any q2' high _ FT.out HF.out HB2.out).mono ?_); rintro e w' ⟨rfl, hb⟩; obtain ⟨pp, rfl⟩ := later_of_below hb; clear hb))
                go_roundw
                case rel =>
                  have ll := LLc.out
                  have hh := HHc.out
                  refine ⟨2, by omega, by go_num, SSc.out.below (C := w.heap.size + 1 + 1) (by omega) (by (repeat' (first | with_reducible exact Below.refl _ _ | (with_reducible refine below_later_of ?_ ?_ _) | (with_reducible refine Below.alloc ?_ ?_ _) | (with_reducible refine Below.setCell ?_ ?_ _) | (with_reducible refine Below.drew ?_) | (simp; done) | (simp; omega) | omega))), ?_, ?_, by (simp <;> omega), HXC.out.trans (by (repeat' (first | with_reducible exact Below.refl _ _ | (with_reducible refine below_later_of ?_ ?_ _) | (with_reducible refine Below.alloc ?_ ?_ _) | (with_reducible refine Below.setCell ?_ ?_ _) | (with_reducible refine Below.drew ?_) | (simp; done) | (simp; omega) | omega))), fun _ => N1.out (by omega), fun _ => HR.out⟩
                  · rw [KL.out, HLO.out, HL1.out]
                    (repeat' (first | with_reducible assumption | with_reducible refine OwnFr.put (p := low) ?_ | (with_reducible refine OwnFr.keep ?_ ?_) | (with_reducible refine OwnFr.then ?_ ?_) | omega | (simp; omega)))
                  · rw [KH.out, HHI.out, HH1.out]
                    (repeat' (first | with_reducible assumption | with_reducible refine OwnFr.put (p := high) ?_ | (with_reducible refine OwnFr.keep ?_ ?_) | (with_reducible refine OwnFr.then ?_ ?_) | omega | (simp; omega)))
                case measure => simp [intOf]
              · have HB1 := Lib.hid hb1
                have HB2 := Lib.hid hb2
                have HL1 := Lib.hid (show frMax low q1' = q1' by unfold frMax; rw [hb1]; rfl)
                have HH1 := Lib.hid (show frMin q2' high = high by unfold frMin; rw [hb2]; rfl)
                clear hb1 hb2
                go_wp2_with (first | (go_at_call 149; (with_reducible refine (below_any low q1' _ LF.out FF.out HB1.out).mono ?_); rintro e w' ⟨rfl, hb⟩; obtain ⟨pp, rfl⟩ := later_of_below hb; clear hb) | (go_at_call 149; (with_reducible refine (below_any q2' high _ FT.out HF.out HB2.out).mono ?_); rintro e w' ⟨rfl, hb⟩; obtain ⟨pp, rfl⟩ := later_of_below hb; clear hb))
                go_roundw
                case rel =>
                  have ll := LLc.out
                  have hh := HHc.out
                  refine ⟨2, by omega, by go_num, SSc.out.below (C := w.heap.size + 1 + 1) (by omega) (by (repeat' (first | with_reducible exact Below.refl _ _ | (with_reducible refine below_later_of ?_ ?_ _) | (with_reducible refine Below.alloc ?_ ?_ _) | (with_reducible refine Below.setCell ?_ ?_ _) | (with_reducible refine Below.drew ?_) | (simp; done) | (simp; omega) | omega))), ?_, ?_, by (simp <;> omega), HXC.out.trans (by (repeat' (first | with_reducible exact Below.refl _ _ | (with_reducible refine below_later_of ?_ ?_ _) | (with_reducible refine Below.alloc ?_ ?_ _) | (with_reducible refine Below.setCell ?_ ?_ _) | (with_reducible refine Below.drew ?_) | (simp; done) | (simp; omega) | omega))), fun _ => N1.out (by omega), fun _ => HR.out⟩
                  · rw [KL.out, HLO.out, HL1.out]
                    (repeat' (first | with_reducible assumption | with_reducible refine OwnFr.put (p := low) ?_ | (with_reducible refine OwnFr.keep ?_ ?_) | (with_reducible refine OwnFr.then ?_ ?_) | omega | (simp; omega)))
                  · rw [KH.out, HHI.out, HH1.out]
                    (repeat' (first | with_reducible assumption | with_reducible refine OwnFr.put (p := high) ?_ | (with_reducible refine OwnFr.keep ?_ ?_) | (with_reducible refine OwnFr.then ?_ ?_) | omega | (simp; omega)))
                case measure => simp [intOf]
              · have HB1 := Lib.hid hb1
                have HB2 := Lib.hid hb2
                have HL1 := Lib.hid (show frMax low q1' = q1' by unfold frMax; rw [hb1]; rfl)
                have HH1 := Lib.hid (show frMin q2' high = q2' by unfold frMin; rw [hb2]; rfl)
                clear hb1 hb2
                go_wp2_with (first | (go_at_call 149; (with_reducible refine (below_any low q1' _ LF.out FF.out HB1.out).mono ?_); rintro e w' ⟨rfl, hb⟩; obtain ⟨pp, rfl⟩ := later_of_below hb; clear hb) | (go_at_call 149; (with_reducible refine (below_any q2' high _ FT.out HF.out HB2.out).mono ?_); rintro e w' ⟨rfl, hb⟩; obtain ⟨pp, rfl⟩ := later_of_below hb; clear hb))
                go_roundw
                case rel =>
                  have ll := LLc.out
                  have hh := HHc.out
                  refine ⟨2, by omega, by go_num, SSc.out.below (C := w.heap.size + 1 + 1) (by omega) (by (repeat' (first | with_reducible exact Below.refl _ _ | (with_reducible refine below_later_of ?_ ?_ _) | (with_reducible refine Below.alloc ?_ ?_ _) | (with_reducible refine Below.setCell ?_ ?_ _) | (with_reducible refine Below.drew ?_) | (simp; done) | (simp; omega) | omega))), ?_, ?_, by (simp <;> omega), HXC.out.trans (by (repeat' (first | with_reducible exact Below.refl _ _ | (with_reducible refine below_later_of ?_ ?_ _) | (with_reducible refine Below.alloc ?_ ?_ _) | (with_reducible refine Below.setCell ?_ ?_ _) | (with_reducible refine Below.drew ?_) | (simp; done) | (simp; omega) | omega))), fun _ => N1.out (by omega), fun _ => HR.out⟩
                  · rw [KL.out, HLO.out, HL1.out]
                    (repeat' (first | with_reducible assumption | with_reducible refine OwnFr.put (p := low) ?_ | (with_reducible refine OwnFr.keep ?_ ?_) | (with_reducible refine OwnFr.then ?_ ?_) | omega | (simp; omega)))
                  · rw [KH.out, HHI.out, HH1.out]
                    (repeat' (first | with_reducible assumption | with_reducible refine OwnFr.put (p := high) ?_ | (with_reducible refine OwnFr.keep ?_ ?_) | (with_reducible refine OwnFr.then ?_ ?_) | omega | (simp; omega)))
                case measure => simp [intOf]
    · obtain rfl : k = 2 := by omega
      have HE := Lib.hid (HEND.out (N1.out (by omega)) (N2.out (by omega)))
      have lf : (lowK ⟨x1, y1, x2, y2⟩ lx ly hx hy 2).Fit := by
        rw [K.out.2.2.1]
        exact axLow_fit HM.out.2.1 HM.out.2.2.2.1 HM.out.2.2.2.2.2.1 HM.out.2.2.2.2.2.2.2 (axLow_fit HM.out.1 HM.out.2.2.1 HM.out.2.2.2.2.1 HM.out.2.2.2.2.2.2.1 (by unfold Fr.Fit Wide low0; dsimp only; omega))
      have hf : (highK ⟨x1, y1, x2, y2⟩ lx ly hx hy 2).Fit := by
        rw [K.out.2.2.2.2.2]
        exact axHigh_fit HM.out.2.1 HM.out.2.2.2.1 HM.out.2.2.2.2.2.1 HM.out.2.2.2.2.2.2.2 (axHigh_fit HM.out.1 HM.out.2.2.1 HM.out.2.2.2.2.1 HM.out.2.2.2.2.2.2.1 (by unfold Fr.Fit Wide high0; dsimp only; omega))
      generalize lowK ⟨x1, y1, x2, y2⟩ lx ly hx hy 2 = low at *
      generalize highK ⟨x1, y1, x2, y2⟩ lx ly hx hy 2 = high at *
      have LF := Lib.hid lf
      have HF := Lib.hid hf
      obtain ⟨l0, l1, l2, l3⟩ := ll
      obtain ⟨h0, h1, h2, h3⟩ := hh
      have O1 := Lib.hid (show (Fr.mk 1 1).Fit by unfold Fr.Fit Wide; dsimp only; omega)
      have O0 := Lib.hid (show (Fr.mk 0 1).Fit by unfold Fr.Fit Wide; dsimp only; omega)
      have HEB := Lib.hid (show endB low high = (low.lt high && (low.lt ⟨1, 1⟩ && Fr.lt ⟨0, 1⟩ high)) from rfl)
      cases e1 : low.lt high
      · have E1 := Lib.hid e1
        have HR := Lib.hid (HE.out.trans (by rw [HEB.out, e1, Bool.false_and]))
        clear e1 lf hf
        go_wp2_with (first | (go_at_call 149; (with_reducible refine (below_any low high _ LF.out HF.out E1.out).mono ?_); rintro e w' ⟨rfl, hb⟩; obtain ⟨pp, rfl⟩ := later_of_below hb; clear hb))
        go_ret
        exact ⟨ret_bool HR.out.symm, HX.out.trans (below_mono_of hsz (by (repeat' (first | with_reducible exact Below.refl _ _ | (with_reducible refine below_later_of ?_ ?_ _) | (with_reducible refine Below.alloc ?_ ?_ _) | (with_reducible refine Below.setCell ?_ ?_ _) | (with_reducible refine Below.drew ?_) | (simp; done) | (simp; omega) | omega))))⟩
      · cases e2 : low.lt ⟨1, 1⟩
        · have E1 := Lib.hid e1
          have E2 := Lib.hid e2
          have HR := Lib.hid (HE.out.trans (by rw [HEB.out, e1, e2, Bool.false_and, Bool.and_false]))
          clear e1 e2 lf hf
          go_wp2_with (first | (go_at_call 149; (with_reducible refine (below_any low high _ LF.out HF.out E1.out).mono ?_); rintro e w' ⟨rfl, hb⟩; obtain ⟨pp, rfl⟩ := later_of_below hb; clear hb) | (go_at_call 149; (with_reducible refine (below_any low ⟨1, 1⟩ _ LF.out O1.out E2.out).mono ?_); rintro e w' ⟨rfl, hb⟩; obtain ⟨pp, rfl⟩ := later_of_below hb; clear hb))
          go_ret
          exact ⟨ret_bool HR.out.symm, HX.out.trans (below_mono_of hsz (by (repeat' (first | with_reducible exact Below.refl _ _ | (with_reducible refine below_later_of ?_ ?_ _) | (with_reducible refine Below.alloc ?_ ?_ _) | (with_reducible refine Below.setCell ?_ ?_ _) | (with_reducible refine Below.drew ?_) | (simp; done) | (simp; omega) | omega))))⟩
        · obtain ⟨b3, e3⟩ : ∃ b, Fr.lt ⟨0, 1⟩ high = b := ⟨_, rfl⟩
          have E1 := Lib.hid e1
          have E2 := Lib.hid e2
          have E3 := Lib.hid e3
          have HR := Lib.hid (HE.out.trans (show endB low high = b3 by rw [HEB.out, e1, e2, e3]; rfl))
          clear e1 e2 e3 lf hf
          go_wp2_with (first | (go_at_call 149; (with_reducible refine (below_any low high _ LF.out HF.out E1.out).mono ?_); rintro e w' ⟨rfl, hb⟩; obtain ⟨pp, rfl⟩ := later_of_below hb; clear hb) | (go_at_call 149; (with_reducible refine (below_any low ⟨1, 1⟩ _ LF.out O1.out E2.out).mono ?_); rintro e w' ⟨rfl, hb⟩; obtain ⟨pp, rfl⟩ := later_of_below hb; clear hb) | (go_at_call 149; (with_reducible refine (below_any ⟨0, 1⟩ high _ O0.out HF.out E3.out).mono ?_); rintro e w' ⟨rfl, hb⟩; obtain ⟨pp, rfl⟩ := later_of_below hb; clear hb))
          go_ret
          exact ⟨ret_bool HR.out.symm, HX.out.trans (below_mono_of hsz (by (repeat' (first | with_reducible exact Below.refl _ _ | (with_reducible refine below_later_of ?_ ?_ _) | (with_reducible refine Below.alloc ?_ ?_ _) | (with_reducible refine Below.setCell ?_ ?_ _) | (with_reducible refine Below.drew ?_) | (simp; done) | (simp; omega) | omega))))⟩
end Go.Proofs.Ytokpdmlmlkkekaa
