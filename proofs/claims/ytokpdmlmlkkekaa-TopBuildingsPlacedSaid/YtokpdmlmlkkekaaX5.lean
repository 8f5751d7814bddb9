/- Polygons: the reference's 'passes'. -/
import Derived.Test.YtokpdmlmlkkekaaY5
import Derived.Test.YtokpdmlmlkkekaaZX
namespace Go.Proofs.Ytokpdmlmlkkekaa
set_option linter.unusedVariables false
open Go.RowKit
theorem wp_worldP {P : Program} {c : Code} {Q : Exit → Act → World → Prop} {a : Act} {w : World} (F : World → Prop) (hf : F w) (h : ∀ W, F W → Code.wp P c Q a W) : Code.wp P c Q a w := h w hf
/-- The corners of a rectangle. -/
def cxK (lx hx : Int) : Nat → Int
  | 0 => lx
  | 1 => hx
  | 2 => hx
  | _ => lx
def cyK (ly hy : Int) : Nat → Int
  | 0 => ly
  | 1 => ly
  | _ => hy
def czK (z3 z4 : Int) : Nat → Int
  | 0 => z3
  | 2 => z4
  | _ => 0
def leftK (s : Sd) (lx ly hx hy : Int) : Nat → Bool
  | 0 => false
  | k + 1 => leftK s lx ly hx hy k || decide (0 < crossP s (cxK lx hx k) (cyK ly hy k))
def rightK (s : Sd) (lx ly hx hy : Int) : Nat → Bool
  | 0 => false
  | k + 1 => rightK s lx ly hx hy k || decide (crossP s (cxK lx hx k) (cyK ly hy k) < 0)
theorem left_four (s : Sd) (lx ly hx hy : Int) : leftK s lx ly hx hy 4 = leftB s lx ly hx hy := by
  unfold leftB
  simp [leftK, cxK, cyK]
theorem right_four (s : Sd) (lx ly hx hy : Int) : rightK s lx ly hx hy 4 = rightB s lx ly hx hy := by
  unfold rightB
  simp [rightK, cxK, cyK]
theorem cxK_mid {lx hx : Int} (h1 : Mid lx) (h2 : Mid hx) (k : Nat) : Mid (cxK lx hx k) := by unfold cxK; split <;> assumption
theorem cyK_mid {ly hy : Int} (h1 : Mid ly) (h2 : Mid hy) (k : Nat) : Mid (cyK ly hy k) := by unfold cyK; split <;> assumption
def Three (W : World) (B o : Nat) (x y z : Int) : Prop := W.cell? ⟨B, o, none⟩ = some (.int .i64 x) ∧ W.cell? ⟨B, o + 1, none⟩ = some (.int .i64 y) ∧ W.cell? ⟨B, o + 2, none⟩ = some (.int .i64 z)
theorem Three.below {w w' : World} {B C o : Nat} {a b c : Int} (h : Three w B o a b c) (hB : B < C) (hw : Below C w w') : Three w' B o a b c :=
  ⟨(hw.cell hB).trans h.1, (hw.cell hB).trans h.2.1, (hw.cell hB).trans h.2.2⟩
set_option maxRecDepth 20000 in
set_option maxHeartbeats 4000000 in
theorem rPasses (s : Sd) (z1 z2 z3 z4 lx ly hx hy : Int) (w : World) (hs : s.Fit) (m1 : Mid lx) (m2 : Mid ly) (m3 : Mid hx) (m4 : Mid hy) {c : Bool} (hc : passP s lx ly hx hy = c) :
    Calls Try.prog 138 #[.agg #[.int .i64 s.x1, .int .i64 s.y1, .int .i64 z1], .agg #[.int .i64 s.x2, .int .i64 s.y2, .int .i64 z2], .agg #[.int .i64 lx, .int .i64 ly, .int .i64 z3], .agg #[.int .i64 hx, .int .i64 hy, .int .i64 z4]] w fun e w' => e = .returned (.bool c) ∧ Below w.heap.size w w' := by
  subst hc
  have hps : passP s lx ly hx hy = if asideB s lx ly hx hy then false else leftK s lx ly hx hy 4 && rightK s lx ly hx hy 4 := by rw [left_four, right_four]; rfl
  have has : asideB s lx ly hx hy = (decide (max s.x1 s.x2 ≤ lx) || (decide (hx ≤ min s.x1 s.x2) || (decide (max s.y1 s.y2 ≤ ly) || decide (hy ≤ min s.y1 s.y2)))) := rfl
  have HF := Lib.hid hs
  have HMX := Lib.hid (show ∀ k, Mid (cxK lx hx k) from fun k => cxK_mid m1 m3 k)
  have HMY := Lib.hid (show ∀ k, Mid (cyK ly hy k) from fun k => cyK_mid m2 m4 k)
  have HLS := Lib.hid (show ∀ k : Nat, leftK s lx ly hx hy (k + 1) = (leftK s lx ly hx hy k || decide (0 < crossP s (cxK lx hx k) (cyK ly hy k))) from fun k => rfl)
  have HRS := Lib.hid (show ∀ k : Nat, rightK s lx ly hx hy (k + 1) = (rightK s lx ly hx hy k || decide (crossP s (cxK lx hx k) (cyK ly hy k) < 0)) from fun k => rfl)
  have HPS := Lib.hid hps
  have HAS := Lib.hid has
  obtain ⟨x1, y1, x2, y2⟩ := s
  dsimp only at *
  clear hps has hs m1 m2 m3 m4
  by_cases a1 : max x1 x2 ≤ lx
  · have d1 : decide (max x1 x2 ≤ lx) = true := by simpa using a1
    have HR := Lib.hid (HPS.out.trans (by rw [HAS.out, d1, Bool.true_or, if_pos rfl]))
    clear a1
    go_enter Try.func138, Try.ntmps138
    (go_wp2; go_ret; exact ⟨ret_bool HR.out.symm, (by (repeat' (first | with_reducible exact Below.refl _ _ | (with_reducible refine below_later_of ?_ ?_ _) | (with_reducible refine Below.alloc ?_ ?_ _) | (with_reducible refine Below.setCell ?_ ?_ _) | (with_reducible refine Below.drew ?_) | (simp; done) | (simp; omega) | omega)))⟩)
  have d1 : decide (max x1 x2 ≤ lx) = false := by simpa using a1
  by_cases a2 : hx ≤ min x1 x2
  · have d2 : decide (hx ≤ min x1 x2) = true := by simpa using a2
    have HR := Lib.hid (HPS.out.trans (by rw [HAS.out, d1, d2, Bool.true_or, Bool.or_true, if_pos rfl]))
    clear a1 a2
    go_enter Try.func138, Try.ntmps138
    (go_wp2; go_ret; exact ⟨ret_bool HR.out.symm, (by (repeat' (first | with_reducible exact Below.refl _ _ | (with_reducible refine below_later_of ?_ ?_ _) | (with_reducible refine Below.alloc ?_ ?_ _) | (with_reducible refine Below.setCell ?_ ?_ _) | (with_reducible refine Below.drew ?_) | (simp; done) | (simp; omega) | omega)))⟩)
  have d2 : decide (hx ≤ min x1 x2) = false := by simpa using a2
  by_cases a3 : max y1 y2 ≤ ly
  · have d3 : decide (max y1 y2 ≤ ly) = true := by simpa using a3
    have HR := Lib.hid (HPS.out.trans (by rw [HAS.out, d1, d2, d3, Bool.true_or, Bool.or_true, Bool.or_true, if_pos rfl]))
    clear a1 a2 a3
    go_enter Try.func138, Try.ntmps138
    (go_wp2; go_ret; exact ⟨ret_bool HR.out.symm, (by (repeat' (first | with_reducible exact Below.refl _ _ | (with_reducible refine below_later_of ?_ ?_ _) | (with_reducible refine Below.alloc ?_ ?_ _) | (with_reducible refine Below.setCell ?_ ?_ _) | (with_reducible refine Below.drew ?_) | (simp; done) | (simp; omega) | omega)))⟩)
  have d3 : decide (max y1 y2 ≤ ly) = false := by simpa using a3
  by_cases a4 : hy ≤ min y1 y2
  · have d4 : decide (hy ≤ min y1 y2) = true := by simpa using a4
    have HR := Lib.hid (HPS.out.trans (by rw [HAS.out, d1, d2, d3, d4, Bool.or_true, Bool.or_true, Bool.or_true, if_pos rfl]))
    clear a1 a2 a3 a4
    go_enter Try.func138, Try.ntmps138
    (go_wp2; go_ret; exact ⟨ret_bool HR.out.symm, (by (repeat' (first | with_reducible exact Below.refl _ _ | (with_reducible refine below_later_of ?_ ?_ _) | (with_reducible refine Below.alloc ?_ ?_ _) | (with_reducible refine Below.setCell ?_ ?_ _) | (with_reducible refine Below.drew ?_) | (simp; done) | (simp; omega) | omega)))⟩)
  have d4 : decide (hy ≤ min y1 y2) = false := by simpa using a4
  have HP := Lib.hid (HPS.out.trans (show _ = (leftK ⟨x1, y1, x2, y2⟩ lx ly hx hy 4 && rightK ⟨x1, y1, x2, y2⟩ lx ly hx hy 4) by rw [HAS.out, d1, d2, d3, d4]; rfl))
  clear a1 a2 a3 a4 HPS HAS
  go_enter Try.func138, Try.ntmps138
  go_wp2
  refine wp_worldP (fun W => Three W w.heap.size 0 x1 y1 z1 ∧ Three W (w.heap.size + 1) 0 x2 y2 z2 ∧ (Three W (w.heap.size + 1 + 1 + 1 + 1) 0 lx ly z3 ∧ Three W (w.heap.size + 1 + 1 + 1 + 1) 3 hx ly 0 ∧ Three W (w.heap.size + 1 + 1 + 1 + 1) 6 hx hy z4 ∧ Three W (w.heap.size + 1 + 1 + 1 + 1) 9 lx hy 0) ∧ Below w.heap.size w W ∧ w.heap.size + 1 + 1 + 1 + 1 < W.heap.size) ⟨⟨(by (first | (simp [go_sem]; done) | simp [go_sem, ↓IntWalk.iteOmega])), (by (first | (simp [go_sem]; done) | simp [go_sem, ↓IntWalk.iteOmega])), (by (first | (simp [go_sem]; done) | simp [go_sem, ↓IntWalk.iteOmega]))⟩, ⟨(by (first | (simp [go_sem]; done) | simp [go_sem, ↓IntWalk.iteOmega])), (by (first | (simp [go_sem]; done) | simp [go_sem, ↓IntWalk.iteOmega])), (by (first | (simp [go_sem]; done) | simp [go_sem, ↓IntWalk.iteOmega]))⟩, ⟨⟨(by (first | (simp [go_sem]; done) | simp [go_sem, ↓IntWalk.iteOmega])), (by (first | (simp [go_sem]; done) | simp [go_sem, ↓IntWalk.iteOmega])), (by (first | (simp [go_sem]; done) | simp [go_sem, ↓IntWalk.iteOmega]))⟩, ⟨(by (first | (simp [go_sem]; done) | simp [go_sem, ↓IntWalk.iteOmega])), (by (first | (simp [go_sem]; done) | simp [go_sem, ↓IntWalk.iteOmega])), (by (first | (simp [go_sem]; done) | simp [go_sem, ↓IntWalk.iteOmega]))⟩, ⟨(by (first | (simp [go_sem]; done) | simp [go_sem, ↓IntWalk.iteOmega])), (by (first | (simp [go_sem]; done) | simp [go_sem, ↓IntWalk.iteOmega])), (by (first | (simp [go_sem]; done) | simp [go_sem, ↓IntWalk.iteOmega]))⟩, (by (first | (simp [go_sem]; done) | simp [go_sem, ↓IntWalk.iteOmega])), (by (first | (simp [go_sem]; done) | simp [go_sem, ↓IntWalk.iteOmega])), (by (first | (simp [go_sem]; done) | simp [go_sem, ↓IntWalk.iteOmega]))⟩, (by (repeat' (first | with_reducible exact Below.refl _ _ | (with_reducible refine below_later_of ?_ ?_ _) | (with_reducible refine Below.alloc ?_ ?_ _) | (with_reducible refine Below.setCell ?_ ?_ _) | (with_reducible refine Below.drew ?_) | (simp; done) | (simp; omega) | omega))), by (simp <;> omega)⟩ ?_
  rintro W2 ⟨aa, bb, ⟨t0, t1, t2, t3⟩, hb, hs2⟩
  have KK := Lib.hid (show ∀ k, k < 4 → Three W2 (w.heap.size + 1 + 1 + 1 + 1) (k * 3) (cxK lx hx k) (cyK ly hy k) (czK z3 z4 k) from fun k hk => by
    rcases (show k = 0 ∨ k = 1 ∨ k = 2 ∨ k = 3 by omega) with rfl | rfl | rfl | rfl
    · exact t0
    · exact t1
    · exact t2
    · exact t3)
  have AA := Lib.hid aa
  have BB := Lib.hid bb
  have HB2 := Lib.hid hb
  clear t0 t1 t2 t3 aa bb hb d1 d2 d3 d4
  go_loopw [9, 10, 12] (fun l r i wr => ∃ k : Nat, k ≤ 4 ∧ i = .int .i64 k ∧ l = .bool (leftK ⟨x1, y1, x2, y2⟩ lx ly hx hy k) ∧ r = .bool (rightK ⟨x1, y1, x2, y2⟩ lx ly hx hy k) ∧ Below W2.heap.size W2 wr) (fun _ _ i _ => 4 - (intOf i).toNat)
  case atStart => exact ⟨0, by omega, rfl, rfl, rfl, Below.refl _ _⟩
  case round =>
    obtain ⟨k, hk, rfl, rfl, rfl, hnx⟩ := hrel
    have HX := Lib.hid hnx
    have hsz := hnx.size
    by_cases hlt : k < 4
    · obtain ⟨c0, c1, c2⟩ := AA.out.below (C := W2.heap.size) (by omega) hnx
      obtain ⟨b0, b1, b2⟩ := BB.out.below (C := W2.heap.size) (by omega) hnx
      obtain ⟨k0, k1, k2⟩ := (KK.out k hlt).below (C := W2.heap.size) (by omega) hnx
      have HCX := Lib.hid (HMX.out k)
      have HCY := Lib.hid (HMY.out k)
      have hls := HLS.out k
      have hrs := HRS.out k
      generalize leftK ⟨x1, y1, x2, y2⟩ lx ly hx hy k = lk at *
      generalize rightK ⟨x1, y1, x2, y2⟩ lx ly hx hy k = rk at *
      generalize cxK lx hx k = cx at *
      generalize cyK ly hy k = cy at *
      generalize czK z3 z4 k = cz at *
      obtain ⟨cr, hcr⟩ : ∃ cr, crossP ⟨x1, y1, x2, y2⟩ cx cy = cr := ⟨_, rfl⟩
      rw [hcr] at hls hrs
      have HCR := Lib.hid hcr
      have h4 : decide ((k : Int) < 4) = true := by simp; omega
      clear hcr hnx
      cases lk <;> cases rk
      · have HLN := Lib.hid (hls.trans (Bool.false_or _))
        have HRN := Lib.hid (hrs.trans (Bool.false_or _))
        clear hls hrs
        go_wp2
        refine wp_region_calm (by kernel_rfl) (by kernel_rfl) ?_
        repeat (go_big_quiet_step (first | (go_at_call 127; exact calm_of (by with_reducible exact rCross ⟨x1, y1, x2, y2⟩ _ _ cx cy _ _ HF.out HCX.out HCY.out HCR.out))))
        refine wpQuiet_nil ?_
        rintro _ ⟨v1, rfl⟩
        go_wp2
        (go_roundw; (case rel => exact ⟨k + 1, by omega, by go_num, by (rw [HLN.out]), by (rw [HRN.out]), HX.out.trans (below_mono_of hsz (by (repeat' (first | with_reducible exact Below.refl _ _ | (with_reducible refine below_later_of ?_ ?_ _) | (with_reducible refine Below.alloc ?_ ?_ _) | (with_reducible refine Below.setCell ?_ ?_ _) | (with_reducible refine Below.drew ?_) | (simp; done) | (simp; omega) | omega))))⟩); (case measure => simp [intOf]; omega))
      · have HLN := Lib.hid (hls.trans (Bool.false_or _))
        have HRN := Lib.hid (hrs.trans (Bool.true_or _))
        clear hls hrs
        go_wp2
        refine wp_region_calm (by kernel_rfl) (by kernel_rfl) ?_
        repeat (go_big_quiet_step (first | (go_at_call 127; exact calm_of (by with_reducible exact rCross ⟨x1, y1, x2, y2⟩ _ _ cx cy _ _ HF.out HCX.out HCY.out HCR.out))))
        refine wpQuiet_nil ?_
        rintro _ ⟨v1, rfl⟩
        go_wp2
        (go_roundw; (case rel => exact ⟨k + 1, by omega, by go_num, by (rw [HLN.out]), by (rw [HRN.out]), HX.out.trans (below_mono_of hsz (by (repeat' (first | with_reducible exact Below.refl _ _ | (with_reducible refine below_later_of ?_ ?_ _) | (with_reducible refine Below.alloc ?_ ?_ _) | (with_reducible refine Below.setCell ?_ ?_ _) | (with_reducible refine Below.drew ?_) | (simp; done) | (simp; omega) | omega))))⟩); (case measure => simp [intOf]; omega))
      · have HLN := Lib.hid (hls.trans (Bool.true_or _))
        have HRN := Lib.hid (hrs.trans (Bool.false_or _))
        clear hls hrs
        go_wp2
        refine wp_region_calm (by kernel_rfl) (by kernel_rfl) ?_
        repeat (go_big_quiet_step (first | (go_at_call 127; exact calm_of (by with_reducible exact rCross ⟨x1, y1, x2, y2⟩ _ _ cx cy _ _ HF.out HCX.out HCY.out HCR.out))))
        refine wpQuiet_nil ?_
        rintro _ ⟨v1, rfl⟩
        go_wp2
        (go_roundw; (case rel => exact ⟨k + 1, by omega, by go_num, by (rw [HLN.out]), by (rw [HRN.out]), HX.out.trans (below_mono_of hsz (by (repeat' (first | with_reducible exact Below.refl _ _ | (with_reducible refine below_later_of ?_ ?_ _) | (with_reducible refine Below.alloc ?_ ?_ _) | (with_reducible refine Below.setCell ?_ ?_ _) | (with_reducible refine Below.drew ?_) | (simp; done) | (simp; omega) | omega))))⟩); (case measure => simp [intOf]; omega))
      · have HLN := Lib.hid (hls.trans (Bool.true_or _))
        have HRN := Lib.hid (hrs.trans (Bool.true_or _))
        clear hls hrs
        go_wp2
        refine wp_region_calm (by kernel_rfl) (by kernel_rfl) ?_
        repeat (go_big_quiet_step (first | (go_at_call 127; exact calm_of (by with_reducible exact rCross ⟨x1, y1, x2, y2⟩ _ _ cx cy _ _ HF.out HCX.out HCY.out HCR.out))))
        refine wpQuiet_nil ?_
        rintro _ ⟨v1, rfl⟩
        go_wp2
        (go_roundw; (case rel => exact ⟨k + 1, by omega, by go_num, by (rw [HLN.out]), by (rw [HRN.out]), HX.out.trans (below_mono_of hsz (by (repeat' (first | with_reducible exact Below.refl _ _ | (with_reducible refine below_later_of ?_ ?_ _) | (with_reducible refine Below.alloc ?_ ?_ _) | (with_reducible refine Below.setCell ?_ ?_ _) | (with_reducible refine Below.drew ?_) | (simp; done) | (simp; omega) | omega))))⟩); (case measure => simp [intOf]; omega))
    · obtain rfl : k = 4 := by omega
      clear hnx
      generalize leftK ⟨x1, y1, x2, y2⟩ lx ly hx hy 4 = lk at *
      generalize rightK ⟨x1, y1, x2, y2⟩ lx ly hx hy 4 = rk at *
      cases lk
      · have HR := Lib.hid (HP.out.trans (Bool.false_and _))
        go_wp2
        go_ret
        exact ⟨ret_bool HR.out.symm, HB2.out.trans (HX.out.mono (by omega))⟩
      · have HR := Lib.hid (HP.out.trans (Bool.true_and _))
        go_wp2
        go_ret
        exact ⟨ret_bool HR.out.symm, HB2.out.trans (HX.out.mono (by omega))⟩
set_option maxHeartbeats 400000 in
theorem rDouble (x y z : Int) (w : World) (hx : Mid x) (hy : Mid y) :
    Calls Try.prog 137 #[.agg #[.int .i64 x, .int .i64 y, .int .i64 z]] w fun e w' => e = .returned (.agg #[.int .i64 (2 * x), .int .i64 (2 * y), .int .i64 0]) ∧ Below w.heap.size w w' := by
  obtain ⟨a1, a2⟩ := hx
  obtain ⟨b1, b2⟩ := hy
  go_enter Try.func137, Try.ntmps137
  go_wp2
  refine bodyPost_ret ?_ rfl ⟨rfl, (by (repeat' (first | with_reducible exact Below.refl _ _ | (with_reducible refine below_later_of ?_ ?_ _) | (with_reducible refine Below.alloc ?_ ?_ _) | (with_reducible refine Below.setCell ?_ ?_ _) | (with_reducible refine Below.drew ?_) | (simp; done) | (simp; omega) | omega)))⟩
  first | (simp [results, Try.results137, go_sem]; done) | simp [results, Try.results137, go_sem, ↓IntWalk.iteOmega]
end Go.Proofs.Ytokpdmlmlkkekaa
