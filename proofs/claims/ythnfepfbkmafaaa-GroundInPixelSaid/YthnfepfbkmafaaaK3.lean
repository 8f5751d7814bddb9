/- CheckRelief. -/
import Derived.Test.YthnfepfbkmafaaaK1
import Derived.Test.YthnfepfbkmafaaaA7
import Derived.Test.YthnfepfbkmafaaaG4
namespace Go.Proofs.Ythnfepfbkmafaaa
set_option linter.unusedVariables false
open Go.RowKit
def loB (b : Nat) : Bool := FloatKind.f32.format.order b 3351465984 == some .lt
def hiB (b : Nat) : Bool := FloatKind.f32.format.order b 1203982336 == some .gt
/-- The error of a float as a height. -/
def FlErr (b : Nat) (e : Int) : Prop := ∃ wh : Bool, (∀ w, Calls Try.prog 110 #[.float .f32 b] w fun e w' => e = .returned (.bool wh) ∧ w = w') ∧ e = if wh then (if loB b || hiB b then 2 else 0) else 29
def relSizeB (r : Rel) : Bool := inR 1 64 r.rows && (inR 1 64 r.cols && decide ((r.ds.length : Int) = r.rows * r.cols))
def relPlaceB (r : Rel) : Bool := (inR (-100000000) 100000000 r.x && inR (-100000000) 100000000 r.y) && inR 1 1000 r.cell
def relErrP (fe : Nat → Int) (r : Rel) : Int := if relPlaceB r then (if relSizeB r then scan (fun k => fe (bitAt r.ds k)) 0 r.ds.length else 10) else 2
theorem relErrP_ok {fe : Nat → Int} {r : Rel} (h : relErrP fe r = 0) : r.Ok ∧ ∀ k, k < r.ds.length → fe (bitAt r.ds k) = 0 := by
  unfold relErrP at h
  split at h
  · rename_i h1
    split at h
    · rename_i h2
      simp only [relPlaceB, relSizeB, Bool.and_eq_true, inR_iff, decide_eq_true_eq] at h1 h2
      obtain ⟨⟨⟨a1, a2⟩, a3, a4⟩, a5, a6⟩ := h1
      obtain ⟨⟨b1, b2⟩, ⟨b3, b4⟩, b5⟩ := h2
      exact ⟨⟨a1, a2, a3, a4, a5, a6, b1, b2, b3, b4, b5⟩, fun k hk => scan_inv _ 0 h k (Nat.zero_le _) (by omega)⟩
    · exact absurd h (by decide)
  · exact absurd h (by decide)
set_option maxRecDepth 20000 in
set_option maxHeartbeats 4000000 in
theorem checkRelief_any (fe : Nat → Int) (r : Rel) (a : Option Addr) (cap : Nat) (w : World) (hlen : r.ds.length ≤ 1000000000) (hfe : ∀ k, k < r.ds.length → FlErr (bitAt r.ds k) (fe (bitAt r.ds k)))
    (ha : 0 < r.ds.length → ∃ b off, a = some ⟨b, off, none⟩ ∧ b < w.heap.size ∧ FloatsAt w b off r.ds) :
    Calls Try.prog 42 #[.agg #[.int .i64 r.x, .int .i64 r.y, .int .i64 r.cell, .int .i64 r.rows, .int .i64 r.cols, .slice a r.ds.length cap]] w fun e w' => e = .returned (.int .i64 (relErrP fe r)) ∧ Below w.heap.size w w' := by
  have HFE := Lib.hid hfe
  have HA := Lib.hid ha
  clear hfe ha
  rcases (show (inR (-100000000) 100000000 r.x && inR (-100000000) 100000000 r.y) = false ∨ (inR (-100000000) 100000000 r.x && inR (-100000000) 100000000 r.y) = true by cases (inR (-100000000) 100000000 r.x && inR (-100000000) 100000000 r.y) <;> simp) with h1 | h1
  · have HF := Lib.hid (show relErrP fe r = 2 by unfold relErrP relPlaceB; rw [h1]; rfl)
    have H1 := Lib.hid h1
    clear h1
    go_enter Try.func42, Try.ntmps42
    go_wp2_with (first | (go_at_call 90; (with_reducible refine (all2 (-100000000) 100000000 r.x r.y _ _ _ H1.out (by (first | (simp [go_sem]; done) | simp [go_sem, ↓IntWalk.iteOmega])) (by (first | (simp [go_sem]; done) | simp [go_sem, ↓IntWalk.iteOmega]))).mono ?_); rintro e w' ⟨rfl, rfl⟩))
    (go_ret; exact ⟨ret_int HF.out.symm, (by (repeat' (first | with_reducible exact Below.refl _ _ | (with_reducible refine below_later_of ?_ ?_ _) | (with_reducible refine Below.alloc ?_ ?_ _) | (with_reducible refine Below.setCell ?_ ?_ _) | (with_reducible refine Below.drew ?_) | (simp; done) | (simp; omega) | omega)))⟩)
  rcases (show inR 1 1000 r.cell = false ∨ inR 1 1000 r.cell = true by cases inR 1 1000 r.cell <;> simp) with h2 | h2
  · have HF := Lib.hid (show relErrP fe r = 2 by unfold relErrP relPlaceB; rw [h1, h2]; rfl)
    have H1 := Lib.hid h1
    have H2 := Lib.hid h2
    clear h1 h2
    go_enter Try.func42, Try.ntmps42
    go_wp2_with (first | (go_at_call 90; (with_reducible refine (all2 (-100000000) 100000000 r.x r.y _ _ _ H1.out (by (first | (simp [go_sem]; done) | simp [go_sem, ↓IntWalk.iteOmega])) (by (first | (simp [go_sem]; done) | simp [go_sem, ↓IntWalk.iteOmega]))).mono ?_); rintro e w' ⟨rfl, rfl⟩) | (go_at_call 90; (with_reducible refine (all1 1 1000 r.cell _ _ _ H2.out (by (first | (simp [go_sem]; done) | simp [go_sem, ↓IntWalk.iteOmega]))).mono ?_); rintro e w' ⟨rfl, rfl⟩))
    (go_ret; exact ⟨ret_int HF.out.symm, (by (repeat' (first | with_reducible exact Below.refl _ _ | (with_reducible refine below_later_of ?_ ?_ _) | (with_reducible refine Below.alloc ?_ ?_ _) | (with_reducible refine Below.setCell ?_ ?_ _) | (with_reducible refine Below.drew ?_) | (simp; done) | (simp; omega) | omega)))⟩)
  have HQ := Lib.hid (show relErrP fe r = (if relSizeB r then scan (fun k => fe (bitAt r.ds k)) 0 r.ds.length else 10) by unfold relErrP relPlaceB; rw [h1, h2]; rfl)
  have H1 := Lib.hid h1
  have H2 := Lib.hid h2
  clear h1 h2
  rcases (show inR 1 64 r.rows = false ∨ inR 1 64 r.rows = true by cases inR 1 64 r.rows <;> simp) with h3 | h3
  · have HF := Lib.hid (show relErrP fe r = 10 by rw [HQ.out]; unfold relSizeB; rw [h3]; rfl)
    have H3 := Lib.hid h3
    clear h3 HQ
    go_enter Try.func42, Try.ntmps42
    go_wp2_with (first | (go_at_call 90; (with_reducible refine (all2 (-100000000) 100000000 r.x r.y _ _ _ H1.out (by (first | (simp [go_sem]; done) | simp [go_sem, ↓IntWalk.iteOmega])) (by (first | (simp [go_sem]; done) | simp [go_sem, ↓IntWalk.iteOmega]))).mono ?_); rintro e w' ⟨rfl, rfl⟩) | (go_at_call 90; (with_reducible refine (all1 1 1000 r.cell _ _ _ H2.out (by (first | (simp [go_sem]; done) | simp [go_sem, ↓IntWalk.iteOmega]))).mono ?_); rintro e w' ⟨rfl, rfl⟩) | (go_at_call 85; (with_reducible refine (within_c r.rows _ _ _ H3.out).mono ?_); rintro e w' ⟨rfl, rfl⟩))
    (go_ret; exact ⟨ret_int HF.out.symm, (by (repeat' (first | with_reducible exact Below.refl _ _ | (with_reducible refine below_later_of ?_ ?_ _) | (with_reducible refine Below.alloc ?_ ?_ _) | (with_reducible refine Below.setCell ?_ ?_ _) | (with_reducible refine Below.drew ?_) | (simp; done) | (simp; omega) | omega)))⟩)
  rcases (show inR 1 64 r.cols = false ∨ inR 1 64 r.cols = true by cases inR 1 64 r.cols <;> simp) with h4 | h4
  · have HF := Lib.hid (show relErrP fe r = 10 by rw [HQ.out]; unfold relSizeB; rw [h3, h4]; rfl)
    have H3 := Lib.hid h3
    have H4 := Lib.hid h4
    clear h3 h4 HQ
    go_enter Try.func42, Try.ntmps42
    go_wp2_with (first | (go_at_call 90; (with_reducible refine (all2 (-100000000) 100000000 r.x r.y _ _ _ H1.out (by (first | (simp [go_sem]; done) | simp [go_sem, ↓IntWalk.iteOmega])) (by (first | (simp [go_sem]; done) | simp [go_sem, ↓IntWalk.iteOmega]))).mono ?_); rintro e w' ⟨rfl, rfl⟩) | (go_at_call 90; (with_reducible refine (all1 1 1000 r.cell _ _ _ H2.out (by (first | (simp [go_sem]; done) | simp [go_sem, ↓IntWalk.iteOmega]))).mono ?_); rintro e w' ⟨rfl, rfl⟩) | (go_at_call 85; (with_reducible refine (within_c r.rows _ _ _ H3.out).mono ?_); rintro e w' ⟨rfl, rfl⟩) | (go_at_call 85; (with_reducible refine (within_c r.cols _ _ _ H4.out).mono ?_); rintro e w' ⟨rfl, rfl⟩))
    (go_ret; exact ⟨ret_int HF.out.symm, (by (repeat' (first | with_reducible exact Below.refl _ _ | (with_reducible refine below_later_of ?_ ?_ _) | (with_reducible refine Below.alloc ?_ ?_ _) | (with_reducible refine Below.setCell ?_ ?_ _) | (with_reducible refine Below.drew ?_) | (simp; done) | (simp; omega) | omega)))⟩)
  obtain ⟨r1, r2⟩ := inR_iff.1 h3
  obtain ⟨l1, l2⟩ := inR_iff.1 h4
  obtain ⟨m1, m2⟩ := mul_bd (show 0 ≤ r.rows by omega) r2 (show 0 ≤ r.cols by omega) l2
  by_cases h5 : (r.ds.length : Int) = r.rows * r.cols
  · have HQ2 := Lib.hid (show relErrP fe r = scan (fun k => fe (bitAt r.ds k)) 0 r.ds.length by rw [HQ.out]; unfold relSizeB; rw [h3, h4, decide_eq_true h5]; rfl)
    have H3 := Lib.hid h3
    have H4 := Lib.hid h4
    have h5' : ((r.ds.length : Int) != r.rows * r.cols) = false := by simpa using h5
    have hpos : 0 < r.ds.length := by
      have : 1 * 1 ≤ r.rows * r.cols := Int.mul_le_mul r1 l1 (by omega) (by omega)
      omega
    obtain ⟨b, off, rfl, hbw, hfl⟩ := HA.out hpos
    have HFL := Lib.hid hfl
    clear h3 h4 HQ h5 HA hfl
    go_enter Try.func42, Try.ntmps42
    go_wp2_with (first | (go_at_call 90; (with_reducible refine (all2 (-100000000) 100000000 r.x r.y _ _ _ H1.out (by (first | (simp [go_sem]; done) | simp [go_sem, ↓IntWalk.iteOmega])) (by (first | (simp [go_sem]; done) | simp [go_sem, ↓IntWalk.iteOmega]))).mono ?_); rintro e w' ⟨rfl, rfl⟩) | (go_at_call 90; (with_reducible refine (all1 1 1000 r.cell _ _ _ H2.out (by (first | (simp [go_sem]; done) | simp [go_sem, ↓IntWalk.iteOmega]))).mono ?_); rintro e w' ⟨rfl, rfl⟩) | (go_at_call 85; (with_reducible refine (within_c r.rows _ _ _ H3.out).mono ?_); rintro e w' ⟨rfl, rfl⟩) | (go_at_call 85; (with_reducible refine (within_c r.cols _ _ _ H4.out).mono ?_); rintro e w' ⟨rfl, rfl⟩))
    go_loop [48] (fun i => ∃ k : Nat, k ≤ r.ds.length ∧ i = .int .i64 k ∧ ∀ j, j < k → fe (bitAt r.ds j) = 0) (fun i => r.ds.length - (intOf i).toNat)
    case atStart => exact ⟨0, Nat.zero_le _, rfl, fun j hj => by omega⟩
    case round =>
      obtain ⟨k, hk, rfl, hz⟩ := hrel
      have HZ := Lib.hid hz
      clear hz
      by_cases hlt : k < r.ds.length
      · have hc := HFL.out k hlt
        obtain ⟨wh, hw, he⟩ := HFE.out k hlt
        have HQ3 := Lib.hid (show fe (bitAt r.ds k) ≠ 0 → scan (fun k => fe (bitAt r.ds k)) 0 r.ds.length = fe (bitAt r.ds k) from
          fun h => scan_hit (f := fun k => fe (bitAt r.ds k)) r.ds.length 0 k (fun j _ hj => HZ.out j hj) (Nat.zero_le _) (by omega) h)
        have HW := Lib.hid hw
        have HE := Lib.hid he
        have HG := Lib.hid (show ∀ j, j < k + 1 → fe (bitAt r.ds k) = 0 → fe (bitAt r.ds j) = 0 from fun j hj h => by
          by_cases e : j = k
          · rw [e]; exact h
          · exact HZ.out j (by omega))
        clear hw he
        generalize bitAt r.ds k = bk at hc HQ3 HW HE HG
        cases wh
        · have HF := Lib.hid (show relErrP fe r = 29 by rw [HQ2.out, HQ3.out (by rw [HE.out]; simp), HE.out]; rfl)
          go_wp2_with (first | (go_at_call 110; refine (HW.out _).mono ?_; rintro e w' ⟨rfl, rfl⟩))
          (go_ret; exact ⟨ret_int HF.out.symm, (by (repeat' (first | with_reducible exact Below.refl _ _ | (with_reducible refine below_later_of ?_ ?_ _) | (with_reducible refine Below.alloc ?_ ?_ _) | (with_reducible refine Below.setCell ?_ ?_ _) | (with_reducible refine Below.drew ?_) | (simp; done) | (simp; omega) | omega)))⟩)
        · rcases (show loB bk = false ∨ loB bk = true by cases loB bk <;> simp) with h6 | h6
          · rcases (show hiB bk = false ∨ hiB bk = true by cases hiB bk <;> simp) with h7 | h7
            · have HV := Lib.hid (show fe bk = 0 by rw [HE.out, h6, h7]; rfl)
              unfold loB at h6
              unfold hiB at h7
              go_wp2_with (first | (go_at_call 110; refine (HW.out _).mono ?_; rintro e w' ⟨rfl, rfl⟩))
              go_round
              case rel => exact ⟨k + 1, by omega, by go_num, fun j hj => HG.out j hj HV.out⟩
              case measure => simp [intOf]; omega
            · have HF := Lib.hid (show relErrP fe r = 2 by rw [HQ2.out, HQ3.out (by rw [HE.out, h7]; simp), HE.out, h7]; simp)
              unfold loB at h6
              unfold hiB at h7
              go_wp2_with (first | (go_at_call 110; refine (HW.out _).mono ?_; rintro e w' ⟨rfl, rfl⟩))
              (go_ret; exact ⟨ret_int HF.out.symm, (by (repeat' (first | with_reducible exact Below.refl _ _ | (with_reducible refine below_later_of ?_ ?_ _) | (with_reducible refine Below.alloc ?_ ?_ _) | (with_reducible refine Below.setCell ?_ ?_ _) | (with_reducible refine Below.drew ?_) | (simp; done) | (simp; omega) | omega)))⟩)
          · have HF := Lib.hid (show relErrP fe r = 2 by rw [HQ2.out, HQ3.out (by rw [HE.out, h6]; simp), HE.out, h6]; simp)
            unfold loB at h6
            go_wp2_with (first | (go_at_call 110; refine (HW.out _).mono ?_; rintro e w' ⟨rfl, rfl⟩))
            (go_ret; exact ⟨ret_int HF.out.symm, (by (repeat' (first | with_reducible exact Below.refl _ _ | (with_reducible refine below_later_of ?_ ?_ _) | (with_reducible refine Below.alloc ?_ ?_ _) | (with_reducible refine Below.setCell ?_ ?_ _) | (with_reducible refine Below.drew ?_) | (simp; done) | (simp; omega) | omega)))⟩)
      · have HF := Lib.hid (show relErrP fe r = 0 by rw [HQ2.out]; exact scan_zero r.ds.length 0 (fun j _ hj => HZ.out j (by omega)))
        go_wp2
        (go_ret; exact ⟨ret_int HF.out.symm, (by (repeat' (first | with_reducible exact Below.refl _ _ | (with_reducible refine below_later_of ?_ ?_ _) | (with_reducible refine Below.alloc ?_ ?_ _) | (with_reducible refine Below.setCell ?_ ?_ _) | (with_reducible refine Below.drew ?_) | (simp; done) | (simp; omega) | omega)))⟩)
  · have HF := Lib.hid (show relErrP fe r = 10 by rw [HQ.out]; unfold relSizeB; rw [h3, h4, decide_eq_false h5]; rfl)
    have H3 := Lib.hid h3
    have H4 := Lib.hid h4
    have h5' : ((r.ds.length : Int) != r.rows * r.cols) = true := by simpa using h5
    clear h3 h4 HQ h5
    go_enter Try.func42, Try.ntmps42
    go_wp2_with (first | (go_at_call 90; (with_reducible refine (all2 (-100000000) 100000000 r.x r.y _ _ _ H1.out (by (first | (simp [go_sem]; done) | simp [go_sem, ↓IntWalk.iteOmega])) (by (first | (simp [go_sem]; done) | simp [go_sem, ↓IntWalk.iteOmega]))).mono ?_); rintro e w' ⟨rfl, rfl⟩) | (go_at_call 90; (with_reducible refine (all1 1 1000 r.cell _ _ _ H2.out (by (first | (simp [go_sem]; done) | simp [go_sem, ↓IntWalk.iteOmega]))).mono ?_); rintro e w' ⟨rfl, rfl⟩) | (go_at_call 85; (with_reducible refine (within_c r.rows _ _ _ H3.out).mono ?_); rintro e w' ⟨rfl, rfl⟩) | (go_at_call 85; (with_reducible refine (within_c r.cols _ _ _ H4.out).mono ?_); rintro e w' ⟨rfl, rfl⟩))
    (go_ret; exact ⟨ret_int HF.out.symm, (by (repeat' (first | with_reducible exact Below.refl _ _ | (with_reducible refine below_later_of ?_ ?_ _) | (with_reducible refine Below.alloc ?_ ?_ _) | (with_reducible refine Below.setCell ?_ ?_ _) | (with_reducible refine Below.drew ?_) | (simp; done) | (simp; omega) | omega)))⟩)
end Go.Proofs.Ythnfepfbkmafaaa
