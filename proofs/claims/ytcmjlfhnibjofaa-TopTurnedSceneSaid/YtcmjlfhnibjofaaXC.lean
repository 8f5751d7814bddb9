import Derived.Test.YtcmjlfhnibjofaaXA
/- Chapter 4: TurnsAround, of the program and of the reference; the reference's Residues. -/
namespace Go.Proofs.Ytcmjlfhnibjofaa
set_option linter.unusedVariables false
set_option linter.unusedSimpArgs false
open Go.RowKit Ntt
/-- A box lies in a map. -/
def boxB (R C : Nat) (r c h w : Int) : Bool := pixB R C r c && (inE 1 ((R : Int) - 1 - r) h && inE 1 ((C : Int) - 1 - c) w)
theorem boxB_nat {R C : Nat} {r c h w : Int} (hb : boxB R C r c h w = true) : ∃ r' c' h' w' : Nat, r = r' ∧ c = c' ∧ h = h' ∧ w = w' ∧ r' + h' < R ∧ c' + w' < C ∧ 1 ≤ h' ∧ 1 ≤ w' := by
  unfold boxB at hb
  simp only [Bool.and_eq_true] at hb
  obtain ⟨h1, h2, h3⟩ := hb
  obtain ⟨r', c', rfl, rfl, h4, h5⟩ := pixB_nat h1
  obtain ⟨a1, a2⟩ := inE_iff.1 h2
  obtain ⟨b1, b2⟩ := inE_iff.1 h3
  obtain ⟨h', rfl⟩ := Int.eq_ofNat_of_zero_le (show 0 ≤ h by omega)
  obtain ⟨w', rfl⟩ := Int.eq_ofNat_of_zero_le (show 0 ≤ w by omega)
  exact ⟨r', c', h', w', rfl, rfl, rfl, rfl, by omega, by omega, by omega, by omega⟩
theorem boxB_alt {R C : Nat} {r c h w : Int} : boxB R C r c h w = (inE 1 ((R : Int) - 1) h && (inE 1 ((C : Int) - 1) w && (pixB R C r c && pixB R C (r + h) (c + w)))) := by
  rw [Bool.eq_iff_iff]
  unfold boxB pixB inE
  simp only [Bool.and_eq_true, decide_eq_true_eq]
  omega
/-! What a border says once a pixel of it is void. -/
theorem whWd_false {z : Nat → Nat → Int} {r0 c0 h k : Nat} (hk : whWd z r0 c0 h k = false) : ∀ {n : Nat}, k ≤ n → whWd z r0 c0 h n = false
  | 0, h0 => by obtain rfl : k = 0 := by omega
                exact hk
  | n + 1, h0 => by
    rcases Nat.lt_or_ge n k with h1 | h1
    · obtain rfl : k = n + 1 := by omega
      exact hk
    · rw [whWd, whWd_false hk h1]; rfl
theorem whHi_false {z : Nat → Nat → Int} {r0 c0 w k : Nat} {b : Bool} (hk : whHi z r0 c0 w b k = false) : ∀ {n : Nat}, k ≤ n → whHi z r0 c0 w b n = false
  | 0, h0 => by obtain rfl : k = 0 := by omega
                exact hk
  | n + 1, h0 => by
    rcases Nat.lt_or_ge n k with h1 | h1
    · obtain rfl : k = n + 1 := by omega
      exact hk
    · rw [whHi, whHi_false hk h1]; rfl
/-- The turns around a box, and the error. -/
def taV (z : Nat → Nat → Int) (r c h w : Nat) : Int := if wholeP z r c h w then (aroundP z r c h w).tdiv 4096 else 0
def taE (z : Nat → Nat → Int) (r c h w : Nat) : Int := if wholeP z r c h w then 0 else 31
/-- What the reference's TurnsAround knows. -/
structure RtSt (w : World) (R C : Nat) (u : Value) (b0 b1 b2 b3 : Int) (wr : World) : Prop where
  m0 : wr.cell? ⟨w.heap.size, 0, none⟩ = some (.int .i64 R)
  m1 : wr.cell? ⟨w.heap.size, 1, none⟩ = some (.int .i64 C)
  m2 : wr.cell? ⟨w.heap.size, 2, none⟩ = some u
  b0 : wr.cell? ⟨w.heap.size + 1, 0, none⟩ = some (.int .i64 b0)
  b1 : wr.cell? ⟨w.heap.size + 1, 1, none⟩ = some (.int .i64 b1)
  b2 : wr.cell? ⟨w.heap.size + 1, 2, none⟩ = some (.int .i64 b2)
  b3 : wr.cell? ⟨w.heap.size + 1, 3, none⟩ = some (.int .i64 b3)
  bel : Below w.heap.size w wr
  lt : w.heap.size + 1 < wr.heap.size
theorem RtSt.below {w wr W : World} {R C : Nat} {u : Value} {b0 b1 b2 b3 : Int} (h : RtSt w R C u b0 b1 b2 b3 wr) (hb : Below wr.heap.size wr W) : RtSt w R C u b0 b1 b2 b3 W := by
  have hlt := h.lt
  have hs := hb.size
  have e : ∀ k j, k ≤ 1 → W.cell? ⟨w.heap.size + k, j, none⟩ = wr.cell? ⟨w.heap.size + k, j, none⟩ := fun k j hk => hb.cell (p := ⟨w.heap.size + k, j, none⟩) (show w.heap.size + k < wr.heap.size by omega)
  exact ⟨(e 0 0 (by decide)).trans h.m0, (e 0 1 (by decide)).trans h.m1, (e 0 2 (by decide)).trans h.m2, (e 1 0 (by decide)).trans h.b0, (e 1 1 (by decide)).trans h.b1, (e 1 2 (by decide)).trans h.b2, (e 1 3 (by decide)).trans h.b3, h.bel.trans (hb.mono (by omega)), by omega⟩
theorem any_worldA {G : World → Prop} {w : World} (F : World → Prop) (hf : F w) (h : ∀ W, F W → G W) : G w := h w hf
theorem st_ok {p q : Int} (h : (nvB p && nvB q) = true) : stV p q = wrP (q - p) ∧ stE p q = 0 := by unfold stV stE; rw [if_pos h, if_pos h]; exact ⟨rfl, rfl⟩
theorem st_bad {p q : Int} (h : (nvB p && nvB q) = false) : stV p q = 0 ∧ stE p q = 31 := by unfold stV stE; rw [h]; exact ⟨rfl, rfl⟩
theorem stV_bd (p q : Int) : -2048 ≤ stV p q ∧ stV p q ≤ 2047 := by
  have := wrP_bd (q - p)
  unfold stV
  split <;> omega
end Go.Proofs.Ytcmjlfhnibjofaa

/- Chapter 4: the reference's Residues; the program's TurnsAround. -/
namespace Go.Proofs.Ytcmjlfhnibjofaa
set_option linter.unusedVariables false
set_option linter.unusedSimpArgs false
open Go.RowKit Ntt
set_option maxHeartbeats 1000000 in
theorem fTurns_bad (R C : Int) (b0 b1 b2 b3 : Int) (zs : List Int) (v : Value) (w : World) (hl : zs.length ≤ 100000) (hv : IntsV w v zs) {e0 : Int} (he : (mapE R C zs).2 = e0) (h0 : e0 ≠ 0) :
    Calls Try.prog 69 #[.agg #[.int .i64 R, .int .i64 C, v], .agg #[.int .i64 b0, .int .i64 b1, .int .i64 b2, .int .i64 b3]] w fun e w' => e = .returned (.tuple #[.int .i64 0, .int .i64 e0]) ∧ Below w.heap.size w w' := by
  have HME := Lib.hid (show ∀ W, Below w.heap.size w W → _ from fun W hW => mapErr_any R C zs v W hl (hv.below hW) he)
  have hne : (e0 != 0) = true := by simpa using h0
  obtain ⟨-, a, cap, rfl, -⟩ := hv
  clear he h0
  go_enter Try.func69, Try.ntmps69
  go_wp2_with (first | (go_at_call 66; (with_reducible refine (HME.out _ (by (repeat' (first | with_reducible exact Below.refl _ _ | (with_reducible refine below_later_of ?_ ?_ _) | (with_reducible refine Below.alloc ?_ ?_ _) | (with_reducible refine Below.setCell ?_ ?_ _) | (with_reducible refine Below.drew ?_) | (simp; done) | (simp; omega) | omega)))).mono ?_); rintro e w' ⟨rfl, hb⟩; obtain ⟨pe, rfl⟩ := later_of_below hb; clear hb))
  go_ret2
  exact ⟨rfl, (by (repeat' (first | with_reducible exact Below.refl _ _ | (with_reducible refine below_later_of ?_ ?_ _) | (with_reducible refine Below.alloc ?_ ?_ _) | (with_reducible refine Below.setCell ?_ ?_ _) | (with_reducible refine Below.drew ?_) | (simp; done) | (simp; omega) | omega)))⟩
set_option maxRecDepth 20000 in
set_option maxHeartbeats 2000000 in
theorem fTurns_out (R C : Nat) (r c h wd : Int) (zs : List Int) (v : Value) (w : World) (hm : MapOk R C zs) (hv : IntsV w v zs) (hb : boxB R C r c h wd = false) :
    Calls Try.prog 69 #[.agg #[.int .i64 R, .int .i64 C, v], .agg #[.int .i64 r, .int .i64 c, .int .i64 h, .int .i64 wd]] w fun e w' => e = .returned (.tuple #[.int .i64 0, .int .i64 2]) ∧ Below w.heap.size w w' := by
  have hsz := hm.size
  have HME := Lib.hid (show ∀ W, Below w.heap.size w W → _ from fun W hW => mapErr_any R C zs v W (by omega) (hv.below hW) (e0 := 0) (by rw [hm.err]))
  have HV := Lib.hid hv
  have hR := hm.r2
  have hC := hm.c2
  have hR1 := hm.r1
  have hC1 := hm.c1
  obtain ⟨-, a, cap, rfl, -⟩ := hv
  rw [boxB_alt] at hb
  obtain ⟨q1, hq1⟩ : ∃ q1, inE 1 ((R : Int) - 1) h = q1 := ⟨_, rfl⟩
  obtain ⟨q2, hq2⟩ : ∃ q2, inE 1 ((C : Int) - 1) wd = q2 := ⟨_, rfl⟩
  obtain ⟨q3, hq3⟩ : ∃ q3, pixB R C r c = q3 := ⟨_, rfl⟩
  obtain ⟨q4, hq4⟩ : ∃ q4, pixB R C (r + h) (c + wd) = q4 := ⟨_, rfl⟩
  rw [hq1, hq2, hq3, hq4] at hb
  have H1 := Lib.hid hq1
  have H2 := Lib.hid hq2
  have HP1 := Lib.hid (show ∀ W, Below w.heap.size w W → _ from fun W hW => fHas R C r c _ zs W hR hC (HV.out.below hW) hq3)
  have HP2 := Lib.hid (show ∀ W, Below w.heap.size w W → _ from fun W hW => fHas R C (r + h) (c + wd) _ zs W hR hC (HV.out.below hW) hq4)
  clear hm
  cases q1
  · clear hq1 hq2 hq3 hq4 hb
    go_enter Try.func69, Try.ntmps69
    go_wp2_with (first | (go_at_call 66; (with_reducible refine (HME.out _ (by (repeat' (first | with_reducible exact Below.refl _ _ | (with_reducible refine below_later_of ?_ ?_ _) | (with_reducible refine Below.alloc ?_ ?_ _) | (with_reducible refine Below.setCell ?_ ?_ _) | (with_reducible refine Below.drew ?_) | (simp; done) | (simp; omega) | omega)))).mono ?_); rintro e w' ⟨rfl, hb⟩; obtain ⟨pe, rfl⟩ := later_of_below hb; clear hb) | (go_at_call 84; (with_reducible refine (fWithin _ _ _ _ H1.out).mono ?_); rintro e w' ⟨rfl, rfl⟩))
    go_ret2
    exact ⟨rfl, (by (repeat' (first | with_reducible exact Below.refl _ _ | (with_reducible refine below_later_of ?_ ?_ _) | (with_reducible refine Below.alloc ?_ ?_ _) | (with_reducible refine Below.setCell ?_ ?_ _) | (with_reducible refine Below.drew ?_) | (simp; done) | (simp; omega) | omega)))⟩
  · obtain ⟨a1, a2⟩ := inE_iff.1 hq1
    cases q2
    · clear hq1 hq2 hq3 hq4 hb
      go_enter Try.func69, Try.ntmps69
      go_wp2_with (first | (go_at_call 66; (with_reducible refine (HME.out _ (by (repeat' (first | with_reducible exact Below.refl _ _ | (with_reducible refine below_later_of ?_ ?_ _) | (with_reducible refine Below.alloc ?_ ?_ _) | (with_reducible refine Below.setCell ?_ ?_ _) | (with_reducible refine Below.drew ?_) | (simp; done) | (simp; omega) | omega)))).mono ?_); rintro e w' ⟨rfl, hb⟩; obtain ⟨pe, rfl⟩ := later_of_below hb; clear hb) | (go_at_call 84; (with_reducible refine (fWithin _ _ _ _ H1.out).mono ?_); rintro e w' ⟨rfl, rfl⟩) | (go_at_call 84; (with_reducible refine (fWithin _ _ _ _ H2.out).mono ?_); rintro e w' ⟨rfl, rfl⟩))
      go_ret2
      exact ⟨rfl, (by (repeat' (first | with_reducible exact Below.refl _ _ | (with_reducible refine below_later_of ?_ ?_ _) | (with_reducible refine Below.alloc ?_ ?_ _) | (with_reducible refine Below.setCell ?_ ?_ _) | (with_reducible refine Below.drew ?_) | (simp; done) | (simp; omega) | omega)))⟩
    · obtain ⟨a3, a4⟩ := inE_iff.1 hq2
      cases q3
      · clear hq1 hq2 hq3 hq4 hb
        go_enter Try.func69, Try.ntmps69
        go_wp2_with (first | (go_at_call 66; (with_reducible refine (HME.out _ (by (repeat' (first | with_reducible exact Below.refl _ _ | (with_reducible refine below_later_of ?_ ?_ _) | (with_reducible refine Below.alloc ?_ ?_ _) | (with_reducible refine Below.setCell ?_ ?_ _) | (with_reducible refine Below.drew ?_) | (simp; done) | (simp; omega) | omega)))).mono ?_); rintro e w' ⟨rfl, hb⟩; obtain ⟨pe, rfl⟩ := later_of_below hb; clear hb) | (go_at_call 84; (with_reducible refine (fWithin _ _ _ _ H1.out).mono ?_); rintro e w' ⟨rfl, rfl⟩) | (go_at_call 84; (with_reducible refine (fWithin _ _ _ _ H2.out).mono ?_); rintro e w' ⟨rfl, rfl⟩) | (go_at_call 131; (with_reducible refine (HP1.out _ (by (repeat' (first | with_reducible exact Below.refl _ _ | (with_reducible refine below_later_of ?_ ?_ _) | (with_reducible refine Below.alloc ?_ ?_ _) | (with_reducible refine Below.setCell ?_ ?_ _) | (with_reducible refine Below.drew ?_) | (simp; done) | (simp; omega) | omega)))).mono ?_); rintro e w' ⟨rfl, hb⟩; obtain ⟨p1, rfl⟩ := later_of_below hb; clear hb))
        go_ret2
        exact ⟨rfl, (by (repeat' (first | with_reducible exact Below.refl _ _ | (with_reducible refine below_later_of ?_ ?_ _) | (with_reducible refine Below.alloc ?_ ?_ _) | (with_reducible refine Below.setCell ?_ ?_ _) | (with_reducible refine Below.drew ?_) | (simp; done) | (simp; omega) | omega)))⟩
      · obtain ⟨r', c', rfl, rfl, h3, h4⟩ := pixB_nat hq3
        cases q4
        · clear hq1 hq2 hq3 hq4 hb
          go_enter Try.func69, Try.ntmps69
          go_wp2_with (first | (go_at_call 66; (with_reducible refine (HME.out _ (by (repeat' (first | with_reducible exact Below.refl _ _ | (with_reducible refine below_later_of ?_ ?_ _) | (with_reducible refine Below.alloc ?_ ?_ _) | (with_reducible refine Below.setCell ?_ ?_ _) | (with_reducible refine Below.drew ?_) | (simp; done) | (simp; omega) | omega)))).mono ?_); rintro e w' ⟨rfl, hb⟩; obtain ⟨pe, rfl⟩ := later_of_below hb; clear hb) | (go_at_call 84; (with_reducible refine (fWithin _ _ _ _ H1.out).mono ?_); rintro e w' ⟨rfl, rfl⟩) | (go_at_call 84; (with_reducible refine (fWithin _ _ _ _ H2.out).mono ?_); rintro e w' ⟨rfl, rfl⟩) | (go_at_call 131; (with_reducible refine (HP1.out _ (by (repeat' (first | with_reducible exact Below.refl _ _ | (with_reducible refine below_later_of ?_ ?_ _) | (with_reducible refine Below.alloc ?_ ?_ _) | (with_reducible refine Below.setCell ?_ ?_ _) | (with_reducible refine Below.drew ?_) | (simp; done) | (simp; omega) | omega)))).mono ?_); rintro e w' ⟨rfl, hb⟩; obtain ⟨p1, rfl⟩ := later_of_below hb; clear hb) | (go_at_call 131; (with_reducible refine (HP2.out _ (by (repeat' (first | with_reducible exact Below.refl _ _ | (with_reducible refine below_later_of ?_ ?_ _) | (with_reducible refine Below.alloc ?_ ?_ _) | (with_reducible refine Below.setCell ?_ ?_ _) | (with_reducible refine Below.drew ?_) | (simp; done) | (simp; omega) | omega)))).mono ?_); rintro e w' ⟨rfl, hb⟩; obtain ⟨p2, rfl⟩ := later_of_below hb; clear hb))
          go_ret2
          exact ⟨rfl, (by (repeat' (first | with_reducible exact Below.refl _ _ | (with_reducible refine below_later_of ?_ ?_ _) | (with_reducible refine Below.alloc ?_ ?_ _) | (with_reducible refine Below.setCell ?_ ?_ _) | (with_reducible refine Below.drew ?_) | (simp; done) | (simp; omega) | omega)))⟩
        · cases hb
set_option maxRecDepth 20000 in
set_option maxHeartbeats 2000000 in
theorem fTurns_in (R C r0 c0 h wd : Nat) (zs : List Int) (v : Value) (w : World) (hm : MapOk R C zs) (hv : IntsV w v zs) (hr : r0 + h < R) (hc : c0 + wd < C) (hh : 1 ≤ h) (hw : 1 ≤ wd) :
    Calls Try.prog 69 #[.agg #[.int .i64 R, .int .i64 C, v], .agg #[.int .i64 r0, .int .i64 c0, .int .i64 h, .int .i64 wd]] w fun e w' => e = .returned (.tuple #[.int .i64 (taV (zAt C (intAt zs)) r0 c0 h wd), .int .i64 (taE (zAt C (intAt zs)) r0 c0 h wd)]) ∧ Below w.heap.size w w' := by
  have hsz := hm.size
  have HME := Lib.hid (show ∀ W, Below w.heap.size w W → _ from fun W hW => mapErr_any R C zs v W (by omega) (hv.below hW) (e0 := 0) (by rw [hm.err]))
  have HV := Lib.hid hv
  have hR := hm.r2
  have hC := hm.c2
  have H1 := Lib.hid (show inE 1 ((R : Int) - 1) (h : Int) = true by unfold inE; simp; omega)
  have H2 := Lib.hid (show inE 1 ((C : Int) - 1) (wd : Int) = true by unfold inE; simp; omega)
  have e1 : ((r0 + h : Nat) : Int) = (r0 : Int) + (h : Int) := by omega
  have e2 : ((c0 + wd : Nat) : Int) = (c0 : Int) + (wd : Int) := by omega
  have hq4 := pixB_in hr hc
  rw [e1, e2] at hq4
  have HP1 := Lib.hid (show ∀ W, Below w.heap.size w W → _ from fun W hW => fHas R C r0 c0 _ zs W hR hC (HV.out.below hW) (pixB_in (by omega) (by omega)))
  have HP2 := Lib.hid (show ∀ W, Below w.heap.size w W → _ from fun W hW => fHas R C ((r0 : Int) + (h : Int)) ((c0 : Int) + (wd : Int)) _ zs W hR hC (HV.out.below hW) hq4)
  obtain ⟨q, hq⟩ : ∃ q, wholeP (zAt C (intAt zs)) r0 c0 h wd = q := ⟨_, rfl⟩
  obtain ⟨n, hn⟩ : ∃ n, (aroundP (zAt C (intAt zs)) r0 c0 h wd).tdiv 4096 = n := ⟨_, rfl⟩
  have HTU := Lib.hid (show ∀ W, Below w.heap.size w W → _ from fun W hW => fTurns R C r0 c0 h wd zs v W hm (hv.below hW) hr hc hn hq)
  unfold taV taE
  rw [hq, hn]
  obtain ⟨-, a, cap, rfl, -⟩ := hv
  clear hm hq hn hq4
  cases q
  · go_enter Try.func69, Try.ntmps69
    go_wp2_with (first | (go_at_call 66; (with_reducible refine (HME.out _ (by (repeat' (first | with_reducible exact Below.refl _ _ | (with_reducible refine below_later_of ?_ ?_ _) | (with_reducible refine Below.alloc ?_ ?_ _) | (with_reducible refine Below.setCell ?_ ?_ _) | (with_reducible refine Below.drew ?_) | (simp; done) | (simp; omega) | omega)))).mono ?_); rintro e w' ⟨rfl, hb⟩; obtain ⟨pe, rfl⟩ := later_of_below hb; clear hb) | (go_at_call 84; (with_reducible refine (fWithin _ _ _ _ H1.out).mono ?_); rintro e w' ⟨rfl, rfl⟩) | (go_at_call 84; (with_reducible refine (fWithin _ _ _ _ H2.out).mono ?_); rintro e w' ⟨rfl, rfl⟩) | (go_at_call 131; (with_reducible refine (HP1.out _ (by (repeat' (first | with_reducible exact Below.refl _ _ | (with_reducible refine below_later_of ?_ ?_ _) | (with_reducible refine Below.alloc ?_ ?_ _) | (with_reducible refine Below.setCell ?_ ?_ _) | (with_reducible refine Below.drew ?_) | (simp; done) | (simp; omega) | omega)))).mono ?_); rintro e w' ⟨rfl, hb⟩; obtain ⟨p1, rfl⟩ := later_of_below hb; clear hb) | (go_at_call 131; (with_reducible refine (HP2.out _ (by (repeat' (first | with_reducible exact Below.refl _ _ | (with_reducible refine below_later_of ?_ ?_ _) | (with_reducible refine Below.alloc ?_ ?_ _) | (with_reducible refine Below.setCell ?_ ?_ _) | (with_reducible refine Below.drew ?_) | (simp; done) | (simp; omega) | omega)))).mono ?_); rintro e w' ⟨rfl, hb⟩; obtain ⟨p2, rfl⟩ := later_of_below hb; clear hb) | (go_at_call 67; (with_reducible refine (HTU.out _ (by (repeat' (first | with_reducible exact Below.refl _ _ | (with_reducible refine below_later_of ?_ ?_ _) | (with_reducible refine Below.alloc ?_ ?_ _) | (with_reducible refine Below.setCell ?_ ?_ _) | (with_reducible refine Below.drew ?_) | (simp; done) | (simp; omega) | omega)))).mono ?_); rintro e w' ⟨rfl, hb⟩; obtain ⟨p3, rfl⟩ := later_of_below hb; clear hb))
    go_ret2
    exact ⟨rfl, (by (repeat' (first | with_reducible exact Below.refl _ _ | (with_reducible refine below_later_of ?_ ?_ _) | (with_reducible refine Below.alloc ?_ ?_ _) | (with_reducible refine Below.setCell ?_ ?_ _) | (with_reducible refine Below.drew ?_) | (simp; done) | (simp; omega) | omega)))⟩
  · go_enter Try.func69, Try.ntmps69
    go_wp2_with (first | (go_at_call 66; (with_reducible refine (HME.out _ (by (repeat' (first | with_reducible exact Below.refl _ _ | (with_reducible refine below_later_of ?_ ?_ _) | (with_reducible refine Below.alloc ?_ ?_ _) | (with_reducible refine Below.setCell ?_ ?_ _) | (with_reducible refine Below.drew ?_) | (simp; done) | (simp; omega) | omega)))).mono ?_); rintro e w' ⟨rfl, hb⟩; obtain ⟨pe, rfl⟩ := later_of_below hb; clear hb) | (go_at_call 84; (with_reducible refine (fWithin _ _ _ _ H1.out).mono ?_); rintro e w' ⟨rfl, rfl⟩) | (go_at_call 84; (with_reducible refine (fWithin _ _ _ _ H2.out).mono ?_); rintro e w' ⟨rfl, rfl⟩) | (go_at_call 131; (with_reducible refine (HP1.out _ (by (repeat' (first | with_reducible exact Below.refl _ _ | (with_reducible refine below_later_of ?_ ?_ _) | (with_reducible refine Below.alloc ?_ ?_ _) | (with_reducible refine Below.setCell ?_ ?_ _) | (with_reducible refine Below.drew ?_) | (simp; done) | (simp; omega) | omega)))).mono ?_); rintro e w' ⟨rfl, hb⟩; obtain ⟨p1, rfl⟩ := later_of_below hb; clear hb) | (go_at_call 131; (with_reducible refine (HP2.out _ (by (repeat' (first | with_reducible exact Below.refl _ _ | (with_reducible refine below_later_of ?_ ?_ _) | (with_reducible refine Below.alloc ?_ ?_ _) | (with_reducible refine Below.setCell ?_ ?_ _) | (with_reducible refine Below.drew ?_) | (simp; done) | (simp; omega) | omega)))).mono ?_); rintro e w' ⟨rfl, hb⟩; obtain ⟨p2, rfl⟩ := later_of_below hb; clear hb) | (go_at_call 67; (with_reducible refine (HTU.out _ (by (repeat' (first | with_reducible exact Below.refl _ _ | (with_reducible refine below_later_of ?_ ?_ _) | (with_reducible refine Below.alloc ?_ ?_ _) | (with_reducible refine Below.setCell ?_ ?_ _) | (with_reducible refine Below.drew ?_) | (simp; done) | (simp; omega) | omega)))).mono ?_); rintro e w' ⟨rfl, hb⟩; obtain ⟨p3, rfl⟩ := later_of_below hb; clear hb))
    go_ret2
    exact ⟨rfl, (by (repeat' (first | with_reducible exact Below.refl _ _ | (with_reducible refine below_later_of ?_ ?_ _) | (with_reducible refine Below.alloc ?_ ?_ _) | (with_reducible refine Below.setCell ?_ ?_ _) | (with_reducible refine Below.drew ?_) | (simp; done) | (simp; omega) | omega)))⟩
end Go.Proofs.Ytcmjlfhnibjofaa
