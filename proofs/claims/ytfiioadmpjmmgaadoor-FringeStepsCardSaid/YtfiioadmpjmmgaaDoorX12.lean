/- Chapter 4: TurnsAround, of the program and of the reference; the reference's Residues. -/
import Derived.Test.YtfiioadmpjmmgaaDoorX9
namespace Go.Proofs.YtfiioadmpjmmgaaDoor
set_option linter.unusedVariables false
set_option linter.unusedSimpArgs false
open Go.RowKit Ntt
/-- A box lies in a map. -/
def boxB (R C : Nat) (r c h w : Int) : Bool := pixB R C r c && (inE 1 ((R : Int) - 1 - r) h && inE 1 ((C : Int) - 1 - c) w)
theorem boxB_nat {R C : Nat} {r c h w : Int} (hb : boxB R C r c h w = true) : ∃ r' c' h' w' : Nat, r = r' ∧ c = c' ∧ h = h' ∧ w = w' ∧ r' + h' < R ∧ c' + w' < C ∧ 1 ≤ h' ∧ 1 ≤ w' := by
  unfold boxB at hb
  simp only [Bool.and_eq_true] at hb
  obtain ⟨h1, h2, h3⟩ := hb
  obtain ⟨r', c', rfl, rfl, h4, h5⟩ := pixB_nat h1
  obtain ⟨a1, a2⟩ := inE_iff.1 h2
  obtain ⟨b1, b2⟩ := inE_iff.1 h3
  obtain ⟨h', rfl⟩ := Int.eq_ofNat_of_zero_le (show 0 ≤ h by omega)
  obtain ⟨w', rfl⟩ := Int.eq_ofNat_of_zero_le (show 0 ≤ w by omega)
  exact ⟨r', c', h', w', rfl, rfl, rfl, rfl, by omega, by omega, by omega, by omega⟩
theorem boxB_alt {R C : Nat} {r c h w : Int} : boxB R C r c h w = (inE 1 ((R : Int) - 1) h && (inE 1 ((C : Int) - 1) w && (pixB R C r c && pixB R C (r + h) (c + w)))) := by
  rw [Bool.eq_iff_iff]
  unfold boxB pixB inE
  simp only [Bool.and_eq_true, decide_eq_true_eq]
  omega
/-! What a border says once a pixel of it is void. -/
theorem whWd_false {z : Nat → Nat → Int} {r0 c0 h k : Nat} (hk : whWd z r0 c0 h k = false) : ∀ {n : Nat}, k ≤ n → whWd z r0 c0 h n = false
  | 0, h0 => by obtain rfl : k = 0 := by omega
                exact hk
  | n + 1, h0 => by
    rcases Nat.lt_or_ge n k with h1 | h1
    · obtain rfl : k = n + 1 := by omega
      exact hk
    · rw [whWd, whWd_false hk h1]; rfl
theorem whHi_false {z : Nat → Nat → Int} {r0 c0 w k : Nat} {b : Bool} (hk : whHi z r0 c0 w b k = false) : ∀ {n : Nat}, k ≤ n → whHi z r0 c0 w b n = false
  | 0, h0 => by obtain rfl : k = 0 := by omega
                exact hk
  | n + 1, h0 => by
    rcases Nat.lt_or_ge n k with h1 | h1
    · obtain rfl : k = n + 1 := by omega
      exact hk
    · rw [whHi, whHi_false hk h1]; rfl
/-- The turns around a box, and the error. -/
def taV (z : Nat → Nat → Int) (r c h w : Nat) : Int := if wholeP z r c h w then (aroundP z r c h w).tdiv 4096 else 0
def taE (z : Nat → Nat → Int) (r c h w : Nat) : Int := if wholeP z r c h w then 0 else 31
set_option maxHeartbeats 1000000 in
theorem rTurns_out (R C : Nat) (r c h wd : Int) (n cap : Nat) (a : Option Addr) (w : World) (h1 : R ≤ 64) (h2 : C ≤ 64) (hb : boxB R C r c h wd = false) :
    Calls Tryd.prog 24 #[.agg #[.int .i64 R, .int .i64 C, .slice a n cap], .agg #[.int .i64 r, .int .i64 c, .int .i64 h, .int .i64 wd]] w fun e w' => e = .returned (.tuple #[.int .i64 0, .int .i64 2]) ∧ Below w.heap.size w w' := by
  unfold boxB at hb
  obtain ⟨q, hq⟩ : ∃ q, pixB R C r c = q := ⟨_, rfl⟩
  have HP1 := Lib.hid (show ∀ W, Below w.heap.size w W → _ from fun W _ => rIsPixel R C r c n cap a W h1 h2 hq)
  rw [hq] at hb
  cases q
  · clear hb hq
    go_enter Tryd.func24, Tryd.ntmps24
    go_wp2_with (first | (go_at_call 59; (with_reducible refine (HP1.out _ (by (repeat' (first | with_reducible exact Below.refl _ _ | (with_reducible refine below_later_of ?_ ?_ _) | (with_reducible refine Below.alloc ?_ ?_ _) | (with_reducible refine Below.setCell ?_ ?_ _) | (with_reducible refine Below.drew ?_) | (simp; done) | (simp; omega) | omega)))).mono ?_); rintro e w' ⟨rfl, hb⟩; obtain ⟨p1, rfl⟩ := later_of_below hb; clear hb))
    go_ret2
    exact ⟨rfl, (by (repeat' (first | with_reducible exact Below.refl _ _ | (with_reducible refine below_later_of ?_ ?_ _) | (with_reducible refine Below.alloc ?_ ?_ _) | (with_reducible refine Below.setCell ?_ ?_ _) | (with_reducible refine Below.drew ?_) | (simp; done) | (simp; omega) | omega)))⟩
  · rw [Bool.true_and] at hb
    obtain ⟨r', c', rfl, rfl, h3, h4⟩ := pixB_nat hq
    obtain ⟨q1, hq1⟩ : ∃ q1, inE 1 ((R : Int) - 1 - (r' : Int)) h = q1 := ⟨_, rfl⟩
    obtain ⟨q2, hq2⟩ : ∃ q2, inE 1 ((C : Int) - 1 - (c' : Int)) wd = q2 := ⟨_, rfl⟩
    rw [hq1, hq2] at hb
    have H1 := Lib.hid hq1
    have H2 := Lib.hid hq2
    clear hq hq1 hq2
    cases q1
    · go_enter Tryd.func24, Tryd.ntmps24
      go_wp2_with (first | (go_at_call 59; (with_reducible refine (HP1.out _ (by (repeat' (first | with_reducible exact Below.refl _ _ | (with_reducible refine below_later_of ?_ ?_ _) | (with_reducible refine Below.alloc ?_ ?_ _) | (with_reducible refine Below.setCell ?_ ?_ _) | (with_reducible refine Below.drew ?_) | (simp; done) | (simp; omega) | omega)))).mono ?_); rintro e w' ⟨rfl, hb⟩; obtain ⟨p1, rfl⟩ := later_of_below hb; clear hb) | (go_at_call 27; (with_reducible refine (bWithin _ _ _ _ H1.out).mono ?_); rintro e w' ⟨rfl, rfl⟩))
      go_ret2
      exact ⟨rfl, (by (repeat' (first | with_reducible exact Below.refl _ _ | (with_reducible refine below_later_of ?_ ?_ _) | (with_reducible refine Below.alloc ?_ ?_ _) | (with_reducible refine Below.setCell ?_ ?_ _) | (with_reducible refine Below.drew ?_) | (simp; done) | (simp; omega) | omega)))⟩
    · cases q2
      · go_enter Tryd.func24, Tryd.ntmps24
        go_wp2_with (first | (go_at_call 59; (with_reducible refine (HP1.out _ (by (repeat' (first | with_reducible exact Below.refl _ _ | (with_reducible refine below_later_of ?_ ?_ _) | (with_reducible refine Below.alloc ?_ ?_ _) | (with_reducible refine Below.setCell ?_ ?_ _) | (with_reducible refine Below.drew ?_) | (simp; done) | (simp; omega) | omega)))).mono ?_); rintro e w' ⟨rfl, hb⟩; obtain ⟨p1, rfl⟩ := later_of_below hb; clear hb) | (go_at_call 27; (with_reducible refine (bWithin _ _ _ _ H1.out).mono ?_); rintro e w' ⟨rfl, rfl⟩) | (go_at_call 27; (with_reducible refine (bWithin _ _ _ _ H2.out).mono ?_); rintro e w' ⟨rfl, rfl⟩))
        go_ret2
        exact ⟨rfl, (by (repeat' (first | with_reducible exact Below.refl _ _ | (with_reducible refine below_later_of ?_ ?_ _) | (with_reducible refine Below.alloc ?_ ?_ _) | (with_reducible refine Below.setCell ?_ ?_ _) | (with_reducible refine Below.drew ?_) | (simp; done) | (simp; omega) | omega)))⟩
      · cases hb
/-- What the reference's TurnsAround knows. -/
structure RtSt (w : World) (R C : Nat) (u : Value) (b0 b1 b2 b3 : Int) (wr : World) : Prop where
  m0 : wr.cell? ⟨w.heap.size, 0, none⟩ = some (.int .i64 R)
  m1 : wr.cell? ⟨w.heap.size, 1, none⟩ = some (.int .i64 C)
  m2 : wr.cell? ⟨w.heap.size, 2, none⟩ = some u
  b0 : wr.cell? ⟨w.heap.size + 1, 0, none⟩ = some (.int .i64 b0)
  b1 : wr.cell? ⟨w.heap.size + 1, 1, none⟩ = some (.int .i64 b1)
  b2 : wr.cell? ⟨w.heap.size + 1, 2, none⟩ = some (.int .i64 b2)
  b3 : wr.cell? ⟨w.heap.size + 1, 3, none⟩ = some (.int .i64 b3)
  bel : Below w.heap.size w wr
  lt : w.heap.size + 1 < wr.heap.size
theorem RtSt.below {w wr W : World} {R C : Nat} {u : Value} {b0 b1 b2 b3 : Int} (h : RtSt w R C u b0 b1 b2 b3 wr) (hb : Below wr.heap.size wr W) : RtSt w R C u b0 b1 b2 b3 W := by
  have hlt := h.lt
  have hs := hb.size
  have e : ∀ k j, k ≤ 1 → W.cell? ⟨w.heap.size + k, j, none⟩ = wr.cell? ⟨w.heap.size + k, j, none⟩ := fun k j hk => hb.cell (p := ⟨w.heap.size + k, j, none⟩) (show w.heap.size + k < wr.heap.size by omega)
  exact ⟨(e 0 0 (by decide)).trans h.m0, (e 0 1 (by decide)).trans h.m1, (e 0 2 (by decide)).trans h.m2, (e 1 0 (by decide)).trans h.b0, (e 1 1 (by decide)).trans h.b1, (e 1 2 (by decide)).trans h.b2, (e 1 3 (by decide)).trans h.b3, h.bel.trans (hb.mono (by omega)), by omega⟩
theorem any_worldA {G : World → Prop} {w : World} (F : World → Prop) (hf : F w) (h : ∀ W, F W → G W) : G w := h w hf
theorem st_ok {p q : Int} (h : (nvB p && nvB q) = true) : stV p q = wrP (q - p) ∧ stE p q = 0 := by unfold stV stE; rw [if_pos h, if_pos h]; exact ⟨rfl, rfl⟩
theorem st_bad {p q : Int} (h : (nvB p && nvB q) = false) : stV p q = 0 ∧ stE p q = 31 := by unfold stV stE; rw [h]; exact ⟨rfl, rfl⟩
theorem stV_bd (p q : Int) : -2048 ≤ stV p q ∧ stV p q ≤ 2047 := by
  have := wrP_bd (q - p)
  unfold stV
  split <;> omega
set_option maxRecDepth 20000 in
set_option maxHeartbeats 8000000 in
theorem rTurns_in (R C r0 c0 h wd : Nat) (zs : List Int) (v : Value) (w : World) (hm : MapOk R C zs) (hv : IntsV w v zs) (hr : r0 + h < R) (hc : c0 + wd < C) (hh : 1 ≤ h) (hw : 1 ≤ wd) :
    Calls Tryd.prog 24 #[.agg #[.int .i64 R, .int .i64 C, v], .agg #[.int .i64 r0, .int .i64 c0, .int .i64 h, .int .i64 wd]] w fun e w' => e = .returned (.tuple #[.int .i64 (taV (zAt C (intAt zs)) r0 c0 h wd), .int .i64 (taE (zAt C (intAt zs)) r0 c0 h wd)]) ∧ Below w.heap.size w w' := by
  have HM := Lib.hid hm
  have HV := Lib.hid hv
  have hR := hm.r2
  have hC := hm.c2
  obtain ⟨z, hz⟩ : ∃ z, zAt C (intAt zs) = z := ⟨_, rfl⟩
  have HZ := Lib.hid (show ∀ r c, zAt C (intAt zs) r c = z r c from fun r c => by rw [hz])
  rw [hz]
  obtain ⟨hl, a, cap, rfl, -⟩ := hv
  have HP1 := Lib.hid (show ∀ W, Below w.heap.size w W → _ from fun W _ => rIsPixel R C r0 c0 zs.length cap a W hR hC (pixB_in (by omega) (by omega)))
  have H1 := Lib.hid (show inE 1 ((R : Int) - 1 - (r0 : Int)) h = true by unfold inE; simp; omega)
  have H2 := Lib.hid (show inE 1 ((C : Int) - 1 - (c0 : Int)) wd = true by unfold inE; simp; omega)
  have HWF := Lib.hid (show wholeP z r0 c0 h wd = false → taV z r0 c0 h wd = 0 ∧ taE z r0 c0 h wd = 31 from fun h => by unfold taV taE; rw [h]; exact ⟨rfl, rfl⟩)
  have HWT := Lib.hid (show wholeP z r0 c0 h wd = true → taV z r0 c0 h wd = (aroundP z r0 c0 h wd).tdiv 4096 ∧ taE z r0 c0 h wd = 0 from fun h => by unfold taV taE; rw [h]; exact ⟨rfl, rfl⟩)
  clear hm hz hl
  go_enter Tryd.func24, Tryd.ntmps24
  go_wp2_with (first | (go_at_call 59; (with_reducible refine (HP1.out _ (by (repeat' (first | with_reducible exact Below.refl _ _ | (with_reducible refine below_later_of ?_ ?_ _) | (with_reducible refine Below.alloc ?_ ?_ _) | (with_reducible refine Below.setCell ?_ ?_ _) | (with_reducible refine Below.drew ?_) | (simp; done) | (simp; omega) | omega)))).mono ?_); rintro e w' ⟨rfl, hb⟩; obtain ⟨p1, rfl⟩ := later_of_below hb; clear hb) | (go_at_call 27; (with_reducible refine (bWithin _ _ _ _ H1.out).mono ?_); rintro e w' ⟨rfl, rfl⟩) | (go_at_call 27; (with_reducible refine (bWithin _ _ _ _ H2.out).mono ?_); rintro e w' ⟨rfl, rfl⟩))
  refine any_worldA (fun W => RtSt w R C (.slice a zs.length cap) r0 c0 h wd W) ⟨by simp [go_sem], by simp [go_sem], by simp [go_sem], by simp [go_sem], by simp [go_sem], by simp [go_sem], by simp [go_sem], (by (repeat' (first | with_reducible exact Below.refl _ _ | (with_reducible refine below_later_of ?_ ?_ _) | (with_reducible refine Below.alloc ?_ ?_ _) | (with_reducible refine Below.setCell ?_ ?_ _) | (with_reducible refine Below.drew ?_) | (simp; done) | (simp; omega) | omega))), by simp; omega⟩ ?_
  rintro W0 hst
  have HS0 := Lib.hid hst
  clear hst
  go_wp2
  go_loopw [6, 7] (fun s i wr => ∃ k : Nat, k ≤ wd ∧ i = .int .i64 k ∧ s = .int .i64 (sumWd z r0 c0 h k) ∧ whWd z r0 c0 h k = true ∧ RtSt w R C (.slice a zs.length cap) r0 c0 h wd wr) (fun _ i _ => wd - (intOf i).toNat)
  case atStart => exact ⟨0, Nat.zero_le _, rfl, rfl, rfl, HS0.out⟩
  case round =>
    obtain ⟨k, hk, rfl, rfl, hwh, hst⟩ := hrel
    obtain ⟨bd1, bd2⟩ := sumWd_bd z r0 c0 h k
    by_cases hlt : k < wd
    · have hdk : decide ((k : Int) < (wd : Int)) = true := by simp; omega
      have m0 := hst.m0; have m1 := hst.m1; have m2 := hst.m2; have b0 := hst.b0; have b1 := hst.b1; have b2 := hst.b2; have b3 := hst.b3; have hltw := hst.lt
      have HS := Lib.hid hst
      have HBE := Lib.hid hst.bel
      obtain ⟨pa, hpa⟩ : ∃ pa, z r0 (c0 + k) = pa := ⟨_, rfl⟩
      obtain ⟨qa, hqa⟩ : ∃ qa, z r0 (c0 + k + 1) = qa := ⟨_, rfl⟩
      obtain ⟨pb, hpb⟩ : ∃ pb, z (r0 + h) (c0 + k) = pb := ⟨_, rfl⟩
      obtain ⟨qb, hqb⟩ : ∃ qb, z (r0 + h) (c0 + k + 1) = qb := ⟨_, rfl⟩
      have HA1 := Lib.hid (show ∀ ri ci : Int, ri = (r0 : Int) → ci = ((c0 + k : Nat) : Int) → _ from fun ri ci h1 h2 => rStep_in R C r0 (c0 + k) false ri ci zs _ wr HM.out (HV.out.below hst.bel) (by simp only [toR, Bool.false_eq_true, if_false]; omega) (by simp only [toC, Bool.false_eq_true, if_false]; omega) h1 h2 ((HZ.out _ _).trans hpa) ((HZ.out _ _).trans hqa))
      have HA2 := Lib.hid (show ∀ W, Below wr.heap.size wr W → ∀ ri ci : Int, ri = ((r0 + h : Nat) : Int) → ci = ((c0 + k : Nat) : Int) → _ from fun W hW ri ci h1 h2 => rStep_in R C (r0 + h) (c0 + k) false ri ci zs _ W HM.out (HV.out.below (hst.bel.trans (hW.mono hst.bel.size))) (by simp only [toR, Bool.false_eq_true, if_false]; omega) (by simp only [toC, Bool.false_eq_true, if_false]; omega) h1 h2 ((HZ.out _ _).trans hpb) ((HZ.out _ _).trans hqb))
      have HBAD := Lib.hid (show ((nvB (z r0 (c0 + k)) && nvB (z r0 (c0 + k + 1))) && (nvB (z (r0 + h) (c0 + k)) && nvB (z (r0 + h) (c0 + k + 1)))) = false → taV z r0 c0 h wd = 0 ∧ taE z r0 c0 h wd = 31 from fun hh => HWF.out (by
        have h1 : whWd z r0 c0 h (k + 1) = false := by rw [whWd, hwh, Bool.true_and]; exact hh
        have h2 := whWd_false h1 (n := wd) hlt
        unfold wholeP
        exact whHi_false (k := 0) (by rw [whHi]; exact h2) (Nat.zero_le _)))
      have HGOOD := Lib.hid (show (nvB (z r0 (c0 + k)) && nvB (z r0 (c0 + k + 1))) = true → (nvB (z (r0 + h) (c0 + k)) && nvB (z (r0 + h) (c0 + k + 1))) = true → whWd z r0 c0 h (k + 1) = true from fun h1 h2 => by rw [whWd, hwh, Bool.true_and]; unfold okR; rw [h1, h2]; rfl)
      have HSQ0 := sumWd_succ z r0 c0 h k
      rw [hpa, hqa, hpb, hqb] at HSQ0
      obtain ⟨t, ht⟩ : ∃ t, sumWd z r0 c0 h k = t := ⟨_, rfl⟩
      obtain ⟨HSN, hsn⟩ : ∃ HSN, sumWd z r0 c0 h (k + 1) = HSN := ⟨_, rfl⟩
      rw [ht] at bd1 bd2 HSQ0 ⊢
      rw [hsn] at HSQ0
      have HSQ := Lib.hid (show t + wrP (qa - pa) - wrP (qb - pb) = HSN by omega)
      have HSNQ := Lib.hid hsn
      clear hwh ht HSQ0 hsn
      obtain ⟨va, hva⟩ : ∃ va, stV pa qa = va := ⟨_, rfl⟩
      obtain ⟨ea, hea⟩ : ∃ ea, stE pa qa = ea := ⟨_, rfl⟩
      obtain ⟨vb, hvb⟩ : ∃ vb, stV pb qb = vb := ⟨_, rfl⟩
      obtain ⟨eb, heb⟩ : ∃ eb, stE pb qb = eb := ⟨_, rfl⟩
      have bda := stV_bd pa qa
      have bdb := stV_bd pb qb
      rw [hva] at bda
      rw [hvb] at bdb
      rw [hva, hea] at HA1
      rw [hvb, heb] at HA2
      cases h1 : (nvB pa && nvB qa)
      · obtain ⟨g1, g2⟩ := st_bad h1
        have e1 : (ea != 0) = true := by rw [← hea, g2]; rfl
        have HF := Lib.hid (HBAD.out (by rw [hpa, hqa, h1]; simp))
        clear hst bda bdb g1 g2 h1 hva hvb hea heb hpa hqa hpb hqb
        go_wp2_with (first | (go_at_call 30; (with_reducible refine (HA1.out _ _ (by omega) (by omega)).mono ?_); rintro e w1 ⟨rfl, hb⟩; have HB1 := Lib.hid hb; have hz1 := hb.size; obtain ⟨p1, rfl⟩ := later_of_below hb; clear hb) | (go_at_call 30; (with_reducible refine (HA2.out _ HB1.out _ _ (by omega) (by omega)).mono ?_); rintro e w1 ⟨rfl, hb⟩; have HB2 := Lib.hid hb; have hz2 := hb.size; obtain ⟨p2, rfl⟩ := later_of_below hb; clear hb))
        go_ret2
        exact ⟨by rw [HF.out.1, HF.out.2]; rfl, HBE.out.trans (by (repeat' (first | with_reducible exact Below.refl _ _ | (with_reducible refine below_later_of ?_ ?_ _) | (with_reducible refine Below.alloc ?_ ?_ _) | (with_reducible refine Below.setCell ?_ ?_ _) | (with_reducible refine Below.drew ?_) | (simp; done) | (simp; omega) | omega)))⟩
      · cases h2 : (nvB pb && nvB qb)
        · obtain ⟨g1, g2⟩ := st_ok h1
          obtain ⟨g3, g4⟩ := st_bad h2
          have e1 : (ea != 0) = false := by rw [← hea, g2]; rfl
          have e2 : (eb != 0) = true := by rw [← heb, g4]; rfl
          have HF := Lib.hid (HBAD.out (by rw [hpb, hqb, h2]; simp))
          clear hst bda bdb g1 g2 g3 g4 h1 h2 hva hvb hea heb hpa hqa hpb hqb
          go_wp2_with (first | (go_at_call 30; (with_reducible refine (HA1.out _ _ (by omega) (by omega)).mono ?_); rintro e w1 ⟨rfl, hb⟩; have HB1 := Lib.hid hb; have hz1 := hb.size; obtain ⟨p1, rfl⟩ := later_of_below hb; clear hb) | (go_at_call 30; (with_reducible refine (HA2.out _ HB1.out _ _ (by omega) (by omega)).mono ?_); rintro e w1 ⟨rfl, hb⟩; have HB2 := Lib.hid hb; have hz2 := hb.size; obtain ⟨p2, rfl⟩ := later_of_below hb; clear hb))
          go_ret2
          exact ⟨by rw [HF.out.1, HF.out.2]; rfl, HBE.out.trans (by (repeat' (first | with_reducible exact Below.refl _ _ | (with_reducible refine below_later_of ?_ ?_ _) | (with_reducible refine Below.alloc ?_ ?_ _) | (with_reducible refine Below.setCell ?_ ?_ _) | (with_reducible refine Below.drew ?_) | (simp; done) | (simp; omega) | omega)))⟩
        · obtain ⟨g1, g2⟩ := st_ok h1
          obtain ⟨g3, g4⟩ := st_ok h2
          have e1 : (ea != 0) = false := by rw [← hea, g2]; rfl
          have e2 : (eb != 0) = false := by rw [← heb, g4]; rfl
          have HNEW := Lib.hid (HGOOD.out (by rw [hpa, hqa]; exact h1) (by rw [hpb, hqb]; exact h2))
          have HSUM := Lib.hid (show t + va - vb = HSN by rw [← hva, ← hvb, g1, g3]; exact HSQ.out)
          clear hst g1 g2 g3 g4 h1 h2 hva hvb hea heb hpa hqa hpb hqb
          go_wp2_with (first | (go_at_call 30; (with_reducible refine (HA1.out _ _ (by omega) (by omega)).mono ?_); rintro e w1 ⟨rfl, hb⟩; have HB1 := Lib.hid hb; have hz1 := hb.size; obtain ⟨p1, rfl⟩ := later_of_below hb; clear hb) | (go_at_call 30; (with_reducible refine (HA2.out _ HB1.out _ _ (by omega) (by omega)).mono ?_); rintro e w1 ⟨rfl, hb⟩; have HB2 := Lib.hid hb; have hz2 := hb.size; obtain ⟨p2, rfl⟩ := later_of_below hb; clear hb))
          go_roundw
          case rel => exact ⟨k + 1, by omega, by go_num, by rw [HSUM.out, HSNQ.out], HNEW.out, (HS.out.below HB1.out).below HB2.out⟩
          case measure => simp [intOf]; omega
    · obtain rfl : k = wd := by omega
      have hdk : decide ((k : Int) < (k : Int)) = false := by simp
      have m0 := hst.m0; have m1 := hst.m1; have m2 := hst.m2; have b0 := hst.b0; have b1 := hst.b1; have b2 := hst.b2; have b3 := hst.b3; have hltw := hst.lt
      have HS3 := Lib.hid hst
      obtain ⟨T, hT⟩ : ∃ T, sumWd z r0 c0 h k = T := ⟨_, rfl⟩
      rw [hT] at bd1 bd2
      have HT := Lib.hid hT
      have HWH := Lib.hid hwh
      clear hst hT hwh
      simp only [HT.out]
      go_wp2
      go_loopw [6, 12] (fun s i wr => ∃ j : Nat, j ≤ h ∧ i = .int .i64 j ∧ s = .int .i64 (T + sumHi z r0 c0 k j) ∧ whHi z r0 c0 k true j = true ∧ RtSt w R C (.slice a zs.length cap) r0 c0 h k wr) (fun _ i _ => h - (intOf i).toNat)
      case atStart => exact ⟨0, Nat.zero_le _, rfl, by unfold sumHi; rw [sum, Int.add_zero], rfl, HS3.out⟩
      case round =>
        clear b0 b1 b2 b3 hltw m0 m1 m2
        obtain ⟨j, hj, rfl, rfl, hwh, hst⟩ := hrel
        obtain ⟨bd3, bd4⟩ := sumHi_bd z r0 c0 k j
        by_cases hlt2 : j < h
        · obtain ⟨kk, hkk⟩ : ∃ kk, kk = k := ⟨_, rfl⟩
          have hdj : decide ((j : Int) < (h : Int)) = true := by simp; omega
          have m0 := hst.m0; have m1 := hst.m1; have m2 := hst.m2; have b0 := hst.b0; have b1 := hst.b1; have b2 := hst.b2; have b3 := hst.b3; have hltw := hst.lt
          have HS := Lib.hid hst
          have HBE := Lib.hid hst.bel
          obtain ⟨pa, hpa⟩ : ∃ pa, z (r0 + j) (c0 + k) = pa := ⟨_, rfl⟩
          obtain ⟨qa, hqa⟩ : ∃ qa, z (r0 + j + 1) (c0 + k) = qa := ⟨_, rfl⟩
          obtain ⟨pb, hpb⟩ : ∃ pb, z (r0 + j) c0 = pb := ⟨_, rfl⟩
          obtain ⟨qb, hqb⟩ : ∃ qb, z (r0 + j + 1) c0 = qb := ⟨_, rfl⟩
          have HA1 := Lib.hid (show ∀ ri ci : Int, ri = ((r0 + j : Nat) : Int) → ci = ((c0 + k : Nat) : Int) → _ from fun ri ci h1 h2 => rStep_in R C (r0 + j) (c0 + k) true ri ci zs _ wr HM.out (HV.out.below hst.bel) (by simp only [toR, if_true]; omega) (by simp only [toC, if_true]; omega) h1 h2 ((HZ.out _ _).trans hpa) ((HZ.out _ _).trans hqa))
          have HA2 := Lib.hid (show ∀ W, Below wr.heap.size wr W → ∀ ri ci : Int, ri = ((r0 + j : Nat) : Int) → ci = (c0 : Int) → _ from fun W hW ri ci h1 h2 => rStep_in R C (r0 + j) c0 true ri ci zs _ W HM.out (HV.out.below (hst.bel.trans (hW.mono hst.bel.size))) (by simp only [toR, if_true]; omega) (by simp only [toC, if_true]; omega) h1 h2 ((HZ.out _ _).trans hpb) ((HZ.out _ _).trans hqb))
          have HBAD := Lib.hid (show ((nvB (z (r0 + j) (c0 + k)) && nvB (z (r0 + j + 1) (c0 + k))) && (nvB (z (r0 + j) c0) && nvB (z (r0 + j + 1) c0))) = false → taV z r0 c0 h k = 0 ∧ taE z r0 c0 h k = 31 from fun hh => HWF.out (by
            have h1 : whHi z r0 c0 k true (j + 1) = false := by rw [whHi, hwh, Bool.true_and]; exact hh
            unfold wholeP
            rw [HWH.out]
            exact whHi_false h1 hlt2))
          have HGOOD := Lib.hid (show (nvB (z (r0 + j) (c0 + k)) && nvB (z (r0 + j + 1) (c0 + k))) = true → (nvB (z (r0 + j) c0) && nvB (z (r0 + j + 1) c0)) = true → whHi z r0 c0 k true (j + 1) = true from fun h1 h2 => by rw [whHi, hwh, Bool.true_and]; unfold okD; rw [h1, h2]; rfl)
          have HSQ0 := sumHi_succ z r0 c0 k j T
          rw [hpa, hqa, hpb, hqb] at HSQ0
          obtain ⟨t, ht⟩ : ∃ t, T + sumHi z r0 c0 k j = t := ⟨_, rfl⟩
          obtain ⟨HSN, hsn⟩ : ∃ HSN, T + sumHi z r0 c0 k (j + 1) = HSN := ⟨_, rfl⟩
          obtain ⟨bd5, bd6⟩ : -1000000 ≤ t ∧ t ≤ 1000000 := by omega
          rw [ht] at HSQ0 ⊢
          rw [hsn] at HSQ0
          have HSQ := Lib.hid (show t + wrP (qa - pa) - wrP (qb - pb) = HSN by omega)
          have HSNQ := Lib.hid hsn
          clear hwh ht HSQ0 hsn bd3 bd4 hkk
          obtain ⟨va, hva⟩ : ∃ va, stV pa qa = va := ⟨_, rfl⟩
          obtain ⟨ea, hea⟩ : ∃ ea, stE pa qa = ea := ⟨_, rfl⟩
          obtain ⟨vb, hvb⟩ : ∃ vb, stV pb qb = vb := ⟨_, rfl⟩
          obtain ⟨eb, heb⟩ : ∃ eb, stE pb qb = eb := ⟨_, rfl⟩
          have bda := stV_bd pa qa
          have bdb := stV_bd pb qb
          rw [hva] at bda
          rw [hvb] at bdb
          rw [hva, hea] at HA1
          rw [hvb, heb] at HA2
          cases h1 : (nvB pa && nvB qa)
          · obtain ⟨g1, g2⟩ := st_bad h1
            have e1 : (ea != 0) = true := by rw [← hea, g2]; rfl
            have HF := Lib.hid (HBAD.out (by rw [hpa, hqa, h1]; simp))
            clear hst bda bdb g1 g2 h1 hva hvb hea heb hpa hqa hpb hqb
            go_wp2_with (first | (go_at_call 30; (with_reducible refine (HA1.out _ _ (by omega) (by omega)).mono ?_); rintro e w1 ⟨rfl, hb⟩; have HB1 := Lib.hid hb; have hz1 := hb.size; obtain ⟨p1, rfl⟩ := later_of_below hb; clear hb) | (go_at_call 30; (with_reducible refine (HA2.out _ HB1.out _ _ (by omega) (by omega)).mono ?_); rintro e w1 ⟨rfl, hb⟩; have HB2 := Lib.hid hb; have hz2 := hb.size; obtain ⟨p2, rfl⟩ := later_of_below hb; clear hb))
            go_ret2
            exact ⟨by rw [HF.out.1, HF.out.2]; rfl, HBE.out.trans (by (repeat' (first | with_reducible exact Below.refl _ _ | (with_reducible refine below_later_of ?_ ?_ _) | (with_reducible refine Below.alloc ?_ ?_ _) | (with_reducible refine Below.setCell ?_ ?_ _) | (with_reducible refine Below.drew ?_) | (simp; done) | (simp; omega) | omega)))⟩
          · cases h2 : (nvB pb && nvB qb)
            · obtain ⟨g1, g2⟩ := st_ok h1
              obtain ⟨g3, g4⟩ := st_bad h2
              have e1 : (ea != 0) = false := by rw [← hea, g2]; rfl
              have e2 : (eb != 0) = true := by rw [← heb, g4]; rfl
              have HF := Lib.hid (HBAD.out (by rw [hpb, hqb, h2]; simp))
              clear hst bda bdb g1 g2 g3 g4 h1 h2 hva hvb hea heb hpa hqa hpb hqb
              go_wp2_with (first | (go_at_call 30; (with_reducible refine (HA1.out _ _ (by omega) (by omega)).mono ?_); rintro e w1 ⟨rfl, hb⟩; have HB1 := Lib.hid hb; have hz1 := hb.size; obtain ⟨p1, rfl⟩ := later_of_below hb; clear hb) | (go_at_call 30; (with_reducible refine (HA2.out _ HB1.out _ _ (by omega) (by omega)).mono ?_); rintro e w1 ⟨rfl, hb⟩; have HB2 := Lib.hid hb; have hz2 := hb.size; obtain ⟨p2, rfl⟩ := later_of_below hb; clear hb))
              go_ret2
              exact ⟨by rw [HF.out.1, HF.out.2]; rfl, HBE.out.trans (by (repeat' (first | with_reducible exact Below.refl _ _ | (with_reducible refine below_later_of ?_ ?_ _) | (with_reducible refine Below.alloc ?_ ?_ _) | (with_reducible refine Below.setCell ?_ ?_ _) | (with_reducible refine Below.drew ?_) | (simp; done) | (simp; omega) | omega)))⟩
            · obtain ⟨g1, g2⟩ := st_ok h1
              obtain ⟨g3, g4⟩ := st_ok h2
              have e1 : (ea != 0) = false := by rw [← hea, g2]; rfl
              have e2 : (eb != 0) = false := by rw [← heb, g4]; rfl
              have HNEW := Lib.hid (HGOOD.out (by rw [hpa, hqa]; exact h1) (by rw [hpb, hqb]; exact h2))
              have HSUM := Lib.hid (show t + va - vb = HSN by rw [← hva, ← hvb, g1, g3]; exact HSQ.out)
              clear hst g1 g2 g3 g4 h1 h2 hva hvb hea heb hpa hqa hpb hqb
              go_wp2_with (first | (go_at_call 30; (with_reducible refine (HA1.out _ _ (by omega) (by omega)).mono ?_); rintro e w1 ⟨rfl, hb⟩; have HB1 := Lib.hid hb; have hz1 := hb.size; obtain ⟨p1, rfl⟩ := later_of_below hb; clear hb) | (go_at_call 30; (with_reducible refine (HA2.out _ HB1.out _ _ (by omega) (by omega)).mono ?_); rintro e w1 ⟨rfl, hb⟩; have HB2 := Lib.hid hb; have hz2 := hb.size; obtain ⟨p2, rfl⟩ := later_of_below hb; clear hb))
              go_roundw
              case rel => exact ⟨j + 1, by omega, by go_num, by rw [HSUM.out, HSNQ.out], HNEW.out, (HS.out.below HB1.out).below HB2.out⟩
              case measure => simp [intOf]; omega
        · obtain rfl : j = h := by omega
          have hdj : decide ((j : Int) < (j : Int)) = false := by simp
          have m0 := hst.m0; have m1 := hst.m1; have m2 := hst.m2; have b0 := hst.b0; have b1 := hst.b1; have b2 := hst.b2; have b3 := hst.b3; have hltw := hst.lt
          have HBE := Lib.hid hst.bel
          have HF := Lib.hid (HWT.out (by unfold wholeP; rw [HWH.out]; exact hwh))
          have HAR := Lib.hid (show (aroundP z r0 c0 j k).tdiv 4096 = (T + sumHi z r0 c0 k j).tdiv 4096 by rw [← HT.out]; rfl)
          obtain ⟨bd5, bd6⟩ : -1000000 ≤ T + sumHi z r0 c0 k j ∧ T + sumHi z r0 c0 k j ≤ 1000000 := by omega
          clear bd3 bd4
          generalize T + sumHi z r0 c0 k j = t at *
          obtain ⟨td1, td2⟩ := tdiv_bd t 4096
          obtain ⟨td3, td4⟩ : -1000000 ≤ t.tdiv 4096 ∧ t.tdiv 4096 ≤ 1000000 := by omega
          clear td1 td2
          clear hst hwh
          go_wp2
          go_ret2
          exact ⟨by rw [HF.out.1, HF.out.2, HAR.out]; rfl, HBE.out.trans (by (repeat' (first | with_reducible exact Below.refl _ _ | (with_reducible refine below_later_of ?_ ?_ _) | (with_reducible refine Below.alloc ?_ ?_ _) | (with_reducible refine Below.setCell ?_ ?_ _) | (with_reducible refine Below.drew ?_) | (simp; done) | (simp; omega) | omega)))⟩
end Go.Proofs.YtfiioadmpjmmgaaDoor
