/- Chapter 4: within, floor, wrap; the error of a map. -/
import Derived.Test.YtfiioadmpjmmgaaDoorZH
import Derived.Test.YtfiioadmpjmmgaaDoorZJ
import Derived.Test.YtfiioadmpjmmgaaDoorZG
import Derived.Test.YtfiioadmpjmmgaaDoorX1
namespace Go.Proofs.YtfiioadmpjmmgaaDoor
set_option linter.unusedVariables false
set_option linter.unusedSimpArgs false
open Go.RowKit Ntt
theorem fWithin (n lo hi : Int) (w : World) {c : Bool} (hc : inE lo hi n = c) :
    Calls Tryd.prog 51 #[.int .i64 n, .int .i64 lo, .int .i64 hi] w fun e w' => e = .returned (.bool c) ∧ w = w' := by
  subst hc
  unfold inE
  go_enter Tryd.func51, Tryd.ntmps51
  by_cases h1 : lo ≤ n
  · go_wp2
    go_ret
    exact ⟨by simp [h1], rfl⟩
  · have hd : decide (lo ≤ n) = false := by simpa using h1
    go_wp2
    go_ret
    exact ⟨by simp, rfl⟩
theorem fl_gen (x d : Int) (hd : 0 < d) : (if x.tmod d < 0 then x.tdiv d - 1 else x.tdiv d) = x / d := by
  rcases Int.le_total 0 x with h | h
  · rw [Int.tmod_eq_emod_of_nonneg h, Int.tdiv_eq_ediv_of_nonneg h, if_neg (by have := Int.emod_nonneg x (show d ≠ 0 by omega); omega)]
  · obtain ⟨y, rfl⟩ : ∃ y, x = -y := ⟨-x, by omega⟩
    rw [Int.neg_tmod, Int.tmod_eq_emod_of_nonneg (a := y) (by omega), Int.neg_tdiv, Int.tdiv_eq_ediv_of_nonneg (a := y) (by omega)]
    have e := Int.emod_add_mul_ediv y d
    have r0 := Int.emod_nonneg y (show d ≠ 0 by omega)
    have r1 := Int.emod_lt_of_pos y hd
    generalize y % d = r at *
    generalize y / d = q at *
    split
    · have : -y = (d - r) + d * (-q - 1) := by grind
      rw [this, Int.add_mul_ediv_left _ _ (by omega), Int.ediv_eq_zero_of_lt (by omega) (by omega)]
      omega
    · obtain rfl : r = 0 := by omega
      have : -y = d * (-q) := by grind
      rw [this, Int.mul_ediv_cancel_left _ (by omega)]
theorem tdiv_bd (n d : Int) : -(n.natAbs : Int) ≤ n.tdiv d ∧ n.tdiv d ≤ n.natAbs := by
  have h2 : (n.tdiv d).natAbs ≤ n.natAbs := by rw [Int.natAbs_tdiv]; exact Nat.div_le_self _ _
  omega
set_option maxHeartbeats 400000 in
theorem fFloor (n d : Int) (w : World) (h1 : -4611686018427387904 ≤ n) (h2 : n ≤ 4611686018427387904) (hd : 1 ≤ d) (hd2 : d ≤ 4611686018427387904) {v : Int} (hv : n / d = v) :
    Calls Tryd.prog 52 #[.int .i64 n, .int .i64 d] w fun e w' => e = .returned (.int .i64 v) ∧ w = w' := by
  have hf := fl_gen n d (by omega)
  rw [hv] at hf
  obtain ⟨b1, b2⟩ := tdiv_bd n d
  obtain ⟨r, hr⟩ : ∃ r, n.tmod d = r := ⟨_, rfl⟩
  obtain ⟨a, ha⟩ : ∃ a, n.tdiv d = a := ⟨_, rfl⟩
  rw [hr, ha] at hf
  rw [ha] at b1 b2
  have hd0 : ¬ d = 0 := by omega
  have hdm : ¬ d = -1 := by omega
  obtain ⟨b3, b4⟩ : -4611686018427387904 ≤ a ∧ a ≤ 4611686018427387904 := by omega
  have HF := Lib.hid hf
  clear hf hv
  by_cases hc : r < 0
  · have hdc : decide (r < 0) = true := by simpa using hc
    have HV := Lib.hid (show a - 1 = v by have := HF.out; rw [if_pos hc] at this; exact this)
    clear HF
    go_enter Tryd.func52, Tryd.ntmps52
    go_wp2
    go_ret
    exact ⟨by rw [HV.out]; rfl, rfl⟩
  · have hdc : decide (r < 0) = false := by simpa using hc
    have HV := Lib.hid (show a = v by have := HF.out; rw [if_neg hc] at this; exact this)
    clear HF
    go_enter Tryd.func52, Tryd.ntmps52
    go_wp2
    go_ret
    exact ⟨by rw [HV.out]; rfl, rfl⟩
set_option maxHeartbeats 400000 in
theorem fWrap (n : Int) (w : World) (h1 : -1000000000000000 ≤ n) (h2 : n ≤ 1000000000000000) {v : Int} (hv : wrP n = v) :
    Calls Tryd.prog 90 #[.int .i64 n] w fun e w' => e = .returned (.int .i64 v) ∧ w = w' := by
  obtain ⟨q, hq⟩ : ∃ q, n / 4096 = q := ⟨_, rfl⟩
  have HFL := Lib.hid (fun w => fFloor n 4096 w (by omega) (by omega) (by decide) (by decide) hq)
  have hb : 0 ≤ n - 4096 * q ∧ n - 4096 * q < 4096 := by omega
  obtain ⟨c1, c2⟩ := hb
  unfold wrP at hv
  by_cases hc : 2048 ≤ n - 4096 * q
  · have hdc : decide (2048 ≤ n - 4096 * q) = true := by simpa using hc
    have HV := Lib.hid (show n - 4096 * q - 4096 = v by omega)
    clear hv hq
    go_enter Tryd.func90, Tryd.ntmps90
    go_wp2_with (first | (go_at_call 52; (with_reducible refine (HFL.out _).mono ?_); rintro e w' ⟨rfl, rfl⟩))
    go_ret
    exact ⟨by rw [HV.out]; rfl, rfl⟩
  · have hdc : decide (2048 ≤ n - 4096 * q) = false := by simpa using hc
    have HV := Lib.hid (show n - 4096 * q = v by omega)
    clear hv hq
    go_enter Tryd.func90, Tryd.ntmps90
    go_wp2_with (first | (go_at_call 52; (with_reducible refine (HFL.out _).mono ?_); rintro e w' ⟨rfl, rfl⟩))
    go_ret
    exact ⟨by rw [HV.out]; rfl, rfl⟩
set_option maxHeartbeats 1000000 in
theorem fSized (l s n : Int) (w : World) {e0 : Int} (he : sizeE l s n = e0) :
    Calls Tryd.prog 64 #[.int .i64 l, .int .i64 s, .int .i64 n] w fun e w' => e = .returned (.int .i64 e0) ∧ w = w' := by
  subst he
  rcases (show inE 1 64 l = false ∨ inE 1 64 l = true by cases inE 1 64 l <;> simp) with h1 | h1
  · have HF := Lib.hid (show sizeE l s n = 2 by unfold sizeE; rw [h1]; rfl)
    have H1 := Lib.hid h1
    clear h1
    go_enter Tryd.func64, Tryd.ntmps64
    go_wp2_with (first | (go_at_call 51; (with_reducible refine (fWithin l _ _ _ H1.out).mono ?_); rintro e w' ⟨rfl, rfl⟩))
    go_ret
    exact ⟨ret_intE HF.out.symm, rfl⟩
  · rcases (show inE 1 64 s = false ∨ inE 1 64 s = true by cases inE 1 64 s <;> simp) with h2 | h2
    · have HF := Lib.hid (show sizeE l s n = 2 by unfold sizeE; rw [h1, h2]; rfl)
      have H1 := Lib.hid h1
      have H2 := Lib.hid h2
      clear h1 h2
      go_enter Tryd.func64, Tryd.ntmps64
      go_wp2_with (first | (go_at_call 51; (with_reducible refine (fWithin l _ _ _ H1.out).mono ?_); rintro e w' ⟨rfl, rfl⟩) | (go_at_call 51; (with_reducible refine (fWithin s _ _ _ H2.out).mono ?_); rintro e w' ⟨rfl, rfl⟩))
      go_ret
      exact ⟨ret_intE HF.out.symm, rfl⟩
    · obtain ⟨a1, a2⟩ := inE_iff.1 h1
      obtain ⟨b1, b2⟩ := inE_iff.1 h2
      obtain ⟨m1, m2⟩ : 0 ≤ l * s ∧ l * s ≤ 4096 := ⟨Int.mul_nonneg (by omega) (by omega), by
        have := Int.mul_le_mul a2 b2 (by omega) (by decide)
        omega⟩
      have H1 := Lib.hid h1
      have H2 := Lib.hid h2
      by_cases hn : n = l * s
      · have HF := Lib.hid (show sizeE l s n = 0 by unfold sizeE; rw [h1, h2, if_pos (show (true && true) = true from rfl), if_pos hn])
        have hb : (n != l * s) = false := by simpa using hn
        clear h1 h2 hn
        go_enter Tryd.func64, Tryd.ntmps64
        go_wp2_with (first | (go_at_call 51; (with_reducible refine (fWithin l _ _ _ H1.out).mono ?_); rintro e w' ⟨rfl, rfl⟩) | (go_at_call 51; (with_reducible refine (fWithin s _ _ _ H2.out).mono ?_); rintro e w' ⟨rfl, rfl⟩))
        go_ret
        exact ⟨ret_intE HF.out.symm, rfl⟩
      · have HF := Lib.hid (show sizeE l s n = 10 by unfold sizeE; rw [h1, h2, if_pos (show (true && true) = true from rfl), if_neg hn])
        have hb : (n != l * s) = true := by simpa using hn
        clear h1 h2 hn
        go_enter Tryd.func64, Tryd.ntmps64
        go_wp2_with (first | (go_at_call 51; (with_reducible refine (fWithin l _ _ _ H1.out).mono ?_); rintro e w' ⟨rfl, rfl⟩) | (go_at_call 51; (with_reducible refine (fWithin s _ _ _ H2.out).mono ?_); rintro e w' ⟨rfl, rfl⟩))
        go_ret
        exact ⟨ret_intE HF.out.symm, rfl⟩
/-- A phase of a right map. -/
def phOk (p : Int) : Bool := decide (p = 1000000000000) || inE (-100000000) 100000000 p
def mapG (zs : List Int) (k : Nat) : Int := if phOk (intAt zs k) then 0 else 2
/-- The number of the first wrong pixel, and the error of a map. -/
def mapE (R C : Int) (zs : List Int) : Nat × Int := if sizeE R C zs.length = 0 then firstE zs.length (mapG zs) else (0, sizeE R C zs.length)
set_option maxHeartbeats 400000 in
theorem checkMap1 (p : Int) (w : World) {c : Bool} (hc : phOk p = c) : Calls Tryd.prog 99 #[.int .i64 p] w fun e w' => e = .returned (.bool (!c)) ∧ w = w' := by
  unfold phOk at hc
  by_cases h : p = 1000000000000
  · have hb : (p != 1000000000000) = false := by simpa using h
    have HF := Lib.hid (show false = !c by rw [← hc, decide_eq_true h]; rfl)
    clear hc h
    go_enter Tryd.func99, Tryd.ntmps99
    go_wp2
    go_ret
    exact ⟨ret_bool HF.out, rfl⟩
  · have hb : (p != 1000000000000) = true := by simpa using h
    rw [decide_eq_false h, Bool.false_or] at hc
    have HW := Lib.hid hc
    clear h hc
    go_enter Tryd.func99, Tryd.ntmps99
    go_wp2_with (first | (go_at_call 51; (with_reducible refine (fWithin _ _ _ _ HW.out).mono ?_); rintro e w' ⟨rfl, rfl⟩))
    go_ret
    exact ⟨rfl, rfl⟩
set_option maxHeartbeats 1000000 in
theorem indexFunc_m (zs : List Int) (v : Value) (w : World) (hl : zs.length ≤ 100000) (hv : IntsV w v zs) {k0 : Nat} {e0 : Int} (he : firstE zs.length (mapG zs) = (k0, e0)) :
    Calls Tryd.prog 100 #[v, .func (.func 99) #[] #[]] w fun e w' => e = .returned (.int .i64 (if e0 = 0 then -1 else k0)) ∧ w = w' := by
  obtain ⟨-, a, cap, rfl, h4⟩ := hv
  have HE := Lib.hid he
  have H4 := Lib.hid h4
  obtain ⟨n, hn⟩ : ∃ n, zs.length = n := ⟨_, rfl⟩
  rw [hn] at hl HE H4 ⊢
  clear he h4
  go_enter Tryd.func100, Tryd.ntmps100
  go_wp2
  go_loop [8] (fun i => ∃ k : Nat, k ≤ n ∧ i = .int .i64 k ∧ ∀ j, j < k → mapG zs j = 0) (fun i => n - (intOf i).toNat)
  case atStart => exact ⟨0, Nat.zero_le _, rfl, fun j hj => absurd hj (Nat.not_lt_zero _)⟩
  case round =>
    obtain ⟨k, hk, rfl, hz⟩ := hrel
    have HZ := Lib.hid hz
    clear hz
    by_cases hlt : k < n
    · have hdk : decide ((k : Int) < (n : Int)) = true := by simp; omega
      obtain ⟨b, off, rfl, hbw, hc⟩ := H4.out (by omega)
      have ck := hc k hlt
      clear hc
      rcases (show phOk (intAt zs k) = false ∨ phOk (intAt zs k) = true by cases phOk (intAt zs k) <;> simp) with h0 | h0
      · have HP := Lib.hid (fun W => checkMap1 (intAt zs k) W h0)
        have h1 : mapG zs k = 2 := by unfold mapG; rw [h0]; rfl
        have hE := (firstE_hit hlt HZ.out (by rw [h1]; decide)).symm.trans HE.out
        rw [h1] at hE
        obtain ⟨rfl, rfl⟩ := Prod.mk.inj hE
        clear h0 h1 hE HE HZ
        generalize intAt zs k = p at *
        go_wp2_with (first | (go_at_call 99; (with_reducible refine (HP.out _).mono ?_); rintro e w' ⟨rfl, rfl⟩))
        go_ret
        exact ⟨rfl, rfl⟩
      · have HP := Lib.hid (fun W => checkMap1 (intAt zs k) W h0)
        have H0 := Lib.hid (show mapG zs k = 0 by unfold mapG; rw [h0]; rfl)
        clear h0
        generalize intAt zs k = p at ck HP
        go_wp2_with (first | (go_at_call 99; (with_reducible refine (HP.out _).mono ?_); rintro e w' ⟨rfl, rfl⟩))
        go_round
        case rel => exact ⟨k + 1, by omega, by go_num, fun j hj => by rcases Nat.lt_succ_iff_lt_or_eq.1 hj with h | rfl; exact HZ.out j h; exact H0.out⟩
        case measure => simp [intOf]; omega
    · obtain rfl : k = n := by omega
      have hdk : decide ((k : Int) < (k : Int)) = false := by simp
      have hE := (firstE_ok HZ.out).symm.trans HE.out
      obtain ⟨rfl, rfl⟩ := Prod.mk.inj hE
      clear HE HZ hE
      go_wp2
      go_ret
      exact ⟨rfl, rfl⟩
set_option maxHeartbeats 1000000 in
theorem checkMap_any (R C : Int) (zs : List Int) (v : Value) (w : World) (hl : zs.length ≤ 100000) (hv : IntsV w v zs) {i0 : Nat} {e0 : Int} (he : mapE R C zs = (i0, e0)) :
    Calls Tryd.prog 87 #[.agg #[.int .i64 R, .int .i64 C, v]] w fun e w' => e = .returned (.tuple #[.int .i64 i0, .int .i64 e0]) ∧ Below w.heap.size w w' := by
  obtain ⟨z, hz⟩ : ∃ z, sizeE R C zs.length = z := ⟨_, rfl⟩
  have HS := Lib.hid (fun w => fSized R C zs.length w hz)
  by_cases h0 : z = 0
  · subst h0
    have he' : firstE zs.length (mapG zs) = (i0, e0) := by rw [← he]; unfold mapE; rw [if_pos hz]
    have HI := Lib.hid (show ∀ W, Below w.heap.size w W → _ from fun W hW => indexFunc_m zs v W hl (hv.below hW) he')
    have hz2 : e0 = 0 → i0 = 0 := fun h => by
      subst h
      have h1 := firstE_zero (n := zs.length) (g := mapG zs) (by rw [he'])
      have := (firstE_ok h1).symm.trans he'
      exact (Prod.mk.inj this).1.symm
    have he2 : e0 = 0 ∨ e0 = 2 := by
      unfold firstE at he'
      split at he'
      · rename_i k hk
        have := (Prod.mk.inj he').2
        unfold mapG at this
        split at this <;> omega
      · have := (Prod.mk.inj he').2
        omega
    obtain ⟨-, a, cap, rfl, -⟩ := hv
    clear hz he he'
    rcases he2 with rfl | rfl
    · obtain rfl := hz2 rfl
      go_enter Tryd.func87, Tryd.ntmps87
      go_wp2_with (first | (go_at_call 64; (with_reducible refine (HS.out _).mono ?_); rintro e w' ⟨rfl, rfl⟩) | (go_at_call 100; (with_reducible refine (HI.out _ (by (repeat' (first | with_reducible exact Below.refl _ _ | (with_reducible refine below_later_of ?_ ?_ _) | (with_reducible refine Below.alloc ?_ ?_ _) | (with_reducible refine Below.setCell ?_ ?_ _) | (with_reducible refine Below.drew ?_) | (simp; done) | (simp; omega) | omega)))).mono ?_); rintro e w' ⟨rfl, rfl⟩))
      go_ret2
      exact ⟨rfl, (by (repeat' (first | with_reducible exact Below.refl _ _ | (with_reducible refine below_later_of ?_ ?_ _) | (with_reducible refine Below.alloc ?_ ?_ _) | (with_reducible refine Below.setCell ?_ ?_ _) | (with_reducible refine Below.drew ?_) | (simp; done) | (simp; omega) | omega)))⟩
    · clear hz2
      have hd : decide ((0 : Int) ≤ (i0 : Int)) = true := by simp
      go_enter Tryd.func87, Tryd.ntmps87
      go_wp2_with (first | (go_at_call 64; (with_reducible refine (HS.out _).mono ?_); rintro e w' ⟨rfl, rfl⟩) | (go_at_call 100; (with_reducible refine (HI.out _ (by (repeat' (first | with_reducible exact Below.refl _ _ | (with_reducible refine below_later_of ?_ ?_ _) | (with_reducible refine Below.alloc ?_ ?_ _) | (with_reducible refine Below.setCell ?_ ?_ _) | (with_reducible refine Below.drew ?_) | (simp; done) | (simp; omega) | omega)))).mono ?_); rintro e w' ⟨rfl, rfl⟩))
      go_ret2
      exact ⟨rfl, (by (repeat' (first | with_reducible exact Below.refl _ _ | (with_reducible refine below_later_of ?_ ?_ _) | (with_reducible refine Below.alloc ?_ ?_ _) | (with_reducible refine Below.setCell ?_ ?_ _) | (with_reducible refine Below.drew ?_) | (simp; done) | (simp; omega) | omega)))⟩
  · have he' : (0, z) = (i0, e0) := by rw [← he]; unfold mapE; rw [hz, if_neg h0]
    obtain ⟨rfl, rfl⟩ := Prod.mk.inj he'
    have hne : (z != 0) = true := by simpa using h0
    obtain ⟨-, a, cap, rfl, -⟩ := hv
    clear hz he he' h0
    go_enter Tryd.func87, Tryd.ntmps87
    go_wp2_with (first | (go_at_call 64; (with_reducible refine (HS.out _).mono ?_); rintro e w' ⟨rfl, rfl⟩))
    go_ret2
    exact ⟨rfl, (by (repeat' (first | with_reducible exact Below.refl _ _ | (with_reducible refine below_later_of ?_ ?_ _) | (with_reducible refine Below.alloc ?_ ?_ _) | (with_reducible refine Below.setCell ?_ ?_ _) | (with_reducible refine Below.drew ?_) | (simp; done) | (simp; omega) | omega)))⟩
set_option maxHeartbeats 1000000 in
theorem mapErr_any (R C : Int) (zs : List Int) (v : Value) (w : World) (hl : zs.length ≤ 100000) (hv : IntsV w v zs) {e0 : Int} (he : (mapE R C zs).2 = e0) :
    Calls Tryd.prog 54 #[.agg #[.int .i64 R, .int .i64 C, v]] w fun e w' => e = .returned (.int .i64 e0) ∧ Below w.heap.size w w' := by
  have HI := Lib.hid (show ∀ W, Below w.heap.size w W → _ from fun W hW => checkMap_any R C zs v W hl (hv.below hW) (i0 := (mapE R C zs).1) (e0 := e0) (by rw [← he]))
  obtain ⟨-, a, cap, rfl, -⟩ := hv
  clear he
  generalize (mapE R C zs).1 = i0 at HI
  go_enter Tryd.func54, Tryd.ntmps54
  go_wp2_with (first | (go_at_call 87; (with_reducible refine (HI.out _ (by (repeat' (first | with_reducible exact Below.refl _ _ | (with_reducible refine below_later_of ?_ ?_ _) | (with_reducible refine Below.alloc ?_ ?_ _) | (with_reducible refine Below.setCell ?_ ?_ _) | (with_reducible refine Below.drew ?_) | (simp; done) | (simp; omega) | omega)))).mono ?_); rintro e w' ⟨rfl, hb⟩; obtain ⟨pp, rfl⟩ := later_of_below hb; clear hb))
  go_ret
  exact ⟨rfl, (by (repeat' (first | with_reducible exact Below.refl _ _ | (with_reducible refine below_later_of ?_ ?_ _) | (with_reducible refine Below.alloc ?_ ?_ _) | (with_reducible refine Below.setCell ?_ ?_ _) | (with_reducible refine Below.drew ?_) | (simp; done) | (simp; omega) | omega)))⟩
end Go.Proofs.YtfiioadmpjmmgaaDoor
