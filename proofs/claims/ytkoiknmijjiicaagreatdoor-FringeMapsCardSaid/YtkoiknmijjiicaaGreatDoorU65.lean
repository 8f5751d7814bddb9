/- Chapter 1: the reference's IsWhole, for every double. (After H4 of wip/ground.) -/
import Derived.Test.YtkoiknmijjiicaaGreatDoorZJ
import Derived.Test.YtkoiknmijjiicaaGreatDoorU63
namespace Go.Proofs.YtkoiknmijjiicaaGreatDoor
set_option linter.unusedVariables false
set_option linter.unusedSimpArgs false
open Go.RowKit
theorem sub_self {r : Nat} {s : Bool} {k : Nat} {last : Int} (h : Ieee.double.read r = .number s k last) : Ieee.double.sub r r = some 0 := by
  unfold Ieee.Format.sub
  rw [h]
  simp only [Ieee.Datum.opposite, Ieee.Datum.sum, Option.map_some]
  have e : Ieee.signed s k (last - min last last).toNat + Ieee.signed (!s) k (last - min last last).toNat = 0 := by
    rw [signed_sgn, signed_sgn]; unfold sgn; cases s <;> simp <;> omega
  rw [e]
  have : (if (0 : Int) = 0 then (s && !s) else decide ((0 : Int) < 0)) = false := by cases s <;> rfl
  rw [this]
  show some (Ieee.double.nearest false 0 (min last last)) = some 0
  unfold Ieee.Format.nearest
  simp [Ieee.Format.word]
theorem order_self {r : Nat} {s : Bool} {k : Nat} {last : Int} (h : Ieee.double.read r = .number s k last) : Ieee.double.order r r = some .eq := by
  unfold Ieee.Format.order
  rw [h]
  simp only [Ieee.Datum.order]
  rw [icmp]
  simp
/-- Beyond 10 ^ 16 all numbers are whole; the others are cut to 64 bits. -/
theorem inside_of {r : Nat} {s : Bool} {m k : Nat} {e last : Int} {d : Nat} (hr : Ieee.double.read r = .number s k last) (hk : k = m * 2 ^ d) (hl : m ≠ 0 → last = e - (d : Nat)) (hk53 : k < 2 ^ 53) :
    ((geB r c16m && leB r c16p) = false → datWhole (.number s m e) = true) ∧ ((geB r c16m && leB r c16p) = true → cutT k last ≤ 10000000000000000) := by
  obtain ⟨t1, m1, e1, a1, g1, g2, g3⟩ := num_16m
  obtain ⟨t2, m2, e2, a2, k1, k2, k3⟩ := num_16p
  have sk : ∀ n : Nat, -(n : Int) ≤ sgn s n ∧ sgn s n ≤ n := fun n => by unfold sgn; cases s <;> simp <;> omega
  by_cases hlast : 0 ≤ last
  · have hT : cutT k last = k * 2 ^ last.toNat := by unfold cutT; rw [if_pos hlast]
    have o1 := order_shift Ieee.double hr g1 0 (by simpa using mag_whole k hlast) (by simpa using g2)
    have o2 := order_shift Ieee.double hr k1 0 (by simpa using mag_whole k hlast) (by simpa using k2)
    rw [g3] at o1
    rw [k3] at o2
    refine ⟨fun _ => ?_, fun h => ?_⟩
    · by_cases hm : m = 0
      · subst hm; simp [datWhole]
      · have := hl hm
        have : 0 ≤ e := by omega
        simp [datWhole, this]
    · rw [hT]
      unfold geB leB at h
      rw [o1, o2] at h
      generalize k * 2 ^ last.toNat = x at h ⊢
      rw [icmp, icmp] at h
      have := sk x
      unfold sgn at h
      cases s
      · simp only [Bool.false_eq_true, if_false] at h
        by_cases hx : (x : Int) ≤ 10000000000000000
        · omega
        · rw [if_neg (by omega), if_neg (by omega), if_neg (by omega), if_neg (by omega)] at h
          exact absurd h (by decide)
      · simp only [if_true] at h
        by_cases hx : (x : Int) ≤ 10000000000000000
        · omega
        · rw [if_pos (by omega)] at h
          simp at h
  · have hT : cutT k last ≤ k := by unfold cutT; rw [if_neg hlast]; exact Nat.div_le_self _ _
    refine ⟨fun h => ?_, fun _ => by omega⟩
    exfalso
    have o1 := order_shift Ieee.double hr g1 (-last).toNat (mag_self k (by omega)) (mag_shift g2 _)
    have o2 := order_shift Ieee.double hr k1 (-last).toNat (mag_self k (by omega)) (mag_shift k2 _)
    rw [sgn_mul, g3] at o1
    rw [sgn_mul, k3] at o2
    have p := Nat.two_pow_pos (-last).toNat
    have := sk k
    have q : (10000000000000000 : Int) * 1 ≤ 10000000000000000 * ((2 ^ (-last).toNat : Nat) : Int) := Int.mul_le_mul_of_nonneg_left (by omega) (by omega)
    unfold geB leB at h
    rw [o1, o2, icmp, icmp] at h
    generalize ((2 ^ (-last).toNat : Nat) : Int) = P at h q
    rw [Int.neg_mul] at h
    generalize sgn s k = y at h this
    rw [if_neg (by omega), if_neg (by omega), if_pos (by omega)] at h
    exact absurd h (by decide)
theorem conv_int {r : Nat} {s : Bool} {k : Nat} {last : Int} (hr : Ieee.double.read r = .number s k last) (hT : cutT k last ≤ 10000000000000000) (w : World) : (convert 178 3 (.float .f64 r)).run Tryz.prog w = .ok (.int .i64 (sgn s (cutT k last))) w := by
  refine run_convert_float_int (P := Tryz.prog) w 178 3 .f64 .i64 r _ (by kernel_rfl) Tryz.underlying3 ?_
  have hd : FloatKind.f64.decode r = .number s k last := hr
  unfold floatToIntVal
  rw [hd]
  have : (Ieee.Datum.number s k last).toInt .zero = some (sgn s (cutT k last)) := by
    unfold Ieee.Datum.toInt Ieee.Datum.integral
    simp only
    rw [cut_zero, signed_sgn, Nat.pow_zero, Nat.mul_one]
  rw [this]
  dsimp only
  rw [if_pos]
  have : -(cutT k last : Int) ≤ sgn s (cutT k last) ∧ sgn s (cutT k last) ≤ cutT k last := by unfold sgn; cases s <;> simp <;> omega
  show (-9223372036854775808 : Int) ≤ _ ∧ _ ≤ (9223372036854775807 : Int)
  omega
set_option maxHeartbeats 400000 in
theorem bIsWhole_of (r : Nat) (n : Int) (u v c : Bool) (h0 : (FloatKind.f64.format.order r r != some Ordering.eq) = false) (h1 : ∀ w, (binOp .sub 178 (.float .f64 r) (.float .f64 r)).run Tryz.prog w = .ok (.float .f64 0) w)
    (h2 : (FloatKind.f64.format.order r 14069741636278059008 == some Ordering.gt || FloatKind.f64.format.order r 14069741636278059008 == some Ordering.eq) = u) (h3 : (FloatKind.f64.format.order r 4846369599423283200 == some Ordering.lt || FloatKind.f64.format.order r 4846369599423283200 == some Ordering.eq) = v)
    (h4 : (u && v) = true → ∀ w, (convert 178 3 (.float .f64 r)).run Tryz.prog w = .ok (.int .i64 n) w) (h5 : (FloatKind.f64.format.order (floatOfInt .f64 n) r == some Ordering.eq) = c) (w : World) :
    Calls Tryz.prog 141 #[.float .f64 r] w fun e w' => e = .returned (.bool (if u && v then c else true)) ∧ w = w' := by
  have hz : (FloatKind.f64.format.order 0 0 != some Ordering.eq) = false := by decide
  cases u
  · go_enter Tryz.func141, Tryz.ntmps141
    go_wp2
    go_ret
    exact ⟨rfl, rfl⟩
  · cases v
    · go_enter Tryz.func141, Tryz.ntmps141
      go_wp2
      go_ret
      exact ⟨rfl, rfl⟩
    · have h6 := h4 rfl
      clear h4
      go_enter Tryz.func141, Tryz.ntmps141
      go_wp2
      go_ret
      exact ⟨ret_bool (by simp), rfl⟩
set_option maxHeartbeats 400000 in
theorem bIsWhole_nan (r : Nat) (h0 : (FloatKind.f64.format.order r r != some Ordering.eq) = true) (w : World) : Calls Tryz.prog 141 #[.float .f64 r] w fun e w' => e = .returned (.bool false) ∧ w = w' := by
  go_enter Tryz.func141, Tryz.ntmps141
  go_wp2
  go_ret
  exact ⟨rfl, rfl⟩
set_option maxHeartbeats 400000 in
theorem bIsWhole_inf (r : Nat) (V : World → Nat) (h0 : (FloatKind.f64.format.order r r != some Ordering.eq) = false) (h1 : ∀ w, (binOp .sub 178 (.float .f64 r) (.float .f64 r)).run Tryz.prog w = .ok (.float .f64 (V w)) w.drew) (h2 : ∀ w, (FloatKind.f64.format.order (V w) 0 != some Ordering.eq) = true) (w : World) :
    Calls Tryz.prog 141 #[.float .f64 r] w fun e w' => e = .returned (.bool false) ∧ w.drew = w' := by
  go_enter Tryz.func141, Tryz.ntmps141
  go_wp2
  go_ret
  exact ⟨rfl, rfl⟩
def nanB (r : Nat) (w : World) : Nat := Question.cut (.nanBits .f64 r r) (w.tape w.drawn (.nanBits .f64 r r))
theorem nanB_nan (r : Nat) (w : World) : ∃ s u, Ieee.double.read (nanB r w) = .nan s u := nan_drawn _
theorem inf_sub {r : Nat} {s : Bool} (h : Ieee.double.read r = .infinity s) : Ieee.double.sub r r = none := by
  unfold Ieee.Format.sub
  rw [h]
  cases s <;> rfl
theorem inf_self {r : Nat} {s : Bool} (h : Ieee.double.read r = .infinity s) : Ieee.double.order r r = some .eq := by
  unfold Ieee.Format.order
  rw [h]
  cases s <;> rfl
theorem bIsWhole_any (r : Nat) (w : World) : Calls Tryz.prog 141 #[.float .f64 r] w fun e w' => e = .returned (.bool (wholeD r)) ∧ Below w.heap.size w w' := by
  unfold wholeD
  cases hr : Ieee.double.read r with
  | number s k last =>
    obtain ⟨h1, h2, h3, h4⟩ := read_double hr
    obtain ⟨i1, i2⟩ := inside_of (m := k) (e := last) (d := 0) hr (by simp) (fun _ => by simp) h1
    have g0 : (FloatKind.f64.format.order r r != some Ordering.eq) = false := by
      show (Ieee.double.order r r != some Ordering.eq) = false
      rw [order_self hr]; rfl
    have g1 := fun w => run_float_arith (P := Tryz.prog) w .sub 178 .f64 _ _ 0 (show floatBits .sub .f64 r r = some 0 from sub_self hr)
    have g5 : (FloatKind.f64.format.order (floatOfInt .f64 (sgn s (cutT k last))) r == some Ordering.eq) = datWhole (.number s k last) := by
      have e1 : floatOfInt .f64 (sgn s (cutT k last)) = Ieee.double.write (.number (decide (sgn s (cutT k last) < 0)) (cutT k last) 0) := by
        show Ieee.double.write (.number (decide (sgn s (cutT k last) < 0)) (sgn s (cutT k last)).natAbs 0) = _
        rw [sgn_abs]
      rw [e1]
      exact cut_order2 (d := 0) hr (by simp) (fun _ => by simp) h1 (fun h5 _ => log2_mid (h4 h5) h1) h2 h3 (fun h0 => by unfold sgn; cases s <;> simp <;> omega)
    refine (bIsWhole_of _ (sgn s (cutT k last)) _ _ _ g0 g1 (show _ = geB _ c16m from rfl) (show _ = leB _ c16p from rfl) (fun h w => conv_int hr (i2 h) w) g5 w).mono ?_
    rintro e' w' ⟨rfl, rfl⟩
    refine ⟨ret_bool ?_, Below.refl _ _⟩
    split
    · rfl
    · rename_i h
      exact (i1 (by simpa using h)).symm
  | infinity s =>
    have g0 : (FloatKind.f64.format.order r r != some Ordering.eq) = false := by
      show (Ieee.double.order r r != some Ordering.eq) = false
      rw [inf_self hr]; rfl
    have g1 : ∀ w, (binOp .sub 178 (.float .f64 r) (.float .f64 r)).run Tryz.prog w = .ok (.float .f64 (nanB r w)) w.drew := fun w => by
      show (Op.floatArith .sub .f64 _ _).run Tryz.prog w = _
      unfold Op.floatArith
      have h : FloatKind.f64.format.sub r r = none := inf_sub hr
      dsimp only
      rw [h]
      show ((choose (.nanBits .f64 r r)) >>= fun v => (Pure.pure (Value.float .f64 v) : Sem Value)).run Tryz.prog w = _
      rw [Sem.run_bind, run_choose_drew]
      rfl
    have g2 : ∀ w, (FloatKind.f64.format.order (nanB r w) 0 != some Ordering.eq) = true := fun w => by
      obtain ⟨s', u, hu⟩ := nanB_nan r w
      have := (nan_cmp (y := 0) hu).1
      show (Ieee.double.order _ 0 != some Ordering.eq) = true
      rw [this]
      rfl
    refine (bIsWhole_inf _ _ g0 g1 g2 w).mono ?_
    rintro e' w' ⟨rfl, rfl⟩
    exact ⟨rfl, (Below.refl _ _).drew⟩
  | nan s t =>
    refine (bIsWhole_nan r ?_ w).mono ?_
    · have := (nan_cmp (y := r) hr).1
      show (Ieee.double.order r r != some Ordering.eq) = true
      rw [this]; rfl
    · rintro e' w' ⟨rfl, rfl⟩
      exact ⟨rfl, Below.refl _ _⟩
/-- The error of the reference. -/
theorem lt_beq {a b : Int} : (some (compare a b) == some Ordering.lt) = decide (a < b) := by
  rw [icmp]
  by_cases h : a < b
  · rw [if_pos h, decide_eq_true h]; rfl
  · rw [if_neg h, decide_eq_false h]
    split <;> rfl
set_option maxHeartbeats 1000000 in
theorem rPartErr (a b : Nat) (m : Int) (w : World) (h0 : 0 ≤ m) (h1 : m ≤ 1000000000000) : Calls Tryz.prog 121 #[.float .f64 a, .float .f64 b, .int .i64 m] w fun e w' => e = .returned (.int .i64 (partD a b m)) ∧ Below w.heap.size w w' := by
  have HWA := Lib.hid (fun w => bIsWhole_any a w)
  have HWB := Lib.hid (fun w => bIsWhole_any b w)
  by_cases ha : wholeD a = true
  · by_cases hb : wholeD b = true
    · rw [ha] at HWA
      rw [hb] at HWB
      have cm := fun w => conv_f64 m w
      have nm := f64I_num (n := m) (by omega)
      have ng := neg_num (f64I_lt m) nm
      have na := whole_fnumD ha
      have nb := whole_fnumD hb
      have o1 : (FloatKind.f64.format.order a (Op.negFloat .f64 (f64I m)) == some Ordering.lt) = decide (intD a < -m) := by
        rw [show FloatKind.f64.format.order a (Op.negFloat .f64 (f64I m)) = some (compare (intD a) (-m)) from order_num _ na ng, lt_beq]
      have o2 : (FloatKind.f64.format.order a (f64I m) == some Ordering.gt) = decide (m < intD a) := by
        rw [show FloatKind.f64.format.order a (f64I m) = some (compare (intD a) m) from order_num _ na nm, fgt_beq]
      have o3 : (FloatKind.f64.format.order b (Op.negFloat .f64 (f64I m)) == some Ordering.lt) = decide (intD b < -m) := by
        rw [show FloatKind.f64.format.order b (Op.negFloat .f64 (f64I m)) = some (compare (intD b) (-m)) from order_num _ nb ng, lt_beq]
      have o4 : (FloatKind.f64.format.order b (f64I m) == some Ordering.gt) = decide (m < intD b) := by
        rw [show FloatKind.f64.format.order b (f64I m) = some (compare (intD b) m) from order_num _ nb nm, fgt_beq]
      obtain ⟨q1, d1⟩ : ∃ q, q = decide (intD a < -m) := ⟨_, rfl⟩
      obtain ⟨q2, d2⟩ : ∃ q, q = decide (m < intD a) := ⟨_, rfl⟩
      obtain ⟨q3, d3⟩ : ∃ q, q = decide (intD b < -m) := ⟨_, rfl⟩
      obtain ⟨q4, d4⟩ : ∃ q, q = decide (m < intD b) := ⟨_, rfl⟩
      rw [← d1] at o1
      rw [← d2] at o2
      rw [← d3] at o3
      rw [← d4] at o4
      have HF := Lib.hid (show (if (q1 || q2 || q3 || q4) = true then (2 : Int) else 0) = partD a b m from by
        unfold partD inE
        rw [ha, hb, if_pos (show (true && true) = true from rfl), d1, d2, d3, d4]
        simp only [Bool.or_eq_true, Bool.and_eq_true, decide_eq_true_eq]
        by_cases h : ((intD a < -m ∨ m < intD a) ∨ intD b < -m) ∨ m < intD b
        · rw [if_pos h, if_neg (by omega)]
        · rw [if_neg h, if_pos (by omega)])
      clear na nb nm ng d1 d2 d3 d4 ha hb
      generalize f64I m = M at cm o1 o2 o3 o4
      cases q1
      · cases q2
        · cases q3
          · cases q4 <;>
            · go_enter Tryz.func121, Tryz.ntmps121
              go_wp2_with (first | (go_at_call 141; (with_reducible refine (HWA.out _).mono ?_); rintro e w' ⟨rfl, hb⟩; obtain ⟨p1, rfl⟩ := later_of_below hb; clear hb) | (go_at_call 141; (with_reducible refine (HWB.out _).mono ?_); rintro e w' ⟨rfl, hb⟩; obtain ⟨p2, rfl⟩ := later_of_below hb; clear hb))
              go_ret
              exact ⟨ret_intE HF.out, (by (repeat' (first | with_reducible exact Below.refl _ _ | (with_reducible refine below_later_of ?_ ?_ _) | (with_reducible refine Below.alloc ?_ ?_ _) | (with_reducible refine Below.setCell ?_ ?_ _) | (with_reducible refine Below.drew ?_) | (simp; done) | (simp; omega) | omega)))⟩
          · go_enter Tryz.func121, Tryz.ntmps121
            go_wp2_with (first | (go_at_call 141; (with_reducible refine (HWA.out _).mono ?_); rintro e w' ⟨rfl, hb⟩; obtain ⟨p1, rfl⟩ := later_of_below hb; clear hb) | (go_at_call 141; (with_reducible refine (HWB.out _).mono ?_); rintro e w' ⟨rfl, hb⟩; obtain ⟨p2, rfl⟩ := later_of_below hb; clear hb))
            go_ret
            exact ⟨ret_intE HF.out, (by (repeat' (first | with_reducible exact Below.refl _ _ | (with_reducible refine below_later_of ?_ ?_ _) | (with_reducible refine Below.alloc ?_ ?_ _) | (with_reducible refine Below.setCell ?_ ?_ _) | (with_reducible refine Below.drew ?_) | (simp; done) | (simp; omega) | omega)))⟩
        · go_enter Tryz.func121, Tryz.ntmps121
          go_wp2_with (first | (go_at_call 141; (with_reducible refine (HWA.out _).mono ?_); rintro e w' ⟨rfl, hb⟩; obtain ⟨p1, rfl⟩ := later_of_below hb; clear hb) | (go_at_call 141; (with_reducible refine (HWB.out _).mono ?_); rintro e w' ⟨rfl, hb⟩; obtain ⟨p2, rfl⟩ := later_of_below hb; clear hb))
          go_ret
          exact ⟨ret_intE HF.out, (by (repeat' (first | with_reducible exact Below.refl _ _ | (with_reducible refine below_later_of ?_ ?_ _) | (with_reducible refine Below.alloc ?_ ?_ _) | (with_reducible refine Below.setCell ?_ ?_ _) | (with_reducible refine Below.drew ?_) | (simp; done) | (simp; omega) | omega)))⟩
      · go_enter Tryz.func121, Tryz.ntmps121
        go_wp2_with (first | (go_at_call 141; (with_reducible refine (HWA.out _).mono ?_); rintro e w' ⟨rfl, hb⟩; obtain ⟨p1, rfl⟩ := later_of_below hb; clear hb) | (go_at_call 141; (with_reducible refine (HWB.out _).mono ?_); rintro e w' ⟨rfl, hb⟩; obtain ⟨p2, rfl⟩ := later_of_below hb; clear hb))
        go_ret
        exact ⟨ret_intE HF.out, (by (repeat' (first | with_reducible exact Below.refl _ _ | (with_reducible refine below_later_of ?_ ?_ _) | (with_reducible refine Below.alloc ?_ ?_ _) | (with_reducible refine Below.setCell ?_ ?_ _) | (with_reducible refine Below.drew ?_) | (simp; done) | (simp; omega) | omega)))⟩
    · have HF := Lib.hid (show (29 : Int) = partD a b m by unfold partD; rw [ha]; simp [hb])
      rw [ha] at HWA
      rw [Bool.not_eq_true] at hb
      rw [hb] at HWB
      clear ha hb
      go_enter Tryz.func121, Tryz.ntmps121
      go_wp2_with (first | (go_at_call 141; (with_reducible refine (HWA.out _).mono ?_); rintro e w' ⟨rfl, hb⟩; obtain ⟨p1, rfl⟩ := later_of_below hb; clear hb) | (go_at_call 141; (with_reducible refine (HWB.out _).mono ?_); rintro e w' ⟨rfl, hb⟩; obtain ⟨p2, rfl⟩ := later_of_below hb; clear hb))
      go_ret
      exact ⟨ret_intE HF.out, (by (repeat' (first | with_reducible exact Below.refl _ _ | (with_reducible refine below_later_of ?_ ?_ _) | (with_reducible refine Below.alloc ?_ ?_ _) | (with_reducible refine Below.setCell ?_ ?_ _) | (with_reducible refine Below.drew ?_) | (simp; done) | (simp; omega) | omega)))⟩
  · have HF := Lib.hid (show (29 : Int) = partD a b m by unfold partD; simp [ha])
    rw [Bool.not_eq_true] at ha
    rw [ha] at HWA
    clear ha
    go_enter Tryz.func121, Tryz.ntmps121
    go_wp2_with (first | (go_at_call 141; (with_reducible refine (HWA.out _).mono ?_); rintro e w' ⟨rfl, hb⟩; obtain ⟨p1, rfl⟩ := later_of_below hb; clear hb) | (go_at_call 141; (with_reducible refine (HWB.out _).mono ?_); rintro e w' ⟨rfl, hb⟩; obtain ⟨p2, rfl⟩ := later_of_below hb; clear hb))
    go_ret
    exact ⟨ret_intE HF.out, (by (repeat' (first | with_reducible exact Below.refl _ _ | (with_reducible refine below_later_of ?_ ?_ _) | (with_reducible refine Below.alloc ?_ ?_ _) | (with_reducible refine Below.setCell ?_ ?_ _) | (with_reducible refine Below.drew ?_) | (simp; done) | (simp; omega) | omega)))⟩
end Go.Proofs.YtkoiknmijjiicaaGreatDoor
