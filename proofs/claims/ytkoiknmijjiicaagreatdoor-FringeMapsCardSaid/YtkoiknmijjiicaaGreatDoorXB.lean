import Derived.Test.YtkoiknmijjiicaaGreatDoorXA
import Derived.Test.YtkoiknmijjiicaaGreatDoorU74
import Derived.Test.YtkoiknmijjiicaaGreatDoorZG
import Derived.Lib.SlFresh
import Derived.Deep.Upon
/- Chapter 4: floats of maps: what the checks make of each of them. -/
namespace Go.Proofs.YtkoiknmijjiicaaGreatDoor
set_option linter.unusedVariables false
set_option linter.unusedSimpArgs false
open Go.RowKit Ieee Ntt
theorem sub_self1 {r : Nat} {s : Bool} {k : Nat} {last : Int} (h : single.read r = .number s k last) : single.sub r r = some 0 := by
  unfold Format.sub
  rw [h]
  simp only [Datum.opposite, Datum.sum, Option.map_some]
  have e : Ieee.signed s k (last - min last last).toNat + Ieee.signed (!s) k (last - min last last).toNat = 0 := by
    rw [signed_sgn, signed_sgn]; unfold sgn; cases s <;> simp <;> omega
  rw [e]
  have : (if (0 : Int) = 0 then (s && !s) else decide ((0 : Int) < 0)) = false := by cases s <;> rfl
  rw [this]
  show some (single.nearest false 0 (min last last)) = some 0
  unfold Format.nearest
  simp [Format.word]
theorem order_self1 {r : Nat} {s : Bool} {k : Nat} {last : Int} (h : single.read r = .number s k last) : single.order r r = some .eq := by
  unfold Format.order
  rw [h]
  simp only [Datum.order]
  rw [icmp]
  simp
theorem inf_sub1 {r : Nat} {s : Bool} (h : single.read r = .infinity s) : single.sub r r = none := by
  unfold Format.sub
  rw [h]
  cases s <;> rfl
theorem inf_self1 {r : Nat} {s : Bool} (h : single.read r = .infinity s) : single.order r r = some .eq := by
  unfold Format.order
  rw [h]
  cases s <;> rfl
theorem nan_cmp1 {x y : Nat} {s : Bool} {t : Nat} (h : single.read x = .nan s t) : single.order x y = none := by
  unfold Format.order
  rw [h]
  cases single.read y <;> rfl
theorem nan_drawn1 (t : Nat) : ∃ s u, single.read ((t % 2) * 2 ^ 31 + 0x7f800000 + 1 + (t / 2) % (2 ^ 23 - 1)) = .nan s u := by
  have hs : single.signWeight = 2 ^ 31 := by decide
  have hi : single.infRung = 0x7f800000 := by decide
  have hb : single.binade = 2 ^ 23 := by decide
  have h1 : t / 2 % (2 ^ 23 - 1) < 2 ^ 23 - 1 := Nat.mod_lt _ (by decide)
  generalize t / 2 % (2 ^ 23 - 1) = v at h1
  have h2 : ((t % 2) * 2 ^ 31 + 0x7f800000 + 1 + v) % 2 ^ 31 = 0x7f800000 + 1 + v := by
    rw [show (t % 2) * 2 ^ 31 + 0x7f800000 + 1 + v = 2 ^ 31 * (t % 2) + (0x7f800000 + 1 + v) by omega, Nat.mul_add_mod, Nat.mod_eq_of_lt (by omega)]
  unfold Format.read
  rw [hs, hi, hb, h2]
  dsimp only
  rw [if_neg (by omega), if_neg (by omega), if_neg (by omega)]
  exact ⟨_, _, rfl⟩
def nanS (r : Nat) (w : World) : Nat := Question.cut (.nanBits .f32 r r) (w.tape w.drawn (.nanBits .f32 r r))
theorem nanS_nan (r : Nat) (w : World) : ∃ s u, single.read (nanS r w) = .nan s u := nan_drawn1 _
theorem read_single4 {b : Nat} {s : Bool} {m : Nat} {e : Int} (h : single.read b = .number s m e) : 0 ≤ e → 2 ^ 23 ≤ m := by
  have hb : single.binade = 2 ^ 23 := rfl
  have hi : single.infRung = 255 * 2 ^ 23 := rfl
  have hlp : single.leastPlace = -149 := by decide
  unfold Format.read at h
  simp only [hb, hi, hlp] at h
  generalize b % single.signWeight = r at h
  split at h
  · simp only [Datum.number.injEq] at h; omega
  · split at h
    · simp only [Datum.number.injEq] at h
      omega
    · split at h <;> cases h
/-- A number equals what is left of it just if it is whole. -/
theorem cut_order1 {r : Nat} {s s' : Bool} {k : Nat} {last : Int} (hr : single.read r = .number s k last) (hk24 : k < 2 ^ 24) (hlog : 0 ≤ last → k.log2 = 23)
    (h1 : -149 ≤ last) (h2 : last ≤ 104) (hs : cutT k last ≠ 0 → s' = s) : (single.order (single.write (.number s' (cutT k last) 0)) r == some .eq) = datWhole (.number s k last) := by
  by_cases hk0 : k = 0
  · subst hk0
    have hT : cutT 0 last = 0 := by unfold cutT; split <;> simp
    rw [hT]
    have h3 := write_num good_single (s := s') (mag_nat 0) (by decide)
    have h4 : FNum single r 0 := ⟨s, 0, last, 0, hr, by unfold Mag; simp, by unfold sgn; cases s <;> rfl⟩
    rw [order_num single h3 h4, beq_eq_iff, show sgn s' 0 = 0 by unfold sgn; cases s' <;> rfl]
    simp [datWhole]
  · by_cases hlast : 0 ≤ last
    · have hlog := hlog hlast
      have hT : cutT k last = k * 2 ^ last.toNat := by unfold cutT; rw [if_pos hlast]
      have hT0 : k * 2 ^ last.toNat ≠ 0 := by have := Nat.mul_pos (Nat.pos_of_ne_zero hk0) (Nat.two_pow_pos last.toNat); omega
      have hs := hs (by rw [hT]; exact hT0)
      subst hs
      rw [hT]
      have hlT : (k * 2 ^ last.toNat).log2 = 23 + last.toNat := by rw [← Nat.shiftLeft_eq, log2_shl _ _ hk0, hlog]
      have hp1 := pow_le_log2 k hk0
      rw [hlog] at hp1
      have key := nearest_norm single s' (k * 2 ^ last.toNat) 0 hT0 (last + 149).toNat k last hp1 hk24 (by rw [hlT]; show last = 0 + ((23 + last.toNat : Nat) : Int) - 23; omega)
        (show (-149 : Int) ≤ last by omega) (show ((last + 149).toNat : Int) = last - (-149) by omega) (by
          have : (2 : Nat) ^ single.exponentBits - 1 = 255 := by decide
          rw [this]; omega) (by rw [show (0 - last).toNat = 0 by omega, show (last - 0).toNat = last.toNat by omega, Nat.pow_zero, Nat.mul_one])
      have ho : single.order (single.write (.number s' (k * 2 ^ last.toNat) 0)) r = some (compare (sgn s' (k * 2 ^ last.toNat)) (sgn s' (k * 2 ^ last.toNat))) :=
        order_shift single key.2 hr 0 (by simpa using mag_whole k hlast) (by simpa using mag_whole k hlast)
      rw [ho, beq_eq_iff]
      simp [datWhole, hlast]
    · have hT : cutT k last = k / 2 ^ (-last).toNat := by unfold cutT; rw [if_neg hlast]
      have hTk : cutT k last ≤ k := by rw [hT]; exact Nat.div_le_self _ _
      obtain ⟨t, n, j, a, g1, g2, g3⟩ := write_num good_single (s := s') (mag_nat (cutT k last)) (show cutT k last < 2 ^ 24 by omega)
      rw [order_shift single g1 hr (-last).toNat (mag_shift g2 _) (mag_self k (by omega)), beq_eq_iff]
      have hsg : sgn t (a * 2 ^ (-last).toNat) = sgn s (cutT k last * 2 ^ (-last).toNat) := by
        rw [sgn_mul, g3, sgn_mul]
        congr 1
        by_cases h0 : cutT k last = 0
        · rw [h0]; unfold sgn; cases s' <;> cases s <;> rfl
        · rw [hs h0]
      rw [hsg]
      have hdec : decide (sgn s (cutT k last * 2 ^ (-last).toNat) = sgn s k) = decide (k % 2 ^ (-last).toNat = 0) := by
        rw [decide_eq_decide, sgn_inj, hT]
        have := Nat.div_add_mod k (2 ^ (-last).toNat)
        rw [Nat.mul_comm] at this
        omega
      rw [hdec]
      unfold datWhole
      simp [hlast]
theorem num_40p : FNum single 1400897536 1099511627776 := ⟨false, 8388608, 17, 1099511627776, by decide, by unfold Mag; decide, by decide⟩
theorem num_40m : FNum single 3548381184 (-1099511627776) := ⟨true, 8388608, 17, 1099511627776, by decide, by unfold Mag; decide, by decide⟩
theorem num_lo4 : FNum single 3351465984 (-100000) := ⟨true, 12800000, -7, 100000, by decide, by unfold Mag; decide, by decide⟩
theorem num_hi4 : FNum single 1203982336 100000 := ⟨false, 12800000, -7, 100000, by decide, by unfold Mag; decide, by decide⟩
/-- Between the bounds, or whole. -/
theorem inside1 {r : Nat} {s : Bool} {k : Nat} {last : Int} (hr : single.read r = .number s k last) (hk : k < 2 ^ 24) :
    ((single.order r 1400897536 == some .gt || single.order r 3548381184 == some .lt) = true → datWhole (.number s k last) = true ∧ 1099511627776 < cutT k last) ∧ ((single.order r 1400897536 == some .gt || single.order r 3548381184 == some .lt) = false → cutT k last ≤ 1099511627776) := by
  have sk : ∀ n : Nat, -(n : Int) ≤ sgn s n ∧ sgn s n ≤ n := fun n => by unfold sgn; cases s <;> simp <;> omega
  by_cases hlast : 0 ≤ last
  · have hT : cutT k last = k * 2 ^ last.toNat := by unfold cutT; rw [if_pos hlast]
    have hn : FNum single r (sgn s (k * 2 ^ last.toNat)) := ⟨s, k, last, _, hr, mag_whole k hlast, rfl⟩
    rw [order_num single hn num_40p, order_num single hn num_40m, fgt_beq, lt_beq, hT]
    refine ⟨fun h => ⟨by simp [datWhole, hlast], ?_⟩, fun h => ?_⟩
    · have := sk (k * 2 ^ last.toNat)
      simp only [Bool.or_eq_true, decide_eq_true_eq] at h
      omega
    · simp only [Bool.or_eq_false_iff, decide_eq_false_iff_not] at h
      generalize k * 2 ^ last.toNat = x at h ⊢
      unfold sgn at h
      cases s <;> simp at h <;> omega
  · have hT : cutT k last ≤ k := by unfold cutT; rw [if_neg hlast]; exact Nat.div_le_self _ _
    refine ⟨fun h => ?_, fun _ => by omega⟩
    exfalso
    obtain ⟨t1, m1, e1, a1, g1, g2, g3⟩ := num_40m
    obtain ⟨t2, m2, e2, a2, k1, k2, k3⟩ := num_40p
    have o1 := order_shift single hr g1 (-last).toNat (mag_self k (by omega)) (mag_shift g2 _)
    have o2 := order_shift single hr k1 (-last).toNat (mag_self k (by omega)) (mag_shift k2 _)
    rw [sgn_mul, g3] at o1
    rw [sgn_mul, k3] at o2
    have p := Nat.two_pow_pos (-last).toNat
    have := sk k
    have q : (1099511627776 : Int) * 1 ≤ 1099511627776 * ((2 ^ (-last).toNat : Nat) : Int) := Int.mul_le_mul_of_nonneg_left (by omega) (by omega)
    rw [o1, o2, fgt_beq, lt_beq] at h
    generalize ((2 ^ (-last).toNat : Nat) : Int) = P at h q
    rw [Int.neg_mul] at h
    generalize sgn s k = y at h this
    simp only [Bool.or_eq_true, decide_eq_true_eq] at h
    omega
/-- What a float is cut to. -/
theorem conv_int1 {r : Nat} {s : Bool} {k : Nat} {last : Int} (hr : single.read r = .number s k last) (hT : cutT k last ≤ 10000000000000000) (w : World) : (convert 72 3 (.float .f32 r)).run Tryz.prog w = .ok (.int .i64 (sgn s (cutT k last))) w := by
  refine run_convert_float_int (P := Tryz.prog) w 72 3 .f32 .i64 r _ (by kernel_rfl) Tryz.underlying3 ?_
  have hd : FloatKind.f32.decode r = .number s k last := hr
  unfold floatToIntVal
  rw [hd]
  have : (Datum.number s k last).toInt .zero = some (sgn s (cutT k last)) := by
    unfold Datum.toInt Datum.integral
    simp only
    rw [cut_zero, signed_sgn, Nat.pow_zero, Nat.mul_one]
  rw [this]
  dsimp only
  rw [if_pos]
  have : -(cutT k last : Int) ≤ sgn s (cutT k last) ∧ sgn s (cutT k last) ≤ cutT k last := by unfold sgn; cases s <;> simp <;> omega
  show (-9223372036854775808 : Int) ≤ _ ∧ _ ≤ (9223372036854775807 : Int)
  omega
def lo4 (b : Nat) : Bool := FloatKind.f32.format.order b 3351465984 == some .lt
def hi4 (b : Nat) : Bool := FloatKind.f32.format.order b 1203982336 == some .gt
/-- The error of one number. -/
def fc4 (b : Nat) : Int := if wholeB b then (if lo4 b || hi4 b then 2 else 0) else 29
theorem lo4_num {b : Nat} {n : Int} (h : FNum single b n) : lo4 b = decide (n < -100000) := by
  unfold lo4
  rw [show FloatKind.f32.format.order b 3351465984 = some (compare n (-100000)) from order_num _ h num_lo4, lt_beq]
theorem hi4_num {b : Nat} {n : Int} (h : FNum single b n) : hi4 b = decide (100000 < n) := by
  unfold hi4
  rw [show FloatKind.f32.format.order b 1203982336 = some (compare n 100000) from order_num _ h num_hi4, fgt_beq]
theorem fc4_num {b : Nat} {n : Int} (h : FNum single b n) : fc4 b = if decide (-100000 ≤ n) && decide (n ≤ 100000) then 0 else 2 := by
  have hw : wholeB b = true := (intB_of h).1
  unfold fc4
  rw [if_pos hw, lo4_num h, hi4_num h]
  by_cases h1 : n < -100000
  · rw [decide_eq_true h1, decide_eq_false (show ¬ -100000 ≤ n by omega)]; rfl
  · rw [decide_eq_false h1, decide_eq_true (show -100000 ≤ n by omega)]
    by_cases h2 : 100000 < n
    · rw [decide_eq_true h2, decide_eq_false (show ¬ n ≤ 100000 by omega)]; rfl
    · rw [decide_eq_false h2, decide_eq_true (show n ≤ 100000 by omega)]; rfl
theorem fc4_zero {b : Nat} (h : fc4 b = 0) : FNum single b (intB b) ∧ -100000 ≤ intB b ∧ intB b ≤ 100000 := by
  by_cases hw : wholeB b = true
  · have hn := whole_fnum hw
    refine ⟨hn, ?_⟩
    rw [fc4_num hn] at h
    by_cases h1 : -100000 ≤ intB b ∧ intB b ≤ 100000
    · exact h1
    · rw [if_neg (by simpa using h1)] at h
      exact absurd h (by decide)
  · unfold fc4 at h
    rw [if_neg hw] at h
    exact absurd h (by decide)
/-- The ways of one number through the program's check. -/
def Fl4 (b : Nat) (e : Int) : Prop :=
  ((FloatKind.f32.format.order b b != some Ordering.eq) = true ∧ e = 29) ∨
  ((FloatKind.f32.format.order b b != some Ordering.eq) = false ∧
    ((∃ V : World → Nat, (∀ w, (binOp .sub 72 (.float .f32 b) (.float .f32 b)).run Tryz.prog w = .ok (.float .f32 (V w)) w.drew) ∧ (∀ w, (FloatKind.f32.format.order (V w) 0 != some Ordering.eq) = true) ∧ e = 29) ∨
     ((∀ w, (binOp .sub 72 (.float .f32 b) (.float .f32 b)).run Tryz.prog w = .ok (.float .f32 0) w) ∧
       (((FloatKind.f32.format.order b 1400897536 == some Ordering.gt) = true ∧ e = 2) ∨
        ((FloatKind.f32.format.order b 1400897536 == some Ordering.gt) = false ∧
          (((FloatKind.f32.format.order b 3548381184 == some Ordering.lt) = true ∧ e = 2) ∨
           ((FloatKind.f32.format.order b 3548381184 == some Ordering.lt) = false ∧
             ∃ T c, (∀ w, (convert 72 3 (.float .f32 b)).run Tryz.prog w = .ok (.int .i64 T) w) ∧ (-1099511627776 ≤ T ∧ T ≤ 1099511627776) ∧ (FloatKind.f32.format.order (floatOfInt .f32 T) b != some Ordering.eq) = c ∧ e = if c then 29 else if inE (-100000) 100000 T then 0 else 2)))))))
theorem fl4_any (b : Nat) : Fl4 b (fc4 b) := by
  cases hr : single.read b with
  | number s k last =>
    obtain ⟨h1, h2, h3⟩ := read_single hr
    have h4 := read_single4 hr
    obtain ⟨i1, i2⟩ := inside1 hr h1
    refine .inr ⟨?_, .inr ⟨fun w => run_float_arith (P := Tryz.prog) w .sub 72 .f32 _ _ 0 (show floatBits .sub .f32 b b = some 0 from sub_self1 hr), ?_⟩⟩
    · show (single.order b b != some Ordering.eq) = false
      rw [order_self1 hr]; rfl
    have hbig : (single.order b 1400897536 == some .gt || single.order b 3548381184 == some .lt) = true → fc4 b = 2 := fun h => by
      obtain ⟨j1, j2⟩ := i1 h
      have hw : wholeB b = true := by unfold wholeB; rw [hr]; exact j1
      have hn := whole_fnum hw
      have hT : cutT k last ≤ (intB b).natAbs := by
        have e : intB b = datInt (.number s k last) := by unfold intB; rw [hr]
        have hl : 0 ≤ last := by
          by_cases hl : 0 ≤ last
          · exact hl
          · unfold cutT at j2
            rw [if_neg hl] at j2
            have := Nat.div_le_self k (2 ^ (-last).toNat)
            omega
        have := fnum_unique hn ⟨s, k, last, _, hr, mag_whole k hl, rfl⟩
        rw [this, sgn_abs]
        unfold cutT
        rw [if_pos hl]
        exact Nat.le_refl _
      rw [fc4_num hn, if_neg]
      simp
      omega
    rcases (show (single.order b 1400897536 == some .gt) = true ∨ (single.order b 1400897536 == some .gt) = false by cases (single.order b 1400897536 == some .gt) <;> simp) with g1 | g1
    · exact .inl ⟨g1, hbig (by rw [g1]; rfl)⟩
    refine .inr ⟨g1, ?_⟩
    rcases (show (single.order b 3548381184 == some .lt) = true ∨ (single.order b 3548381184 == some .lt) = false by cases (single.order b 3548381184 == some .lt) <;> simp) with g2 | g2
    · exact .inl ⟨g2, hbig (by rw [g1, g2]; rfl)⟩
    have hT := i2 (by rw [g1, g2]; rfl)
    have hsb : -(cutT k last : Int) ≤ sgn s (cutT k last) ∧ sgn s (cutT k last) ≤ cutT k last := by unfold sgn; cases s <;> simp <;> omega
    refine .inr ⟨g2, sgn s (cutT k last), _, fun w => conv_int1 hr (by omega) w, ⟨by omega, by omega⟩, rfl, ?_⟩
    have e1 : floatOfInt .f32 (sgn s (cutT k last)) = single.write (.number (decide (sgn s (cutT k last) < 0)) (cutT k last) 0) := by
      show single.write (.number (decide (sgn s (cutT k last) < 0)) (sgn s (cutT k last)).natAbs 0) = _
      rw [sgn_abs]
    have hc := cut_order1 (s' := decide (sgn s (cutT k last) < 0)) hr h1 (fun h0 => by
      have := h4 h0
      rw [Nat.log2_eq_iff (by omega)]
      exact ⟨this, h1⟩) h2 h3 (fun h0 => by unfold sgn; cases s <;> simp <;> omega)
    have hc2 : (FloatKind.f32.format.order (floatOfInt .f32 (sgn s (cutT k last))) b != some Ordering.eq) = !datWhole (.number s k last) := by
      rw [← hc, e1]
      rfl
    rw [hc2]
    have hwb : wholeB b = datWhole (.number s k last) := by unfold wholeB; rw [hr]
    rw [← hwb]
    cases hw : wholeB b
    · unfold fc4; rw [hw]; rfl
    · have hn := whole_fnum hw
      have hi : intB b = sgn s (cutT k last) := by
        by_cases hl : 0 ≤ last
        · have := fnum_unique hn ⟨s, k, last, _, hr, mag_whole k hl, rfl⟩
          rw [this]
          unfold cutT
          rw [if_pos hl]
        · have e : intB b = datInt (.number s k last) := by unfold intB; rw [hr]
          rw [e]
          unfold cutT
          rw [if_neg hl]
          unfold datInt
          simp [hl]
      rw [fc4_num hn, hi]
      unfold inE
      simp
  | infinity s =>
    refine .inr ⟨?_, .inl ⟨nanS b, fun w => ?_, fun w => ?_, ?_⟩⟩
    · show (single.order b b != some Ordering.eq) = false
      rw [inf_self1 hr]; rfl
    · show (Op.floatArith .sub .f32 _ _).run Tryz.prog w = _
      unfold Op.floatArith
      have h : FloatKind.f32.format.sub b b = none := inf_sub1 hr
      dsimp only
      rw [h]
      show ((choose (.nanBits .f32 b b)) >>= fun v => (Pure.pure (Value.float .f32 v) : Sem Value)).run Tryz.prog w = _
      rw [Sem.run_bind, run_choose_drew]
      rfl
    · obtain ⟨s', u, hu⟩ := nanS_nan b w
      show (single.order _ 0 != some Ordering.eq) = true
      rw [nan_cmp1 hu]
      rfl
    · unfold fc4 wholeB
      rw [hr]
      rfl
  | nan s t =>
    refine .inl ⟨?_, ?_⟩
    · show (single.order b b != some Ordering.eq) = true
      rw [nan_cmp1 hr]; rfl
    · unfold fc4 wholeB
      rw [hr]
      rfl
end Go.Proofs.YtkoiknmijjiicaaGreatDoor

/- Chapter 4: CheckFloatMap, the program's and the reference's. -/
namespace Go.Proofs.YtkoiknmijjiicaaGreatDoor
set_option linter.unusedVariables false
set_option linter.unusedSimpArgs false
open Go.RowKit Ntt
def flAt (ds : List Nat) (k : Nat) : Nat := ds[k]?.getD 0
/-- A slice of floats in memory. -/
def FlV (w : World) (v : Value) (ds : List Nat) : Prop :=
  ds.length ≤ 1000000000 ∧ ∃ a cap, v = .slice a ds.length cap ∧ (0 < ds.length → ∃ b off, a = some ⟨b, off, none⟩ ∧ b < w.heap.size ∧ ∀ k, k < ds.length → w.cell? ⟨b, off + k, none⟩ = some (.float .f32 (flAt ds k)))
theorem FlV.below {w w' : World} {v : Value} {ds : List Nat} (h : FlV w v ds) (hw : Below w.heap.size w w') : FlV w' v ds := by
  obtain ⟨h1, a, cap, h3, h4⟩ := h
  refine ⟨h1, a, cap, h3, fun hp => ?_⟩
  obtain ⟨b, off, h5, h6, h7⟩ := h4 hp
  exact ⟨b, off, h5, Nat.lt_of_lt_of_le h6 hw.size, fun k hk => (hw.cell (p := ⟨b, off + k, none⟩) h6).trans (h7 k hk)⟩
def fmG (ds : List Nat) (k : Nat) : Int := fc4 (flAt ds k)
/-- The number of the first wrong number, and the error of a float map. -/
def fmE (R C : Int) (ds : List Nat) : Nat × Int := if sizeE R C ds.length = 0 then firstE ds.length (fmG ds) else (0, sizeE R C ds.length)
theorem any_worldF {G : World → Prop} {w : World} (F : World → Prop) (hf : F w) (h : ∀ W, F W → G W) : G w := h w hf
/-- The wide word of a narrow one: as it is, or drawn. -/
theorem wideD (b : Nat) : (∃ r, wholeD r = wholeB b ∧ ∀ w, (convert 72 178 (.float .f32 b)).run Tryz.prog w = .ok (.float .f64 r) w) ∨
    (wholeB b = false ∧ ∃ V : World → Nat, (∀ w, (convert 72 178 (.float .f32 b)).run Tryz.prog w = .ok (.float .f64 (V w)) w.drew) ∧ ∀ w, wholeD (V w) = false) := by
  cases hd : Ieee.single.read b with
  | number s m e =>
    obtain ⟨h1, h2, h3⟩ := read_single hd
    obtain ⟨k, last, d, hr, _⟩ := wide_of (s := s) h1 h2 h3
    have hd1 : FloatKind.f32.decode b = .number s m e := hd
    have hd2 : FloatKind.f64.decode (FloatKind.f64.encode (.number s m e)) = .number s k last := hr
    refine .inl ⟨Ieee.double.write (.number s m e), wide_whole (by unfold WideOf; rw [hd]), fun w => run_convert_float_float (P := Tryz.prog) w 72 178 .f32 .f64 b _ (by kernel_rfl) Tryz.underlying178 ?_⟩
    unfold floatToFloatBits
    rw [if_neg (by decide), hd1]
    dsimp only
    rw [hd2]
    rfl
  | infinity s =>
    have hd1 : FloatKind.f32.decode b = .infinity s := hd
    refine .inl ⟨Ieee.double.word s Ieee.double.infRung, wide_whole (by unfold WideOf; rw [hd]), fun w => run_convert_float_float (P := Tryz.prog) w 72 178 .f32 .f64 b _ (by kernel_rfl) Tryz.underlying178 ?_⟩
    unfold floatToFloatBits
    rw [if_neg (by decide), hd1]
    rfl
  | nan s t =>
    have hd1 : FloatKind.f32.decode b = .nan s t := hd
    refine .inr ⟨by unfold wholeB; rw [hd]; rfl, fun w => Question.cut (.nanConv .f64 b) (w.tape w.drawn (.nanConv .f64 b)), fun w => ?_, fun w => ?_⟩
    · have e1 : (convert 72 178 (.float .f32 b)).run Tryz.prog w = (Conv.floatToFloat .f32 b .f64).run Tryz.prog w := by kernel_rfl
      rw [e1]
      unfold Conv.floatToFloat
      rw [if_neg (by decide), hd1]
      dsimp only
      rw [Sem.run_bind, run_choose_drew]
      rfl
    · obtain ⟨s', u, hu⟩ := nan_drawn (w.tape w.drawn (.nanConv .f64 b))
      unfold wholeD
      rw [show Ieee.double.read (Question.cut (.nanConv .f64 b) (w.tape w.drawn (.nanConv .f64 b))) = .nan s' u from hu]
      rfl
end Go.Proofs.YtkoiknmijjiicaaGreatDoor

/- Chapter 4: float maps copied; integers copied to be written. -/
namespace Go.Proofs.YtkoiknmijjiicaaGreatDoor
set_option linter.unusedVariables false
set_option linter.unusedSimpArgs false
open Go.RowKit Ntt
/-- A slice of floats in memory from some block on. -/
def OwnFV (B : Nat) (w : World) (v : Value) (ds : List Nat) : Prop :=
  ds.length ≤ 1000000000 ∧ ∃ a cap, v = .slice a ds.length cap ∧ (0 < ds.length → ∃ b off, a = some ⟨b, off, none⟩ ∧ B ≤ b ∧ b < w.heap.size ∧ ∀ k, k < ds.length → w.cell? ⟨b, off + k, none⟩ = some (.float .f32 (flAt ds k)))
theorem OwnFV.fl {B : Nat} {w : World} {v : Value} {ds : List Nat} (h : OwnFV B w v ds) : FlV w v ds := by
  obtain ⟨h1, a, cap, h2, h3⟩ := h
  refine ⟨h1, a, cap, h2, fun h0 => ?_⟩
  obtain ⟨b, off, h4, -, h5, h6⟩ := h3 h0
  exact ⟨b, off, h4, h5, h6⟩
theorem OwnFV.mono {B B' : Nat} {w : World} {v : Value} {ds : List Nat} (h : OwnFV B w v ds) (hB : B' ≤ B) : OwnFV B' w v ds := by
  obtain ⟨h1, a, cap, h2, h3⟩ := h
  refine ⟨h1, a, cap, h2, fun h0 => ?_⟩
  obtain ⟨b, off, h4, h7, h5, h6⟩ := h3 h0
  exact ⟨b, off, h4, by omega, h5, h6⟩
theorem OwnFV.set {B : Nat} {w : World} {v : Value} {ds : List Nat} (h : OwnFV B w v ds) {p : Addr} (hp : p.block < B) (u : Value) : OwnFV B (w.setCell p u) v ds := by
  obtain ⟨h1, a, cap, h2, h3⟩ := h
  refine ⟨h1, a, cap, h2, fun h0 => ?_⟩
  obtain ⟨b, off, h4, h7, h5, h6⟩ := h3 h0
  refine ⟨b, off, h4, h7, by simpa using h5, fun k hk => ?_⟩
  rw [World.cell?_setCell_other _ _ _ _ (by intro e; rw [e] at hp; simp at hp; omega)]
  exact h6 k hk
theorem infoF72 : (Tryz.prog.info? 72).map (fun i => (i.zero, i.size, i.bytes)) = some (some (.float .f32 0), 1, 4) := by kernel_rfl
theorem flVals_at (ds : List Nat) {j : Nat} {u : Value} (h : (ds.map (Value.float .f32))[j]? = some u) : j < ds.length ∧ u = .float .f32 (flAt ds j) := by
  rw [List.getElem?_map] at h
  cases hz : ds[j]? with
  | none => rw [hz] at h; cases h
  | some z =>
    rw [hz] at h
    refine ⟨(List.getElem?_eq_some_iff.1 hz).1, ?_⟩
    unfold flAt
    rw [hz]
    cases h
    rfl
theorem ownFV_own {w : World} {base n cap g : Nat} {ds : List Nat} (h : w.ownsRow base 72 1 (.slice (some ⟨g, 0, none⟩) n cap) n (ds.map (.float .f32))) (hm : n ≤ 1000000000) : OwnFV base w (.slice (some ⟨g, 0, none⟩) n cap) ds := by
  have hl : ds.length = n := by have := h.1; simpa using this
  subst hl
  refine ⟨hm, _, _, rfl, fun hp => ⟨g, 0, rfl, (h.lt g rfl).1, (h.lt g rfl).2, fun k hk => ?_⟩⟩
  rw [Nat.zero_add, h.cellAt k (by omega)]
  unfold flAt
  simp [hk]
def FlPost (R C : Int) (ds : List Nat) (w : World) (e : Ending) (w' : World) : Prop :=
  ∃ a c, e = .returned (.agg #[.int .i64 R, .int .i64 C, .slice a ds.length c]) ∧ OwnFV w.heap.size w' (.slice a ds.length c) ds ∧ Below w.heap.size w w'
theorem frozenF_of_block {w w' : World} {i j : Nat} (h : w'.heap[i]? = w.heap[i]?) : w'.frozen? ⟨i, j, none⟩ = w.frozen? ⟨i, j, none⟩ := by
  unfold World.frozen?
  simp only [h]
/-- A list in a block of its own that may be written. -/
def WrPost (zs : List Int) (w : World) (e : Ending) (w' : World) : Prop :=
  ∃ g c, e = .returned (.slice (some ⟨g, 0, none⟩) zs.length c) ∧ w.heap.size ≤ g ∧ OwnF w' g zs.length (intAt zs) ∧ Below w.heap.size w w'
theorem ownF_map {W : World} {base g c : Nat} {zs : List Int} (h : W.ownsRow base 3 1 (.slice (some ⟨g, 0, none⟩) zs.length c) zs.length (zs.map (.int .i64))) : base ≤ g ∧ OwnF W g zs.length (intAt zs) :=
  ⟨(h.lt g rfl).1, ⟨(h.lt g rfl).2, fun k hk => by
    rw [h.cellAt k (by omega)]
    unfold intAt
    simp [hk]⟩, fun k _ => h.frozenAt k⟩
set_option maxHeartbeats 1000000 in
theorem copyI_own (zs : List Int) (b off cap : Nat) (w : World) (hl : zs.length ≤ 1000000000) (hp : 0 < zs.length) (hbw : b < w.heap.size) (hc : ∀ k, k < zs.length → w.cell? ⟨b, off + k, none⟩ = some (.int .i64 (intAt zs k))) :
    Calls Tryz.prog 66 #[.slice (some ⟨b, off, none⟩) zs.length cap] w (WrPost zs w) := by
  obtain ⟨i0, hi, hz0, hz1, hz2⟩ := info_parts info3
  have HC := Lib.hid (show ∀ W, Below w.heap.size w W → ∀ j u, (zs.map (Value.int .i64))[j]? = some u → W.cell? ((⟨b, off, none⟩ : Addr).add j) = some u from fun W hW j u hu => by obtain ⟨h1, rfl⟩ := intVals_at zs hu; exact (show W.cell? ((⟨b, off, none⟩ : Addr).add j) = some _ from by rw [show (⟨b, off, none⟩ : Addr).add j = ⟨b, off + j, none⟩ by simp [Addr.add] <;> omega]; exact (hW.cell (p := ⟨b, off + j, none⟩) hbw).trans (hc j h1)))
  clear hc
  go_enter Tryz.func66, Tryz.ntmps66
  go_wp2_with (at_builtin; refine wpList_append_own _ rfl _ _ 42 rfl w.heap.size 3 i0 (.int .i64 0) 1 8 Tryz.underlying42 hi hz0 hz1 hz2 rfl (by decide) _ 0 [] rfl (ownsRow_new1 _ _ _ _ (by simp) (by simp)) ⟨b, off, none⟩ zs.length cap (zs.map (.int .i64)) rfl ?c1 ?c2 ?c3 ?c4 ?c5 ?c6 ?_)
  case c1 => simp
  case c2 => exact HC.out _ (by (repeat' (first | with_reducible exact Below.refl _ _ | (with_reducible refine below_later_of ?_ ?_ _) | (with_reducible refine Below.alloc ?_ ?_ _) | (with_reducible refine Below.setCell ?_ ?_ _) | (with_reducible refine Below.drew ?_) | (simp; done) | (simp; omega) | omega)))
  case c3 => intro u hu; simp at hu; obtain ⟨z, _, rfl⟩ := hu; rfl
  case c4 => unfold maxLen; omega
  case c5 => omega
  case c6 => simp
  intro v' w1 hown hgrow _
  have hown2 : w1.ownsRow w.heap.size 3 1 v' zs.length (zs.map (.int .i64)) := by simpa using hown
  obtain ⟨g, c, rfl⟩ := row_slice hown2 hp
  have HPV := Lib.hid (ownF_map hown2)
  have HB := Lib.hid (show Below w.heap.size w w1 from (show Below w.heap.size w _ from (by (repeat' (first | with_reducible exact Below.refl _ _ | (with_reducible refine below_later_of ?_ ?_ _) | (with_reducible refine Below.alloc ?_ ?_ _) | (with_reducible refine Below.setCell ?_ ?_ _) | (with_reducible refine Below.drew ?_) | (simp; done) | (simp; omega) | omega)))).grown hgrow (by simp) (fun g hg => by simp [Value.ownBlock] at hg; omega))
  clear hown hown2 hgrow
  go_wp2
  go_ret
  exact ⟨_, _, rfl, HPV.out.1, HPV.out.2, HB.out⟩
theorem OwnF.off4 {W : World} {g n : Nat} {f : Nat → Int} (o : OwnF W g n f) {p : Addr} (hp : p.block ≠ g) (v : Value) : OwnF (W.setCell p v) g n f := by
  obtain ⟨⟨h1, h2⟩, h3⟩ := o
  refine ⟨⟨by simpa using h1, fun k hk => ?_⟩, fun k hk => ?_⟩
  · rw [World.cell?_setCell_other _ _ _ _ (by intro e; rw [e] at hp; simp at hp)]
    exact h2 k hk
  · simpa using h3 k hk
/-- A map in memory that may be written. -/
def WmPost (R C : Int) (zs : List Int) (w : World) (e : Ending) (w' : World) : Prop :=
  ∃ g c, e = .returned (.agg #[.int .i64 R, .int .i64 C, .slice (some ⟨g, 0, none⟩) zs.length c]) ∧ w.heap.size ≤ g ∧ OwnF w' g zs.length (intAt zs) ∧ Below w.heap.size w w'
set_option maxHeartbeats 1000000 in
theorem copyPhases_own (R C : Int) (zs : List Int) (b off cap : Nat) (w : World) (hl : zs.length ≤ 1000000000) (hp : 0 < zs.length) (hbw : b < w.heap.size) (hc : ∀ k, k < zs.length → w.cell? ⟨b, off + k, none⟩ = some (.int .i64 (intAt zs k))) :
    Calls Tryz.prog 20 #[.agg #[.int .i64 R, .int .i64 C, .slice (some ⟨b, off, none⟩) zs.length cap]] w (WmPost R C zs w) := by
  have HCI := Lib.hid (show ∀ W, Below w.heap.size w W → _ from fun W hW => copyI_own zs b off cap W hl hp (by have := hW.size; omega) (fun k hk => (hW.cell (p := ⟨b, off + k, none⟩) hbw).trans (hc k hk)))
  clear hc
  go_enter Tryz.func20, Tryz.ntmps20
  go_wp2_with (first | (go_at_call 66; (with_reducible refine (HCI.out _ (by (repeat' (first | with_reducible exact Below.refl _ _ | (with_reducible refine below_later_of ?_ ?_ _) | (with_reducible refine Below.alloc ?_ ?_ _) | (with_reducible refine Below.setCell ?_ ?_ _) | (with_reducible refine Below.drew ?_) | (simp; done) | (simp; omega) | omega)))).mono ?_); rintro e w' ⟨g, c', rfl, hgb, hv', hb⟩; have HV' := Lib.hid hv'; clear hv'; obtain ⟨p1, rfl⟩ := later_of_below hb; clear hb))
  refine bodyPost_ret ?_ rfl ⟨g, c', rfl, ?_, ?_, (by (repeat' (first | with_reducible exact Below.refl _ _ | (with_reducible refine below_later_of ?_ ?_ _) | (with_reducible refine Below.alloc ?_ ?_ _) | (with_reducible refine Below.setCell ?_ ?_ _) | (with_reducible refine Below.drew ?_) | (simp; done) | (simp; omega) | omega)))⟩
  · first | (simp [results, Tryz.results20, go_sem]; done) | simp [results, Tryz.results20, go_sem, ↓IntWalk.iteOmega]
  · simp at hgb; omega
  · refine OwnF.off4 (OwnF.off4 (OwnF.off4 (OwnF.off4 HV'.out ?_ _) ?_ _) ?_ _) ?_ _ <;> simp at hgb ⊢ <;> omega
end Go.Proofs.YtkoiknmijjiicaaGreatDoor
