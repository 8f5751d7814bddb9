import Derived.Test.YtokpdmlmlkkekaaZA
import Derived.Test.YtokpdmlmlkkekaaZF
import Derived.Test.YtokpdmlmlkkekaaZK
/- isWhole, for every float. -/
namespace Go.Proofs.Ytokpdmlmlkkekaa
set_option linter.unusedVariables false
open Go.RowKit
/-- One operation whose value and world are known. -/
theorem wpList_runw {P : Program} {ops : Array Oper} {rest : List Oper} {o : Oper} {a : Act} {w : World} {Q : Exit → Act → World → Prop} (v : Value) (w' : World) (hg : o.guard = none) (hrun : (execOp a.eval o).run P w = .ok (.value v) w')
    (h : wpList P ops Q rest (a.put o.dst v) w') : wpList P ops Q (o :: rest) a w := by
  refine wpList_plain hg fun K hK => ?_
  unfold Oper.wp
  rw [hrun]
  exact hK _ _ h
theorem wpList_run1 {P : Program} {ops : Array Oper} {rest : List Oper} {o : Oper} {a : Act} {w : World} {Q : Exit → Act → World → Prop} (v : Value) (hg : o.guard = none) (hrun : (execOp a.eval o).run P w = .ok (.value v) w)
    (h : wpList P ops Q rest (a.put o.dst v) w) : wpList P ops Q (o :: rest) a w := wpList_runw v w hg hrun h
theorem hrun_bits (b : Nat) (w : World) : (callFunc 156 #[.float .f64 b]).run Try.prog w = .ok (.value (.int .u64 b)) w := by
  rw [run_callFunc_extern (e := Extern.MathFloatBits.float64bits) Try.func156 (by kernel_rfl) (by kernel_rfl) (by kernel_rfl) (by kernel_rfl)]
  rfl
theorem hrun_from (b : Nat) (w : World) : (callFunc 157 #[.int .u64 (b : Int)]).run Try.prog w = .ok (.value (.float .f64 b)) w := by
  rw [run_callFunc_extern (e := Extern.MathFloatBits.float64frombits) Try.func157 (by kernel_rfl) (by kernel_rfl) (by kernel_rfl) (by kernel_rfl)]
  rfl
theorem hrun_trunc (c : Nat) (w : World) : (callFunc 152 #[.float .f64 c]).run Try.prog w = ((Extern.MathFloor.toIntegral "math.archTrunc" .zero #[.float .f64 c]).run Try.prog w).andThen fun v w' => .ok (.value v) w' :=
  run_callFunc_extern (e := Extern.MathFloor.toIntegral "math.archTrunc" .zero) Try.func152 (by kernel_rfl) (by kernel_rfl) (by kernel_rfl) (by kernel_rfl) _ _
theorem run_andNot (b : Nat) (h : b < 2 ^ 64) (w : World) : (binOp .andNot 201 (.int .u64 (b : Int)) (.int .u64 9223372036854775808)).run Try.prog w = .ok (.int .u64 ((b % 2 ^ 63 : Nat) : Int)) w := by
  show (Op.intBits .andNot .u64 (b : Int) 9223372036854775808).run Try.prog w = _
  unfold Op.intBits
  have e := abs_bits b h
  have h2 : b % 2 ^ 63 < 2 ^ 63 := Nat.mod_lt _ (by decide)
  show (Pure.pure (Value.int .u64 (IntKind.u64.wrap _)) : Sem Value).run Try.prog w = _
  have e2 : IntKind.u64.wrap (((BitVec.ofInt 64 (b : Int) &&& ~~~(BitVec.ofInt 64 9223372036854775808)).toNat : Nat) : Int) = ((b % 2 ^ 63 : Nat) : Int) := by
    rw [e]; rw [IntKind.wrap_u64]; omega
  exact congrArg (fun x => Result.ok (Value.int .u64 x) w) e2
set_option maxHeartbeats 400000 in
theorem abs_any (b : Nat) (h : b < 2 ^ 64) (w : World) : Calls Try.prog 154 #[.float .f64 b] w fun e w' => e = .returned (.float .f64 (b % 2 ^ 63)) ∧ w = w' := by
  have h1 : ∀ w, (callFunc 156 #[.float .f64 b]).run Try.prog w = .ok (.value (.int .u64 b)) w := fun w => hrun_bits b w
  have h2 : ∀ w, (callFunc 157 #[.int .u64 ((b % 2 ^ 63 : Nat) : Int)]).run Try.prog w = .ok (.value (.float .f64 (b % 2 ^ 63))) w := fun w => hrun_from _ w
  have h3 : IntKind.u64.wrap (((BitVec.ofInt 64 (b : Int) &&& ~~~(BitVec.ofInt 64 9223372036854775808)).toNat : Nat) : Int) = ((b % 2 ^ 63 : Nat) : Int) := by
    have h2 : b % 2 ^ 63 < 2 ^ 63 := Nat.mod_lt _ (by decide)
    rw [abs_bits b h]; rw [IntKind.wrap_u64]; omega
  generalize hc : b % 2 ^ 63 = c at h2 h3 ⊢
  have H3 := Lib.hid h3
  clear hc h h3
  go_enter Try.func154, Try.ntmps154
  go_wp2_with ((with_reducible refine wpList_run1 (o := ⟨some 5, _, _, _, _, _⟩) (.int .u64 c) ?_ ?_ ?_); (focus rfl); (focus (rw [← H3.out]; kernel_rfl)))
  go_ret
  exact ⟨rfl, rfl⟩

set_option maxHeartbeats 400000 in
theorem isInf_any (b : Nat) (h : b < 2 ^ 64) (w : World) {g : Bool} (hg : (Ieee.double.order (b % 2 ^ 63) 9218868437227405311 == some Ordering.gt) = g) : Calls Try.prog 144 #[.float .f64 b, .int .i64 0] w fun e w' => e = .returned (.bool g) ∧ w = w' := by
  have HA := Lib.hid (abs_any b h)
  generalize b % 2 ^ 63 = c at HA hg
  have HG := Lib.hid hg
  clear hg h
  go_enter Try.func144, Try.ntmps144
  go_wp2_with (first | (go_at_call 154; refine (HA.out _).mono ?_; rintro e w' ⟨rfl, rfl⟩) | ((with_reducible refine wpList_run1 (o := ⟨some 14, _, _, _, _, _⟩) (.bool g) ?_ ?_ ?_); (focus rfl); (focus (rw [← HG.out]; kernel_rfl))))
  go_ret
  exact ⟨rfl, rfl⟩
set_option maxHeartbeats 400000 in
theorem trunc_same (c d : Nat) (h : ∀ w, (callFunc 152 #[.float .f64 c]).run Try.prog w = .ok (.value (.float .f64 d)) w) (w : World) : Calls Try.prog 143 #[.float .f64 c] w fun e w' => e = .returned (.float .f64 d) ∧ w = w' := by
  go_enter Try.func143, Try.ntmps143
  go_wp2
  go_ret
  exact ⟨rfl, rfl⟩
theorem toIntegral_eq (c : Nat) : Extern.MathFloor.toIntegral "math.archTrunc" .zero #[.float .f64 c] = (match FloatKind.f64.decode c with
    | .nan s t => if FloatKind.f64.format.quiet t = t then (Pure.pure (.float .f64 c) : Sem Value) else (choose (.extern "math.Floor,Ceil,Trunc,RoundToEven.signallingNaN kept" 2)) >>= fun kept => Pure.pure (.float .f64 (if kept == 1 then c else FloatKind.f64.encode (.nan s (FloatKind.f64.format.quiet t))))
    | d => Pure.pure (.float .f64 (FloatKind.f64.encode (d.integral .zero)))) := rfl
theorem trunc_num (c : Nat) {s : Bool} {k : Nat} {last : Int} (hc : Ieee.double.read c = .number s k last) (w : World) : (callFunc 152 #[.float .f64 c]).run Try.prog w = .ok (.value (.float .f64 (Ieee.double.write (.number s (cutT k last) 0)))) w := by
  rw [hrun_trunc]
  have : (Extern.MathFloor.toIntegral "math.archTrunc" .zero #[.float .f64 c]).run Try.prog w = .ok (.float .f64 (Ieee.double.write (.number s (cutT k last) 0))) w := by
    have hd : FloatKind.f64.decode c = .number s k last := hc
    rw [toIntegral_eq, hd]
    simp only [Ieee.Datum.integral, cut_zero]
    rfl
  rw [this]
  rfl
theorem trunc_inf (c : Nat) {s : Bool} (hc : Ieee.double.read c = .infinity s) (w : World) : (callFunc 152 #[.float .f64 c]).run Try.prog w = .ok (.value (.float .f64 (Ieee.double.word s Ieee.double.infRung))) w := by
  rw [hrun_trunc]
  have : (Extern.MathFloor.toIntegral "math.archTrunc" .zero #[.float .f64 c]).run Try.prog w = .ok (.float .f64 (Ieee.double.word s Ieee.double.infRung)) w := by
    have hd : FloatKind.f64.decode c = .infinity s := hc
    rw [toIntegral_eq, hd]
    rfl
  rw [this]
  rfl
theorem trunc_nan (c : Nat) {s : Bool} {t : Nat} (hc : Ieee.double.read c = .nan s t) (w : World) : ∃ v w', (callFunc 152 #[.float .f64 c]).run Try.prog w = .ok (.value (.float .f64 v)) w' ∧ (∃ s' t', Ieee.double.read v = .nan s' t') ∧ Below w.heap.size w w' := by
  rw [hrun_trunc, toIntegral_eq]
  have hd : FloatKind.f64.decode c = .nan s t := hc
  rw [hd]
  dsimp only
  by_cases hq : FloatKind.f64.format.quiet t = t
  · refine ⟨c, w, ?_, ⟨s, t, hc⟩, Below.refl _ _⟩
    rw [if_pos hq]
    rfl
  · obtain ⟨u, hu⟩ := nan_quiet s t
    refine ⟨if (Question.cut (.extern "math.Floor,Ceil,Trunc,RoundToEven.signallingNaN kept" 2) (w.tape w.drawn (.extern "math.Floor,Ceil,Trunc,RoundToEven.signallingNaN kept" 2))) == 1 then c else FloatKind.f64.encode (.nan s (FloatKind.f64.format.quiet t)), w.drew, ?_, ?_, (Below.refl _ _).drew⟩
    · rw [if_neg hq, Sem.run_bind, run_choose_drew]
      rfl
    · split
      · exact ⟨s, t, hc⟩
      · exact ⟨s, u, hu⟩
set_option maxHeartbeats 400000 in
theorem trunc_move (c : Nat) (V : World → Nat) (W1 : World → World) (h : ∀ w, (callFunc 152 #[.float .f64 c]).run Try.prog w = .ok (.value (.float .f64 (V w))) (W1 w)) (w : World) : Calls Try.prog 143 #[.float .f64 c] w fun e w' => e = .returned (.float .f64 (V w)) ∧ W1 w = w' := by
  go_enter Try.func143, Try.ntmps143
  go_wp2
  go_ret
  exact ⟨rfl, rfl⟩
theorem trunc_nan_any (c : Nat) {s : Bool} {t : Nat} (hc : Ieee.double.read c = .nan s t) (w : World) : Calls Try.prog 143 #[.float .f64 c] w fun e w' => ∃ v, e = .returned (.float .f64 v) ∧ (∃ s' t', Ieee.double.read v = .nan s' t') ∧ Below w.heap.size w w' := by
  refine (trunc_move c (fun w => (trunc_nan c hc w).choose) (fun w => (trunc_nan c hc w).choose_spec.choose) (fun w => (trunc_nan c hc w).choose_spec.choose_spec.1) w).mono ?_
  rintro e w' ⟨rfl, rfl⟩
  exact ⟨_, rfl, (trunc_nan c hc w).choose_spec.choose_spec.2.1, (trunc_nan c hc w).choose_spec.choose_spec.2.2⟩
end Go.Proofs.Ytokpdmlmlkkekaa

/- isWhole, and the reference's IsWhole, for every float. -/
namespace Go.Proofs.Ytokpdmlmlkkekaa
set_option linter.unusedVariables false
open Go.RowKit
def wholeB (b : Nat) : Bool := datWhole (Ieee.single.read b)
def intB (b : Nat) : Int := datInt (Ieee.single.read b)
theorem dbl_lt (d : Ieee.Datum) : Ieee.double.write d < 2 ^ 64 := Ieee.double.write_lt d
theorem conv_num {b : Nat} {s : Bool} {m : Nat} {e : Int} (h : Ieee.single.read b = .number s m e) (w : World) : (convert 75 165 (.float .f32 b)).run Try.prog w = .ok (.float .f64 (Ieee.double.write (.number s m e))) w := by
  refine run_convert_float_float (P := Try.prog) w 75 165 .f32 .f64 b _ (by kernel_rfl) Try.underlying165 ?_
  obtain ⟨h1, h2, h3⟩ := read_single h
  obtain ⟨k, last, d, hr, _⟩ := wide_of (s := s) h1 h2 h3
  have hd : FloatKind.f32.decode b = .number s m e := h
  have hd2 : FloatKind.f64.decode (FloatKind.f64.encode (.number s m e)) = .number s k last := hr
  unfold floatToFloatBits
  rw [if_neg (by decide), hd]
  dsimp only
  rw [hd2]
  rfl
theorem conv_inf {b : Nat} {s : Bool} (h : Ieee.single.read b = .infinity s) (w : World) : (convert 75 165 (.float .f32 b)).run Try.prog w = .ok (.float .f64 (Ieee.double.word s Ieee.double.infRung)) w := by
  refine run_convert_float_float (P := Try.prog) w 75 165 .f32 .f64 b _ (by kernel_rfl) Try.underlying165 ?_
  have hd : FloatKind.f32.decode b = .infinity s := h
  unfold floatToFloatBits
  rw [if_neg (by decide), hd]
  rfl
def nanW (b : Nat) (w : World) : Nat := Question.cut (.nanConv .f64 b) (w.tape w.drawn (.nanConv .f64 b))
theorem conv_nan {b : Nat} {s : Bool} {t : Nat} (h : Ieee.single.read b = .nan s t) (w : World) : (convert 75 165 (.float .f32 b)).run Try.prog w = .ok (.float .f64 (nanW b w)) w.drew := by
  have hd : FloatKind.f32.decode b = .nan s t := h
  have e1 : (convert 75 165 (.float .f32 b)).run Try.prog w = (Conv.floatToFloat .f32 b .f64).run Try.prog w := by kernel_rfl
  rw [e1]
  unfold Conv.floatToFloat
  rw [if_neg (by decide), hd]
  dsimp only
  rw [Sem.run_bind, run_choose_drew]
  rfl
theorem nanW_nan (b : Nat) (w : World) : ∃ s u, Ieee.double.read (nanW b w) = .nan s u := nan_drawn _
set_option maxHeartbeats 400000 in
/-- isWhole, of a float whose wide word, what is left of it, and whether it is beyond all are known. -/
theorem isWhole_of (b r r2 : Nat) (c g : Bool) (hcv : ∀ w, (convert 75 165 (.float .f32 b)).run Try.prog w = .ok (.float .f64 r) w)
    (ht : ∀ w, Calls Try.prog 143 #[.float .f64 r] w fun e w' => e = .returned (.float .f64 r2) ∧ w = w')
    (hi : ∀ w, Calls Try.prog 144 #[.float .f64 r, .int .i64 0] w fun e w' => e = .returned (.bool g) ∧ w = w')
    (hc : (FloatKind.f64.format.order r2 r == some Ordering.eq) = c) (w : World) :
    Calls Try.prog 114 #[.float .f32 b] w fun e w' => e = .returned (.bool (c && !g)) ∧ w = w' := by
  have HT := Lib.hid ht
  have HI := Lib.hid hi
  clear ht hi
  cases c
  · go_enter Try.func114, Try.ntmps114
    go_wp2_with (first | (go_at_call 143; refine (HT.out _).mono ?_; rintro e w' ⟨rfl, rfl⟩) | (go_at_call 144; refine (HI.out _).mono ?_; rintro e w' ⟨rfl, rfl⟩))
    go_ret
    exact ⟨rfl, rfl⟩
  · go_enter Try.func114, Try.ntmps114
    go_wp2_with (first | (go_at_call 143; refine (HT.out _).mono ?_; rintro e w' ⟨rfl, rfl⟩) | (go_at_call 144; refine (HI.out _).mono ?_; rintro e w' ⟨rfl, rfl⟩))
    go_ret
    exact ⟨ret_bool (by simp), rfl⟩
set_option maxHeartbeats 400000 in
theorem isWhole_nan (b : Nat) (V : World → Nat) (hcv : ∀ w, (convert 75 165 (.float .f32 b)).run Try.prog w = .ok (.float .f64 (V w)) w.drew) (hV : ∀ w, ∃ s u, Ieee.double.read (V w) = .nan s u) (w : World) :
    Calls Try.prog 114 #[.float .f32 b] w fun e w' => e = .returned (.bool false) ∧ Below w.heap.size w w' := by
  obtain ⟨s, u, hu⟩ := hV w
  have HU := Lib.hid hu
  have HN := Lib.hid (show ∀ v s' t', Ieee.double.read v = .nan s' t' → (FloatKind.f64.format.order v (V w) == some Ordering.eq) = false from fun v s' t' hv => by
    have := (nan_cmp (y := V w) hv).1
    show (Ieee.double.order v (V w) == some Ordering.eq) = false
    rw [this]; rfl)
  clear hu hV
  go_enter Try.func114, Try.ntmps114
  go_wp2_with (go_at_call 143; refine (trunc_nan_any _ HU.out _).mono ?_; rintro e w' ⟨v, rfl, ⟨s', t', hv⟩, hb⟩; have hz := HN.out v s' t' hv; clear hv; obtain ⟨pp, rfl⟩ := later_of_below hb; clear hb)
  go_ret
  exact ⟨rfl, (by (repeat' (first | with_reducible exact Below.refl _ _ | (with_reducible refine below_later_of ?_ ?_ _) | (with_reducible refine Below.alloc ?_ ?_ _) | (with_reducible refine Below.setCell ?_ ?_ _) | (with_reducible refine Below.drew ?_) | (simp; done) | (simp; omega) | omega)))⟩
theorem isWhole_any (b : Nat) (w : World) : Calls Try.prog 114 #[.float .f32 b] w fun e w' => e = .returned (.bool (wholeB b)) ∧ Below w.heap.size w w' := by
  unfold wholeB
  cases hd : Ieee.single.read b with
  | number s m e =>
    obtain ⟨h1, h2, h3⟩ := read_single hd
    obtain ⟨k, last, d, hr, hk, hl, hk53, hlog, hb1, hb2⟩ := wide_of (s := s) h1 h2 h3
    have hi := fun w => isInf_any _ (dbl_lt (.number s m e)) w (not_inf hr hk53 hb1 hb2)
    have ht := fun w => trunc_same _ _ (fun w => trunc_num _ hr w) w
    have hc : (FloatKind.f64.format.order (Ieee.double.write (.number s (cutT k last) 0)) (Ieee.double.write (.number s m e)) == some Ordering.eq) = datWhole (.number s m e) := cut_order hr hk hl hk53 hlog hb1 hb2 (fun _ => rfl)
    refine (isWhole_of b _ _ _ _ (conv_num hd) ht hi hc w).mono ?_
    rintro e w' ⟨rfl, rfl⟩
    exact ⟨by simp, Below.refl _ _⟩
  | infinity s =>
    have hi := fun w => isInf_any _ (show Ieee.double.word s Ieee.double.infRung < 2 ^ 64 by cases s <;> decide) w (g := true) (by rw [abs_inf]; exact inf_gt)
    have ht := fun w => trunc_same _ _ (fun w => trunc_inf _ (read_inf s) w) w
    refine (isWhole_of b _ _ true _ (conv_inf hd) ht hi (inf_eq s) w).mono ?_
    rintro e w' ⟨rfl, rfl⟩
    exact ⟨rfl, Below.refl _ _⟩
  | nan s t => exact isWhole_nan b _ (conv_nan hd) (nanW_nan b) w
end Go.Proofs.Ytokpdmlmlkkekaa

/- The reference's IsWhole, for every float of the narrow kind. -/
namespace Go.Proofs.Ytokpdmlmlkkekaa
set_option linter.unusedVariables false
open Go.RowKit
theorem sub_self {r : Nat} {s : Bool} {k : Nat} {last : Int} (h : Ieee.double.read r = .number s k last) : Ieee.double.sub r r = some 0 := by
  unfold Ieee.Format.sub
  rw [h]
  simp only [Ieee.Datum.opposite, Ieee.Datum.sum, Option.map_some]
  have e : Ieee.signed s k (last - min last last).toNat + Ieee.signed (!s) k (last - min last last).toNat = 0 := by
    rw [signed_sgn, signed_sgn]; unfold sgn; cases s <;> simp <;> omega
  rw [e]
  have : (if (0 : Int) = 0 then (s && !s) else decide ((0 : Int) < 0)) = false := by cases s <;> rfl
  rw [this]
  show some (Ieee.double.nearest false 0 (min last last)) = some 0
  unfold Ieee.Format.nearest
  simp [Ieee.Format.word]
theorem sub_inf (s : Bool) : Ieee.double.sub (Ieee.double.word s Ieee.double.infRung) (Ieee.double.word s Ieee.double.infRung) = none := by cases s <;> decide
theorem order_self {r : Nat} {s : Bool} {k : Nat} {last : Int} (h : Ieee.double.read r = .number s k last) : Ieee.double.order r r = some .eq := by
  unfold Ieee.Format.order
  rw [h]
  simp only [Ieee.Datum.order]
  rw [icmp]
  simp
/-- Beyond 10 ^ 16 all numbers are whole; the others are cut to 64 bits. -/
theorem inside_of {r : Nat} {s : Bool} {m k : Nat} {e last : Int} {d : Nat} (hr : Ieee.double.read r = .number s k last) (hk : k = m * 2 ^ d) (hl : m ≠ 0 → last = e - (d : Nat)) (hk53 : k < 2 ^ 53) :
    ((geB r c16m && leB r c16p) = false → datWhole (.number s m e) = true) ∧ ((geB r c16m && leB r c16p) = true → cutT k last ≤ 10000000000000000) := by
  obtain ⟨t1, m1, e1, a1, g1, g2, g3⟩ := num_16m
  obtain ⟨t2, m2, e2, a2, k1, k2, k3⟩ := num_16p
  have sk : ∀ n : Nat, -(n : Int) ≤ sgn s n ∧ sgn s n ≤ n := fun n => by unfold sgn; cases s <;> simp <;> omega
  by_cases hlast : 0 ≤ last
  · have hT : cutT k last = k * 2 ^ last.toNat := by unfold cutT; rw [if_pos hlast]
    have o1 := order_shift Ieee.double hr g1 0 (by simpa using mag_whole k hlast) (by simpa using g2)
    have o2 := order_shift Ieee.double hr k1 0 (by simpa using mag_whole k hlast) (by simpa using k2)
    rw [g3] at o1
    rw [k3] at o2
    refine ⟨fun _ => ?_, fun h => ?_⟩
    · by_cases hm : m = 0
      · subst hm; simp [datWhole]
      · have := hl hm
        have : 0 ≤ e := by omega
        simp [datWhole, this]
    · rw [hT]
      unfold geB leB at h
      rw [o1, o2] at h
      generalize k * 2 ^ last.toNat = x at h ⊢
      rw [icmp, icmp] at h
      have := sk x
      unfold sgn at h
      cases s
      · simp only [Bool.false_eq_true, if_false] at h
        by_cases hx : (x : Int) ≤ 10000000000000000
        · omega
        · rw [if_neg (by omega), if_neg (by omega), if_neg (by omega), if_neg (by omega)] at h
          exact absurd h (by decide)
      · simp only [if_true] at h
        by_cases hx : (x : Int) ≤ 10000000000000000
        · omega
        · rw [if_pos (by omega)] at h
          simp at h
  · have hT : cutT k last ≤ k := by unfold cutT; rw [if_neg hlast]; exact Nat.div_le_self _ _
    refine ⟨fun h => ?_, fun _ => by omega⟩
    exfalso
    have o1 := order_shift Ieee.double hr g1 (-last).toNat (mag_self k (by omega)) (mag_shift g2 _)
    have o2 := order_shift Ieee.double hr k1 (-last).toNat (mag_self k (by omega)) (mag_shift k2 _)
    rw [sgn_mul, g3] at o1
    rw [sgn_mul, k3] at o2
    have p := Nat.two_pow_pos (-last).toNat
    have := sk k
    have q : (10000000000000000 : Int) * 1 ≤ 10000000000000000 * ((2 ^ (-last).toNat : Nat) : Int) := Int.mul_le_mul_of_nonneg_left (by omega) (by omega)
    unfold geB leB at h
    rw [o1, o2, icmp, icmp] at h
    generalize ((2 ^ (-last).toNat : Nat) : Int) = P at h q
    rw [Int.neg_mul] at h
    generalize sgn s k = y at h this
    rw [if_neg (by omega), if_neg (by omega), if_pos (by omega)] at h
    exact absurd h (by decide)
theorem conv_int {r : Nat} {s : Bool} {k : Nat} {last : Int} (hr : Ieee.double.read r = .number s k last) (hT : cutT k last ≤ 10000000000000000) (w : World) : (convert 165 3 (.float .f64 r)).run Try.prog w = .ok (.int .i64 (sgn s (cutT k last))) w := by
  refine run_convert_float_int (P := Try.prog) w 165 3 .f64 .i64 r _ (by kernel_rfl) Try.underlying3 ?_
  have hd : FloatKind.f64.decode r = .number s k last := hr
  unfold floatToIntVal
  rw [hd]
  have : (Ieee.Datum.number s k last).toInt .zero = some (sgn s (cutT k last)) := by
    unfold Ieee.Datum.toInt Ieee.Datum.integral
    simp only
    rw [cut_zero, signed_sgn, Nat.pow_zero, Nat.mul_one]
  rw [this]
  dsimp only
  rw [if_pos]
  have : -(cutT k last : Int) ≤ sgn s (cutT k last) ∧ sgn s (cutT k last) ≤ cutT k last := by unfold sgn; cases s <;> simp <;> omega
  show (-9223372036854775808 : Int) ≤ _ ∧ _ ≤ (9223372036854775807 : Int)
  omega
set_option maxHeartbeats 400000 in
theorem bIsWhole_of (r : Nat) (n : Int) (u v c : Bool) (h0 : (FloatKind.f64.format.order r r != some Ordering.eq) = false) (h1 : ∀ w, (binOp .sub 165 (.float .f64 r) (.float .f64 r)).run Try.prog w = .ok (.float .f64 0) w)
    (h2 : (FloatKind.f64.format.order r 14069741636278059008 == some Ordering.gt || FloatKind.f64.format.order r 14069741636278059008 == some Ordering.eq) = u) (h3 : (FloatKind.f64.format.order r 4846369599423283200 == some Ordering.lt || FloatKind.f64.format.order r 4846369599423283200 == some Ordering.eq) = v)
    (h4 : (u && v) = true → ∀ w, (convert 165 3 (.float .f64 r)).run Try.prog w = .ok (.int .i64 n) w) (h5 : (FloatKind.f64.format.order (floatOfInt .f64 n) r == some Ordering.eq) = c) (w : World) :
    Calls Try.prog 113 #[.float .f64 r] w fun e w' => e = .returned (.bool (if u && v then c else true)) ∧ w = w' := by
  have hz : (FloatKind.f64.format.order 0 0 != some Ordering.eq) = false := by decide
  cases u
  · go_enter Try.func113, Try.ntmps113
    go_wp2
    go_ret
    exact ⟨rfl, rfl⟩
  · cases v
    · go_enter Try.func113, Try.ntmps113
      go_wp2
      go_ret
      exact ⟨rfl, rfl⟩
    · have h6 := h4 rfl
      clear h4
      go_enter Try.func113, Try.ntmps113
      go_wp2
      go_ret
      exact ⟨ret_bool (by simp), rfl⟩
set_option maxHeartbeats 400000 in
theorem bIsWhole_nan (r : Nat) (h0 : (FloatKind.f64.format.order r r != some Ordering.eq) = true) (w : World) : Calls Try.prog 113 #[.float .f64 r] w fun e w' => e = .returned (.bool false) ∧ w = w' := by
  go_enter Try.func113, Try.ntmps113
  go_wp2
  go_ret
  exact ⟨rfl, rfl⟩
set_option maxHeartbeats 400000 in
theorem bIsWhole_inf (r : Nat) (V : World → Nat) (h0 : (FloatKind.f64.format.order r r != some Ordering.eq) = false) (h1 : ∀ w, (binOp .sub 165 (.float .f64 r) (.float .f64 r)).run Try.prog w = .ok (.float .f64 (V w)) w.drew) (h2 : ∀ w, (FloatKind.f64.format.order (V w) 0 != some Ordering.eq) = true) (w : World) :
    Calls Try.prog 113 #[.float .f64 r] w fun e w' => e = .returned (.bool false) ∧ w.drew = w' := by
  go_enter Try.func113, Try.ntmps113
  go_wp2
  go_ret
  exact ⟨rfl, rfl⟩
def nanB (r : Nat) (w : World) : Nat := Question.cut (.nanBits .f64 r r) (w.tape w.drawn (.nanBits .f64 r r))
theorem nanB_nan (r : Nat) (w : World) : ∃ s u, Ieee.double.read (nanB r w) = .nan s u := nan_drawn _
/-- IsWhole of the wide words that come of a narrow one. -/
theorem bIsWhole_num {b : Nat} {s : Bool} {m : Nat} {e : Int} (hd : Ieee.single.read b = .number s m e) (w : World) :
    Calls Try.prog 113 #[.float .f64 (Ieee.double.write (.number s m e))] w fun e' w' => e' = .returned (.bool (wholeB b)) ∧ w = w' := by
  unfold wholeB
  rw [hd]
  obtain ⟨h1, h2, h3⟩ := read_single hd
  obtain ⟨k, last, d, hr, hk, hl, hk53, hlog, hb1, hb2⟩ := wide_of (s := s) h1 h2 h3
  obtain ⟨i1, i2⟩ := inside_of hr hk hl hk53
  have g0 : (FloatKind.f64.format.order (Ieee.double.write (.number s m e)) (Ieee.double.write (.number s m e)) != some Ordering.eq) = false := by
    show (Ieee.double.order (Ieee.double.write (.number s m e)) (Ieee.double.write (.number s m e)) != some Ordering.eq) = false
    rw [order_self hr]; rfl
  have g1 := fun w => run_float_arith (P := Try.prog) w .sub 165 .f64 _ _ 0 (show floatBits .sub .f64 (Ieee.double.write (.number s m e)) (Ieee.double.write (.number s m e)) = some 0 from sub_self hr)
  have g5 : (FloatKind.f64.format.order (floatOfInt .f64 (sgn s (cutT k last))) (Ieee.double.write (.number s m e)) == some Ordering.eq) = datWhole (.number s m e) := by
    have e1 : floatOfInt .f64 (sgn s (cutT k last)) = Ieee.double.write (.number (decide (sgn s (cutT k last) < 0)) (cutT k last) 0) := by
      show Ieee.double.write (.number (decide (sgn s (cutT k last) < 0)) (sgn s (cutT k last)).natAbs 0) = _
      rw [sgn_abs]
    rw [e1]
    exact cut_order hr hk hl hk53 hlog hb1 hb2 (fun h0 => by unfold sgn; cases s <;> simp <;> omega)
  refine (bIsWhole_of _ (sgn s (cutT k last)) _ _ _ g0 g1 (show _ = geB _ c16m from rfl) (show _ = leB _ c16p from rfl) (fun h w => conv_int hr (i2 h) w) g5 w).mono ?_
  rintro e' w' ⟨rfl, rfl⟩
  refine ⟨ret_bool ?_, rfl⟩
  split
  · rfl
  · rename_i h
    exact (i1 (by simpa using h)).symm
theorem bIsWhole_i {s : Bool} (w : World) : Calls Try.prog 113 #[.float .f64 (Ieee.double.word s Ieee.double.infRung)] w fun e' w' => e' = .returned (.bool false) ∧ Below w.heap.size w w' := by
  have g0 : (FloatKind.f64.format.order (Ieee.double.word s Ieee.double.infRung) (Ieee.double.word s Ieee.double.infRung) != some Ordering.eq) = false := by cases s <;> decide
  have g1 : ∀ w, (binOp .sub 165 (.float .f64 (Ieee.double.word s Ieee.double.infRung)) (.float .f64 (Ieee.double.word s Ieee.double.infRung))).run Try.prog w = .ok (.float .f64 (nanB (Ieee.double.word s Ieee.double.infRung) w)) w.drew := fun w => by
    show (Op.floatArith .sub .f64 _ _).run Try.prog w = _
    unfold Op.floatArith
    have h : FloatKind.f64.format.sub (Ieee.double.word s Ieee.double.infRung) (Ieee.double.word s Ieee.double.infRung) = none := sub_inf s
    dsimp only
    rw [h]
    show ((choose (.nanBits .f64 (Ieee.double.word s Ieee.double.infRung) (Ieee.double.word s Ieee.double.infRung))) >>= fun v => (Pure.pure (Value.float .f64 v) : Sem Value)).run Try.prog w = _
    rw [Sem.run_bind, run_choose_drew]
    rfl
  have g2 : ∀ w, (FloatKind.f64.format.order (nanB (Ieee.double.word s Ieee.double.infRung) w) 0 != some Ordering.eq) = true := fun w => by
    obtain ⟨s', u, hu⟩ := nanB_nan (Ieee.double.word s Ieee.double.infRung) w
    have := (nan_cmp (y := 0) hu).1
    show (Ieee.double.order _ 0 != some Ordering.eq) = true
    rw [this]
    rfl
  refine (bIsWhole_inf _ _ g0 g1 g2 w).mono ?_
  rintro e' w' ⟨rfl, rfl⟩
  exact ⟨rfl, (Below.refl _ _).drew⟩
theorem bIsWhole_n {r : Nat} {s : Bool} {t : Nat} (h : Ieee.double.read r = .nan s t) (w : World) : Calls Try.prog 113 #[.float .f64 r] w fun e' w' => e' = .returned (.bool false) ∧ w = w' := by
  refine bIsWhole_nan r ?_ w
  have := (nan_cmp (y := r) h).1
  show (Ieee.double.order r r != some Ordering.eq) = true
  rw [this]; rfl
end Go.Proofs.Ytokpdmlmlkkekaa

/- Reliefs of any floats: their errors, their heights. -/
namespace Go.Proofs.Ytokpdmlmlkkekaa
set_option linter.unusedVariables false
open Go.RowKit
def feB (b : Nat) : Int := if wholeB b then (if loB b || hiB b then 2 else 0) else 29
theorem flErr_any (b : Nat) : FlErr b (feB b) := ⟨wholeB b, isWhole_any b, rfl⟩
theorem num_lo : FNum Ieee.single 3351465984 (-100000) := ⟨true, 12800000, -7, 100000, by decide, by unfold Mag; decide, by decide⟩
theorem num_hi : FNum Ieee.single 1203982336 100000 := ⟨false, 12800000, -7, 100000, by decide, by unfold Mag; decide, by decide⟩
theorem whole_fnum {b : Nat} (h : wholeB b = true) : FNum Ieee.single b (intB b) := whole_num Ieee.single h
theorem lt_beq {a b : Int} : (some (compare a b) == some Ordering.lt) = decide (a < b) := by
  rw [icmp]
  by_cases h : a < b
  · rw [if_pos h, decide_eq_true h]; rfl
  · rw [if_neg h, decide_eq_false h]
    split <;> rfl
theorem gt_beq {a b : Int} : (some (compare a b) == some Ordering.gt) = decide (b < a) := by
  rw [icmp]
  by_cases h : a < b
  · rw [if_pos h, decide_eq_false (by omega)]; rfl
  · rw [if_neg h]
    by_cases h2 : a = b
    · rw [if_pos h2, decide_eq_false (by omega)]; rfl
    · rw [if_neg h2, decide_eq_true (by omega)]; rfl
theorem loB_whole {b : Nat} {n : Int} (h : FNum Ieee.single b n) : loB b = decide (n < -100000) := by
  unfold loB
  rw [show FloatKind.f32.format.order b 3351465984 = some (compare n (-100000)) from order_num _ h num_lo, lt_beq]
theorem hiB_whole {b : Nat} {n : Int} (h : FNum Ieee.single b n) : hiB b = decide (100000 < n) := by
  unfold hiB
  rw [show FloatKind.f32.format.order b 1203982336 = some (compare n 100000) from order_num _ h num_hi, gt_beq]
/-- The float is a height. -/
theorem feB_zero {b : Nat} (h : feB b = 0) : FNum Ieee.single b (intB b) ∧ -100000 ≤ intB b ∧ intB b ≤ 100000 := by
  unfold feB at h
  split at h
  · rename_i hw
    have hn := whole_fnum hw
    split at h
    · exact absurd h (by decide)
    · rename_i hb
      rw [loB_whole hn, hiB_whole hn] at hb
      simp only [Bool.or_eq_true, decide_eq_true_eq, not_or] at hb
      exact ⟨hn, by omega, by omega⟩
  · exact absurd h (by decide)
theorem feB_of {b : Nat} {n : Int} (h : FNum Ieee.single b n) (h1 : -100000 ≤ n) (h2 : n ≤ 100000) : feB b = 0 := by
  have hw : wholeB b = true := (num_whole _ h).1
  unfold feB
  rw [if_pos hw, loB_whole h, hiB_whole h, if_neg (by simp; omega)]
theorem intB_of {b : Nat} {n : Int} (h : FNum Ieee.single b n) : intB b = n := (num_whole _ h).2
theorem flInt_num {b : Nat} {n : Int} (h : FNum Ieee.single b n) (h1 : -9000000000000000000 ≤ n) (h2 : n ≤ 9000000000000000000) : FlInt b n := fun w => by
  refine run_convert_float_int (P := Try.prog) w 75 3 .f32 .i64 b n (by kernel_rfl) Try.underlying3 ?_
  have : (FloatKind.f32.decode b).toInt .zero = some n := fnum_toInt h
  unfold floatToIntVal
  rw [this]
  dsimp only
  rw [if_pos]
  show (-9223372036854775808 : Int) ≤ _ ∧ _ ≤ (9223372036854775807 : Int)
  omega
theorem flInts_any {r : Rel} (h : relErrP feB r = 0) : FlInts intB r.ds := fun k hk => by
  obtain ⟨h1, h2, h3⟩ := feB_zero ((relErrP_ok h).2 k hk)
  exact ⟨flInt_num h1 (by omega) (by omega), by omega, by omega⟩
theorem relAt_any {w : World} {r : Rel} {a : Option Addr} (hl : r.ds.length ≤ 1000000000) (ha : 0 < r.ds.length → ∃ b off, a = some ⟨b, off, none⟩ ∧ b < w.heap.size ∧ FloatsAt w b off r.ds) : RelAt feB intB w r a :=
  ⟨hl, fun k _ => flErr_any _, flInts_any, ha⟩
end Go.Proofs.Ytokpdmlmlkkekaa
