/- Chapter 1: base.Decimal. -/
import Derived.Test.YtkoiknmijjiicaaGreatDoorU63
import Derived.Lib.ItoaLen
import Derived.Laws.IdiomStrings
namespace Go.Proofs.YtkoiknmijjiicaaGreatDoor
set_option linter.unusedVariables false
set_option linter.unusedSimpArgs false
open Go.RowKit Go
set_option maxHeartbeats 400000 in
theorem bSizeD (x : Int) (w : World) (hx : -1000000 ≤ x ∧ x ≤ 1000000) : Calls Tryz.prog 113 #[.int .i64 x] w fun e w' => e = .returned (.int .i64 (max x (-x))) ∧ w = w' := by
  obtain ⟨h1, h2⟩ := hx
  go_enter Tryz.func113, Tryz.ntmps113
  go_wp2
  go_ret
  exact ⟨rfl, rfl⟩
/-- What Decimal has found so far: of n there is x left, t is told. -/
def DecSt (n x : Int) (t : List UInt8) : Prop := (n < 0 → x ≤ 0) ∧ (0 ≤ n → 0 ≤ x) ∧ x.natAbs ≤ n.natAbs ∧ t.length ≤ 21 ∧ Lib.decDigits n.natAbs = (if x = 0 then [] else Lib.decDigits x.natAbs) ++ t
theorem DecSt.first (n : Int) (h : n ≠ 0) : DecSt n n [] := ⟨fun h => by omega, fun h => h, Nat.le_refl _, by simp, by rw [if_neg h]; simp⟩
theorem DecSt.next {n x : Int} {t : List UInt8} (h0 : -9223372036854775808 ≤ n) (h1 : n ≤ 9223372036854775807) (h : DecSt n x t) (hx : x ≠ 0) : DecSt n (x.tdiv 10) (UInt8.ofNat (48 + (x.tmod 10).natAbs) :: t) := by
  obtain ⟨a, b, c, d, e⟩ := h
  rw [if_neg hx] at e
  have hq : (x.tdiv 10).natAbs = x.natAbs / 10 := by rw [Int.natAbs_tdiv]; rfl
  have hr : (x.tmod 10).natAbs = x.natAbs % 10 := by rw [Int.natAbs_tmod]; rfl
  have hs : Lib.decDigits x.natAbs = (if x.tdiv 10 = 0 then [] else Lib.decDigits (x.tdiv 10).natAbs) ++ [UInt8.ofNat (48 + (x.tmod 10).natAbs)] := by
    rw [hq, hr]
    by_cases hl : x.natAbs < 10
    · rw [Lib.decDigits, dif_pos hl, if_pos (by omega)]
      simp only [List.nil_append, Nat.mod_eq_of_lt hl]
    · rw [Lib.decDigits, dif_neg hl, if_neg (by omega)]
  rw [hs, List.append_assoc] at e
  have hlen := Lib.itoa_length_le n h0 h1
  have hdl : (Lib.decDigits n.natAbs).length ≤ 21 := by
    unfold Lib.itoa at hlen
    split at hlen
    · rw [List.length_cons] at hlen; omega
    · rename_i hn
      rw [show n.toNat = n.natAbs by omega] at hlen; exact hlen
  refine ⟨fun h => ?_, fun h => ?_, by omega, ?_, e⟩
  · have hx0 := a h
    have := Int.tdiv_nonneg (a := -x) (b := 10) (by omega) (by decide)
    rw [Int.neg_tdiv] at this; omega
  · exact Int.tdiv_nonneg (b h) (by decide)
  · have := congrArg List.length e
    rw [List.length_append] at this
    simp only [List.length_append] at this
    simp at this ⊢
    omega
theorem DecSt.last {n : Int} {t : List UInt8} (h : DecSt n 0 t) : t = Lib.decDigits n.natAbs := by
  have := h.2.2.2.2
  rw [if_pos rfl] at this
  simpa using this.symm
theorem conv1 (W : World) (b c cap : Nat) (hc : W.cell? ⟨b, 0, none⟩ = some (.int .u8 (c : Int))) (h : c < 256) : (convert 125 9 (.slice (some ⟨b, 0, none⟩) 1 cap)).run Tryz.prog W = .ok (.string ⟨#[UInt8.ofNat c]⟩) W := by
  have := run_convert_bytes_back (P := Tryz.prog) W 125 9 5 ⟨b, 0, none⟩ cap [UInt8.ofNat c] Tryz.underlying125 Tryz.underlying5 Tryz.underlying9 (fun j hj => by
    obtain rfl : j = 0 := by simpa using hj
    rw [show (Addr.mk b 0 none).add 0 = ⟨b, 0, none⟩ from rfl, hc]
    simp [UInt8.toNat_ofNat, Nat.mod_eq_of_lt h])
  exact this
set_option maxHeartbeats 1000000 in
theorem decimal_any (n : Int) (h0 : -9223372036854775808 ≤ n) (h1 : n ≤ 9223372036854775807) (w : World) :
    Calls Tryz.prog 76 #[.int .i64 n] w fun e w' => e = .returned (.string ⟨(Lib.itoa n).toArray⟩) ∧ Below w.heap.size w w' := by
  go_enter Tryz.func76, Tryz.ntmps76
  by_cases hz : n = 0
  · subst hz
    go_wp2
    go_ret
    exact ⟨by rw [show Lib.itoa 0 = [48] by unfold Lib.itoa; rw [if_neg (by decide), Lib.decDigits, dif_pos (by decide)]; rfl]; rfl, Below.refl _ _⟩
  · have hzb : (n == 0) = false := by simpa using hz
    by_cases hn : n < 0
    · have hd : decide (n < 0) = true := by simpa using hn
      go_wp2
      go_loopw [0, 3] (fun x s wr => ∃ (y : Int) (t : List UInt8), x = .int .i64 y ∧ s = .string ⟨t.toArray⟩ ∧ DecSt n y t ∧ Below w.heap.size w wr) (fun x _ _ => (intOf x).natAbs)
      case atStart => exact ⟨n, [], rfl, rfl, DecSt.first n hz, Below.refl _ _⟩
      case round =>
        obtain ⟨y, t, rfl, rfl, hst, hb⟩ := hrel
        have hl : ¬ 9223372036854775807 < 1 + t.length := by have := hst.2.2.2.1; omega
        by_cases hy : y = 0
        · subst hy
          have ht := hst.last
          have hi : Lib.itoa n = 45 :: Lib.decDigits n.natAbs := by unfold Lib.itoa; rw [if_pos hn]
          rw [← ht] at hi
          have HI := Lib.hid hi
          clear hst ht hi
          go_wp2
          go_ret
          exact ⟨by rw [HI.out]; rfl, hb⟩
        · have hyb : (y != 0) = true := by simpa using hy
          have hy2 : (y == 0) = false := by simpa using hy
          have hN := DecSt.next h0 h1 hst hy
          have hr0 : (y.tmod 10).natAbs < 10 := by rw [Int.natAbs_tmod]; exact Nat.mod_lt _ (by decide)
          have hqm : (y.tdiv 10).natAbs < y.natAbs := by rw [Int.natAbs_tdiv]; exact Nat.div_lt_self (by omega) (by decide)
          have hab : y.natAbs ≤ n.natAbs := hst.2.2.1
          have hyb0 : -9223372036854775808 ≤ y ∧ y ≤ 9223372036854775807 := by have := hst.1; have := hst.2.1; omega
          obtain ⟨d, hd⟩ : ∃ d, y.tmod 10 = d := ⟨_, rfl⟩
          obtain ⟨q, hq⟩ : ∃ q, y.tdiv 10 = q := ⟨_, rfl⟩
          have hqw : IntKind.i64.wrap q = q := IntWalk.i64_in _ (by have : q.natAbs < y.natAbs := hq ▸ hqm; omega)
          rw [hd, hq] at hN
          rw [hd] at hr0
          obtain ⟨m, hm⟩ : ∃ m, d.natAbs = m := ⟨_, rfl⟩
          rw [hm] at hN hr0
          have HSZ := Lib.hid (show ∀ w, Calls Tryz.prog 113 #[.int .i64 d] w fun e w' => e = .returned (.int .i64 (m : Int)) ∧ w = w' from fun w => by
            have := bSizeD d w (by omega)
            rw [show max d (-d) = (m : Int) by omega] at this; exact this)
          obtain ⟨c, hc⟩ : ∃ c : Nat, 48 + m = c := ⟨_, rfl⟩
          have hw1 : IntKind.i64.wrap (48 + (m : Int)) = (c : Int) := by rw [IntWalk.i64_in _ (by omega)]; omega
          have hw2 : IntKind.u8.wrap (c : Int) = (c : Int) := by rw [IntKind.wrap_u8]; omega
          rw [hc] at hN
          have HC := Lib.hid (show c < 256 by omega)
          have HN := Lib.hid hN
          have HQM := Lib.hid hqm
          clear hN hst hqm hab h0 h1 hyb0 hm hr0 hc
          have HCV := fun (W : World) (b cap : Nat) hc => conv1 W b c cap hc HC.out
          go_wp2_with (first | (go_at_call 113; (with_reducible refine (HSZ.out _).mono ?_); rintro e w' ⟨rfl, rfl⟩))
          go_round
          case rel => exact ⟨q, UInt8.ofNat c :: t, rfl, rfl, HN.out, by have hsz := hb.size; exact hb.trans (by (repeat' (first | with_reducible exact Below.refl _ _ | (with_reducible refine below_later_of ?_ ?_ _) | (with_reducible refine Below.alloc ?_ ?_ _) | (with_reducible refine Below.setCell ?_ ?_ _) | (with_reducible refine Below.drew ?_) | (simp; done) | (simp; omega) | omega)))⟩
          case measure => simp [intOf]; exact hq ▸ HQM.out
    · have hd : decide (n < 0) = false := by simpa using hn
      have hn := Int.not_lt.1 hn
      go_wp2
      go_loopw [0, 3] (fun x s wr => ∃ (y : Int) (t : List UInt8), x = .int .i64 y ∧ s = .string ⟨t.toArray⟩ ∧ DecSt n y t ∧ Below w.heap.size w wr) (fun x _ _ => (intOf x).natAbs)
      case atStart => exact ⟨n, [], rfl, rfl, DecSt.first n hz, Below.refl _ _⟩
      case round =>
        obtain ⟨y, t, rfl, rfl, hst, hb⟩ := hrel
        have hl : ¬ 9223372036854775807 < 1 + t.length := by have := hst.2.2.2.1; omega
        have hl0 : ¬ 9223372036854775807 < t.length := by have := hst.2.2.2.1; omega
        by_cases hy : y = 0
        · subst hy
          have ht := hst.last
          have hi : Lib.itoa n = Lib.decDigits n.natAbs := by unfold Lib.itoa; rw [if_neg (Int.not_lt.2 hn), show n.toNat = n.natAbs by omega]
          rw [← ht] at hi
          have HI := Lib.hid hi
          clear hst ht hi
          go_wp2
          go_ret
          exact ⟨by rw [HI.out]; rfl, hb⟩
        · have hyb : (y != 0) = true := by simpa using hy
          have hy2 : (y == 0) = false := by simpa using hy
          have hN := DecSt.next h0 h1 hst hy
          have hr0 : (y.tmod 10).natAbs < 10 := by rw [Int.natAbs_tmod]; exact Nat.mod_lt _ (by decide)
          have hqm : (y.tdiv 10).natAbs < y.natAbs := by rw [Int.natAbs_tdiv]; exact Nat.div_lt_self (by omega) (by decide)
          have hab : y.natAbs ≤ n.natAbs := hst.2.2.1
          have hyb0 : -9223372036854775808 ≤ y ∧ y ≤ 9223372036854775807 := by have := hst.1; have := hst.2.1; omega
          obtain ⟨d, hd⟩ : ∃ d, y.tmod 10 = d := ⟨_, rfl⟩
          obtain ⟨q, hq⟩ : ∃ q, y.tdiv 10 = q := ⟨_, rfl⟩
          have hqw : IntKind.i64.wrap q = q := IntWalk.i64_in _ (by have : q.natAbs < y.natAbs := hq ▸ hqm; omega)
          rw [hd, hq] at hN
          rw [hd] at hr0
          obtain ⟨m, hm⟩ : ∃ m, d.natAbs = m := ⟨_, rfl⟩
          rw [hm] at hN hr0
          have HSZ := Lib.hid (show ∀ w, Calls Tryz.prog 113 #[.int .i64 d] w fun e w' => e = .returned (.int .i64 (m : Int)) ∧ w = w' from fun w => by
            have := bSizeD d w (by omega)
            rw [show max d (-d) = (m : Int) by omega] at this; exact this)
          obtain ⟨c, hc⟩ : ∃ c : Nat, 48 + m = c := ⟨_, rfl⟩
          have hw1 : IntKind.i64.wrap (48 + (m : Int)) = (c : Int) := by rw [IntWalk.i64_in _ (by omega)]; omega
          have hw2 : IntKind.u8.wrap (c : Int) = (c : Int) := by rw [IntKind.wrap_u8]; omega
          rw [hc] at hN
          have HC := Lib.hid (show c < 256 by omega)
          have HN := Lib.hid hN
          have HQM := Lib.hid hqm
          clear hN hst hqm hab h0 h1 hyb0 hm hr0 hc
          have HCV := fun (W : World) (b cap : Nat) hc => conv1 W b c cap hc HC.out
          go_wp2_with (first | (go_at_call 113; (with_reducible refine (HSZ.out _).mono ?_); rintro e w' ⟨rfl, rfl⟩))
          go_round
          case rel => exact ⟨q, UInt8.ofNat c :: t, rfl, rfl, HN.out, by have hsz := hb.size; exact hb.trans (by (repeat' (first | with_reducible exact Below.refl _ _ | (with_reducible refine below_later_of ?_ ?_ _) | (with_reducible refine Below.alloc ?_ ?_ _) | (with_reducible refine Below.setCell ?_ ?_ _) | (with_reducible refine Below.drew ?_) | (simp; done) | (simp; omega) | omega)))⟩
          case measure => simp [intOf]; exact hq ▸ HQM.out
end Go.Proofs.YtkoiknmijjiicaaGreatDoor
