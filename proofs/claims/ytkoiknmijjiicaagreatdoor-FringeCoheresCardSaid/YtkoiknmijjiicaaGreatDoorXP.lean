import Derived.Test.YtkoiknmijjiicaaGreatDoorXO
import Derived.Test.YtkoiknmijjiicaaGreatDoorX19
import Derived.Test.YtkoiknmijjiicaaGreatDoorX5
import Derived.Test.YtkoiknmijjiicaaGreatDoorX20
import Derived.Test.YtkoiknmijjiicaaGreatDoorU78
/- Chapter 4: the reference's sums of blocks; Filtered. -/
namespace Go.Proofs.YtkoiknmijjiicaaGreatDoor
set_option linter.unusedVariables false
set_option linter.unusedSimpArgs false
open Go.RowKit Ieee Ntt
theorem flDN {b : Nat} {n : Int} (h : FNum Ieee.double b n) (h1 : -9000000000000000000 ≤ n) (h2 : n ≤ 9000000000000000000) : FlI .f64 178 b n := flD h h1 h2
set_option maxHeartbeats 400000 in
theorem rParts4 (a b : Nat) (x y : Int) (w : World) (hx : FlI .f64 178 a x) (hy : FlI .f64 178 b y) :
    Calls Tryz.prog 96 #[.complex .f64 a b] w fun e w' => e = .returned (.tuple #[.int .i64 x, .int .i64 y]) ∧ w = w' := by
  unfold FlI at hx hy
  go_enter Tryz.func96, Tryz.ntmps96
  go_wp2
  go_ret2
  exact ⟨rfl, rfl⟩
set_option maxRecDepth 20000 in
set_option maxHeartbeats 4000000 in
theorem rSumOf (L S n cap b off : Nat) (f : Nat → Nat × Nat) (X Y : Nat → Int) (line sample lines samples : Int) (l0 le s0 se : Nat) (w : World) (hn : n = L * S) (hL : L ≤ 64) (hS : S ≤ 64) (hbw : b < w.heap.size) (hf : SumsAt w b off n f) (hX : SmallD n f X Y 1000000000)
    (bl : -10000 ≤ line ∧ line ≤ 10000) (bs : -10000 ≤ sample ∧ sample ≤ 10000) (bls : 0 ≤ lines ∧ lines ≤ 10000) (bss : 0 ≤ samples ∧ samples ≤ 10000)
    (h1 : max 0 line = (l0 : Int)) (h2 : min (L : Int) (line + lines) = (le : Int)) (h3 : max 0 sample = (s0 : Int)) (h4 : min (S : Int) (sample + samples) = (se : Int)) (hle : l0 ≤ le) (hse : s0 ≤ se) {p q : Int} (hp : winW X S s0 (se - s0) l0 (le - l0) = p) (hq : winW Y S s0 (se - s0) l0 (le - l0) = q) :
    Calls Tryz.prog 50 #[.agg #[.int .i64 L, .int .i64 S, .slice (some ⟨b, off, none⟩) n cap], .int .i64 line, .int .i64 sample, .int .i64 lines, .int .i64 samples] w fun e w' => e = .returned (.tuple #[.int .i64 p, .int .i64 q]) ∧ Below w.heap.size w w' := by
  obtain ⟨bl1, bl2⟩ := bl
  obtain ⟨bs1, bs2⟩ := bs
  obtain ⟨bls1, bls2⟩ := bls
  obtain ⟨bss1, bss2⟩ := bss
  have hLe : le ≤ L := by omega
  have hSe : se ≤ S := by omega
  have HN := Lib.hid hn
  have HF := Lib.hid hf
  have HX := Lib.hid hX
  have HP0 := Lib.hid hp
  have HQ0 := Lib.hid hq
  have HBX := Lib.hid (show ∀ i, i < L * S → -1000000000 ≤ X i ∧ X i ≤ 1000000000 from fun i hi => (hX i (by omega)).2.1)
  have HBY := Lib.hid (show ∀ i, i < L * S → -1000000000 ≤ Y i ∧ Y i ≤ 1000000000 from fun i hi => (hX i (by omega)).2.2)
  clear hn hf hX hp hq
  go_enter Tryz.func50, Tryz.ntmps50
  go_wp2
  go_loopw [14, 12, 13] (fun v re im wr => ∃ la : Nat, l0 ≤ la ∧ la ≤ le ∧ v = .int .i64 la ∧ re = .int .i64 (winW X S s0 (se - s0) l0 (la - l0)) ∧ im = .int .i64 (winW Y S s0 (se - s0) l0 (la - l0)) ∧ (wr.cell? ⟨w.heap.size, 0, none⟩ = some (.int .i64 L) ∧ wr.cell? ⟨w.heap.size, 1, none⟩ = some (.int .i64 S) ∧ wr.cell? ⟨w.heap.size, 2, none⟩ = some (.slice (some ⟨b, off, none⟩) n cap)) ∧ w.heap.size < wr.heap.size ∧ Below w.heap.size w wr) (fun v _ _ _ => le - (intOf v).toNat)
  case atStart => exact ⟨l0, Nat.le_refl _, hle, rfl, by rw [Nat.sub_self]; rfl, by rw [Nat.sub_self]; rfl, ⟨by simp [go_sem], by simp [go_sem], by simp [go_sem]⟩, by simp, (by (repeat' (first | with_reducible exact Below.refl _ _ | (with_reducible refine below_later_of ?_ ?_ _) | (with_reducible refine Below.alloc ?_ ?_ _) | (with_reducible refine Below.setCell ?_ ?_ _) | (with_reducible refine Below.drew ?_) | (simp; done) | (simp; omega) | omega)))⟩
  case round =>
    obtain ⟨la, ha0, ha, rfl, rfl, rfl, ⟨c0, c1, c2⟩, hlt1, hb⟩ := hrel
    have HB := Lib.hid hb
    have HC := Lib.hid (And.intro c0 (And.intro c1 c2))
    by_cases hlt : la < le
    · have hd1 : decide ((la : Int) < (le : Int)) = true := by simp; omega
      obtain ⟨e1, e2⟩ := winW_bd (a := s0) (k := se - s0) (b := l0) (m := la - l0) HBX.out (by decide) hL hS (by omega) (by omega)
      obtain ⟨e3, e4⟩ := winW_bd (a := s0) (k := se - s0) (b := l0) (m := la - l0) HBY.out (by decide) hL hS (by omega) (by omega)
      have HW1 := Lib.hid (show winW X S s0 (se - s0) l0 (la + 1 - l0) = winW X S s0 (se - s0) l0 (la - l0) + rowW X S la s0 (se - s0) by rw [show la + 1 - l0 = la - l0 + 1 by omega, winW_succ, show l0 + (la - l0) = la by omega])
      have HW2 := Lib.hid (show winW Y S s0 (se - s0) l0 (la + 1 - l0) = winW Y S s0 (se - s0) l0 (la - l0) + rowW Y S la s0 (se - s0) by rw [show la + 1 - l0 = la - l0 + 1 by omega, winW_succ, show l0 + (la - l0) = la by omega])
      generalize winW X S s0 (se - s0) l0 (la - l0) = P at *
      generalize winW Y S s0 (se - s0) l0 (la - l0) = Q at *
      clear hb
      go_wp2
      go_loopw [15, 12, 13] (fun v re im wr => ∃ sb : Nat, s0 ≤ sb ∧ sb ≤ se ∧ v = .int .i64 sb ∧ re = .int .i64 (P + rowW X S la s0 (sb - s0)) ∧ im = .int .i64 (Q + rowW Y S la s0 (sb - s0)) ∧ (wr.cell? ⟨w.heap.size, 0, none⟩ = some (.int .i64 L) ∧ wr.cell? ⟨w.heap.size, 1, none⟩ = some (.int .i64 S) ∧ wr.cell? ⟨w.heap.size, 2, none⟩ = some (.slice (some ⟨b, off, none⟩) n cap)) ∧ w.heap.size < wr.heap.size ∧ Below w.heap.size w wr) (fun v _ _ _ => se - (intOf v).toNat)
      case atStart => exact ⟨s0, Nat.le_refl _, hse, rfl, by rw [Nat.sub_self]; simp [rowW, sumN], by rw [Nat.sub_self]; simp [rowW, sumN], HC.out, hlt1, HB.out⟩
      case round =>
        clear c0 c1 c2 hlt1
        obtain ⟨sb, hb0, hb, rfl, rfl, rfl, ⟨c0, c1, c2⟩, hlt1, hbel⟩ := hrel
        have HB2 := Lib.hid hbel
        have HC2 := Lib.hid (And.intro c0 (And.intro c1 c2))
        by_cases hlb : sb < se
        · have hd2 : decide ((sb : Int) < (se : Int)) = true := by simp; omega
          obtain ⟨r1, r2⟩ := mul_le3 (n := 64) (rowW_bd (L := L) (l := la) (a := s0) (k := sb - s0) HBX.out (by omega) (by omega)) (by omega) (by decide)
          obtain ⟨r3, r4⟩ := mul_le3 (n := 64) (rowW_bd (L := L) (l := la) (a := s0) (k := sb - s0) HBY.out (by omega) (by omega)) (by omega) (by decide)
          obtain ⟨i, hi⟩ : ∃ i, la * S + sb = i := ⟨_, rfl⟩
          have hin : i < n := by
            have h1 : (la + 1) * S ≤ L * S := Nat.mul_le_mul_right _ (by omega)
            rw [Nat.add_mul, Nat.one_mul] at h1
            have := HN.out
            omega
          have n1 : P + rowW X S la s0 (sb + 1 - s0) = P + rowW X S la s0 (sb - s0) + X i := by rw [show sb + 1 - s0 = sb - s0 + 1 by omega, rowW_succ, show s0 + (sb - s0) = sb by omega, hi]; omega
          have n2 : Q + rowW Y S la s0 (sb + 1 - s0) = Q + rowW Y S la s0 (sb - s0) + Y i := by rw [show sb + 1 - s0 = sb - s0 + 1 by omega, rowW_succ, show s0 + (sb - s0) = sb by omega, hi]; omega
          have HN1 := Lib.hid n1
          have HN2 := Lib.hid n2
          have hic : (la : Int) * (S : Int) + (sb : Int) = (i : Int) := by rw [← hi, Int.natCast_add, Int.natCast_mul]
          have hi1 : (i : Int) < (n : Int) := by omega
          have hi0 : (0 : Int) ≤ (i : Int) := by omega
          have hmm : (la : Int) * (S : Int) ≤ 4096 ∧ 0 ≤ (la : Int) * (S : Int) := by
            have h1 : (0 : Int) ≤ (la : Int) * (S : Int) := Int.mul_nonneg (by omega) (by omega)
            have h2 := Nat.mul_le_mul hL hS
            have := HN.out
            omega
          obtain ⟨m1, m2⟩ := hmm
          have ci := (hbel.cell (p := ⟨b, off + i, none⟩) hbw).trans (HF.out i hin)
          obtain ⟨hcn, ⟨p5, p6⟩, p7, p8⟩ := HX.out i hin
          have HP := Lib.hid (fun w => rParts4 (f i).1 (f i).2 (X i) (Y i) w (flD hcn.re (by omega) (by omega)) (flD hcn.im (by omega) (by omega)))
          have hbr : b < wr.heap.size := by have := hbel.size; omega
          generalize rowW X S la s0 (sb - s0) = u at *
          generalize rowW Y S la s0 (sb - s0) = v at *
          generalize X i = x at *
          generalize Y i = y at *
          clear hbel hcn n1 n2 hi
          go_wp2_with (first | (go_at_call 96; (with_reducible refine (HP.out _).mono ?_); rintro e w' ⟨rfl, rfl⟩))
          go_roundw
          case rel => exact ⟨sb + 1, by omega, by omega, by go_num, by rw [HN1.out], by rw [HN2.out], HC2.out, hlt1, HB2.out⟩
          case measure => simp [intOf]; omega
        · obtain rfl : sb = se := by omega
          have hd2 : decide ((sb : Int) < (sb : Int)) = false := by simp
          clear hbel
          go_wp2
          go_roundw
          case rel => exact ⟨la + 1, by omega, by omega, by go_num, by rw [HW1.out], by rw [HW2.out], HC2.out, hlt1, HB2.out⟩
          case measure => simp [intOf]; omega
    · obtain rfl : la = le := by omega
      have hd1 : decide ((la : Int) < (la : Int)) = false := by simp
      rw [HP0.out, HQ0.out]
      clear hb
      go_wp2
      go_ret2
      exact ⟨rfl, HB.out⟩
end Go.Proofs.YtkoiknmijjiicaaGreatDoor

/- Chapter 4: the reference's Filtered. -/
namespace Go.Proofs.YtkoiknmijjiicaaGreatDoor
set_option linter.unusedVariables false
set_option linter.unusedSimpArgs false
open Go.RowKit Ieee Ntt
set_option maxHeartbeats 400000 in
theorem rIsWindow (half : Int) (w : World) {c : Bool} (hc : inE 0 4 half = c) : Calls Tryz.prog 11 #[.int .i64 half] w fun e w' => e = .returned (.bool c) ∧ w = w' := by
  have HW := Lib.hid hc
  clear hc
  go_enter Tryz.func11, Tryz.ntmps11
  go_wp2_with (first | (go_at_call 46; (with_reducible refine (bWithin _ _ _ _ HW.out).mono ?_); rintro e w' ⟨rfl, rfl⟩))
  go_ret
  exact ⟨rfl, rfl⟩
/-- What the reference's Filtered says of a right window. -/
def FilPost (L S n : Nat) (F : Nat → Int × Int) (w : World) (e : Ending) (w' : World) : Prop :=
  (anyL n F = true ∧ e = .returned (.tuple #[.agg #[.int .i64 0, .int .i64 0, .slice none 0 0], .int .i64 8]) ∧ Below w.heap.size w w') ∨
  (anyL n F = false ∧ ∃ a c, e = .returned (.tuple #[.agg #[.int .i64 L, .int .i64 S, .slice a n c], .int .i64 0]) ∧ OwnS w' w.heap.size n (nmF F) a ∧ n ≤ c ∧ Below w.heap.size w w')
end Go.Proofs.YtkoiknmijjiicaaGreatDoor

/- Chapter 4: the law's fields of parts. -/
namespace Go.Proofs.YtkoiknmijjiicaaGreatDoor
set_option linter.unusedVariables false
set_option linter.unusedSimpArgs false
open Go.ChangeShapes Go.WideShapes Go.RowKit Ieee Ntt
/-- The numbers of parts. -/
def prtF (zs : List Int) (k : Nat) : Nat × Nat := (f64I (intAt zs (2 * k)), f64I (intAt zs (2 * k + 1)))
theorem prt_wide (zs : List Int) (n : Nat) : Wide64 n (prtF zs) := fun k _ => ⟨f64I_lt _, f64I_lt _⟩
theorem ownS_fld {W : World} {B n : Nat} {L S : Int} {f : Nat → Nat × Nat} {a : Option Addr} (h : OwnS W B n f a) : FldAt W L S n f a := fun hs => by
  obtain ⟨⟨h1, h2⟩, ⟨h3, h4⟩, h5⟩ := sizeE_okU hs
  have : 0 < n := by
    have := Int.mul_le_mul h1 h3 (by decide) (by omega)
    omega
  obtain ⟨g, e, -, hg, hs⟩ := h this
  exact ⟨g, 0, e, hg, hs⟩
def SmPost (L S : Int) (n : Nat) (f : Nat → Nat × Nat) (w : World) (e : Ending) (w' : World) : Prop :=
  ∃ a c, e = .returned (.agg #[.int .i64 L, .int .i64 S, .slice a n c]) ∧ OwnS w' w.heap.size n f a ∧ Below w.heap.size w w'
end Go.Proofs.YtkoiknmijjiicaaGreatDoor
