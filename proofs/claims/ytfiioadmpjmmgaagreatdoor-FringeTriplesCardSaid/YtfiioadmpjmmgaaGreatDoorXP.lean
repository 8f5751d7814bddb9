import Derived.Test.YtfiioadmpjmmgaaGreatDoorXO
import Derived.Test.YtfiioadmpjmmgaaGreatDoorX19
import Derived.Test.YtfiioadmpjmmgaaGreatDoorX5
import Derived.Test.YtfiioadmpjmmgaaGreatDoorX20
import Derived.Test.YtfiioadmpjmmgaaGreatDoorU78
/- Chapter 4: the reference's sums of blocks; Filtered. -/
namespace Go.Proofs.YtfiioadmpjmmgaaGreatDoor
set_option linter.unusedVariables false
set_option linter.unusedSimpArgs false
open Go.RowKit Ieee Ntt
theorem flDN {b : Nat} {n : Int} (h : FNum Ieee.double b n) (h1 : -9000000000000000000 ≤ n) (h2 : n ≤ 9000000000000000000) : FlI .f64 139 b n := flD h h1 h2
set_option maxHeartbeats 400000 in
theorem rParts4 (a b : Nat) (x y : Int) (w : World) (hx : FlI .f64 139 a x) (hy : FlI .f64 139 b y) :
    Calls Tryz.prog 116 #[.complex .f64 a b] w fun e w' => e = .returned (.tuple #[.int .i64 x, .int .i64 y]) ∧ w = w' := by
  unfold FlI at hx hy
  go_enter Tryz.func116, Tryz.ntmps116
  go_wp2
  go_ret2
  exact ⟨rfl, rfl⟩
set_option maxRecDepth 20000 in
set_option maxHeartbeats 4000000 in
theorem rSumOf (L S n cap b off : Nat) (f : Nat → Nat × Nat) (X Y : Nat → Int) (line sample lines samples : Int) (l0 le s0 se : Nat) (w : World) (hn : n = L * S) (hL : L ≤ 64) (hS : S ≤ 64) (hbw : b < w.heap.size) (hf : SumsAt w b off n f) (hX : SmallD n f X Y 1000000000)
    (bl : -10000 ≤ line ∧ line ≤ 10000) (bs : -10000 ≤ sample ∧ sample ≤ 10000) (bls : 0 ≤ lines ∧ lines ≤ 10000) (bss : 0 ≤ samples ∧ samples ≤ 10000)
    (h1 : max 0 line = (l0 : Int)) (h2 : min (L : Int) (line + lines) = (le : Int)) (h3 : max 0 sample = (s0 : Int)) (h4 : min (S : Int) (sample + samples) = (se : Int)) (hle : l0 ≤ le) (hse : s0 ≤ se) {p q : Int} (hp : winW X S s0 (se - s0) l0 (le - l0) = p) (hq : winW Y S s0 (se - s0) l0 (le - l0) = q) :
    Calls Tryz.prog 79 #[.agg #[.int .i64 L, .int .i64 S, .slice (some ⟨b, off, none⟩) n cap], .int .i64 line, .int .i64 sample, .int .i64 lines, .int .i64 samples] w fun e w' => e = .returned (.tuple #[.int .i64 p, .int .i64 q]) ∧ Below w.heap.size w w' := by
  obtain ⟨bl1, bl2⟩ := bl
  obtain ⟨bs1, bs2⟩ := bs
  obtain ⟨bls1, bls2⟩ := bls
  obtain ⟨bss1, bss2⟩ := bss
  have hLe : le ≤ L := by omega
  have hSe : se ≤ S := by omega
  have HN := Lib.hid hn
  have HF := Lib.hid hf
  have HX := Lib.hid hX
  have HP0 := Lib.hid hp
  have HQ0 := Lib.hid hq
  have HBX := Lib.hid (show ∀ i, i < L * S → -1000000000 ≤ X i ∧ X i ≤ 1000000000 from fun i hi => (hX i (by omega)).2.1)
  have HBY := Lib.hid (show ∀ i, i < L * S → -1000000000 ≤ Y i ∧ Y i ≤ 1000000000 from fun i hi => (hX i (by omega)).2.2)
  clear hn hf hX hp hq
  go_enter Tryz.func79, Tryz.ntmps79
  go_wp2
  go_loopw [14, 12, 13] (fun v re im wr => ∃ la : Nat, l0 ≤ la ∧ la ≤ le ∧ v = .int .i64 la ∧ re = .int .i64 (winW X S s0 (se - s0) l0 (la - l0)) ∧ im = .int .i64 (winW Y S s0 (se - s0) l0 (la - l0)) ∧ (wr.cell? ⟨w.heap.size, 0, none⟩ = some (.int .i64 L) ∧ wr.cell? ⟨w.heap.size, 1, none⟩ = some (.int .i64 S) ∧ wr.cell? ⟨w.heap.size, 2, none⟩ = some (.slice (some ⟨b, off, none⟩) n cap)) ∧ w.heap.size < wr.heap.size ∧ Below w.heap.size w wr) (fun v _ _ _ => le - (intOf v).toNat)
  case atStart => exact ⟨l0, Nat.le_refl _, hle, rfl, by rw [Nat.sub_self]; rfl, by rw [Nat.sub_self]; rfl, ⟨by simp [go_sem], by simp [go_sem], by simp [go_sem]⟩, by simp, (by (repeat' (first | with_reducible exact Below.refl _ _ | (with_reducible refine below_later_of ?_ ?_ _) | (with_reducible refine Below.alloc ?_ ?_ _) | (with_reducible refine Below.setCell ?_ ?_ _) | (with_reducible refine Below.drew ?_) | (simp; done) | (simp; omega) | omega)))⟩
  case round =>
    obtain ⟨la, ha0, ha, rfl, rfl, rfl, ⟨c0, c1, c2⟩, hlt1, hb⟩ := hrel
    have HB := Lib.hid hb
    have HC := Lib.hid (And.intro c0 (And.intro c1 c2))
    by_cases hlt : la < le
    · have hd1 : decide ((la : Int) < (le : Int)) = true := by simp; omega
      obtain ⟨e1, e2⟩ := winW_bd (a := s0) (k := se - s0) (b := l0) (m := la - l0) HBX.out (by decide) hL hS (by omega) (by omega)
      obtain ⟨e3, e4⟩ := winW_bd (a := s0) (k := se - s0) (b := l0) (m := la - l0) HBY.out (by decide) hL hS (by omega) (by omega)
      have HW1 := Lib.hid (show winW X S s0 (se - s0) l0 (la + 1 - l0) = winW X S s0 (se - s0) l0 (la - l0) + rowW X S la s0 (se - s0) by rw [show la + 1 - l0 = la - l0 + 1 by omega, winW_succ, show l0 + (la - l0) = la by omega])
      have HW2 := Lib.hid (show winW Y S s0 (se - s0) l0 (la + 1 - l0) = winW Y S s0 (se - s0) l0 (la - l0) + rowW Y S la s0 (se - s0) by rw [show la + 1 - l0 = la - l0 + 1 by omega, winW_succ, show l0 + (la - l0) = la by omega])
      generalize winW X S s0 (se - s0) l0 (la - l0) = P at *
      generalize winW Y S s0 (se - s0) l0 (la - l0) = Q at *
      clear hb
      go_wp2
      go_loopw [15, 12, 13] (fun v re im wr => ∃ sb : Nat, s0 ≤ sb ∧ sb ≤ se ∧ v = .int .i64 sb ∧ re = .int .i64 (P + rowW X S la s0 (sb - s0)) ∧ im = .int .i64 (Q + rowW Y S la s0 (sb - s0)) ∧ (wr.cell? ⟨w.heap.size, 0, none⟩ = some (.int .i64 L) ∧ wr.cell? ⟨w.heap.size, 1, none⟩ = some (.int .i64 S) ∧ wr.cell? ⟨w.heap.size, 2, none⟩ = some (.slice (some ⟨b, off, none⟩) n cap)) ∧ w.heap.size < wr.heap.size ∧ Below w.heap.size w wr) (fun v _ _ _ => se - (intOf v).toNat)
      case atStart => exact ⟨s0, Nat.le_refl _, hse, rfl, by rw [Nat.sub_self]; simp [rowW, sumN], by rw [Nat.sub_self]; simp [rowW, sumN], HC.out, hlt1, HB.out⟩
      case round =>
        clear c0 c1 c2 hlt1
        obtain ⟨sb, hb0, hb, rfl, rfl, rfl, ⟨c0, c1, c2⟩, hlt1, hbel⟩ := hrel
        have HB2 := Lib.hid hbel
        have HC2 := Lib.hid (And.intro c0 (And.intro c1 c2))
        by_cases hlb : sb < se
        · have hd2 : decide ((sb : Int) < (se : Int)) = true := by simp; omega
          obtain ⟨r1, r2⟩ := mul_le3 (n := 64) (rowW_bd (L := L) (l := la) (a := s0) (k := sb - s0) HBX.out (by omega) (by omega)) (by omega) (by decide)
          obtain ⟨r3, r4⟩ := mul_le3 (n := 64) (rowW_bd (L := L) (l := la) (a := s0) (k := sb - s0) HBY.out (by omega) (by omega)) (by omega) (by decide)
          obtain ⟨i, hi⟩ : ∃ i, la * S + sb = i := ⟨_, rfl⟩
          have hin : i < n := by
            have h1 : (la + 1) * S ≤ L * S := Nat.mul_le_mul_right _ (by omega)
            rw [Nat.add_mul, Nat.one_mul] at h1
            have := HN.out
            omega
          have n1 : P + rowW X S la s0 (sb + 1 - s0) = P + rowW X S la s0 (sb - s0) + X i := by rw [show sb + 1 - s0 = sb - s0 + 1 by omega, rowW_succ, show s0 + (sb - s0) = sb by omega, hi]; omega
          have n2 : Q + rowW Y S la s0 (sb + 1 - s0) = Q + rowW Y S la s0 (sb - s0) + Y i := by rw [show sb + 1 - s0 = sb - s0 + 1 by omega, rowW_succ, show s0 + (sb - s0) = sb by omega, hi]; omega
          have HN1 := Lib.hid n1
          have HN2 := Lib.hid n2
          have hic : (la : Int) * (S : Int) + (sb : Int) = (i : Int) := by rw [← hi, Int.natCast_add, Int.natCast_mul]
          have hi1 : (i : Int) < (n : Int) := by omega
          have hi0 : (0 : Int) ≤ (i : Int) := by omega
          have hmm : (la : Int) * (S : Int) ≤ 4096 ∧ 0 ≤ (la : Int) * (S : Int) := by
            have h1 : (0 : Int) ≤ (la : Int) * (S : Int) := Int.mul_nonneg (by omega) (by omega)
            have h2 := Nat.mul_le_mul hL hS
            have := HN.out
            omega
          obtain ⟨m1, m2⟩ := hmm
          have ci := (hbel.cell (p := ⟨b, off + i, none⟩) hbw).trans (HF.out i hin)
          obtain ⟨hcn, ⟨p5, p6⟩, p7, p8⟩ := HX.out i hin
          have HP := Lib.hid (fun w => rParts4 (f i).1 (f i).2 (X i) (Y i) w (flD hcn.re (by omega) (by omega)) (flD hcn.im (by omega) (by omega)))
          have hbr : b < wr.heap.size := by have := hbel.size; omega
          generalize rowW X S la s0 (sb - s0) = u at *
          generalize rowW Y S la s0 (sb - s0) = v at *
          generalize X i = x at *
          generalize Y i = y at *
          clear hbel hcn n1 n2 hi
          go_wp2_with (first | (go_at_call 116; (with_reducible refine (HP.out _).mono ?_); rintro e w' ⟨rfl, rfl⟩))
          go_roundw
          case rel => exact ⟨sb + 1, by omega, by omega, by go_num, by rw [HN1.out], by rw [HN2.out], HC2.out, hlt1, HB2.out⟩
          case measure => simp [intOf]; omega
        · obtain rfl : sb = se := by omega
          have hd2 : decide ((sb : Int) < (sb : Int)) = false := by simp
          clear hbel
          go_wp2
          go_roundw
          case rel => exact ⟨la + 1, by omega, by omega, by go_num, by rw [HW1.out], by rw [HW2.out], HC2.out, hlt1, HB2.out⟩
          case measure => simp [intOf]; omega
    · obtain rfl : la = le := by omega
      have hd1 : decide ((la : Int) < (la : Int)) = false := by simp
      rw [HP0.out, HQ0.out]
      clear hb
      go_wp2
      go_ret2
      exact ⟨rfl, HB.out⟩
set_option maxHeartbeats 400000 in
theorem rIsField (x y : Int) (w : World) {c : Bool} (hc : largeB (x, y) = c) : Calls Tryz.prog 80 #[.int .i64 x, .int .i64 y] w fun e w' => e = .returned (.bool (!c)) ∧ w = w' := by
  unfold largeB at hc
  dsimp only at hc
  obtain ⟨q1, hq1⟩ : ∃ q1, inE (-1000000000) 1000000000 x = q1 := ⟨_, rfl⟩
  obtain ⟨q2, hq2⟩ : ∃ q2, inE (-1000000000) 1000000000 y = q2 := ⟨_, rfl⟩
  rw [hq1, hq2] at hc
  have H1 := Lib.hid hq1
  have H2 := Lib.hid hq2
  subst hc
  clear hq1 hq2
  cases q1
  · go_enter Tryz.func80, Tryz.ntmps80
    go_wp2_with (first | (go_at_call 47; (with_reducible refine (bWithin _ _ _ _ H1.out).mono ?_); rintro e w' ⟨rfl, rfl⟩))
    go_ret
    exact ⟨rfl, rfl⟩
  · go_enter Tryz.func80, Tryz.ntmps80
    go_wp2_with (first | (go_at_call 47; (with_reducible refine (bWithin _ _ _ _ H1.out).mono ?_); rintro e w' ⟨rfl, rfl⟩) | (go_at_call 47; (with_reducible refine (bWithin _ _ _ _ H2.out).mono ?_); rintro e w' ⟨rfl, rfl⟩))
    go_ret
    exact ⟨by simp, rfl⟩
end Go.Proofs.YtfiioadmpjmmgaaGreatDoor

/- Chapter 4: the reference's Filtered. -/
namespace Go.Proofs.YtfiioadmpjmmgaaGreatDoor
set_option linter.unusedVariables false
set_option linter.unusedSimpArgs false
open Go.RowKit Ieee Ntt
set_option maxHeartbeats 400000 in
theorem rIsWindow (half : Int) (w : World) {c : Bool} (hc : inE 0 4 half = c) : Calls Tryz.prog 38 #[.int .i64 half] w fun e w' => e = .returned (.bool c) ∧ w = w' := by
  have HW := Lib.hid hc
  clear hc
  go_enter Tryz.func38, Tryz.ntmps38
  go_wp2_with (first | (go_at_call 47; (with_reducible refine (bWithin _ _ _ _ HW.out).mono ?_); rintro e w' ⟨rfl, rfl⟩))
  go_ret
  exact ⟨rfl, rfl⟩
set_option maxHeartbeats 1000000 in
theorem rFiltered_win (L S half : Int) (n cap : Nat) (a : Option Addr) (w : World) (hw : inE 0 4 half = false) :
    Calls Tryz.prog 17 #[.agg #[.int .i64 L, .int .i64 S, .slice a n cap], .int .i64 half] w fun e w' => e = .returned (.tuple #[.agg #[.int .i64 0, .int .i64 0, .slice none 0 0], .int .i64 2]) ∧ Below w.heap.size w w' := by
  have HIW := Lib.hid (fun w => rIsWindow half w hw)
  clear hw
  go_enter Tryz.func17, Tryz.ntmps17
  go_wp2_with (first | (go_at_call 38; (with_reducible refine (HIW.out _).mono ?_); rintro e w' ⟨rfl, rfl⟩))
  refine bodyPost_ret ?_ rfl ⟨rfl, (by (repeat' (first | with_reducible exact Below.refl _ _ | (with_reducible refine below_later_of ?_ ?_ _) | (with_reducible refine Below.alloc ?_ ?_ _) | (with_reducible refine Below.setCell ?_ ?_ _) | (with_reducible refine Below.drew ?_) | (simp; done) | (simp; omega) | omega)))⟩
  first | (simp [results, Tryz.results17, go_sem]; done) | simp [results, Tryz.results17, go_sem, ↓IntWalk.iteOmega]
/-- What the reference's Filtered says of a right window. -/
def FilPost (L S n : Nat) (F : Nat → Int × Int) (w : World) (e : Ending) (w' : World) : Prop :=
  (anyL n F = true ∧ e = .returned (.tuple #[.agg #[.int .i64 0, .int .i64 0, .slice none 0 0], .int .i64 8]) ∧ Below w.heap.size w w') ∨
  (anyL n F = false ∧ ∃ a c, e = .returned (.tuple #[.agg #[.int .i64 L, .int .i64 S, .slice a n c], .int .i64 0]) ∧ OwnS w' w.heap.size n (nmF F) a ∧ n ≤ c ∧ Below w.heap.size w w')
set_option maxRecDepth 20000 in
set_option maxHeartbeats 4000000 in
theorem rFiltered (L S n half cap b off : Nat) (f : Nat → Nat × Nat) (X Y : Nat → Int) (w : World) (hn : n = L * S) (hL1 : 1 ≤ L) (hL : L ≤ 64) (hS1 : 1 ≤ S) (hS : S ≤ 64) (hh : half ≤ 4) (hbw : b < w.heap.size) (hf : SumsAt w b off n f) (hX : SmallD n f X Y 1000000000) :
    Calls Tryz.prog 17 #[.agg #[.int .i64 L, .int .i64 S, .slice (some ⟨b, off, none⟩) n cap], .int .i64 half] w (FilPost L S n (filF X Y L S half) w) := by
  obtain ⟨i0, hi0, hz0, hz1, hz2⟩ := info_parts infoC
  have HIW := Lib.hid (fun w => rIsWindow half w (c := true) (inE_iff.2 (by omega)))
  have HN := Lib.hid hn
  have HF := Lib.hid hf
  have HX := Lib.hid hX
  obtain ⟨F, hF⟩ : ∃ F, filF X Y L S half = F := ⟨_, rfl⟩
  have HFF := Lib.hid hF
  have HBX := Lib.hid (show ∀ i, i < L * S → -1000000000 ≤ X i ∧ X i ≤ 1000000000 from fun i hi => (hX i (by omega)).2.1)
  have HBY := Lib.hid (show ∀ i, i < L * S → -1000000000 ≤ Y i ∧ Y i ≤ 1000000000 from fun i hi => (hX i (by omega)).2.2)
  rw [hF]
  clear hn hf hX hF
  go_enter Tryz.func17, Tryz.ntmps17
  go_wp2_with (first | (go_at_call 38; (with_reducible refine (HIW.out _).mono ?_); rintro e w' ⟨rfl, rfl⟩))
  refine any_worldF (fun W => ∃ W1, Below w.heap.size w W1 ∧ W1.heap.size = w.heap.size + 1 ∧ (W1.cell? ⟨w.heap.size, 0, none⟩ = some (.int .i64 L) ∧ W1.cell? ⟨w.heap.size, 1, none⟩ = some (.int .i64 S) ∧ W1.cell? ⟨w.heap.size, 2, none⟩ = some (.slice (some ⟨b, off, none⟩) n cap)) ∧ TriN W1 (w.heap.size + 1) (w.heap.size + 2) L S 120 1 (.slice none 0 0) 0 (cvF (nmF F) 0) W)
    ⟨w.alloc (.cells #[.int .i64 L, .int .i64 S, .slice (some ⟨b, off, none⟩) n cap] 28), (by (repeat' (first | with_reducible exact Below.refl _ _ | (with_reducible refine below_later_of ?_ ?_ _) | (with_reducible refine Below.alloc ?_ ?_ _) | (with_reducible refine Below.setCell ?_ ?_ _) | (with_reducible refine Below.drew ?_) | (simp; done) | (simp; omega) | omega))), by simp, ⟨by simp [go_sem], by simp [go_sem], by simp [go_sem]⟩, by simp [go_sem], by simp [go_sem], by simp [go_sem], by simp [go_sem], by simp [go_sem], by simp [go_sem], by simp [go_sem], by simp [go_sem], by simp [go_sem], by simp [go_sem], World.ownsRow_nil _ _ _ _, (by (repeat' (first | with_reducible exact Below.refl _ _ | (with_reducible refine below_later_of ?_ ?_ _) | (with_reducible refine Below.alloc ?_ ?_ _) | (with_reducible refine Below.setCell ?_ ?_ _) | (with_reducible refine Below.drew ?_) | (simp; done) | (simp; omega) | omega))), by simp, by omega⟩ ?_
  rintro W2 ⟨W1, hb1, hsz1, ⟨q0, q1, q2⟩, hst⟩
  have HST := Lib.hid hst
  have HB1 := Lib.hid hb1
  have Q0 := Lib.hid q0
  have Q1 := Lib.hid q1
  have Q2 := Lib.hid q2
  clear hst hb1 q0 q1 q2
  go_wp2
  go_loopw [7] (fun ii wr => ∃ (l : Nat) (v : Value), l ≤ L ∧ ii = .int .i64 l ∧ TriN W1 (w.heap.size + 1) (w.heap.size + 2) L S 120 1 v (l * S) (cvF (nmF F) (l * S)) wr ∧ ∀ j, j < l * S → largeB (F j) = false) (fun ii _ => L - (intOf ii).toNat)
  case atStart => exact ⟨0, _, Nat.zero_le _, rfl, by rw [Nat.zero_mul]; exact HST.out, fun j hj => by rw [Nat.zero_mul] at hj; omega⟩
  case round =>
    obtain ⟨l, v, hl, rfl, hst, hno⟩ := hrel
    have HS1 := Lib.hid hst
    have HNO := Lib.hid hno
    have k0 := (hst.bel.cell (p := ⟨w.heap.size, 0, none⟩) (Nat.lt_succ_self _)).trans Q0.out
    have k1 := (hst.bel.cell (p := ⟨w.heap.size, 1, none⟩) (Nat.lt_succ_self _)).trans Q1.out
    have hlw := hst.bel.size
    clear hno
    by_cases hlt : l < L
    · have hdl : decide ((l : Int) < (L : Int)) = true := by simp; omega
      clear hst
      go_wp2
      go_loopw [8] (fun ii wr => ∃ (s : Nat) (v : Value), s ≤ S ∧ ii = .int .i64 s ∧ TriN W1 (w.heap.size + 1) (w.heap.size + 2) L S 120 1 v (l * S + s) (cvF (nmF F) (l * S + s)) wr ∧ ∀ j, j < l * S + s → largeB (F j) = false) (fun ii _ => S - (intOf ii).toNat)
      case atStart => exact ⟨0, v, Nat.zero_le _, rfl, HS1.out, HNO.out⟩
      case round =>
        clear k0 k1 hlw
        obtain ⟨s, v, hs, rfl, hst, hno⟩ := hrel
        have HS2 := Lib.hid hst
        have HNO2 := Lib.hid hno
        have k0 := (hst.bel.cell (p := ⟨w.heap.size, 0, none⟩) (Nat.lt_succ_self _)).trans Q0.out
        have k1 := (hst.bel.cell (p := ⟨w.heap.size, 1, none⟩) (Nat.lt_succ_self _)).trans Q1.out
        have k2 := (hst.bel.cell (p := ⟨w.heap.size, 2, none⟩) (Nat.lt_succ_self _)).trans Q2.out
        have hlw := hst.bel.size
        have hbw2 := HB1.out.trans (hst.bel.mono (Nat.le_succ _))
        clear hno
        by_cases hst2 : s < S
        · have hds : decide ((s : Int) < (S : Int)) = true := by simp; omega
          obtain ⟨i, hi⟩ : ∃ i, l * S + s = i := ⟨_, rfl⟩
          have hin : i < n := by
            have h1 : (l + 1) * S ≤ L * S := Nat.mul_le_mul_right _ hlt
            rw [Nat.add_mul, Nat.one_mul] at h1
            have := HN.out
            omega
          have him : i ≤ 5000 := by
            have := Nat.mul_le_mul hL hS
            have := HN.out
            omega
          have e1 : i / S = l := by rw [← hi, Nat.mul_comm, Nat.mul_add_div (by omega), Nat.div_eq_of_lt hst2, Nat.add_zero]
          have e2 : i % S = s := by rw [← hi, Nat.mul_comm, Nat.mul_add_mod, Nat.mod_eq_of_lt hst2]
          have hFi : F i = (winP X L S half l s, winP Y L S half l s) := by rw [← HFF.out]; unfold filF; rw [e1, e2]
          obtain ⟨x, hx⟩ : ∃ x, winP X L S half l s = x := ⟨_, rfl⟩
          obtain ⟨y, hy⟩ : ∃ y, winP Y L S half l s = y := ⟨_, rfl⟩
          obtain ⟨t1, t2⟩ := cntW_le (half := half) hlt
          obtain ⟨t3, t4⟩ := cntW_le (half := half) hst2
          have HSU := Lib.hid (show ∀ W, Below wr.heap.size wr W → _ from fun W hW => rSumOf L S n cap b off f X Y ((l : Int) - (half : Int)) ((s : Int) - (half : Int)) (2 * (half : Int) + 1) (2 * (half : Int) + 1) (loW l half) (hiW l half L) (loW s half) (hiW s half S) W HN.out hL hS (by have := hbw2.size; have := hW.size; omega) ((HF.out.below hbw hbw2).below (by have := hbw2.size; omega) hW) HX.out (by omega) (by omega) (by omega) (by omega)
            (by unfold loW; omega) (by unfold hiW; omega) (by unfold loW; omega) (by unfold hiW; omega) (by omega) (by omega) (p := x) (q := y) hx hy)
          obtain ⟨bx1, bx2⟩ := winP_bd (half := half) HBX.out (by decide) hL hS hlt hst2
          obtain ⟨by1, by2⟩ := winP_bd (half := half) HBY.out (by decide) hL hS hlt hst2
          rw [hx] at bx1 bx2
          rw [hy] at by1 by2
          rw [hx, hy] at hFi
          have HI := Lib.hid hi
          rw [hi] at hst HS2 HNO2
          obtain ⟨c, hc⟩ : ∃ c, largeB (x, y) = c := ⟨_, rfl⟩
          have HIF := Lib.hid (fun w => rIsField x y w hc)
          have r0 := hst.r0
          have r1 := hst.r1
          have r2 := hst.r2
          have g0 := hst.g0
          have g1 := hst.g1
          have g2 := hst.g2
          have hltO := hst.lt
          have hbel := hst.bel
          clear hst hi e1 e2 hx hy t1 t2 t3 t4
          cases c
          · have HNX := Lib.hid (show ∀ j, j < i + 1 → largeB (F j) = false from fun j hj => by
              rcases Nat.lt_succ_iff_lt_or_eq.1 hj with h | rfl
              · exact HNO2.out j h
              · rw [hFi]; exact hc)
            have HSM := Lib.hid (fun w => bSum x y w)
            have hnu : nmF F i = (f64I x, f64I y) := by unfold nmF; rw [hFi]
            obtain ⟨re, hre⟩ : ∃ re, f64I x = re := ⟨_, rfl⟩
            obtain ⟨im, him'⟩ : ∃ im, f64I y = im := ⟨_, rfl⟩
            rw [hre, him'] at hnu HSM
            have HPN := Lib.hid (show cvF (nmF F) (i + 1) = cvF (nmF F) i ++ [.complex .f64 re im] by rw [cvF_snoc, hnu])
            clear hFi hc hnu hre him' hbw2 r0 r1 r2 g0 g1 g2 hbel
            go_wp2_with (first | (go_at_call 79; (with_reducible refine (HSU.out _ (by (repeat' (first | with_reducible exact Below.refl _ _ | (with_reducible refine below_later_of ?_ ?_ _) | (with_reducible refine Below.alloc ?_ ?_ _) | (with_reducible refine Below.setCell ?_ ?_ _) | (with_reducible refine Below.drew ?_) | (simp; done) | (simp; omega) | omega)))).mono ?_); rintro e w' ⟨rfl, hb⟩; obtain ⟨p1, rfl⟩ := later_of_below hb; clear hb) | (go_at_call 80; (with_reducible refine (HIF.out _).mono ?_); rintro e w' ⟨rfl, rfl⟩))
            refine any_worldF (fun W => TriN W1 (w.heap.size + 1) (w.heap.size + 2) L S 120 1 v i (cvF (nmF F) i) W) (HS2.out.below (by (repeat' (first | with_reducible exact Below.refl _ _ | (with_reducible refine below_later_of ?_ ?_ _) | (with_reducible refine Below.alloc ?_ ?_ _) | (with_reducible refine Below.setCell ?_ ?_ _) | (with_reducible refine Below.drew ?_) | (simp; done) | (simp; omega) | omega)))) ?_
            rintro W5 hst5
            have HS5 := Lib.hid hst5
            have HOW2 := Lib.hid hst5.own
            have HSN := Lib.hid (show ∀ (g' cc' : Nat) (w1 : World) (o : Obj), w1.ownsRow (w.heap.size + 2 + 1) 120 1 (.slice (some ⟨g', 0, none⟩) (i + 1) cc') (i + 1) (cvF (nmF F) i ++ [.complex .f64 re im]) → (W5.drew.alloc o).grownBy w1 v.ownBlock → TriN W1 (w.heap.size + 1) (w.heap.size + 2) L S 120 1 (.slice (some ⟨g', 0, none⟩) (i + 1) cc') (i + 1) (cvF (nmF F) (i + 1)) (w1.setCell ⟨w.heap.size + 2, 2, none⟩ (.slice (some ⟨g', 0, none⟩) (i + 1) cc')) from fun g' cc' w1 o h1 h2 => by
              rw [HPN.out]
              exact (HS5.out.below (Below.refl _ _).drew).put h1 h2)
            have HSL := Lib.hid (show ∀ (w1 : World) (o : Obj), (W5.drew.alloc o).grownBy w1 v.ownBlock → w1.cell? ⟨w.heap.size + 2, 2, none⟩ = some v ∧ w1.frozen? ⟨w.heap.size + 2, 2, none⟩ = false from fun w1 o h => (HS5.out.below (Below.refl _ _).drew).still h)
            have c2 := hst5.c2
            have f2 := hst5.f2
            have hlt5 := hst5.lt
            clear hst5 k0 k1 k2
            go_wp2_with fail
            go_region_law (first | (refine step_append_lies _ rfl (.tmp 55) (.tmp 59) 26 rfl (w.heap.size + 2 + 1) 120 i0 (.complex .f64 0 0) 1 16 Tryz.underlying26 hi0 hz0 hz1 hz2 rfl (by decide) v i (cvF (nmF F) i) (by simp [Act.eval, Act.put]) (by first | exact (HOW2.out.alloc _).drew | exact HOW2.out.drew.alloc _) ⟨W5.heap.size, 0, none⟩ 1 1 [.complex .f64 re im] (by simp [Act.eval, Act.put]) rfl (by intro j u hj; rcases j with _ | j; (focus (simp at hj; subst hj; (first | (simp [Addr.add, go_sem]; done) | simp [Addr.add, go_sem, ↓IntWalk.iteOmega]))); (focus (simp at hj))) (by intro u hu; simp at hu; subst hu; rfl) (by decide) (by unfold maxLen; omega) (by omega) (by first | omega | (simp; omega)) _ rfl ?_; intro g' cc' w1 hown' hgrow _ _; have HN2 := Lib.hid (HSN.out _ _ _ _ hown' hgrow); obtain ⟨hcb, hfb⟩ := HSL.out _ _ hgrow; clear hown' hgrow) | (go_simp; (go_at_call 76; (with_reducible refine (HSM.out _).mono ?_); rintro e w' ⟨rfl, rfl⟩)))
            all_goals
              go_wp2
              go_roundw
              case rel => exact ⟨s + 1, _, by omega, by go_num, by rw [← Nat.add_assoc, HI.out]; exact HN2.out, by rw [← Nat.add_assoc, HI.out]; exact HNX.out⟩
              case measure => simp [intOf]; omega
          · have HAN := Lib.hid (show anyL n F = true from anyL_hit hin (by rw [hFi]; exact hc))
            have HBB := Lib.hid hbw2
            have hsW := hbw2.size
            clear hFi hc hbw2 hbel
            go_wp2_with (first | (go_at_call 79; (with_reducible refine (HSU.out _ (by (repeat' (first | with_reducible exact Below.refl _ _ | (with_reducible refine below_later_of ?_ ?_ _) | (with_reducible refine Below.alloc ?_ ?_ _) | (with_reducible refine Below.setCell ?_ ?_ _) | (with_reducible refine Below.drew ?_) | (simp; done) | (simp; omega) | omega)))).mono ?_); rintro e w' ⟨rfl, hb⟩; obtain ⟨p1, rfl⟩ := later_of_below hb; clear hb) | (go_at_call 80; (with_reducible refine (HIF.out _).mono ?_); rintro e w' ⟨rfl, rfl⟩))
            refine bodyPost_ret (v := .tuple #[.agg #[.int .i64 0, .int .i64 0, .slice none 0 0], .int .i64 8]) ?_ rfl (Or.inl ⟨HAN.out, rfl, (by (repeat' (first | exact HBB.out | with_reducible exact Below.refl _ _ | (with_reducible refine below_later_of ?_ ?_ _) | (with_reducible refine Below.alloc ?_ ?_ _) | (with_reducible refine Below.setCell ?_ ?_ _) | (with_reducible refine Below.drew ?_) | (simp; done) | (simp; omega) | omega)))⟩)
            first | (simp [results, Tryz.results17, go_sem, r0, r1, r2]; done) | simp [results, Tryz.results17, go_sem, r0, r1, r2, ↓IntWalk.iteOmega]
        · obtain rfl : s = S := by omega
          have hds : decide ((s : Int) < (s : Int)) = false := by simp
          clear hst hbw2
          go_wp2
          go_roundw
          case rel => exact ⟨l + 1, v, by omega, by go_num, by rw [Nat.add_mul, Nat.one_mul]; exact HS2.out, by rw [Nat.add_mul, Nat.one_mul]; exact HNO2.out⟩
          case measure => simp [intOf]; omega
    · obtain rfl : l = L := by omega
      have hdl : decide ((l : Int) < (l : Int)) = false := by simp
      have HNL := Lib.hid (show anyL n F = false from anyL_no (by rw [HN.out]; exact HNO.out))
      rw [← HN.out] at hst
      obtain ⟨a', c', rfl⟩ := own_slice2 hst.own
      obtain ⟨e0, e1, e2, -, r0, r1, r2, g0, g1, g2, hown, hbel, -, hro⟩ := hst
      have HOW := Lib.hid hown
      have HBE := Lib.hid (HB1.out.trans (hbel.mono (by omega)))
      rw [← HN.out] at HS1
      clear hown hbel
      go_wp2
      refine bodyPost_ret (v := .tuple #[.agg #[.int .i64 l, .int .i64 S, .slice a' n c'], .int .i64 0]) ?_ rfl (Or.inr ⟨HNL.out, a', c', rfl, OwnS.mono (OwnS.set (OwnS.set (OwnS.set (ownS_row HOW.out) ?_ _) ?_ _) ?_ _) ?_, own_cap2 HOW.out, HBE.out.trans (by (repeat' (first | with_reducible exact Below.refl _ _ | (with_reducible refine below_later_of ?_ ?_ _) | (with_reducible refine Below.alloc ?_ ?_ _) | (with_reducible refine Below.setCell ?_ ?_ _) | (with_reducible refine Below.drew ?_) | (simp; done) | (simp; omega) | omega)))⟩)
      · first | (simp [results, Tryz.results17, go_sem, r0, r1, r2]; done) | simp [results, Tryz.results17, go_sem, r0, r1, r2, ↓IntWalk.iteOmega]
      all_goals first | omega | (simp <;> omega)
end Go.Proofs.YtfiioadmpjmmgaaGreatDoor

/- Chapter 4: the law's fields of parts. -/
namespace Go.Proofs.YtfiioadmpjmmgaaGreatDoor
set_option linter.unusedVariables false
set_option linter.unusedSimpArgs false
open Go.ChangeShapes Go.WideShapes Go.RowKit Ieee Ntt
theorem cells_fd4 : Tryz.prog.cellsOf 24 = 3 := by kernel_rfl
theorem leafs_fd4 : leafs Tryz.prog 8 24 = some [3, 3, 22] := by kernel_rfl
set_option maxRecDepth 100000 in
theorem open_fd4 {H : Type} {enc : TypeId × Value → H} {w : World} {base : Nat} {spare : Nat → Bool} {held : Bool} {r : Reach} {b0 : Nat} {v : Value} {d : DataW H} {p : List MemPlace} (hv : Value.okWide Tryz.prog w r b0 24 v) (h : DataW.Trod enc Tryz.prog w base spare held 24 v d p) :
    ∃ (R C : Int) (u : Value) (zs : List Int), v = .agg #[.int .i64 R, .int .i64 C, u] ∧ IntsX w u zs := by
  obtain ⟨cs, hn, rfl, ok⟩ := cells_of Tryz.underlying24 cells_fd4 leafs_fd4 hv h
  match cs, hn with
  | [c0, c1, c2], _ =>
    obtain ⟨a0, rfl, _⟩ := (ok 0 _ _ rfl rfl).int Tryz.underlying3
    obtain ⟨a1, rfl, _⟩ := (ok 1 _ _ rfl rfl).int Tryz.underlying3
    obtain ⟨zs, hx⟩ := CellOk.il (ok 2 _ _ rfl rfl)
    exact ⟨a0, a1, c2, zs, rfl, hx⟩
/-- The numbers of parts. -/
def prtF (zs : List Int) (k : Nat) : Nat × Nat := (f64I (intAt zs (2 * k)), f64I (intAt zs (2 * k + 1)))
theorem prt_wide (zs : List Int) (n : Nat) : Wide64 n (prtF zs) := fun k _ => ⟨f64I_lt _, f64I_lt _⟩
theorem ownS_fld {W : World} {B n : Nat} {L S : Int} {f : Nat → Nat × Nat} {a : Option Addr} (h : OwnS W B n f a) : FldAt W L S n f a := fun hs => by
  obtain ⟨⟨h1, h2⟩, ⟨h3, h4⟩, h5⟩ := sizeE_okU hs
  have : 0 < n := by
    have := Int.mul_le_mul h1 h3 (by decide) (by omega)
    omega
  obtain ⟨g, e, -, hg, hs⟩ := h this
  exact ⟨g, 0, e, hg, hs⟩
def SmPost (L S : Int) (n : Nat) (f : Nat → Nat × Nat) (w : World) (e : Ending) (w' : World) : Prop :=
  ∃ a c, e = .returned (.agg #[.int .i64 L, .int .i64 S, .slice a n c]) ∧ OwnS w' w.heap.size n f a ∧ Below w.heap.size w w'
set_option maxRecDepth 20000 in
set_option maxHeartbeats 4000000 in
theorem lSums (L S : Int) (zs : List Int) (v : Value) (w : World) (hl : zs.length ≤ 300) (hv : IntsV w v zs) :
    Calls Tryz.prog 15 #[.agg #[.int .i64 L, .int .i64 S, v]] w (SmPost L S (zs.length / 2) (prtF zs) w) := by
  obtain ⟨i0, hi0, hz0, hz1, hz2⟩ := info_parts infoC
  obtain ⟨-, a, cap, rfl, h4⟩ := hv
  have HH := Lib.hid h4
  obtain ⟨m, hm⟩ : ∃ m, zs.length = m := ⟨_, rfl⟩
  rw [hm] at hl HH ⊢
  clear h4 hm
  go_enter Tryz.func15, Tryz.ntmps15
  go_wp2
  refine any_worldF (fun W => ∃ W1, Below w.heap.size w W1 ∧ W1.heap.size = w.heap.size + 1 ∧ W1.cell? ⟨w.heap.size, 2, none⟩ = some (.slice a m cap) ∧ TriN W1 (w.heap.size + 1) (w.heap.size + 2) L S 120 1 (.slice none 0 0) 0 (cvF (prtF zs) 0) W)
    ⟨w.alloc (.cells #[.int .i64 L, .int .i64 S, .slice a m cap] 24), (by (repeat' (first | with_reducible exact Below.refl _ _ | (with_reducible refine below_later_of ?_ ?_ _) | (with_reducible refine Below.alloc ?_ ?_ _) | (with_reducible refine Below.setCell ?_ ?_ _) | (with_reducible refine Below.drew ?_) | (simp; done) | (simp; omega) | omega))), by simp, by simp [go_sem], by simp [go_sem], by simp [go_sem], by simp [go_sem], by simp [go_sem], by simp [go_sem], by simp [go_sem], by simp [go_sem], by simp [go_sem], by simp [go_sem], by simp [go_sem], World.ownsRow_nil _ _ _ _, (by (repeat' (first | with_reducible exact Below.refl _ _ | (with_reducible refine below_later_of ?_ ?_ _) | (with_reducible refine Below.alloc ?_ ?_ _) | (with_reducible refine Below.setCell ?_ ?_ _) | (with_reducible refine Below.drew ?_) | (simp; done) | (simp; omega) | omega))), by simp, by omega⟩ ?_
  rintro W2 ⟨W1, hb1, hsz1, q2, hst⟩
  have HST := Lib.hid hst
  have HB1 := Lib.hid hb1
  have Q2 := Lib.hid q2
  clear hst hb1 q2
  go_wp2
  go_loopw [4] (fun ii wr => ∃ (k : Nat) (v : Value), k ≤ m / 2 ∧ ii = .int .i64 ((2 * k : Nat) : Int) ∧ TriN W1 (w.heap.size + 1) (w.heap.size + 2) L S 120 1 v k (cvF (prtF zs) k) wr) (fun ii _ => m - (intOf ii).toNat)
  case atStart => exact ⟨0, _, Nat.zero_le _, rfl, HST.out⟩
  case round =>
    obtain ⟨k, v, hk, hii, hst⟩ := hrel
    obtain ⟨j, hj⟩ : ∃ j, 2 * k = j := ⟨_, rfl⟩
    rw [hj] at hii
    subst hii
    have HJ := Lib.hid hj
    have HS2 := Lib.hid hst
    have k2 := (hst.bel.cell (p := ⟨w.heap.size, 2, none⟩) (Nat.lt_succ_self _)).trans Q2.out
    by_cases hlt : k < m / 2
    · have hd1 : decide ((j : Int) + 1 < (m : Int)) = true := by simp; omega
      obtain ⟨b, off, rfl, hbw, hc⟩ := HH.out (by omega)
      have hbw2 := HB1.out.trans (hst.bel.mono (Nat.le_succ _))
      have x1 := (hbw2.cell (p := ⟨b, off + j, none⟩) hbw).trans (hc j (by omega))
      have x2 := (hbw2.cell (p := ⟨b, off + (j + 1), none⟩) hbw).trans (hc (j + 1) (by omega))
      have hj0 : (0 : Int) ≤ (j : Int) := by omega
      have hj1 : (j : Int) < (m : Int) := by omega
      have hj2 : (j : Int) + 1 < (m : Int) := by omega
      have hj3 : (0 : Int) ≤ (j : Int) + 1 := by omega
      have hjN : j < m := by omega
      have hjN1 : j + 1 < m := by omega
      have hbr : b < wr.heap.size := by have := hbw2.size; omega
      have hnu : prtF zs k = (f64I (intAt zs j), f64I (intAt zs (j + 1))) := by unfold prtF; rw [hj]
      have HSM := Lib.hid (fun w => bSum (intAt zs j) (intAt zs (j + 1)) w)
      obtain ⟨re, hre⟩ : ∃ re, f64I (intAt zs j) = re := ⟨_, rfl⟩
      obtain ⟨im, him⟩ : ∃ im, f64I (intAt zs (j + 1)) = im := ⟨_, rfl⟩
      rw [hre, him] at hnu HSM
      have HPN := Lib.hid (show cvF (prtF zs) (k + 1) = cvF (prtF zs) k ++ [.complex .f64 re im] by rw [cvF_snoc, hnu])
      have HOW2 := Lib.hid hst.own
      have HSN := Lib.hid (show ∀ (g' cc' : Nat) (w1 : World) (o : Obj), w1.ownsRow (w.heap.size + 2 + 1) 120 1 (.slice (some ⟨g', 0, none⟩) (k + 1) cc') (k + 1) (cvF (prtF zs) k ++ [.complex .f64 re im]) → (wr.drew.alloc o).grownBy w1 v.ownBlock → TriN W1 (w.heap.size + 1) (w.heap.size + 2) L S 120 1 (.slice (some ⟨g', 0, none⟩) (k + 1) cc') (k + 1) (cvF (prtF zs) (k + 1)) (w1.setCell ⟨w.heap.size + 2, 2, none⟩ (.slice (some ⟨g', 0, none⟩) (k + 1) cc')) from fun g' cc' w1 o h1 h2 => by
        rw [HPN.out]
        exact (HS2.out.below (Below.refl _ _).drew).put h1 h2)
      have HSL := Lib.hid (show ∀ (w1 : World) (o : Obj), (wr.drew.alloc o).grownBy w1 v.ownBlock → w1.cell? ⟨w.heap.size + 2, 2, none⟩ = some v ∧ w1.frozen? ⟨w.heap.size + 2, 2, none⟩ = false from fun w1 o h => (HS2.out.below (Below.refl _ _).drew).still h)
      have c2 := hst.c2
      have f2 := hst.f2
      have hltO := hst.lt
      generalize intAt zs j = x at *
      generalize intAt zs (j + 1) = y at *
      clear hst hbw2 hc hre him hnu hj
      have hjw : IntKind.i64.wrap ((j : Int) + 1) = ((j + 1 : Nat) : Int) := by rw [IntWalk.i64_in _ (by omega)]; rfl
      go_wp2
      go_region_law (first | (refine step_append_lies _ rfl (.tmp 19) (.tmp 32) 26 rfl (w.heap.size + 2 + 1) 120 i0 (.complex .f64 0 0) 1 16 Tryz.underlying26 hi0 hz0 hz1 hz2 rfl (by decide) v k (cvF (prtF zs) k) (by simp [Act.eval, Act.put]) (by first | exact (HOW2.out.alloc _).drew | exact HOW2.out.drew.alloc _) ⟨wr.heap.size, 0, none⟩ 1 1 [.complex .f64 re im] (by simp [Act.eval, Act.put]) rfl (by intro j u hj; rcases j with _ | j; (focus (simp at hj; subst hj; (first | (simp [Addr.add, go_sem]; done) | simp [Addr.add, go_sem, ↓IntWalk.iteOmega]))); (focus (simp at hj))) (by intro u hu; simp at hu; subst hu; rfl) (by decide) (by unfold maxLen; omega) (by omega) (by first | omega | (simp; omega)) _ rfl ?_; intro g' cc' w1 hown' hgrow _ _; have HN2 := Lib.hid (HSN.out _ _ _ _ hown' hgrow); obtain ⟨hcb, hfb⟩ := HSL.out _ _ hgrow; clear hown' hgrow) | (go_simp; (go_at_call 76; (with_reducible refine (HSM.out _).mono ?_); rintro e w' ⟨rfl, rfl⟩)))
      all_goals
        go_wp2
        go_roundw
        case rel => exact ⟨k + 1, _, by omega, by have := HJ.out; go_num, HN2.out⟩
        case measure => simp [intOf]; omega
    · obtain rfl : k = m / 2 := by omega
      have hd1 : decide ((j : Int) + 1 < (m : Int)) = false := by simp; omega
      obtain ⟨a', c', rfl⟩ := own_slice2 hst.own
      obtain ⟨e0, e1, e2, -, r0, r1, r2, g0, g1, g2, hown, hbel, -, hro⟩ := hst
      have HOW := Lib.hid hown
      have HBE := Lib.hid (HB1.out.trans (hbel.mono (by omega)))
      have hjb : (j : Int) ≤ 300 := by omega
      clear hown hbel hj
      go_wp2
      refine bodyPost_ret (v := .agg #[.int .i64 L, .int .i64 S, .slice a' (m / 2) c']) ?_ rfl ⟨a', c', rfl, OwnS.mono (OwnS.set (OwnS.set (OwnS.set (ownS_row HOW.out) ?_ _) ?_ _) ?_ _) ?_, HBE.out.trans (by (repeat' (first | with_reducible exact Below.refl _ _ | (with_reducible refine below_later_of ?_ ?_ _) | (with_reducible refine Below.alloc ?_ ?_ _) | (with_reducible refine Below.setCell ?_ ?_ _) | (with_reducible refine Below.drew ?_) | (simp; done) | (simp; omega) | omega)))⟩
      · first | (simp [results, Tryz.results15, go_sem, r0, r1, r2]; done) | simp [results, Tryz.results15, go_sem, r0, r1, r2, ↓IntWalk.iteOmega]
      all_goals first | omega | (simp <;> omega)
end Go.Proofs.YtfiioadmpjmmgaaGreatDoor
