import Derived.Test.YtcmjlfhnibjofaaXO
import Derived.Test.YtcmjlfhnibjofaaXP
/- Chapter 4: Looked's closure: the sum of a block. -/
namespace Go.Proofs.Ytcmjlfhnibjofaa
set_option linter.unusedVariables false
set_option linter.unusedSimpArgs false
open Go.RowKit Ieee Ntt
/-- A sum in memory. -/
structure LkSt (w : World) (a b : Int) (wr : World) : Prop where
  r0 : wr.cell? ⟨w.heap.size, 0, none⟩ = some (.int .i64 a)
  r1 : wr.cell? ⟨w.heap.size, 1, none⟩ = some (.int .i64 b)
  f0 : wr.frozen? ⟨w.heap.size, 0, none⟩ = false
  f1 : wr.frozen? ⟨w.heap.size, 1, none⟩ = false
  bel : Below w.heap.size w wr
  lt : w.heap.size < wr.heap.size
theorem LkSt.below {w wr W : World} {a b : Int} (h : LkSt w a b wr) (hb : Below wr.heap.size wr W) : LkSt w a b W := by
  obtain ⟨r0, r1, f0, f1, bel, lt⟩ := h
  have hs := hb.size
  exact ⟨(hb.cell (p := ⟨w.heap.size, 0, none⟩) lt).trans r0, (hb.cell (p := ⟨w.heap.size, 1, none⟩) lt).trans r1, (hb.frozen (p := ⟨w.heap.size, 0, none⟩) lt).trans f0, (hb.frozen (p := ⟨w.heap.size, 1, none⟩) lt).trans f1, bel.trans (hb.mono (by omega)), by omega⟩
theorem LkSt.put {w wr : World} {a b : Int} (h : LkSt w a b wr) (a' b' : Int) : LkSt w a' b' ((wr.setCell ⟨w.heap.size, 0, none⟩ (.int .i64 a')).setCell ⟨w.heap.size, 1, none⟩ (.int .i64 b')) := by
  obtain ⟨r0, r1, f0, f1, bel, lt⟩ := h
  exact ⟨by simp [go_sem, r0], by simp [go_sem, r1], by simp [go_sem, f0], by simp [go_sem, f1], (bel.setCell (p := ⟨w.heap.size, 0, none⟩) (Nat.le_refl _) _).setCell (p := ⟨w.heap.size, 1, none⟩) (Nat.le_refl _) _, by simpa using lt⟩
set_option maxRecDepth 20000 in
set_option maxHeartbeats 4000000 in
theorem look1 (A G S g n cap l s b0 b1 : Nat) (Lg : Int) (F : Nat → Int × Int) (X Y : Nat → Int) (L0 : Nat) (w : World) (hX : ∀ i, (F i) = (X i, Y i)) (hn : n = L0 * S) (h64 : L0 ≤ 64) (s2 : S ≤ 64) (hl : l * b0 + b0 ≤ L0) (hs : s * b1 + b1 ≤ S) (hA : A < w.heap.size) (hG : G < w.heap.size) (hg : g < w.heap.size)
    (a0 : w.cell? ⟨A, 0, none⟩ = some (.int .i64 b0)) (a1 : w.cell? ⟨A, 1, none⟩ = some (.int .i64 b1)) (c0 : w.cell? ⟨G, 0, none⟩ = some (.int .i64 Lg)) (c1 : w.cell? ⟨G, 1, none⟩ = some (.int .i64 S)) (c2 : w.cell? ⟨G, 2, none⟩ = some (.slice (some ⟨g, 0, none⟩) n cap)) (hF : PairsAt w g n F) (sF : SmallP n F 1000000000) :
    Calls Try.prog 87 #[.int .i64 l, .int .i64 s, .pointer (some ⟨A, 0, none⟩), .pointer (some ⟨G, 0, none⟩)] w fun e w' => e = .returned (.agg #[.int .i64 (winW X S (s * b1) b1 (l * b0) b0), .int .i64 (winW Y S (s * b1) b1 (l * b0) b0)]) ∧ Below w.heap.size w w' := by
  have HN := Lib.hid hn
  have HF := Lib.hid hF
  have HSF := Lib.hid sF
  have HXX := Lib.hid hX
  have A0 := Lib.hid a0
  have A1 := Lib.hid a1
  have C1 := Lib.hid c1
  have C2 := Lib.hid c2
  obtain ⟨u0, hu0⟩ : ∃ u0, l * b0 = u0 := ⟨_, rfl⟩
  obtain ⟨u3, hu3⟩ : ∃ u3, s * b1 = u3 := ⟨_, rfl⟩
  have HBX := Lib.hid (show ∀ i, i < L0 * S → -1000000000 ≤ X i ∧ X i ≤ 1000000000 from fun i hi => by have := (sF i (by omega)).1; rw [hX] at this; exact this)
  have HBY := Lib.hid (show ∀ i, i < L0 * S → -1000000000 ≤ Y i ∧ Y i ≤ 1000000000 from fun i hi => by have := (sF i (by omega)).2; rw [hX] at this; exact this)
  rw [hu0] at hl ⊢
  rw [hu3] at hs ⊢
  have hwA : IntKind.i64.wrap ((l : Int) * (b0 : Int)) = (u0 : Int) := by rw [← Int.natCast_mul, hu0]; exact IntWalk.i64_in _ (by omega)
  have hwD : IntKind.i64.wrap ((s : Int) * (b1 : Int)) = (u3 : Int) := by rw [← Int.natCast_mul, hu3]; exact IntWalk.i64_in _ (by omega)
  clear hn hF sF hX c0 hu0 hu3
  go_enter Try.func87, Try.ntmps87
  go_wp2
  refine any_worldF (fun W => LkSt w (winW X S u3 b1 u0 0) (winW Y S u3 b1 u0 0) W) ⟨by simp [go_sem, winW, sumN], by simp [go_sem, winW, sumN], by simp [go_sem], by simp [go_sem], (by (repeat' (first | with_reducible exact Below.refl _ _ | (with_reducible refine below_later_of ?_ ?_ _) | (with_reducible refine Below.alloc ?_ ?_ _) | (with_reducible refine Below.setCell ?_ ?_ _) | (with_reducible refine Below.drew ?_) | (simp; done) | (simp; omega) | omega))), by simp⟩ ?_
  rintro W2 hst
  have HST := Lib.hid hst
  clear hst a0 a1 c1 c2
  go_loopw [11] (fun ii wr => ∃ r : Nat, r ≤ b0 ∧ ii = .int .i64 r ∧ LkSt w (winW X S u3 b1 u0 r) (winW Y S u3 b1 u0 r) wr) (fun ii _ => b0 - (intOf ii).toNat)
  case atStart => exact ⟨0, Nat.zero_le _, rfl, HST.out⟩
  case round =>
    obtain ⟨r, hr, rfl, hst⟩ := hrel
    have HS1 := Lib.hid hst
    have a1 := (hst.bel.cell (p := ⟨A, 1, none⟩) hA).trans A1.out
    have hAr : A < wr.heap.size := by have := hst.bel.size; omega
    by_cases hlt : r < b0
    · have hdr : decide ((r : Int) < (b0 : Int)) = true := by simp; omega
      obtain ⟨e1, e2⟩ := winW_bd (a := u3) (k := b1) (b := u0) (m := r) HBX.out (by decide) h64 s2 (by omega) (by omega)
      obtain ⟨e3, e4⟩ := winW_bd (a := u3) (k := b1) (b := u0) (m := r) HBY.out (by decide) h64 s2 (by omega) (by omega)
      have HW1 := Lib.hid (show winW X S u3 b1 u0 (r + 1) = winW X S u3 b1 u0 r + rowW X S (u0 + r) u3 b1 from winW_succ _ _ _ _ _ _)
      have HW2 := Lib.hid (show winW Y S u3 b1 u0 (r + 1) = winW Y S u3 b1 u0 r + rowW Y S (u0 + r) u3 b1 from winW_succ _ _ _ _ _ _)
      generalize winW X S u3 b1 u0 r = P at *
      generalize winW Y S u3 b1 u0 r = Q at *
      clear hst
      go_wp2
      go_loopw [16] (fun ii wr => ∃ c : Nat, c ≤ b1 ∧ ii = .int .i64 c ∧ LkSt w (P + rowW X S (u0 + r) u3 c) (Q + rowW Y S (u0 + r) u3 c) wr) (fun ii _ => b1 - (intOf ii).toNat)
      case atStart => exact ⟨0, Nat.zero_le _, rfl, by simpa [rowW, sumN] using HS1.out⟩
      case round =>
        clear a1 hAr
        obtain ⟨c, hc, rfl, hst⟩ := hrel
        have HS2 := Lib.hid hst
        have hbel := hst.bel
        have hsz := hbel.size
        have r0 := hst.r0
        have r1 := hst.r1
        have f0 := hst.f0
        have f1 := hst.f1
        have hRl := hst.lt
        have a0 := (hbel.cell (p := ⟨A, 0, none⟩) hA).trans A0.out
        have a1 := (hbel.cell (p := ⟨A, 1, none⟩) hA).trans A1.out
        have c1 := (hbel.cell (p := ⟨G, 1, none⟩) hG).trans C1.out
        have c2 := (hbel.cell (p := ⟨G, 2, none⟩) hG).trans C2.out
        have hAr : A < wr.heap.size := by omega
        have hGr : G < wr.heap.size := by omega
        have hgr : g < wr.heap.size := by omega
        by_cases hcl : c < b1
        · have hdc : decide ((c : Int) < (b1 : Int)) = true := by simp; omega
          obtain ⟨r1', r2'⟩ := mul_le3 (n := 64) (rowW_bd (L := L0) (l := u0 + r) (a := u3) (k := c) HBX.out (by omega) (by omega)) (by omega) (by decide)
          obtain ⟨r3', r4'⟩ := mul_le3 (n := 64) (rowW_bd (L := L0) (l := u0 + r) (a := u3) (k := c) HBY.out (by omega) (by omega)) (by omega) (by decide)
          obtain ⟨i, hi⟩ : ∃ i, (u0 + r) * S + (u3 + c) = i := ⟨_, rfl⟩
          have hin : i < n := by
            have h1 : (u0 + r + 1) * S ≤ L0 * S := Nat.mul_le_mul_right _ (by omega)
            rw [Nat.add_mul (u0 + r) 1, Nat.one_mul] at h1
            have := HN.out
            omega
          have him : i ≤ 4096 := by
            have := Nat.mul_le_mul h64 s2
            have := HN.out
            omega
          have n1 : P + rowW X S (u0 + r) u3 (c + 1) = P + rowW X S (u0 + r) u3 c + X i := by rw [rowW_succ, hi]; omega
          have n2 : Q + rowW Y S (u0 + r) u3 (c + 1) = Q + rowW Y S (u0 + r) u3 c + Y i := by rw [rowW_succ, hi]; omega
          have HN1 := Lib.hid n1
          have HN2 := Lib.hid n2
          obtain ⟨u1, hu1⟩ : ∃ u1, u0 + r = u1 := ⟨_, rfl⟩
          obtain ⟨u2, hu2⟩ : ∃ u2, (u0 + r) * S = u2 := ⟨_, rfl⟩
          have hwB : IntKind.i64.wrap ((u0 : Int) + (r : Int)) = (u1 : Int) := by rw [← Int.natCast_add, hu1]; exact IntWalk.i64_in _ (by omega)
          have hwC : IntKind.i64.wrap ((u1 : Int) * (S : Int)) = (u2 : Int) := by rw [← Int.natCast_mul, ← hu1, hu2]; exact IntWalk.i64_in _ (by omega)
          have hwE : IntKind.i64.wrap ((u2 : Int) + (u3 : Int)) = ((u2 + u3 : Nat) : Int) := by rw [← Int.natCast_add]; exact IntWalk.i64_in _ (by omega)
          obtain ⟨u4, hu4⟩ : ∃ u4, u2 + u3 = u4 := ⟨_, rfl⟩
          rw [hu4] at hwE
          have hwF : IntKind.i64.wrap ((u4 : Int) + (c : Int)) = (i : Int) := by rw [← Int.natCast_add, show u4 + c = i by omega]; exact IntWalk.i64_in _ (by omega)
          have hi1 : (i : Int) < (n : Int) := by omega
          have hi0 : (0 : Int) ≤ (i : Int) := by omega
          obtain ⟨q1, q2⟩ := HF.out i hin
          have x1 := (hbel.cell (p := ⟨g, i * 2, none⟩) hg).trans q1
          have x2 := (hbel.cell (p := ⟨g, i * 2 + 1, none⟩) hg).trans q2
          obtain ⟨⟨b1', b2'⟩, b3', b4'⟩ := HSF.out i hin
          rw [HXX.out] at x1 x2 b1' b2' b3' b4'
          dsimp only at x1 x2 b1' b2' b3' b4'
          generalize rowW X S (u0 + r) u3 c = pu at *
          generalize rowW Y S (u0 + r) u3 c = pv at *
          generalize X i = x at *
          generalize Y i = y at *
          have HPL := Lib.hid (fun W => fPlus (P + pu) (Q + pv) x y W (by omega) (by omega) (by omega) (by omega))
          obtain ⟨pa, hpa⟩ : ∃ pa, P + pu = pa := ⟨_, rfl⟩
          obtain ⟨pb, hpb⟩ : ∃ pb, Q + pv = pb := ⟨_, rfl⟩
          rw [hpa, hpb] at HS2 HPL
          rw [hpa] at r0 HN1
          rw [hpb] at r1 HN2
          clear hst hbel n1 n2 hi hu1 hu2 hu4 hpa hpb
          go_wp2_with fail
          refine wp_region_calm_tail 22 (by kernel_rfl) (by kernel_rfl) ?_
          simp only [List.take_succ_cons, List.take_zero, List.drop_succ_cons, List.drop_zero]
          repeat (go_big_quiet_step ((go_at_call 88; exact calm_of (HPL.out _))))
          refine wpQuiet_nil ?_
          rintro _ ⟨pz, rfl⟩
          have HS3 := Lib.hid (HS2.out.below (show Below wr.heap.size wr (later wr pz) from below_later _ _))
          go_wp2
          go_roundw
          case rel => exact ⟨c + 1, by omega, by go_num, by rw [HN1.out, HN2.out]; exact HS3.out.put _ _⟩
          case measure => simp [intOf]; omega
        · obtain rfl : c = b1 := by omega
          have hdc : decide ((c : Int) < (c : Int)) = false := by simp
          clear hst hbel
          go_wp2
          go_roundw
          case rel => exact ⟨r + 1, by omega, by go_num, by rw [HW1.out, HW2.out]; exact HS2.out⟩
          case measure => simp [intOf]; omega
    · obtain rfl : r = b0 := by omega
      have hdr : decide ((r : Int) < (r : Int)) = false := by simp
      obtain ⟨r0, r1, f0, f1, bel, lt⟩ := hst
      have HB := Lib.hid bel
      obtain ⟨P, hP⟩ : ∃ P, winW X S u3 b1 u0 r = P := ⟨_, rfl⟩
      obtain ⟨Q, hQ⟩ : ∃ Q, winW Y S u3 b1 u0 r = Q := ⟨_, rfl⟩
      rw [hP] at r0
      rw [hQ] at r1
      have HPP := Lib.hid hP
      have HQQ := Lib.hid hQ
      clear bel hP hQ
      go_wp2
      refine bodyPost_ret (v := .agg #[.int .i64 P, .int .i64 Q]) ?_ rfl ⟨by rw [HPP.out, HQQ.out], (HB.out.setCell (p := ⟨w.heap.size, 0, none⟩) (Nat.le_refl _) _).setCell (p := ⟨w.heap.size, 1, none⟩) (Nat.le_refl _) _⟩
      first | (simp [results, Try.results87, go_sem, r0, r1]; done) | simp [results, Try.results87, go_sem, r0, r1, ↓IntWalk.iteOmega]
end Go.Proofs.Ytcmjlfhnibjofaa

/- Chapter 4: Looked. -/
namespace Go.Proofs.Ytcmjlfhnibjofaa
set_option linter.unusedVariables false
set_option linter.unusedSimpArgs false
open Go.RowKit Ieee Ntt
/-- The sums of blocks. -/
def lookF (X Y : Nat → Int) (S b0 b1 S' i : Nat) : Int × Int := (winW X S (i % S' * b1) b1 (i / S' * b0) b0, winW Y S (i % S' * b1) b1 (i / S' * b0) b0)
theorem blk_le {l b L : Nat} (hl : l < L / b) : l * b + b ≤ L := by
  have h1 : (l + 1) * b ≤ L / b * b := Nat.mul_le_mul_right _ hl
  have h2 := Nat.div_mul_le_self L b
  rw [Nat.add_mul, Nat.one_mul] at h1
  omega
theorem look_map {L S n b0 b1 : Nat} {X Y : Nat → Int} (hn : n = L * S) (h0 : 0 < n) (hL : L ≤ 64) (hS : S ≤ 64) (sF : SmallP n (partsF X Y) 1000000000) {L' S' : Nat} (hL' : L / b0 = L') (hS' : S / b1 = S') (W : World) (a1 : Option Addr) (c1 Gb Hb : Nat) {B1 : Nat} {Wa : World} (h1 : OwnPr B1 Wa n (partsF X Y) a1) (b1' : Below Wa.heap.size Wa W)
    (q0 : W.cell? ⟨Gb, 0, none⟩ = some (.int .i64 L)) (q1 : W.cell? ⟨Gb, 1, none⟩ = some (.int .i64 S)) (q2 : W.cell? ⟨Gb, 2, none⟩ = some (.slice a1 n c1)) (p0 : W.cell? ⟨Hb, 0, none⟩ = some (.int .i64 b0)) (p1 : W.cell? ⟨Hb, 1, none⟩ = some (.int .i64 b1)) :
    Calls Try.prog 86 #[.int .i64 L', .int .i64 S', .func (.func 87) #[] #[.pointer (some ⟨Hb, 0, none⟩), .pointer (some ⟨Gb, 0, none⟩)]] W (GrPost L' S' (L' * S') (lookF X Y S b0 b1 S') W) := by
  obtain ⟨g, rfl, hg, hp⟩ := ownPr_at h1 h0 b1'
  have hG : Gb < W.heap.size := World.block_lt_of_cell? _ _ q0
  have hH : Hb < W.heap.size := World.block_lt_of_cell? _ _ p0
  subst hL' hS'
  refine mapped_pr (L / b0) (S / b1) 87 #[.pointer (some ⟨Hb, 0, none⟩), .pointer (some ⟨Gb, 0, none⟩)] (lookF X Y S b0 b1 (S / b1)) W (Nat.le_trans (Nat.div_le_self _ _) hL) (Nat.le_trans (Nat.div_le_self _ _) hS) (enters_of Try.func87 (by kernel_rfl) rfl) (fun W2 hW2 l s hl hs => ?_)
  have hz := hW2.size
  have := look1 Hb Gb S g n c1 l s b0 b1 L (partsF X Y) X Y L W2 (fun _ => rfl) hn hL hS (blk_le hl) (blk_le hs) (by omega) (by omega) (by omega) ((hW2.cell (p := ⟨Hb, 0, none⟩) hH).trans p0) ((hW2.cell (p := ⟨Hb, 1, none⟩) hH).trans p1) ((hW2.cell (p := ⟨Gb, 0, none⟩) hG).trans q0) ((hW2.cell (p := ⟨Gb, 1, none⟩) hG).trans q1) ((hW2.cell (p := ⟨Gb, 2, none⟩) hG).trans q2) (hp.below hg hW2) sF
  have e1 : (l * (S / b1) + s) / (S / b1) = l := by rw [Nat.mul_comm, Nat.mul_add_div (by omega), Nat.div_eq_of_lt hs, Nat.add_zero]
  have e2 : (l * (S / b1) + s) % (S / b1) = s := by rw [Nat.mul_comm, Nat.mul_add_mod, Nat.mod_eq_of_lt hs]
  unfold lookF
  rw [e1, e2]
  exact this
set_option maxHeartbeats 1000000 in
theorem looked_bad (L S : Int) (n cap : Nat) (f : Nat → Nat × Nat) (a : Option Addr) (b0 b1 : Int) (w : World) (hl : n ≤ 100000) (hd : FldAt w L S n f a) (hw : Wide64 n f) {e0 : Int} (he : (fldE L S n f).2 = e0) (h0 : e0 ≠ 0) :
    Calls Try.prog 31 #[.agg #[.int .i64 L, .int .i64 S, .slice a n cap], .agg #[.int .i64 b0, .int .i64 b1]] w fun e w' => e = .returned (.tuple #[.agg #[.int .i64 0, .int .i64 0, .slice none 0 0], .int .i64 e0]) ∧ Below w.heap.size w w' := by
  have HFE := Lib.hid (show ∀ W, Below w.heap.size w W → _ from fun W hW => fFieldErr L S n cap f a W hl (hd.below hW) hw he)
  have hne : (e0 != 0) = true := by simpa using h0
  clear hd he h0
  go_enter Try.func31, Try.ntmps31
  go_wp2_with (first | (go_at_call 83; (with_reducible refine (HFE.out _ (by (repeat' (first | with_reducible exact Below.refl _ _ | (with_reducible refine below_later_of ?_ ?_ _) | (with_reducible refine Below.alloc ?_ ?_ _) | (with_reducible refine Below.setCell ?_ ?_ _) | (with_reducible refine Below.drew ?_) | (simp; done) | (simp; omega) | omega)))).mono ?_); rintro e w' ⟨rfl, hb⟩; obtain ⟨pe, rfl⟩ := later_of_below hb; clear hb))
  refine bodyPost_ret ?_ rfl ⟨rfl, (by (repeat' (first | with_reducible exact Below.refl _ _ | (with_reducible refine below_later_of ?_ ?_ _) | (with_reducible refine Below.alloc ?_ ?_ _) | (with_reducible refine Below.setCell ?_ ?_ _) | (with_reducible refine Below.drew ?_) | (simp; done) | (simp; omega) | omega)))⟩
  first | (simp [results, Try.results31, go_sem]; done) | simp [results, Try.results31, go_sem, ↓IntWalk.iteOmega]
set_option maxHeartbeats 1000000 in
theorem looked_range (L S : Int) (n cap : Nat) (f : Nat → Nat × Nat) (a : Option Addr) (b0 b1 : Int) (w : World) (hl : n ≤ 100000) (hd : FldAt w L S n f a) (hw : Wide64 n f) (he : (fldE L S n f).2 = 0) (hb : (inE 1 L b0 && inE 1 S b1) = false) :
    Calls Try.prog 31 #[.agg #[.int .i64 L, .int .i64 S, .slice a n cap], .agg #[.int .i64 b0, .int .i64 b1]] w fun e w' => e = .returned (.tuple #[.agg #[.int .i64 0, .int .i64 0, .slice none 0 0], .int .i64 2]) ∧ Below w.heap.size w w' := by
  have HFE := Lib.hid (show ∀ W, Below w.heap.size w W → _ from fun W hW => fFieldErr L S n cap f a W hl (hd.below hW) hw he)
  clear hd he
  obtain ⟨q1, hq1⟩ : ∃ q1, inE 1 L b0 = q1 := ⟨_, rfl⟩
  obtain ⟨q2, hq2⟩ : ∃ q2, inE 1 S b1 = q2 := ⟨_, rfl⟩
  rw [hq1, hq2] at hb
  have H1 := Lib.hid hq1
  have H2 := Lib.hid hq2
  clear hq1 hq2
  cases q1
  · clear hb
    go_enter Try.func31, Try.ntmps31
    go_wp2_with (first | (go_at_call 83; (with_reducible refine (HFE.out _ (by (repeat' (first | with_reducible exact Below.refl _ _ | (with_reducible refine below_later_of ?_ ?_ _) | (with_reducible refine Below.alloc ?_ ?_ _) | (with_reducible refine Below.setCell ?_ ?_ _) | (with_reducible refine Below.drew ?_) | (simp; done) | (simp; omega) | omega)))).mono ?_); rintro e w' ⟨rfl, hb⟩; obtain ⟨pe, rfl⟩ := later_of_below hb; clear hb) | (go_at_call 84; (with_reducible refine (fWithin _ _ _ _ H1.out).mono ?_); rintro e w' ⟨rfl, rfl⟩))
    refine bodyPost_ret ?_ rfl ⟨rfl, (by (repeat' (first | with_reducible exact Below.refl _ _ | (with_reducible refine below_later_of ?_ ?_ _) | (with_reducible refine Below.alloc ?_ ?_ _) | (with_reducible refine Below.setCell ?_ ?_ _) | (with_reducible refine Below.drew ?_) | (simp; done) | (simp; omega) | omega)))⟩
    first | (simp [results, Try.results31, go_sem]; done) | simp [results, Try.results31, go_sem, ↓IntWalk.iteOmega]
  · cases q2
    · clear hb
      go_enter Try.func31, Try.ntmps31
      go_wp2_with (first | (go_at_call 83; (with_reducible refine (HFE.out _ (by (repeat' (first | with_reducible exact Below.refl _ _ | (with_reducible refine below_later_of ?_ ?_ _) | (with_reducible refine Below.alloc ?_ ?_ _) | (with_reducible refine Below.setCell ?_ ?_ _) | (with_reducible refine Below.drew ?_) | (simp; done) | (simp; omega) | omega)))).mono ?_); rintro e w' ⟨rfl, hb⟩; obtain ⟨pe, rfl⟩ := later_of_below hb; clear hb) | (go_at_call 84; (with_reducible refine (fWithin _ _ _ _ H1.out).mono ?_); rintro e w' ⟨rfl, rfl⟩) | (go_at_call 84; (with_reducible refine (fWithin _ _ _ _ H2.out).mono ?_); rintro e w' ⟨rfl, rfl⟩))
      refine bodyPost_ret ?_ rfl ⟨rfl, (by (repeat' (first | with_reducible exact Below.refl _ _ | (with_reducible refine below_later_of ?_ ?_ _) | (with_reducible refine Below.alloc ?_ ?_ _) | (with_reducible refine Below.setCell ?_ ?_ _) | (with_reducible refine Below.drew ?_) | (simp; done) | (simp; omega) | omega)))⟩
      first | (simp [results, Try.results31, go_sem]; done) | simp [results, Try.results31, go_sem, ↓IntWalk.iteOmega]
    · cases hb
set_option maxRecDepth 20000 in
set_option maxHeartbeats 4000000 in
theorem looked_ok (L S n b0 b1 L' S' : Nat) (cap : Nat) (f : Nat → Nat × Nat) (a : Option Addr) (w : World) (hd : FldAt w L S n f a) (hw : Wide64 n f) (hl : n ≤ 100000) (he : (fldE L S n f).2 = 0) (hb0 : 1 ≤ b0 ∧ b0 ≤ L) (hb1 : 1 ≤ b1 ∧ b1 ≤ S) (hL' : L / b0 = L') (hS' : S / b1 = S') (hc : anyL (L' * S') (lookF (xD f) (yD f) S b0 b1 S') = false) :
    Calls Try.prog 31 #[.agg #[.int .i64 L, .int .i64 S, .slice a n cap], .agg #[.int .i64 b0, .int .i64 b1]] w (FdPost4 L' S' (L' * S') (nmF (lookF (xD f) (yD f) S b0 b1 S')) w) := by
  have HFE := Lib.hid (show ∀ W, Below w.heap.size w W → _ from fun W hW => fFieldErr L S n cap f a W (by omega) (hd.below hW) hw he)
  obtain ⟨s1, g1⟩ := fldE_zero he
  obtain ⟨⟨hL1, hL⟩, ⟨hS1, hS⟩, hn⟩ := sizeE_okU s1
  have hnn : n = L * S := by exact_mod_cast hn
  obtain ⟨b, off, rfl, hbw, hf⟩ := hd s1
  have hX : SmallD n f (xD f) (yD f) 1000000000 := smallD_of hw g1
  have hL1 : 1 ≤ L := by omega
  have hL : L ≤ 64 := by omega
  have hS1 : 1 ≤ S := by omega
  have hS : S ≤ 64 := by omega
  have H1 := Lib.hid (show inE 1 L b0 = true from inE_iff.2 (by omega))
  have H2 := Lib.hid (show inE 1 S b1 = true from inE_iff.2 (by omega))
  have HN0 := Lib.hid (show 0 < n by rw [hnn]; exact Nat.mul_pos (by omega) (by omega))
  have HM1 := Lib.hid (show SmallP n (partsF (xD f) (yD f)) 1000000000 from fun k hk => by
    obtain ⟨-, h1, h2⟩ := hX k hk
    unfold partsF
    dsimp only
    omega)
  have HNO := Lib.hid (show ∀ W, Below w.heap.size w W → _ from fun W hW => fNumbersOf L S n cap b off f (xD f) (yD f) W hnn hL1 hL hS1 hS (by have := hW.size; omega) (hf.below hbw hW) hX)
  have HMA0 := Lib.hid (look_map (L := L) (S := S) (b0 := b0) (b1 := b1) hnn HN0.out hL hS HM1.out hL' hS')
  have hm0 : 0 < L' * S' := by rw [← hL', ← hS']; exact Nat.mul_pos (Nat.div_pos hb0.2 hb0.1) (Nat.div_pos hb1.2 hb1.1)
  have hm5 : L' * S' ≤ 5000 := by
    have h1 := Nat.div_le_self L b0
    have h2 := Nat.div_le_self S b1
    have := Nat.mul_le_mul (show L' ≤ 64 by omega) (show S' ≤ 64 by omega)
    omega
  have t1 : (L : Int).tdiv (b0 : Int) = (L' : Int) := by rw [← hL', Int.tdiv_eq_ediv_of_nonneg (by omega)]; rfl
  have t2 : (S : Int).tdiv (b1 : Int) = (S' : Int) := by rw [← hS', Int.tdiv_eq_ediv_of_nonneg (by omega)]; rfl
  have z1 : ¬ b0 = 0 := by omega
  have z2 : ¬ b1 = 0 := by omega
  have hLx : L' ≤ 64 := by rw [← hL']; exact Nat.le_trans (Nat.div_le_self _ _) hL
  have hSx : S' ≤ 64 := by rw [← hS']; exact Nat.le_trans (Nat.div_le_self _ _) hS
  have tw1 : IntKind.i64.wrap (L' : Int) = (L' : Int) := IntWalk.i64_in _ (by omega)
  have tw2 : IntKind.i64.wrap (S' : Int) = (S' : Int) := IntWalk.i64_in _ (by omega)
  obtain ⟨b01, b02⟩ := hb0
  obtain ⟨b11, b12⟩ := hb1
  have HFO := Lib.hid (field_of (L := L') (S := S') hm0 hm5 hc)
  clear hd hw he s1 g1 hn hnn hf hX hc hL' hS' hm0
  generalize xD f = X at *
  generalize yD f = Y at *
  go_enter Try.func31, Try.ntmps31
  go_wp2_with (first | (go_at_call 83; (with_reducible refine (HFE.out _ (by (repeat' (first | with_reducible exact Below.refl _ _ | (with_reducible refine below_later_of ?_ ?_ _) | (with_reducible refine Below.alloc ?_ ?_ _) | (with_reducible refine Below.setCell ?_ ?_ _) | (with_reducible refine Below.drew ?_) | (simp; done) | (simp; omega) | omega)))).mono ?_); rintro e w' ⟨rfl, hb⟩; obtain ⟨pe, rfl⟩ := later_of_below hb; clear hb) | (go_at_call 84; (with_reducible refine (fWithin _ _ _ _ H1.out).mono ?_); rintro e w' ⟨rfl, rfl⟩) | (go_at_call 84; (with_reducible refine (fWithin _ _ _ _ H2.out).mono ?_); rintro e w' ⟨rfl, rfl⟩) | (go_at_call 85; (with_reducible refine (HNO.out _ (by (repeat' (first | with_reducible exact Below.refl _ _ | (with_reducible refine below_later_of ?_ ?_ _) | (with_reducible refine Below.alloc ?_ ?_ _) | (with_reducible refine Below.setCell ?_ ?_ _) | (with_reducible refine Below.drew ?_) | (simp; done) | (simp; omega) | omega)))).mono ?_); rintro e w' ⟨a1, c1, rfl, ho, -, hb⟩; have HO1 := Lib.hid ho; clear ho; obtain ⟨p1, rfl⟩ := later_of_below hb; clear hb))
  obtain ⟨G, hG⟩ : ∃ G, G = w.heap.size + 1 + 1 + 1 + pe.os.size + p1.os.size := ⟨_, rfl⟩
  refine any_worldF (fun w' => (w'.cell? ⟨w.heap.size, 0, none⟩ = some (.int .i64 L) ∧ w'.cell? ⟨w.heap.size, 1, none⟩ = some (.int .i64 S) ∧ w'.cell? ⟨w.heap.size + 1, 0, none⟩ = some (.int .i64 b0) ∧ w'.cell? ⟨w.heap.size + 1, 1, none⟩ = some (.int .i64 b1)) ∧ (w'.cell? ⟨G, 0, none⟩ = some (.int .i64 L) ∧ w'.cell? ⟨G, 1, none⟩ = some (.int .i64 S) ∧ w'.cell? ⟨G, 2, none⟩ = some (.slice a1 n c1)) ∧ (∃ B Wa, OwnPr B Wa n (partsF X Y) a1 ∧ Below Wa.heap.size Wa w') ∧ (w'.cell? ⟨w.heap.size + 2, 0, none⟩ = some (.int .i64 0) ∧ w'.cell? ⟨w.heap.size + 2, 1, none⟩ = some (.int .i64 0) ∧ w'.cell? ⟨w.heap.size + 2, 2, none⟩ = some (.slice none 0 0) ∧ w'.frozen? ⟨w.heap.size + 2, 0, none⟩ = false ∧ w'.frozen? ⟨w.heap.size + 2, 1, none⟩ = false ∧ w'.frozen? ⟨w.heap.size + 2, 2, none⟩ = false) ∧ Below w.heap.size w w' ∧ w.heap.size + 2 < w'.heap.size ∧ G < w'.heap.size) ⟨⟨(by (first | (simp [go_sem]; done) | simp [go_sem, ↓IntWalk.iteOmega])), (by (first | (simp [go_sem]; done) | simp [go_sem, ↓IntWalk.iteOmega])), (by (first | (simp [go_sem]; done) | simp [go_sem, ↓IntWalk.iteOmega])), (by (first | (simp [go_sem]; done) | simp [go_sem, ↓IntWalk.iteOmega]))⟩, ⟨alloc_cell5 (by simp [hG]) rfl, alloc_cell5 (by simp [hG]) rfl, alloc_cell5 (by simp [hG]) rfl⟩, ⟨_, _, HO1.out, (by (repeat' (first | with_reducible exact Below.refl _ _ | (with_reducible refine below_later_of ?_ ?_ _) | (with_reducible refine Below.alloc ?_ ?_ _) | (with_reducible refine Below.setCell ?_ ?_ _) | (with_reducible refine Below.drew ?_) | (simp; done) | (simp; omega) | omega)))⟩, ⟨(by (first | (simp [go_sem]; done) | simp [go_sem, ↓IntWalk.iteOmega])), (by (first | (simp [go_sem]; done) | simp [go_sem, ↓IntWalk.iteOmega])), (by (first | (simp [go_sem]; done) | simp [go_sem, ↓IntWalk.iteOmega])), (by (first | (simp [go_sem]; done) | simp [go_sem, ↓IntWalk.iteOmega])), (by (first | (simp [go_sem]; done) | simp [go_sem, ↓IntWalk.iteOmega])), (by (first | (simp [go_sem]; done) | simp [go_sem, ↓IntWalk.iteOmega]))⟩, (by (repeat' (first | with_reducible exact Below.refl _ _ | (with_reducible refine below_later_of ?_ ?_ _) | (with_reducible refine Below.alloc ?_ ?_ _) | (with_reducible refine Below.setCell ?_ ?_ _) | (with_reducible refine Below.drew ?_) | (simp; done) | (simp; omega) | omega))), by simp; omega, by simp; omega⟩ ?_
  rintro W1 ⟨⟨k0, k1, k2, k3⟩, ⟨g0, g1, g2⟩, ⟨B, Wa, ho, hba⟩, ⟨r0, r1, r2, f0, f1, f2⟩, hb1, hlt1, hGl⟩
  have HB1 := Lib.hid hb1
  have hs1 := hb1.size
  have HMA := Lib.hid (show ∀ W, Below W1.heap.size W1 W → _ from fun W hW => HMA0.out W a1 c1 G (w.heap.size + 1) ho (hba.trans (hW.mono hba.size)) ((hW.cell (p := ⟨G, 0, none⟩) hGl).trans g0) ((hW.cell (p := ⟨G, 1, none⟩) hGl).trans g1) ((hW.cell (p := ⟨G, 2, none⟩) hGl).trans g2) ((hW.cell (p := ⟨w.heap.size + 1, 0, none⟩) (show w.heap.size + 1 < W1.heap.size by omega)).trans k2) ((hW.cell (p := ⟨w.heap.size + 1, 1, none⟩) (show w.heap.size + 1 < W1.heap.size by omega)).trans k3))
  clear hb1 ho hba g0 g1 g2 HMA0 HO1 hGl
  subst hG
  go_wp2_with fail
  go_region_held3 (fun w' => w'.cell? ⟨w.heap.size, 0, none⟩ = some (.int .i64 L) ∧ w'.cell? ⟨w.heap.size, 1, none⟩ = some (.int .i64 S) ∧ w'.cell? ⟨w.heap.size + 1, 0, none⟩ = some (.int .i64 b0) ∧ w'.cell? ⟨w.heap.size + 1, 1, none⟩ = some (.int .i64 b1)) (first | exact ⟨k0, k1, k2, k3⟩ | ((first | (simp [go_sem, k0, k1, k2, k3]; done) | simp [go_sem, k0, k1, k2, k3, ↓IntWalk.iteOmega]); done)) (first | (go_at_call 86; (with_reducible refine (HMA.out _ (by (repeat' (first | with_reducible exact Below.refl _ _ | (with_reducible refine below_later_of ?_ ?_ _) | (with_reducible refine Below.alloc ?_ ?_ _) | (with_reducible refine Below.setCell ?_ ?_ _) | (with_reducible refine Below.drew ?_) | (simp; done) | (simp; omega) | omega)))).mono ?_); rintro e w' ⟨a2, c2, rfl, ho, -, hb⟩; have HO2 := Lib.hid ho; clear ho; have HB9 := Lib.hid hb; obtain ⟨p2, rfl⟩ := later_of_below hb; clear hb) | (go_at_call 80; (with_reducible refine (HFO.out _ _ _ HO2.out (by (repeat' (first | with_reducible exact Below.refl _ _ | (with_reducible refine below_later_of ?_ ?_ _) | (with_reducible refine Below.alloc ?_ ?_ _) | (with_reducible refine Below.setCell ?_ ?_ _) | (with_reducible refine Below.drew ?_) | (simp; done) | (simp; omega) | omega)))).mono ?_); rintro e w' ⟨a4, c4, rfl, ho, hcp, hb⟩; have HO4 := Lib.hid ho; have HC4 := Lib.hid hcp; clear ho hcp; obtain ⟨p4, rfl⟩ := later_of_below hb; clear hb))
  all_goals
    go_wp2
    refine bodyPost_ret ?_ rfl ⟨a4, c4, rfl, OwnS.mono (OwnS.set (OwnS.set (OwnS.set HO4.out ?_ _) ?_ _) ?_ _) ?_, HC4.out, (by (repeat' (first | exact HB1.out | with_reducible exact Below.refl _ _ | (with_reducible refine below_later_of ?_ ?_ _) | (with_reducible refine Below.alloc ?_ ?_ _) | (with_reducible refine Below.setCell ?_ ?_ _) | (with_reducible refine Below.drew ?_) | (simp; done) | (simp; omega) | omega)))⟩
    · first | (simp [results, Try.results31, go_sem, r0, r1, r2]; done) | simp [results, Try.results31, go_sem, r0, r1, r2, ↓IntWalk.iteOmega]
    all_goals first | omega | (simp <;> omega)
set_option maxRecDepth 20000 in
set_option maxHeartbeats 4000000 in
theorem looked_large (L S n b0 b1 L' S' : Nat) (cap : Nat) (f : Nat → Nat × Nat) (a : Option Addr) (w : World) (hd : FldAt w L S n f a) (hw : Wide64 n f) (hl : n ≤ 100000) (he : (fldE L S n f).2 = 0) (hb0 : 1 ≤ b0 ∧ b0 ≤ L) (hb1 : 1 ≤ b1 ∧ b1 ≤ S) (hL' : L / b0 = L') (hS' : S / b1 = S') (hc : anyL (L' * S') (lookF (xD f) (yD f) S b0 b1 S') = true) :
    Calls Try.prog 31 #[.agg #[.int .i64 L, .int .i64 S, .slice a n cap], .agg #[.int .i64 b0, .int .i64 b1]] w fun e w' => e = .returned (.tuple #[.agg #[.int .i64 0, .int .i64 0, .slice none 0 0], .int .i64 8]) ∧ Below w.heap.size w w' := by
  have HFE := Lib.hid (show ∀ W, Below w.heap.size w W → _ from fun W hW => fFieldErr L S n cap f a W (by omega) (hd.below hW) hw he)
  obtain ⟨s1, g1⟩ := fldE_zero he
  obtain ⟨⟨hL1, hL⟩, ⟨hS1, hS⟩, hn⟩ := sizeE_okU s1
  have hnn : n = L * S := by exact_mod_cast hn
  obtain ⟨b, off, rfl, hbw, hf⟩ := hd s1
  have hX : SmallD n f (xD f) (yD f) 1000000000 := smallD_of hw g1
  have hL1 : 1 ≤ L := by omega
  have hL : L ≤ 64 := by omega
  have hS1 : 1 ≤ S := by omega
  have hS : S ≤ 64 := by omega
  have H1 := Lib.hid (show inE 1 L b0 = true from inE_iff.2 (by omega))
  have H2 := Lib.hid (show inE 1 S b1 = true from inE_iff.2 (by omega))
  have HN0 := Lib.hid (show 0 < n by rw [hnn]; exact Nat.mul_pos (by omega) (by omega))
  have HM1 := Lib.hid (show SmallP n (partsF (xD f) (yD f)) 1000000000 from fun k hk => by
    obtain ⟨-, h1, h2⟩ := hX k hk
    unfold partsF
    dsimp only
    omega)
  have HNO := Lib.hid (show ∀ W, Below w.heap.size w W → _ from fun W hW => fNumbersOf L S n cap b off f (xD f) (yD f) W hnn hL1 hL hS1 hS (by have := hW.size; omega) (hf.below hbw hW) hX)
  have HMA0 := Lib.hid (look_map (L := L) (S := S) (b0 := b0) (b1 := b1) hnn HN0.out hL hS HM1.out hL' hS')
  have hm0 : 0 < L' * S' := by rw [← hL', ← hS']; exact Nat.mul_pos (Nat.div_pos hb0.2 hb0.1) (Nat.div_pos hb1.2 hb1.1)
  have hm5 : L' * S' ≤ 5000 := by
    have h1 := Nat.div_le_self L b0
    have h2 := Nat.div_le_self S b1
    have := Nat.mul_le_mul (show L' ≤ 64 by omega) (show S' ≤ 64 by omega)
    omega
  have t1 : (L : Int).tdiv (b0 : Int) = (L' : Int) := by rw [← hL', Int.tdiv_eq_ediv_of_nonneg (by omega)]; rfl
  have t2 : (S : Int).tdiv (b1 : Int) = (S' : Int) := by rw [← hS', Int.tdiv_eq_ediv_of_nonneg (by omega)]; rfl
  have z1 : ¬ b0 = 0 := by omega
  have z2 : ¬ b1 = 0 := by omega
  have hLx : L' ≤ 64 := by rw [← hL']; exact Nat.le_trans (Nat.div_le_self _ _) hL
  have hSx : S' ≤ 64 := by rw [← hS']; exact Nat.le_trans (Nat.div_le_self _ _) hS
  have tw1 : IntKind.i64.wrap (L' : Int) = (L' : Int) := IntWalk.i64_in _ (by omega)
  have tw2 : IntKind.i64.wrap (S' : Int) = (S' : Int) := IntWalk.i64_in _ (by omega)
  obtain ⟨b01, b02⟩ := hb0
  obtain ⟨b11, b12⟩ := hb1
  have HFO := Lib.hid (field_large (L := L') (S := S') hm0 hm5 hc)
  clear hd hw he s1 g1 hn hnn hf hX hc hL' hS' hm0
  generalize xD f = X at *
  generalize yD f = Y at *
  go_enter Try.func31, Try.ntmps31
  go_wp2_with (first | (go_at_call 83; (with_reducible refine (HFE.out _ (by (repeat' (first | with_reducible exact Below.refl _ _ | (with_reducible refine below_later_of ?_ ?_ _) | (with_reducible refine Below.alloc ?_ ?_ _) | (with_reducible refine Below.setCell ?_ ?_ _) | (with_reducible refine Below.drew ?_) | (simp; done) | (simp; omega) | omega)))).mono ?_); rintro e w' ⟨rfl, hb⟩; obtain ⟨pe, rfl⟩ := later_of_below hb; clear hb) | (go_at_call 84; (with_reducible refine (fWithin _ _ _ _ H1.out).mono ?_); rintro e w' ⟨rfl, rfl⟩) | (go_at_call 84; (with_reducible refine (fWithin _ _ _ _ H2.out).mono ?_); rintro e w' ⟨rfl, rfl⟩) | (go_at_call 85; (with_reducible refine (HNO.out _ (by (repeat' (first | with_reducible exact Below.refl _ _ | (with_reducible refine below_later_of ?_ ?_ _) | (with_reducible refine Below.alloc ?_ ?_ _) | (with_reducible refine Below.setCell ?_ ?_ _) | (with_reducible refine Below.drew ?_) | (simp; done) | (simp; omega) | omega)))).mono ?_); rintro e w' ⟨a1, c1, rfl, ho, -, hb⟩; have HO1 := Lib.hid ho; clear ho; obtain ⟨p1, rfl⟩ := later_of_below hb; clear hb))
  obtain ⟨G, hG⟩ : ∃ G, G = w.heap.size + 1 + 1 + 1 + pe.os.size + p1.os.size := ⟨_, rfl⟩
  refine any_worldF (fun w' => (w'.cell? ⟨w.heap.size, 0, none⟩ = some (.int .i64 L) ∧ w'.cell? ⟨w.heap.size, 1, none⟩ = some (.int .i64 S) ∧ w'.cell? ⟨w.heap.size + 1, 0, none⟩ = some (.int .i64 b0) ∧ w'.cell? ⟨w.heap.size + 1, 1, none⟩ = some (.int .i64 b1)) ∧ (w'.cell? ⟨G, 0, none⟩ = some (.int .i64 L) ∧ w'.cell? ⟨G, 1, none⟩ = some (.int .i64 S) ∧ w'.cell? ⟨G, 2, none⟩ = some (.slice a1 n c1)) ∧ (∃ B Wa, OwnPr B Wa n (partsF X Y) a1 ∧ Below Wa.heap.size Wa w') ∧ (w'.cell? ⟨w.heap.size + 2, 0, none⟩ = some (.int .i64 0) ∧ w'.cell? ⟨w.heap.size + 2, 1, none⟩ = some (.int .i64 0) ∧ w'.cell? ⟨w.heap.size + 2, 2, none⟩ = some (.slice none 0 0) ∧ w'.frozen? ⟨w.heap.size + 2, 0, none⟩ = false ∧ w'.frozen? ⟨w.heap.size + 2, 1, none⟩ = false ∧ w'.frozen? ⟨w.heap.size + 2, 2, none⟩ = false) ∧ Below w.heap.size w w' ∧ w.heap.size + 2 < w'.heap.size ∧ G < w'.heap.size) ⟨⟨(by (first | (simp [go_sem]; done) | simp [go_sem, ↓IntWalk.iteOmega])), (by (first | (simp [go_sem]; done) | simp [go_sem, ↓IntWalk.iteOmega])), (by (first | (simp [go_sem]; done) | simp [go_sem, ↓IntWalk.iteOmega])), (by (first | (simp [go_sem]; done) | simp [go_sem, ↓IntWalk.iteOmega]))⟩, ⟨alloc_cell5 (by simp [hG]) rfl, alloc_cell5 (by simp [hG]) rfl, alloc_cell5 (by simp [hG]) rfl⟩, ⟨_, _, HO1.out, (by (repeat' (first | with_reducible exact Below.refl _ _ | (with_reducible refine below_later_of ?_ ?_ _) | (with_reducible refine Below.alloc ?_ ?_ _) | (with_reducible refine Below.setCell ?_ ?_ _) | (with_reducible refine Below.drew ?_) | (simp; done) | (simp; omega) | omega)))⟩, ⟨(by (first | (simp [go_sem]; done) | simp [go_sem, ↓IntWalk.iteOmega])), (by (first | (simp [go_sem]; done) | simp [go_sem, ↓IntWalk.iteOmega])), (by (first | (simp [go_sem]; done) | simp [go_sem, ↓IntWalk.iteOmega])), (by (first | (simp [go_sem]; done) | simp [go_sem, ↓IntWalk.iteOmega])), (by (first | (simp [go_sem]; done) | simp [go_sem, ↓IntWalk.iteOmega])), (by (first | (simp [go_sem]; done) | simp [go_sem, ↓IntWalk.iteOmega]))⟩, (by (repeat' (first | with_reducible exact Below.refl _ _ | (with_reducible refine below_later_of ?_ ?_ _) | (with_reducible refine Below.alloc ?_ ?_ _) | (with_reducible refine Below.setCell ?_ ?_ _) | (with_reducible refine Below.drew ?_) | (simp; done) | (simp; omega) | omega))), by simp; omega, by simp; omega⟩ ?_
  rintro W1 ⟨⟨k0, k1, k2, k3⟩, ⟨g0, g1, g2⟩, ⟨B, Wa, ho, hba⟩, ⟨r0, r1, r2, f0, f1, f2⟩, hb1, hlt1, hGl⟩
  have HB1 := Lib.hid hb1
  have hs1 := hb1.size
  have HMA := Lib.hid (show ∀ W, Below W1.heap.size W1 W → _ from fun W hW => HMA0.out W a1 c1 G (w.heap.size + 1) ho (hba.trans (hW.mono hba.size)) ((hW.cell (p := ⟨G, 0, none⟩) hGl).trans g0) ((hW.cell (p := ⟨G, 1, none⟩) hGl).trans g1) ((hW.cell (p := ⟨G, 2, none⟩) hGl).trans g2) ((hW.cell (p := ⟨w.heap.size + 1, 0, none⟩) (show w.heap.size + 1 < W1.heap.size by omega)).trans k2) ((hW.cell (p := ⟨w.heap.size + 1, 1, none⟩) (show w.heap.size + 1 < W1.heap.size by omega)).trans k3))
  clear hb1 ho hba g0 g1 g2 HMA0 HO1 hGl
  subst hG
  go_wp2_with fail
  go_region_held3 (fun w' => w'.cell? ⟨w.heap.size, 0, none⟩ = some (.int .i64 L) ∧ w'.cell? ⟨w.heap.size, 1, none⟩ = some (.int .i64 S) ∧ w'.cell? ⟨w.heap.size + 1, 0, none⟩ = some (.int .i64 b0) ∧ w'.cell? ⟨w.heap.size + 1, 1, none⟩ = some (.int .i64 b1)) (first | exact ⟨k0, k1, k2, k3⟩ | ((first | (simp [go_sem, k0, k1, k2, k3]; done) | simp [go_sem, k0, k1, k2, k3, ↓IntWalk.iteOmega]); done)) (first | (go_at_call 86; (with_reducible refine (HMA.out _ (by (repeat' (first | with_reducible exact Below.refl _ _ | (with_reducible refine below_later_of ?_ ?_ _) | (with_reducible refine Below.alloc ?_ ?_ _) | (with_reducible refine Below.setCell ?_ ?_ _) | (with_reducible refine Below.drew ?_) | (simp; done) | (simp; omega) | omega)))).mono ?_); rintro e w' ⟨a2, c2, rfl, ho, -, hb⟩; have HO2 := Lib.hid ho; clear ho; have HB9 := Lib.hid hb; obtain ⟨p2, rfl⟩ := later_of_below hb; clear hb) | (go_at_call 80; (with_reducible refine (HFO.out _ _ _ HO2.out (by (repeat' (first | with_reducible exact Below.refl _ _ | (with_reducible refine below_later_of ?_ ?_ _) | (with_reducible refine Below.alloc ?_ ?_ _) | (with_reducible refine Below.setCell ?_ ?_ _) | (with_reducible refine Below.drew ?_) | (simp; done) | (simp; omega) | omega)))).mono ?_); rintro e w' ⟨rfl, hb⟩; obtain ⟨p4, rfl⟩ := later_of_below hb; clear hb))
  all_goals
    go_wp2
    refine bodyPost_ret ?_ rfl ⟨rfl, (by (repeat' (first | exact HB1.out | with_reducible exact Below.refl _ _ | (with_reducible refine below_later_of ?_ ?_ _) | (with_reducible refine Below.alloc ?_ ?_ _) | (with_reducible refine Below.setCell ?_ ?_ _) | (with_reducible refine Below.drew ?_) | (simp; done) | (simp; omega) | omega)))⟩
    first | (simp [results, Try.results31, go_sem, r0, r1, r2]; done) | simp [results, Try.results31, go_sem, r0, r1, r2, ↓IntWalk.iteOmega]
end Go.Proofs.Ytcmjlfhnibjofaa

/- Chapter 4: the reference's Looked. -/
namespace Go.Proofs.Ytcmjlfhnibjofaa
set_option linter.unusedVariables false
set_option linter.unusedSimpArgs false
open Go.RowKit Ieee Ntt
theorem winW_of {G : Nat → Int} {l0 le s0 se S : Nat} {p : Int} {c d : Nat} (h : winW G S s0 d l0 c = p) (h1 : le - l0 = c) (h2 : se - s0 = d) : winW G S s0 (se - s0) l0 (le - l0) = p := by rw [h1, h2]; exact h
end Go.Proofs.Ytcmjlfhnibjofaa

/- Chapter 4: looks of looks, and what both Looked say. -/
namespace Go.Proofs.Ytcmjlfhnibjofaa
set_option linter.unusedVariables false
set_option linter.unusedSimpArgs false
open Go.RowKit Ieee Ntt
theorem winW_cols (G : Nat → Int) (S a b k1 k2 : Nat) : ∀ m, winW G S a (k1 + k2) b m = winW G S a k1 b m + winW G S (a + k1) k2 b m
  | 0 => rfl
  | m + 1 => by
    rw [winW_succ, winW_succ, winW_succ, winW_cols G S a b k1 k2 m]
    have : rowW G S (b + m) a (k1 + k2) = rowW G S (b + m) a k1 + rowW G S (b + m) (a + k1) k2 := sumN_add _ _ _ _
    omega
theorem winW_rows (G : Nat → Int) (S a k b m1 m2 : Nat) : winW G S a k b (m1 + m2) = winW G S a k b m1 + winW G S a k (b + m1) m2 := sumN_add _ _ _ _
theorem winW_none (G : Nat → Int) (S a b : Nat) : ∀ m, winW G S a 0 b m = 0
  | 0 => rfl
  | m + 1 => by rw [winW_succ, winW_none G S a b m]; rfl
theorem row_blocks (G : Nat → Int) (S b1 B b0 q : Nat) : ∀ k, sumN (fun c => winW G S (c * b1) b1 B b0) q k = winW G S (q * b1) (k * b1) B b0
  | 0 => by rw [Nat.zero_mul, winW_none]; rfl
  | k + 1 => by
    rw [sumN, row_blocks G S b1 B b0 q k, Nat.add_mul k 1 b1, Nat.one_mul, winW_cols, ← Nat.add_mul]
theorem col_blocks (G : Nat → Int) (S A K b0 q : Nat) : ∀ m, sumN (fun a => winW G S A K (a * b0) b0) q m = winW G S A K (q * b0) (m * b0)
  | 0 => by rw [Nat.zero_mul]; rfl
  | m + 1 => by
    rw [sumN, col_blocks G S A K b0 q m, Nat.add_mul m 1 b0, Nat.one_mul, winW_rows, ← Nat.add_mul]
theorem win_win {X X2 : Nat → Int} {S S' b0 b1 l s m0 m1 : Nat} (h : ∀ r c, c < S' → X2 (r * S' + c) = winW X S (c * b1) b1 (r * b0) b0) (hs : s * m1 + m1 ≤ S') :
    winW X2 S' (s * m1) m1 (l * m0) m0 = winW X S (s * (b1 * m1)) (b1 * m1) (l * (b0 * m0)) (b0 * m0) := by
  have e1 : ∀ r, rowW X2 S' r (s * m1) m1 = winW X S (s * m1 * b1) (m1 * b1) (r * b0) b0 := fun r => by
    rw [← row_blocks]
    unfold rowW
    exact sumN_congr fun j hj => h r _ (by omega)
  have e2 : winW X2 S' (s * m1) m1 (l * m0) m0 = sumN (fun r => winW X S (s * m1 * b1) (m1 * b1) (r * b0) b0) (l * m0) m0 := by
    unfold winW
    exact sumN_congr fun j _ => e1 _
  rw [e2, col_blocks, Nat.mul_assoc s m1 b1, Nat.mul_assoc l m0 b0, Nat.mul_comm m1 b1, Nat.mul_comm m0 b0]
theorem look_look {X Y : Nat → Int} {S b0 b1 m0 m1 L2 i : Nat} (hi : i < L2 * (S / b1 / m1)) :
    lookF (fun j => (lookF X Y S b0 b1 (S / b1) j).1) (fun j => (lookF X Y S b0 b1 (S / b1) j).2) (S / b1) m0 m1 (S / b1 / m1) i = lookF X Y S (b0 * m0) (b1 * m1) (S / b1 / m1) i := by
  have hpos : 0 < S / b1 / m1 := Nat.pos_of_ne_zero (by intro h; rw [h] at hi; simp at hi)
  have hs := blk_le (Nat.mod_lt i hpos)
  have e : ∀ r c, c < S / b1 → lookF X Y S b0 b1 (S / b1) (r * (S / b1) + c) = (winW X S (c * b1) b1 (r * b0) b0, winW Y S (c * b1) b1 (r * b0) b0) := fun r c hc => by
    have e1 : (r * (S / b1) + c) / (S / b1) = r := by rw [Nat.mul_comm, Nat.mul_add_div (by omega), Nat.div_eq_of_lt hc, Nat.add_zero]
    have e2 : (r * (S / b1) + c) % (S / b1) = c := by rw [Nat.mul_comm, Nat.mul_add_mod, Nat.mod_eq_of_lt hc]
    unfold lookF
    rw [e1, e2]
  unfold lookF
  rw [win_win (X := X) (X2 := fun j => (winW X S (j % (S / b1) * b1) b1 (j / (S / b1) * b0) b0, winW Y S (j % (S / b1) * b1) b1 (j / (S / b1) * b0) b0).1) (fun r c hc => by have := e r c hc; unfold lookF at this; rw [this]) hs,
    win_win (X := Y) (X2 := fun j => (winW X S (j % (S / b1) * b1) b1 (j / (S / b1) * b0) b0, winW Y S (j % (S / b1) * b1) b1 (j / (S / b1) * b0) b0).2) (fun r c hc => by have := e r c hc; unfold lookF at this; rw [this]) hs]
theorem anyL_congr {n : Nat} {F G : Nat → Int × Int} (h : ∀ i, i < n → F i = G i) : anyL n F = anyL n G := by
  rcases (show anyL n G = false ∨ anyL n G = true by cases anyL n G <;> simp) with h0 | h0
  · rw [h0]
    refine anyL_no fun j hj => ?_
    rw [h j hj]
    unfold anyL at h0
    rw [List.any_eq_false] at h0
    simpa using h0 j (List.mem_range.2 hj)
  · rw [h0]
    unfold anyL at h0
    rw [List.any_eq_true] at h0
    obtain ⟨k, hk, h1⟩ := h0
    have hk := List.mem_range.1 hk
    exact anyL_hit hk (by rw [h k hk]; exact h1)
theorem partD_f64 (x y m : Int) (hx : x.natAbs < 2 ^ 53) (hy : y.natAbs < 2 ^ 53) : partD (f64I x) (f64I y) m = if inE (-m) m x && inE (-m) m y then 0 else 2 := by
  obtain ⟨a1, a2⟩ := intD_of (f64I_num hx)
  obtain ⟨b1, b2⟩ := intD_of (f64I_num hy)
  unfold partD
  rw [a1, b1, a2, b2]
  rfl
/-- What Looked says of a field. -/
def lkL (L b : Int) : Nat := L.toNat / b.toNat
def lkF (f : Nat → Nat × Nat) (S b0 b1 : Int) : Nat → Int × Int := lookF (xD f) (yD f) S.toNat b0.toNat b1.toNat (lkL S b1)
def lkE (L S : Int) (n : Nat) (f : Nat → Nat × Nat) (b0 b1 : Int) : Int :=
  if (fldE L S n f).2 = 0 then (if inE 1 L b0 && inE 1 S b1 then (if anyL (lkL L b0 * lkL S b1) (lkF f S b0 b1) then 8 else 0) else 2) else (fldE L S n f).2
theorem lkE_zero {L S : Int} {n : Nat} {f : Nat → Nat × Nat} {b0 b1 : Int} (h : lkE L S n f b0 b1 = 0) : (fldE L S n f).2 = 0 ∧ (1 ≤ b0 ∧ b0 ≤ L) ∧ (1 ≤ b1 ∧ b1 ≤ S) ∧ anyL (lkL L b0 * lkL S b1) (lkF f S b0 b1) = false := by
  unfold lkE at h
  split at h
  · rename_i h0
    split at h
    · rename_i h1
      rw [Bool.and_eq_true] at h1
      split at h
      · exact absurd h (by decide)
      · rename_i h2
        exact ⟨h0, inE_iff.1 h1.1, inE_iff.1 h1.2, by simpa using h2⟩
    · exact absurd h (by decide)
  · rename_i h0
    exact absurd h h0
/-- The size of a field and the numbers of its blocks, as naturals. -/
theorem lk_nat {L S : Int} {n : Nat} {f : Nat → Nat × Nat} (h : (fldE L S n f).2 = 0) : ∃ Ln Sn : Nat, L = Ln ∧ S = Sn ∧ n = Ln * Sn ∧ (1 ≤ Ln ∧ Ln ≤ 64) ∧ 1 ≤ Sn ∧ Sn ≤ 64 := by
  obtain ⟨s1, g1⟩ := fldE_zero h
  obtain ⟨⟨hL1, hL⟩, ⟨hS1, hS⟩, hn⟩ := sizeE_okU s1
  refine ⟨L.toNat, S.toNat, by omega, by omega, ?_, by omega, by omega, by omega⟩
  have h1 : ((L.toNat * S.toNat : Nat) : Int) = L * S := by rw [Int.natCast_mul, Int.toNat_of_nonneg (by omega), Int.toNat_of_nonneg (by omega)]
  omega
def LkBad (E : Int) (w : World) (e : Ending) (w' : World) : Prop := e = .returned (.tuple #[.agg #[.int .i64 0, .int .i64 0, .slice none 0 0], .int .i64 E]) ∧ Below w.heap.size w w'
theorem look_err {L S : Int} {n : Nat} {f : Nat → Nat × Nat} {b0 b1 E : Int} (hl : n ≤ 100000) (hw : Wide64 n f) (hE : lkE L S n f b0 b1 = E) (h0 : E ≠ 0) (W : World) (a : Option Addr) (cap : Nat) (hd : FldAt W L S n f a) :
    Calls Try.prog 31 #[.agg #[.int .i64 L, .int .i64 S, .slice a n cap], .agg #[.int .i64 b0, .int .i64 b1]] W (LkBad E W) := by
  by_cases hf : (fldE L S n f).2 = 0
  · rcases (show (inE 1 L b0 && inE 1 S b1) = false ∨ (inE 1 L b0 && inE 1 S b1) = true by cases (inE 1 L b0 && inE 1 S b1) <;> simp) with hb | hb
    · obtain rfl : E = 2 := by rw [← hE]; unfold lkE; rw [if_pos hf, hb]; rfl
      exact looked_range L S n cap f a b0 b1 W hl hd hw hf hb
    · have hb2 := Bool.and_eq_true _ _ ▸ hb
      obtain ⟨q1, q2⟩ := inE_iff.1 hb2.1
      obtain ⟨q3, q4⟩ := inE_iff.1 hb2.2
      obtain ⟨Ln, Sn, rfl, rfl, hn, ⟨l1, l2⟩, s1, s2⟩ := lk_nat hf
      obtain ⟨c0, rfl⟩ : ∃ m : Nat, b0 = m := ⟨b0.toNat, by omega⟩
      obtain ⟨c1, rfl⟩ : ∃ m : Nat, b1 = m := ⟨b1.toNat, by omega⟩
      rcases (show anyL (lkL Ln c0 * lkL Sn c1) (lkF f Sn c0 c1) = false ∨ anyL (lkL Ln c0 * lkL Sn c1) (lkF f Sn c0 c1) = true by cases anyL (lkL Ln c0 * lkL Sn c1) (lkF f Sn c0 c1) <;> simp) with hc | hc
      · exact absurd (by rw [← hE]; unfold lkE; rw [if_pos hf, hb, hc]; rfl) h0
      · obtain rfl : E = 8 := by rw [← hE]; unfold lkE; rw [if_pos hf, hb, hc]; rfl
        exact looked_large Ln Sn n c0 c1 _ _ cap f a W hd hw hl hf (by omega) (by omega) rfl rfl hc
  · obtain rfl : E = (fldE L S n f).2 := by rw [← hE]; unfold lkE; rw [if_neg hf]
    exact looked_bad L S n cap f a b0 b1 W hl hd hw rfl hf
theorem look_fine {L S : Int} {n : Nat} {f : Nat → Nat × Nat} {b0 b1 : Int} (hl : n ≤ 100000) (hw : Wide64 n f) (hE : lkE L S n f b0 b1 = 0) (W : World) (a : Option Addr) (cap : Nat) (hd : FldAt W L S n f a) :
    Calls Try.prog 31 #[.agg #[.int .i64 L, .int .i64 S, .slice a n cap], .agg #[.int .i64 b0, .int .i64 b1]] W (FdPost4 (lkL L b0) (lkL S b1) (lkL L b0 * lkL S b1) (nmF (lkF f S b0 b1)) W) := by
  obtain ⟨hf, ⟨q1, q2⟩, ⟨q3, q4⟩, hc⟩ := lkE_zero hE
  obtain ⟨Ln, Sn, rfl, rfl, hn, ⟨l1, l2⟩, s1, s2⟩ := lk_nat hf
  obtain ⟨c0, rfl⟩ : ∃ m : Nat, b0 = m := ⟨b0.toNat, by omega⟩
  obtain ⟨c1, rfl⟩ : ∃ m : Nat, b1 = m := ⟨b1.toNat, by omega⟩
  exact looked_ok Ln Sn n c0 c1 _ _ cap f a W hd hw hl hf (by omega) (by omega) rfl rfl hc
/-- Looks of looks. -/
theorem lk_next {L S : Int} {n : Nat} {f : Nat → Nat × Nat} {b0 b1 m0 m1 : Int} (hE : lkE L S n f b0 b1 = 0) (h0 : inE 1 (lkL L b0) m0 = true) (h1 : inE 1 (lkL S b1) m1 = true) :
    lkE (lkL L b0) (lkL S b1) (lkL L b0 * lkL S b1) (nmF (lkF f S b0 b1)) m0 m1 = lkE L S n f (b0 * m0) (b1 * m1) ∧ lkL (lkL L b0) m0 = lkL L (b0 * m0) ∧ lkL (lkL S b1) m1 = lkL S (b1 * m1) ∧
    (∀ i, i < lkL (lkL L b0) m0 * lkL (lkL S b1) m1 → nmF (lkF (nmF (lkF f S b0 b1)) (lkL S b1) m0 m1) i = nmF (lkF f S (b0 * m0) (b1 * m1)) i) ∧ (1 ≤ b0 ∧ b0 ≤ 64) ∧ (1 ≤ b1 ∧ b1 ≤ 64) ∧ (1 ≤ m0 ∧ m0 ≤ 64) ∧ (1 ≤ m1 ∧ m1 ≤ 64) := by
  obtain ⟨hf, ⟨q1, q2⟩, ⟨q3, q4⟩, hc⟩ := lkE_zero hE
  obtain ⟨Ln, Sn, rfl, rfl, hn, ⟨l1, l2⟩, s1, s2⟩ := lk_nat hf
  obtain ⟨c0, rfl⟩ : ∃ m : Nat, b0 = m := ⟨b0.toNat, by omega⟩
  obtain ⟨c1, rfl⟩ : ∃ m : Nat, b1 = m := ⟨b1.toNat, by omega⟩
  obtain ⟨r1, r2⟩ := inE_iff.1 h0
  obtain ⟨r3, r4⟩ := inE_iff.1 h1
  obtain ⟨d0, rfl⟩ : ∃ m : Nat, m0 = m := ⟨m0.toNat, by omega⟩
  obtain ⟨d1, rfl⟩ : ∃ m : Nat, m1 = m := ⟨m1.toNat, by omega⟩
  have el : lkL (Ln : Int) c0 = Ln / c0 := rfl
  have es : lkL (Sn : Int) c1 = Sn / c1 := rfl
  have em0 : ((c0 : Int) * d0) = ((c0 * d0 : Nat) : Int) := by rw [Int.natCast_mul]
  have em1 : ((c1 : Int) * d1) = ((c1 * d1 : Nat) : Int) := by rw [Int.natCast_mul]
  rw [em0, em1]
  have k1 : lkL (lkL (Ln : Int) c0) d0 = Ln / c0 / d0 := rfl
  have k2 : lkL (lkL (Sn : Int) c1) d1 = Sn / c1 / d1 := rfl
  have k3 : lkL (Ln : Int) ((c0 * d0 : Nat) : Int) = Ln / (c0 * d0) := rfl
  have k4 : lkL (Sn : Int) ((c1 * d1 : Nat) : Int) = Sn / (c1 * d1) := rfl
  have k5 : Ln / c0 / d0 = Ln / (c0 * d0) := Nat.div_div_eq_div_mul _ _ _
  have k6 : Sn / c1 / d1 = Sn / (c1 * d1) := Nat.div_div_eq_div_mul _ _ _
  simp only [el, es] at r2 r4 h0 h1 hc k1 k2 ⊢
  have b1 : Ln / c0 ≤ 64 := Nat.le_trans (Nat.div_le_self _ _) l2
  have b2 : Sn / c1 ≤ 64 := Nat.le_trans (Nat.div_le_self _ _) s2
  have hsm := anyL_off hc
  have hnum : ∀ k, k < Ln / c0 * (Sn / c1) → xD (nmF (lkF f Sn c0 c1)) k = (lkF f Sn c0 c1 k).1 ∧ yD (nmF (lkF f Sn c0 c1)) k = (lkF f Sn c0 c1 k).2 := fun k hk => by
    obtain ⟨⟨p1, p2⟩, p3, p4⟩ := hsm k hk
    exact ⟨(intD_of (f64I_num (by omega))).2, (intD_of (f64I_num (by omega))).2⟩
  have hfl : (fldE (Ln / c0 : Nat) (Sn / c1 : Nat) (Ln / c0 * (Sn / c1)) (nmF (lkF f Sn c0 c1))).2 = 0 := by
    have hz : sizeE ((Ln / c0 : Nat) : Int) ((Sn / c1 : Nat) : Int) ((Ln / c0 * (Sn / c1) : Nat) : Int) = 0 := by
      unfold sizeE
      rw [if_pos (by rw [Bool.and_eq_true]; exact ⟨inE_iff.2 (by omega), inE_iff.2 (by omega)⟩), if_pos (by rw [Int.natCast_mul])]
    unfold fldE
    rw [if_pos hz, firstE_ok fun k hk => ?_]
    obtain ⟨⟨p1, p2⟩, p3, p4⟩ := hsm k hk
    unfold gD nmF
    rw [partD_f64 _ _ _ (by omega) (by omega), if_pos (by rw [Bool.and_eq_true]; exact ⟨inE_iff.2 (by omega), inE_iff.2 (by omega)⟩)]
  have hF : ∀ i, i < Ln / c0 / d0 * (Sn / c1 / d1) → lkF (nmF (lkF f Sn c0 c1)) (Sn / c1 : Nat) d0 d1 i = lkF f Sn ((c0 * d0 : Nat) : Int) ((c1 * d1 : Nat) : Int) i := fun i hi => by
    have h2 := look_look (X := xD f) (Y := yD f) (S := Sn) (b0 := c0) (b1 := c1) (m0 := d0) (m1 := d1) hi
    have e3 : lkF f Sn ((c0 * d0 : Nat) : Int) ((c1 * d1 : Nat) : Int) i = lookF (xD f) (yD f) Sn (c0 * d0) (c1 * d1) (Sn / c1 / d1) i := by rw [k6]; rfl
    rw [e3, ← h2]
    have hpos : 0 < Sn / c1 / d1 := Nat.pos_of_ne_zero (by intro h; rw [h] at hi; simp at hi)
    have hll : i / (Sn / c1 / d1) < Ln / c0 / d0 := Nat.div_lt_of_lt_mul (by rw [Nat.mul_comm]; exact hi)
    have hs := blk_le (Nat.mod_lt i hpos)
    have hlb := blk_le hll
    show lookF (xD (nmF (lkF f Sn c0 c1))) (yD (nmF (lkF f Sn c0 c1))) (Sn / c1) d0 d1 (Sn / c1 / d1) i = _
    have hin : ∀ r c, r < d0 → c < d1 → (i / (Sn / c1 / d1) * d0 + r) * (Sn / c1) + (i % (Sn / c1 / d1) * d1 + c) < Ln / c0 * (Sn / c1) := fun r c hr hc => by
      have h1 : (i / (Sn / c1 / d1) * d0 + r + 1) * (Sn / c1) ≤ Ln / c0 * (Sn / c1) := Nat.mul_le_mul_right _ (by omega)
      rw [Nat.add_mul _ 1, Nat.one_mul] at h1
      omega
    unfold lookF
    congr 1
    · unfold winW
      refine sumN_congr fun r hr => ?_
      unfold rowW
      exact sumN_congr fun c hc => (hnum _ (hin r c hr hc)).1
    · unfold winW
      refine sumN_congr fun r hr => ?_
      unfold rowW
      exact sumN_congr fun c hc => (hnum _ (hin r c hr hc)).2
  have hg0 : inE 1 (Ln : Int) ((c0 * d0 : Nat) : Int) = true := by
    have h3 : c0 * d0 ≤ c0 * (Ln / c0) := Nat.mul_le_mul_left _ (by omega)
    have h4 := Nat.mul_div_le Ln c0
    have h5 : 1 ≤ c0 * d0 := Nat.mul_pos (by omega) (by omega)
    exact inE_iff.2 (by omega)
  have hg1 : inE 1 (Sn : Int) ((c1 * d1 : Nat) : Int) = true := by
    have h3 : c1 * d1 ≤ c1 * (Sn / c1) := Nat.mul_le_mul_left _ (by omega)
    have h4 := Nat.mul_div_le Sn c1
    have h5 : 1 ≤ c1 * d1 := Nat.mul_pos (by omega) (by omega)
    exact inE_iff.2 (by omega)
  refine ⟨?_, by rw [k3, ← k5]; rfl, by rw [k4, ← k6]; rfl, fun i hi => ?_, by omega, by omega, by omega, by omega⟩
  · unfold lkE
    rw [if_pos hfl, if_pos hf, h0, h1, hg0, hg1, k3, k4, ← k5, ← k6]
    show (if anyL (Ln / c0 / d0 * (Sn / c1 / d1)) _ = true then (8 : Int) else 0) = if anyL (Ln / c0 / d0 * (Sn / c1 / d1)) _ = true then 8 else 0
    rw [anyL_congr hF]
  · unfold nmF
    have := hF i hi
    unfold nmF at this
    rw [this]
end Go.Proofs.Ytcmjlfhnibjofaa
