/- Chapter 1: the reference's Compress. -/
import Derived.Test.YtakohhlmomgegaaDoorU78
import Derived.Test.YtakohhlmomgegaaDoorZP
import Derived.Test.YtakohhlmomgegaaDoorU80
import Derived.Deep.AppendLies
import Derived.Deep.RegionLaw
namespace Go.Proofs.YtakohhlmomgegaaDoor
set_option linter.unusedVariables false
set_option linter.unusedSimpArgs false
open Go.RowKit Ieee Ntt
set_option maxHeartbeats 1000000 in
theorem rTimes (x y u v : Int) (w : World) (hx : -1000000000 ≤ x ∧ x ≤ 1000000000) (hy : -1000000000 ≤ y ∧ y ≤ 1000000000) (hu : -1000000000 ≤ u ∧ u ≤ 1000000000) (hv : -1000000000 ≤ v ∧ v ≤ 1000000000) :
    Calls Tryd.prog 85 #[.int .i64 x, .int .i64 y, .int .i64 u, .int .i64 v] w fun e w' => e = .returned (.tuple #[.int .i64 (x * u + y * v), .int .i64 (y * u - x * v)]) ∧ w = w' := by
  have m1 := mul_bd2 (x := x) (y := u) (A := 1000000000) (B := 1000000000) hx hu
  have m2 := mul_bd2 (x := y) (y := v) (A := 1000000000) (B := 1000000000) hy hv
  have m3 := mul_bd2 (x := y) (y := u) (A := 1000000000) (B := 1000000000) hy hu
  have m4 := mul_bd2 (x := x) (y := v) (A := 1000000000) (B := 1000000000) hx hv
  simp only [Int.reduceMul] at m1 m2 m3 m4
  obtain ⟨p1, p2⟩ := m1
  obtain ⟨p3, p4⟩ := m2
  obtain ⟨p5, p6⟩ := m3
  obtain ⟨p7, p8⟩ := m4
  go_enter Tryd.func85, Tryd.ntmps85
  go_wp2
  go_ret2
  exact ⟨rfl, rfl⟩
theorem sNum_flI {a b : Nat} {x y : Int} (h : SNum a b x y) : FlI .f32 118 a x ∧ FlI .f32 118 b y := by
  obtain ⟨h1, h2, h3, h4⟩ := h
  exact ⟨flI_single h1 (by omega) (by omega), flI_single h2 (by omega) (by omega)⟩
/-- A field that is returned with an error, by the bits. -/
def RFld (L S : Int) (n : Nat) (F : Nat → Nat × Nat) (w : World) (e : Ending) (w' : World) : Prop :=
  ∃ a c, e = .returned (.tuple #[.agg #[.int .i64 L, .int .i64 S, .slice a n c], .int .i64 0]) ∧ OwnS w' w.heap.size n F a ∧ Below w.heap.size w w'
set_option maxRecDepth 20000 in
set_option maxHeartbeats 4000000 in
theorem rCompress_ok (L S C S0 : Nat) (b off n cap cb coff ccap : Nat) (f fc : Nat → Nat × Nat) (w : World) (hL : L ≤ 64) (hS : S + C = S0 + 1) (hC : 1 ≤ C) (hS0 : S0 ≤ 64) (hCS : C ≤ S0) (hn : n = L * S0)
    (hbw : b < w.heap.size) (hcw : cb < w.heap.size) (hf : SamplesAt w b off n f) (hfc : SamplesAt w cb coff C fc) (hX : SmallS n f (xB f) (yB f) 2047) (hU : SmallS C fc (xB fc) (yB fc) 3) :
    Calls Tryd.prog 26 #[.agg #[.int .i64 L, .int .i64 S0, .slice (some ⟨b, off, none⟩) n cap], .slice (some ⟨cb, coff, none⟩) C ccap] w (RFld L S (L * S) (compB (xB f) (yB f) (xB fc) (yB fc) S S0 C) w) := by
  obtain ⟨i0, hi0, hz0, hz1, hz2⟩ := info_parts infoC
  have HF := Lib.hid hf
  have HFC := Lib.hid hfc
  have HX := Lib.hid hX
  have HU := Lib.hid hU
  have HN := Lib.hid hn
  have hs1 : S ≤ 64 := by omega
  have hs2 : S + C ≤ S0 + 1 := by omega
  have hs3 : S0 + 1 ≤ S + C := by omega
  have hSi : (S0 : Int) - C + 1 = S := by omega
  have hdC : decide (S0 < C) = false := by simp; omega
  generalize xB f = X at HX ⊢
  generalize yB f = Y at HX ⊢
  generalize xB fc = U at HU ⊢
  generalize yB fc = V at HU ⊢
  obtain ⟨F, hF⟩ : ∃ F, F = compB X Y U V S S0 C := ⟨_, rfl⟩
  have HFF := Lib.hid (show ∀ l s, s < S → F (l * S + s) = (f64I (reP X Y U V (l * S0 + s) C), f64I (imP X Y U V (l * S0 + s) C)) from fun l s hs => by
    rw [hF]
    unfold compB
    rw [Nat.mul_comm l S, Nat.mul_add_div (by omega), Nat.div_eq_of_lt hs, Nat.mul_add_mod, Nat.mod_eq_of_lt hs, Nat.add_zero])
  rw [← hF]
  clear hf hfc hX hU hn hS hF
  go_enter Tryd.func26, Tryd.ntmps26
  go_wp2
  refine wp_worldK (fun W => ∃ W1, Below w.heap.size w W1 ∧ W1.heap.size = w.heap.size + 1 ∧ (W1.cell? ⟨w.heap.size, 1, none⟩ = some (.int .i64 S0) ∧ W1.cell? ⟨w.heap.size, 2, none⟩ = some (.slice (some ⟨b, off, none⟩) n cap)) ∧ TriSt W1 (w.heap.size + 1) (w.heap.size + 1 + 1) L S 49 (.slice none 0 0) (cvF F 0) W)
    ⟨w.alloc (.cells #[.int .i64 L, .int .i64 S0, .slice (some ⟨b, off, none⟩) n cap] 38), (by (repeat' (first | with_reducible exact Below.refl _ _ | (with_reducible refine below_later_of ?_ ?_ _) | (with_reducible refine Below.alloc ?_ ?_ _) | (with_reducible refine Below.setCell ?_ ?_ _) | (with_reducible refine Below.drew ?_) | (simp; done) | (simp; omega) | omega))), by simp, ⟨by simp [go_sem], by simp [go_sem]⟩, by simp [go_sem], by simp [go_sem], by simp [go_sem], by simp [go_sem], by simp [go_sem], by simp [go_sem], by simp [go_sem], by simp [go_sem], by simp [go_sem], by simp [go_sem], World.ownsRow_nil _ _ _ _, (by (repeat' (first | with_reducible exact Below.refl _ _ | (with_reducible refine below_later_of ?_ ?_ _) | (with_reducible refine Below.alloc ?_ ?_ _) | (with_reducible refine Below.setCell ?_ ?_ _) | (with_reducible refine Below.drew ?_) | (simp; done) | (simp; omega) | omega))), by simp, by omega⟩ ?_
  rintro W2 ⟨W1, hb1, hsz1, ⟨q1, q2⟩, hst⟩
  have HST := Lib.hid hst
  have HB1 := Lib.hid hb1
  have Q1 := Lib.hid q1
  have Q2 := Lib.hid q2
  clear hst hb1 q1 q2
  go_loopw [7] (fun i wr => ∃ (l : Nat) (v : Value), l ≤ L ∧ i = .int .i64 l ∧ TriSt W1 (w.heap.size + 1) (w.heap.size + 1 + 1) L S 49 v (cvF F (l * S)) wr) (fun i _ => L - (intOf i).toNat)
  case atStart => exact ⟨0, _, Nat.zero_le _, rfl, by rw [Nat.zero_mul]; exact HST.out⟩
  case round =>
    obtain ⟨l, v, hl, rfl, hst⟩ := hrel
    have HS1 := Lib.hid hst
    have c0 := hst.c0
    by_cases hlt : l < L
    · have hdl : decide ((l : Int) < (L : Int)) = true := by simp; omega
      clear hst
      go_wp2
      go_loopw [8] (fun i wr => ∃ (s : Nat) (v : Value), s ≤ S ∧ i = .int .i64 s ∧ TriSt W1 (w.heap.size + 1) (w.heap.size + 1 + 1) L S 49 v (cvF F (l * S + s)) wr) (fun i _ => S - (intOf i).toNat)
      case atStart => exact ⟨0, v, Nat.zero_le _, rfl, HS1.out⟩
      case round =>
        clear c0
        obtain ⟨s, v, hs, rfl, hst⟩ := hrel
        have HS2 := Lib.hid hst
        have c1 := hst.c1
        by_cases hst2 : s < S
        · have hds : decide ((s : Int) < (S : Int)) = true := by simp; omega
          have k1 := (hst.bel.cell (p := ⟨w.heap.size, 1, none⟩) (Nat.lt_succ_self _)).trans Q1.out
          have k2 := (hst.bel.cell (p := ⟨w.heap.size, 2, none⟩) (Nat.lt_succ_self _)).trans Q2.out
          have HCW := Lib.hid (show ∀ j, j < n → wr.cell? ⟨b, off + j, none⟩ = some (.complex .f32 (f j).1 (f j).2) from fun j hj => (hst.bel.cell (p := ⟨b, off + j, none⟩) (show b < w.heap.size + 1 by omega)).trans ((HB1.out.cell (p := ⟨b, off + j, none⟩) hbw).trans (HF.out j hj)))
          have HCC := Lib.hid (show ∀ j, j < C → wr.cell? ⟨cb, coff + j, none⟩ = some (.complex .f32 (fc j).1 (fc j).2) from fun j hj => (hst.bel.cell (p := ⟨cb, coff + j, none⟩) (show cb < w.heap.size + 1 by omega)).trans ((HB1.out.cell (p := ⟨cb, coff + j, none⟩) hcw).trans (HFC.out j hj)))
          obtain ⟨z1, z2⟩ : (0 : Int) ≤ (l : Int) * (S0 : Int) ∧ (l : Int) * (S0 : Int) ≤ 4096 := ⟨Int.mul_nonneg (by omega) (by omega), by
            have := Int.mul_le_mul (show (l : Int) ≤ 64 by omega) (show (S0 : Int) ≤ 64 by omega) (by omega) (by decide)
            omega⟩
          clear hst
          go_wp2
          go_loop [9, 10, 11] (fun x y i => ∃ k : Nat, k ≤ C ∧ i = .int .i64 k ∧ x = .int .i64 (reP X Y U V (l * S0 + s) k) ∧ y = .int .i64 (imP X Y U V (l * S0 + s) k)) (fun _ _ i => C - (intOf i).toNat)
          case atStart => exact ⟨0, Nat.zero_le _, rfl, rfl, rfl⟩
          case round =>
            obtain ⟨k, hk, rfl, rfl, rfl⟩ := hrel
            by_cases hkc : k < C
            · have hdk : decide ((k : Int) < (C : Int)) = true := by simp; omega
              obtain ⟨j, hj⟩ : ∃ j, l * S0 + s + k = j := ⟨_, rfl⟩
              have hidx : (l : Int) * (S0 : Int) + (s : Int) + (k : Int) = (j : Int) := by rw [← hj, Int.natCast_add, Int.natCast_add, Int.natCast_mul]
              have hin : j < n := by
                have h1 : (l + 1) * S0 ≤ L * S0 := Nat.mul_le_mul_right _ hlt
                rw [Nat.add_mul, Nat.one_mul] at h1
                have h2 := HN.out
                omega
              obtain ⟨sx, ⟨bx1, bx2⟩, by1, by2⟩ := HX.out _ hin
              obtain ⟨su, ⟨bu1, bu2⟩, bv1, bv2⟩ := HU.out _ hkc
              have HP1 := Lib.hid (fun w => rParts (f j).1 (f j).2 (X j) (Y j) w (sNum_flI sx).1 (sNum_flI sx).2)
              have HP2 := Lib.hid (fun w => rParts (fc k).1 (fc k).2 (U k) (V k) w (sNum_flI su).1 (sNum_flI su).2)
              have HTI := Lib.hid (fun w => rTimes (X j) (Y j) (U k) (V k) w (by omega) (by omega) (by omega) (by omega))
              obtain ⟨⟨e1, e2⟩, e3, e4⟩ := reP_bd (k := k) HX.out HU.out (show l * S0 + s + k ≤ n by omega) hk (by omega)
              have m1 := mul_bd2 (x := X j) (y := U k) (A := 2047) (B := 3) ⟨bx1, bx2⟩ ⟨bu1, bu2⟩
              have m2 := mul_bd2 (x := Y j) (y := V k) (A := 2047) (B := 3) ⟨by1, by2⟩ ⟨bv1, bv2⟩
              have m3 := mul_bd2 (x := Y j) (y := U k) (A := 2047) (B := 3) ⟨by1, by2⟩ ⟨bu1, bu2⟩
              have m4 := mul_bd2 (x := X j) (y := V k) (A := 2047) (B := 3) ⟨bx1, bx2⟩ ⟨bv1, bv2⟩
              simp only [Int.reduceMul] at m1 m2 m3 m4
              have ca := HCW.out j hin
              have cc := HCC.out k hkc
              have HRE := Lib.hid (reP_succ X Y U V (l * S0 + s) k)
              have HIM := Lib.hid (imP_succ X Y U V (l * S0 + s) k)
              rw [hj] at HRE HIM
              obtain ⟨p1, p2⟩ : -100000 ≤ X j * U k + Y j * V k ∧ X j * U k + Y j * V k ≤ 100000 := by omega
              obtain ⟨p3, p4⟩ : -100000 ≤ Y j * U k - X j * V k ∧ Y j * U k - X j * V k ≤ 100000 := by omega
              generalize X j * U k + Y j * V k = p at HTI HRE p1 p2
              generalize Y j * U k - X j * V k = q at HTI HIM p3 p4
              generalize reP X Y U V (l * S0 + s) k = re at e1 e2 HRE ⊢
              generalize imP X Y U V (l * S0 + s) k = im at e3 e4 HIM ⊢
              generalize X j = xx at HP1 HTI
              generalize Y j = yy at HP1 HTI
              generalize U k = uu at HP2 HTI
              generalize V k = vv at HP2 HTI
              clear hj sx su bx1 bx2 by1 by2 bu1 bu2 bv1 bv2 m1 m2 m3 m4
              go_wp2_with (first | (go_at_call 84; (with_reducible refine (HP1.out _).mono ?_); rintro e w' ⟨rfl, rfl⟩) | (go_at_call 84; (with_reducible refine (HP2.out _).mono ?_); rintro e w' ⟨rfl, rfl⟩) | (go_at_call 85; (with_reducible refine (HTI.out _).mono ?_); rintro e w' ⟨rfl, rfl⟩))
              go_round
              case rel => exact ⟨k + 1, by omega, by go_num, by rw [HRE.out], by rw [HIM.out]⟩
              case measure => simp [intOf]; omega
            · obtain rfl : k = C := by omega
              have hdk : decide ((k : Int) < (k : Int)) = false := by simp
              have HSM := Lib.hid (fun w => bSum (reP X Y U V (l * S0 + s) k) (imP X Y U V (l * S0 + s) k) w)
              have hfe := HFF.out l s hst2
              obtain ⟨re, hre⟩ : ∃ re, f64I (reP X Y U V (l * S0 + s) k) = re := ⟨_, rfl⟩
              obtain ⟨im, him⟩ : ∃ im, f64I (imP X Y U V (l * S0 + s) k) = im := ⟨_, rfl⟩
              rw [hre, him] at hfe HSM
              have HFE := Lib.hid hfe
              generalize reP X Y U V (l * S0 + s) k = rr at HSM ⊢
              generalize imP X Y U V (l * S0 + s) k = ii at HSM ⊢
              have c2 := HS2.out.c2
              have f2 := HS2.out.f2
              have hown0 := HS2.out.own
              rw [cvF_len] at hown0
              have HOW2 := Lib.hid hown0
              have HSN := Lib.hid (show ∀ (g' cc' : Nat) (w1 : World) (o : Obj), w1.ownsRow (w.heap.size + 1 + 1 + 1) 49 1 (.slice (some ⟨g', 0, none⟩) (l * S + s + 1) cc') (l * S + s + 1) (cvF F (l * S + s) ++ [.complex .f64 re im]) → (wr.drew.alloc o).grownBy w1 v.ownBlock → TriSt W1 (w.heap.size + 1) (w.heap.size + 1 + 1) L S 49 (.slice (some ⟨g', 0, none⟩) (l * S + s + 1) cc') (cvF F (l * S + (s + 1))) (w1.setCell ⟨w.heap.size + 1 + 1, 2, none⟩ (.slice (some ⟨g', 0, none⟩) (l * S + s + 1) cc')) from fun g' cc' w1 o h1 h2 => by
                rw [← Nat.add_assoc, cvF_snoc, hfe]
                exact (HS2.out.below (Below.refl _ _).drew).put (by rw [cvF_len]; exact h1) h2)
              have HSL := Lib.hid (show ∀ (w1 : World) (o : Obj), (wr.drew.alloc o).grownBy w1 v.ownBlock → w1.cell? ⟨w.heap.size + 1 + 1, 2, none⟩ = some v ∧ w1.frozen? ⟨w.heap.size + 1 + 1, 2, none⟩ = false from fun w1 o h => (HS2.out.below (Below.refl _ _).drew).still h)
              have hltO := HS2.out.lt
              have hlen : (l * S + s) ≤ 10000 := by
                have h1 : l * S ≤ 64 * 64 := Nat.mul_le_mul (by omega) hs1
                omega
              clear hfe hre him k1 k2 c1 hown0
              go_wp2_with fail
              go_region_law (first | (refine step_append_lies _ rfl (.tmp 90) (.tmp 94) 32 rfl (w.heap.size + 1 + 1 + 1) 49 i0 (.complex .f64 0 0) 1 16 Tryd.underlying32 hi0 hz0 hz1 hz2 rfl (by decide) v (l * S + s) (cvF F (l * S + s)) (by simp [Act.eval, Act.put]) (by first | exact (HOW2.out.alloc _).drew | exact HOW2.out.drew.alloc _) ⟨wr.heap.size, 0, none⟩ 1 1 [.complex .f64 re im] (by simp [Act.eval, Act.put]) rfl (by intro j u hj; rcases j with _ | j; (focus (simp at hj; subst hj; (first | (simp [Addr.add, go_sem]; done) | simp [Addr.add, go_sem, ↓IntWalk.iteOmega]))); (focus (simp at hj))) (by intro u hu; simp at hu; subst hu; rfl) (by decide) (by unfold maxLen; omega) (by omega) (by first | omega | (simp; omega)) _ rfl ?_; intro g' cc' w1 hown' hgrow _ _; have HN2 := Lib.hid (show TriSt W1 (w.heap.size + 1) (w.heap.size + 1 + 1) L S 49 (.slice (some ⟨g', 0, none⟩) (l * S + s + 1) cc') (cvF F (l * S + (s + 1))) _ from HSN.out _ _ _ _ hown' hgrow); obtain ⟨hcb, hfb⟩ := HSL.out _ _ hgrow; clear hown' hgrow) | (go_simp; (go_at_call 42; (with_reducible refine (HSM.out _).mono ?_); rintro e w' ⟨rfl, rfl⟩)))
              all_goals
                go_wp2
                go_roundw
                case rel => exact ⟨s + 1, _, by omega, by go_num, HN2.out⟩
                case measure => simp [intOf]; omega
        · obtain rfl : s = S := by omega
          have hds : decide ((s : Int) < (s : Int)) = false := by simp
          clear hst
          go_wp2
          go_roundw
          case rel => exact ⟨l + 1, v, by omega, by go_num, by rw [Nat.add_mul, Nat.one_mul]; exact HS2.out⟩
          case measure => simp [intOf]; omega
    · obtain rfl : l = L := by omega
      have hdl : decide ((l : Int) < (l : Int)) = false := by simp
      have hown := hst.own
      rw [cvF_len] at hown
      obtain ⟨a', c', rfl⟩ := own_slice hown
      obtain ⟨e0, e1, e2, -, r0, r1, r2, g0, g1, g2, -, hbel, -, -⟩ := hst
      have HOW := Lib.hid hown
      have HBE := Lib.hid (HB1.out.trans (hbel.mono (by omega)))
      clear hown hbel
      go_wp2
      refine bodyPost_ret ?_ rfl ⟨a', c', rfl, OwnS.mono (OwnS.set (OwnS.set (OwnS.set (ownS_row HOW.out) ?_ _) ?_ _) ?_ _) ?_, HBE.out.trans (by (repeat' (first | with_reducible exact Below.refl _ _ | (with_reducible refine below_later_of ?_ ?_ _) | (with_reducible refine Below.alloc ?_ ?_ _) | (with_reducible refine Below.setCell ?_ ?_ _) | (with_reducible refine Below.drew ?_) | (simp; done) | (simp; omega) | omega)))⟩
      · first | (simp [results, Tryd.results26, go_sem, r0, r1, r2]; done) | simp [results, Tryd.results26, go_sem, r0, r1, r2, ↓IntWalk.iteOmega]
      all_goals first | omega | (simp <;> omega)
set_option maxHeartbeats 1000000 in
theorem rCompress_short (L S0 : Int) (n cap C ccap : Nat) (a ca : Option Addr) (w : World) (h : S0 < C) :
    Calls Tryd.prog 26 #[.agg #[.int .i64 L, .int .i64 S0, .slice a n cap], .slice ca C ccap] w fun e w' => e = .returned (.tuple #[.agg #[.int .i64 0, .int .i64 0, .slice none 0 0], .int .i64 10]) ∧ Below w.heap.size w w' := by
  have hd : decide (S0 < (C : Int)) = true := by simpa using h
  clear h
  go_enter Tryd.func26, Tryd.ntmps26
  go_wp2
  refine bodyPost_ret ?_ rfl ⟨rfl, (by (repeat' (first | with_reducible exact Below.refl _ _ | (with_reducible refine below_later_of ?_ ?_ _) | (with_reducible refine Below.alloc ?_ ?_ _) | (with_reducible refine Below.setCell ?_ ?_ _) | (with_reducible refine Below.drew ?_) | (simp; done) | (simp; omega) | omega)))⟩
  first | (simp [results, Tryd.results26, go_sem]; done) | simp [results, Tryd.results26, go_sem, ↓IntWalk.iteOmega]
end Go.Proofs.YtakohhlmomgegaaDoor
