/- Chapter 4: the reference's Interfere. -/
import Derived.Test.YtkoiknmijjiicaaGreatDoorXE
import Derived.Test.YtkoiknmijjiicaaGreatDoorZH
namespace Go.Proofs.YtkoiknmijjiicaaGreatDoor
set_option linter.unusedVariables false
set_option linter.unusedSimpArgs false
open Go.RowKit Ieee Ntt
set_option maxHeartbeats 1000000 in
theorem r4Times (x y u v : Int) (w : World) (hx : -1000000000 ≤ x ∧ x ≤ 1000000000) (hy : -1000000000 ≤ y ∧ y ≤ 1000000000) (hu : -1000000000 ≤ u ∧ u ≤ 1000000000) (hv : -1000000000 ≤ v ∧ v ≤ 1000000000) :
    Calls Tryz.prog 95 #[.int .i64 x, .int .i64 y, .int .i64 u, .int .i64 v] w fun e w' => e = .returned (.tuple #[.int .i64 (x * u + y * v), .int .i64 (y * u - x * v)]) ∧ w = w' := by
  have m1 := mul_bd2 (x := x) (y := u) (A := 1000000000) (B := 1000000000) hx hu
  have m2 := mul_bd2 (x := y) (y := v) (A := 1000000000) (B := 1000000000) hy hv
  have m3 := mul_bd2 (x := y) (y := u) (A := 1000000000) (B := 1000000000) hy hu
  have m4 := mul_bd2 (x := x) (y := v) (A := 1000000000) (B := 1000000000) hx hv
  simp only [Int.reduceMul] at m1 m2 m3 m4
  obtain ⟨p1, p2⟩ := m1
  obtain ⟨p3, p4⟩ := m2
  obtain ⟨p5, p6⟩ := m3
  obtain ⟨p7, p8⟩ := m4
  go_enter Tryz.func95, Tryz.ntmps95
  go_wp2
  go_ret2
  exact ⟨rfl, rfl⟩
/-- A field that the reference returns. -/
def RfPost (L S n : Nat) (f : Nat → Nat × Nat) (w : World) (e : Ending) (w' : World) : Prop :=
  ∃ a c, e = .returned (.agg #[.int .i64 L, .int .i64 S, .slice a n c]) ∧ OwnS w' w.heap.size n f a ∧ n ≤ c ∧ Below w.heap.size w w'
theorem sNum_flI4 {a b : Nat} {x y : Int} (h : SNum a b x y) : FlI .f32 72 a x ∧ FlI .f32 72 b y := by
  obtain ⟨h1, h2, h3, h4⟩ := h
  exact ⟨flI_single h1 (by omega) (by omega), flI_single h2 (by omega) (by omega)⟩
set_option maxRecDepth 20000 in
set_option maxHeartbeats 8000000 in
theorem rInterfere (L S : Nat) (n cap cap' b off b' off' : Nat) (f f' : Nat → Nat × Nat) (w : World) (L' S' : Int) (hn : n ≤ 5000) (hbw : b < w.heap.size) (hbw' : b' < w.heap.size) (hf : SamplesAt w b off n f) (hf' : SamplesAt w b' off' n f') (hX : SmallS n f (xB f) (yB f) 2047) (hU : SmallS n f' (xB f') (yB f') 2047) :
    Calls Tryz.prog 48 #[.agg #[.int .i64 L, .int .i64 S, .slice (some ⟨b, off, none⟩) n cap], .agg #[.int .i64 L', .int .i64 S', .slice (some ⟨b', off', none⟩) n cap']] w (RfPost L S n (nmF (intfF (xB f) (yB f) (xB f') (yB f'))) w) := by
  obtain ⟨i0, hi0, hz0, hz1, hz2⟩ := info_parts infoC
  have HF := Lib.hid hf
  have HF' := Lib.hid hf'
  have HX := Lib.hid hX
  have HU := Lib.hid hU
  generalize xB f = X at *
  generalize yB f = Y at *
  generalize xB f' = U at *
  generalize yB f' = V at *
  obtain ⟨G, hG⟩ : ∃ G, G = intfF X Y U V := ⟨_, rfl⟩
  have HG := Lib.hid (show ∀ k, G k = (X k * U k + Y k * V k, Y k * U k - X k * V k) from fun k => by rw [hG]; rfl)
  rw [← hG]
  clear hf hf' hX hU hG
  go_enter Tryz.func48, Tryz.ntmps48
  go_wp2
  refine any_worldF (fun W => ∃ W1, Below w.heap.size w W1 ∧ W1.heap.size = w.heap.size + 2 ∧ (W1.cell? ⟨w.heap.size, 2, none⟩ = some (.slice (some ⟨b, off, none⟩) n cap) ∧ W1.cell? ⟨w.heap.size + 1, 2, none⟩ = some (.slice (some ⟨b', off', none⟩) n cap')) ∧ TriN W1 (w.heap.size + 2) (w.heap.size + 3) L S 78 1 (.slice none 0 0) 0 (cvF (nmF G) 0) W)
    ⟨(w.alloc (.cells #[.int .i64 L, .int .i64 S, .slice (some ⟨b, off, none⟩) n cap] 34)).alloc (.cells #[.int .i64 L', .int .i64 S', .slice (some ⟨b', off', none⟩) n cap'] 34), (by (repeat' (first | with_reducible exact Below.refl _ _ | (with_reducible refine below_later_of ?_ ?_ _) | (with_reducible refine Below.alloc ?_ ?_ _) | (with_reducible refine Below.setCell ?_ ?_ _) | (with_reducible refine Below.drew ?_) | (simp; done) | (simp; omega) | omega))), by simp, ⟨by simp [go_sem], by simp [go_sem]⟩, by simp [go_sem], by simp [go_sem], by simp [go_sem], by simp [go_sem], by simp [go_sem], by simp [go_sem], by simp [go_sem], by simp [go_sem], by simp [go_sem], by simp [go_sem], World.ownsRow_nil _ _ _ _, (by (repeat' (first | with_reducible exact Below.refl _ _ | (with_reducible refine below_later_of ?_ ?_ _) | (with_reducible refine Below.alloc ?_ ?_ _) | (with_reducible refine Below.setCell ?_ ?_ _) | (with_reducible refine Below.drew ?_) | (simp; done) | (simp; omega) | omega))), by simp, by omega⟩ ?_
  rintro W2 ⟨W1, hb1, hsz1, ⟨q1, q2⟩, hst⟩
  have HST := Lib.hid hst
  have HB1 := Lib.hid hb1
  have Q1 := Lib.hid q1
  have Q2 := Lib.hid q2
  clear hst hb1 q1 q2
  go_wp2
  go_loopw [6] (fun i wr => ∃ (k : Nat) (v : Value), k ≤ n ∧ i = .int .i64 k ∧ TriN W1 (w.heap.size + 2) (w.heap.size + 3) L S 78 1 v k (cvF (nmF G) k) wr) (fun i _ => n - (intOf i).toNat)
  case atStart => exact ⟨0, _, Nat.zero_le _, rfl, HST.out⟩
  case round =>
    obtain ⟨k, v, hk, rfl, hst⟩ := hrel
    have HS2 := Lib.hid hst
    have k1 := (hst.bel.cell (p := ⟨w.heap.size, 2, none⟩) (show w.heap.size < w.heap.size + 2 by omega)).trans Q1.out
    have k2 := (hst.bel.cell (p := ⟨w.heap.size + 1, 2, none⟩) (show w.heap.size + 1 < w.heap.size + 2 by omega)).trans Q2.out
    by_cases hlt : k < n
    · have hdk : decide ((k : Int) < (n : Int)) = true := by simp; omega
      have hk0 : (0 : Int) ≤ (k : Int) := by omega
      have hk1 : (k : Int) < (n : Int) := by omega
      have x1 := (hst.bel.cell (p := ⟨b, off + k, none⟩) (show b < w.heap.size + 2 by omega)).trans ((HB1.out.cell (p := ⟨b, off + k, none⟩) hbw).trans (HF.out k hlt))
      have x2 := (hst.bel.cell (p := ⟨b', off' + k, none⟩) (show b' < w.heap.size + 2 by omega)).trans ((HB1.out.cell (p := ⟨b', off' + k, none⟩) hbw').trans (HF'.out k hlt))
      obtain ⟨sx, ⟨bx1, bx2⟩, by1, by2⟩ := HX.out _ hlt
      obtain ⟨su, ⟨bu1, bu2⟩, bv1, bv2⟩ := HU.out _ hlt
      have HP1 := Lib.hid (fun w => rParts (f k).1 (f k).2 (X k) (Y k) w (sNum_flI4 sx).1 (sNum_flI4 sx).2)
      have HP2 := Lib.hid (fun w => rParts (f' k).1 (f' k).2 (U k) (V k) w (sNum_flI4 su).1 (sNum_flI4 su).2)
      have HTI := Lib.hid (fun w => r4Times (X k) (Y k) (U k) (V k) w (by omega) (by omega) (by omega) (by omega))
      have hGk := HG.out k
      have hnu : nmF G k = (f64I (G k).1, f64I (G k).2) := rfl
      rw [hGk] at hnu
      dsimp only at hnu
      have HSM := Lib.hid (fun w => bSum (X k * U k + Y k * V k) (Y k * U k - X k * V k) w)
      generalize X k * U k + Y k * V k = p at HTI HSM hnu
      generalize Y k * U k - X k * V k = q at HTI HSM hnu
      generalize X k = xx at HP1 HTI
      generalize Y k = yy at HP1 HTI
      generalize U k = uu at HP2 HTI
      generalize V k = vv at HP2 HTI
      obtain ⟨re, hre⟩ : ∃ re, f64I p = re := ⟨_, rfl⟩
      obtain ⟨im, him⟩ : ∃ im, f64I q = im := ⟨_, rfl⟩
      rw [hre, him] at hnu HSM
      have HPN := Lib.hid (show cvF (nmF G) (k + 1) = cvF (nmF G) k ++ [.complex .f64 re im] by rw [cvF_snoc, hnu])
      have HOW2 := Lib.hid hst.own
      have HSN := Lib.hid (show ∀ (g' cc' : Nat) (w1 : World) (o : Obj), w1.ownsRow (w.heap.size + 3 + 1) 78 1 (.slice (some ⟨g', 0, none⟩) (k + 1) cc') (k + 1) (cvF (nmF G) k ++ [.complex .f64 re im]) → (wr.drew.alloc o).grownBy w1 v.ownBlock → TriN W1 (w.heap.size + 2) (w.heap.size + 3) L S 78 1 (.slice (some ⟨g', 0, none⟩) (k + 1) cc') (k + 1) (cvF (nmF G) (k + 1)) (w1.setCell ⟨w.heap.size + 3, 2, none⟩ (.slice (some ⟨g', 0, none⟩) (k + 1) cc')) from fun g' cc' w1 o h1 h2 => by
        rw [HPN.out]
        exact (HS2.out.below (Below.refl _ _).drew).put h1 h2)
      have HSL := Lib.hid (show ∀ (w1 : World) (o : Obj), (wr.drew.alloc o).grownBy w1 v.ownBlock → w1.cell? ⟨w.heap.size + 3, 2, none⟩ = some v ∧ w1.frozen? ⟨w.heap.size + 3, 2, none⟩ = false from fun w1 o h => (HS2.out.below (Below.refl _ _).drew).still h)
      have c2 := hst.c2
      have f2 := hst.f2
      have hltO := hst.lt
      clear hst sx su bx1 bx2 by1 by2 bu1 bu2 bv1 bv2 hGk hnu hre him
      go_wp2_with (first | (go_at_call 93; (with_reducible refine (HP1.out _).mono ?_); rintro e w' ⟨rfl, rfl⟩) | (go_at_call 93; (with_reducible refine (HP2.out _).mono ?_); rintro e w' ⟨rfl, rfl⟩))
      go_region_law (first | (refine step_append_lies _ rfl (.tmp 42) (.tmp 51) 66 rfl (w.heap.size + 3 + 1) 78 i0 (.complex .f64 0 0) 1 16 Tryz.underlying66 hi0 hz0 hz1 hz2 rfl (by decide) v k (cvF (nmF G) k) (by simp [Act.eval, Act.put]) (by first | exact (HOW2.out.alloc _).drew | exact HOW2.out.drew.alloc _) ⟨wr.heap.size, 0, none⟩ 1 1 [.complex .f64 re im] (by simp [Act.eval, Act.put]) rfl (by intro j u hj; rcases j with _ | j; (focus (simp at hj; subst hj; (first | (simp [Addr.add, go_sem]; done) | simp [Addr.add, go_sem, ↓IntWalk.iteOmega]))); (focus (simp at hj))) (by intro u hu; simp at hu; subst hu; rfl) (by decide) (by unfold maxLen; omega) (by omega) (by first | omega | (simp; omega)) _ rfl ?_; intro g' cc' w1 hown' hgrow _ _; have HN2 := Lib.hid (HSN.out _ _ _ _ hown' hgrow); obtain ⟨hcb, hfb⟩ := HSL.out _ _ hgrow; clear hown' hgrow) | (go_simp; (go_at_call 95; (with_reducible refine (HTI.out _).mono ?_); rintro e w' ⟨rfl, rfl⟩)) | (go_simp; (go_at_call 94; (with_reducible refine (HSM.out _).mono ?_); rintro e w' ⟨rfl, rfl⟩)))
      all_goals
        go_wp2
        go_roundw
        case rel => exact ⟨k + 1, _, by omega, by go_num, HN2.out⟩
        case measure => simp [intOf]; omega
    · obtain rfl : k = n := by omega
      have hdk : decide ((k : Int) < (k : Int)) = false := by simp
      obtain ⟨a', c', rfl⟩ := own_slice2 hst.own
      obtain ⟨e0, e1, e2, -, r0, r1, r2, g0, g1, g2, hown, hbel, -, hro⟩ := hst
      have HOW := Lib.hid hown
      have HBE := Lib.hid (HB1.out.trans (hbel.mono (by omega)))
      clear hown hbel
      go_wp2
      refine bodyPost_ret ?_ rfl ⟨a', c', rfl, OwnS.mono (OwnS.set (OwnS.set (OwnS.set (ownS_row HOW.out) ?_ _) ?_ _) ?_ _) ?_, own_cap2 HOW.out, HBE.out.trans (by (repeat' (first | with_reducible exact Below.refl _ _ | (with_reducible refine below_later_of ?_ ?_ _) | (with_reducible refine Below.alloc ?_ ?_ _) | (with_reducible refine Below.setCell ?_ ?_ _) | (with_reducible refine Below.drew ?_) | (simp; done) | (simp; omega) | omega)))⟩
      · first | (simp [results, Tryz.results48, go_sem, r0, r1, r2]; done) | simp [results, Tryz.results48, go_sem, r0, r1, r2, ↓IntWalk.iteOmega]
      all_goals first | omega | (simp <;> omega)
end Go.Proofs.YtkoiknmijjiicaaGreatDoor
