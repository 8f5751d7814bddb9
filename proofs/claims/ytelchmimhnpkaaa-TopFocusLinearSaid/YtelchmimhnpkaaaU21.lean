/- Chapter 1: the sums of Compress. -/
import Derived.Test.YtelchmimhnpkaaaU20
namespace Go.Proofs.Ytelchmimhnpkaaa
set_option linter.unusedVariables false
open Go.RowKit Ieee Ntt
def cv (D : List (Nat × Nat)) : List Value := D.map fun z => .complex .f64 z.1 z.2
theorem cv_snoc (D : List (Nat × Nat)) (z : Nat × Nat) : cv (D ++ [z]) = cv D ++ [.complex .f64 z.1 z.2] := by unfold cv; rw [List.map_append]; rfl
/-- The numbers of a field that is summed up: S of them in a line. -/
def DOk (X Y U V : Nat → Int) (S S0 C : Nat) (D : List (Nat × Nat)) : Prop := ∀ i z, D[i]? = some z → BNum z.1 z.2 (reP X Y U V (i / S * S0 + i % S) C) (imP X Y U V (i / S * S0 + i % S) C)
theorem DOk.snoc {X Y U V : Nat → Int} {S S0 C l s re im : Nat} {D : List (Nat × Nat)} (h : DOk X Y U V S S0 C D) (hs : s < S) (hl : D.length = l * S + s) (hz : BNum re im (reP X Y U V (l * S0 + s) C) (imP X Y U V (l * S0 + s) C)) : DOk X Y U V S S0 C (D ++ [(re, im)]) := fun i z hi => by
  rcases Nat.lt_or_ge i D.length with c | c
  · rw [List.getElem?_append_left c] at hi
    exact h i z hi
  · rw [List.getElem?_append_right c] at hi
    have e : i = D.length := by
      rcases Nat.eq_or_lt_of_le c with c | c
      · exact c.symm
      · rw [List.getElem?_eq_none (by simp; omega)] at hi; cases hi
    subst e
    simp at hi
    subst hi
    have e1 : D.length / S = l := by rw [hl, Nat.mul_comm, Nat.mul_add_div (by omega), Nat.div_eq_of_lt hs, Nat.add_zero]
    have e2 : D.length % S = s := by rw [hl, Nat.mul_comm, Nat.mul_add_mod, Nat.mod_eq_of_lt hs]
    rw [e1, e2]
    exact hz
theorem reP_bd {n C i k : Nat} {f fc : Nat → Nat × Nat} {X Y U V : Nat → Int} (hX : SmallS n f X Y 2047) (hU : SmallS C fc U V 3) (hi : i + k ≤ n) (hk : k ≤ C) (h64 : k ≤ 64) :
    (-1000000 ≤ reP X Y U V i k ∧ reP X Y U V i k ≤ 1000000) ∧ -1000000 ≤ imP X Y U V i k ∧ imP X Y U V i k ≤ 1000000 := by
  have hb : ∀ j, j < k → (-12282 ≤ X (i + j) * U j + Y (i + j) * V j ∧ X (i + j) * U j + Y (i + j) * V j ≤ 12282) ∧ -12282 ≤ Y (i + j) * U j - X (i + j) * V j ∧ Y (i + j) * U j - X (i + j) * V j ≤ 12282 := fun j hj => by
    obtain ⟨-, x1, y1⟩ := hX (i + j) (by omega)
    obtain ⟨-, u1, v1⟩ := hU j (by omega)
    have m1 := mul_bd2 x1 u1
    have m2 := mul_bd2 y1 v1
    have m3 := mul_bd2 y1 u1
    have m4 := mul_bd2 x1 v1
    simp only [Int.reduceMul] at m1 m2 m3 m4
    omega
  have s1 := sum_bd (n := k) (f := fun j => X (i + j) * U j + Y (i + j) * V j) (B := 12282) (fun j hj => (hb j hj).1)
  have s2 := sum_bd (n := k) (f := fun j => Y (i + j) * U j - X (i + j) * V j) (B := 12282) (fun j hj => (hb j hj).2)
  unfold reP imP
  omega
theorem infoC : (Try.prog.info? 43).map (fun i => (i.zero, i.size, i.bytes)) = some (some (.complex .f64 0 0), 1, 16) := by kernel_rfl
/-- The field that is summed up, as it lies in memory. -/
structure SumSt (w : World) (L S : Nat) (D : List (Nat × Nat)) (v : Value) (wr : World) : Prop where
  c0 : wr.cell? ⟨w.heap.size + 1, 0, none⟩ = some (.int .i64 L)
  c1 : wr.cell? ⟨w.heap.size + 1, 1, none⟩ = some (.int .i64 S)
  c2 : wr.cell? ⟨w.heap.size + 1, 2, none⟩ = some v
  f2 : wr.frozen? ⟨w.heap.size + 1, 2, none⟩ = false
  r0 : wr.cell? ⟨w.heap.size, 0, none⟩ = some (.int .i64 0)
  r1 : wr.cell? ⟨w.heap.size, 1, none⟩ = some (.int .i64 0)
  r2 : wr.cell? ⟨w.heap.size, 2, none⟩ = some (.slice none 0 0)
  g0 : wr.frozen? ⟨w.heap.size, 0, none⟩ = false
  g1 : wr.frozen? ⟨w.heap.size, 1, none⟩ = false
  g2 : wr.frozen? ⟨w.heap.size, 2, none⟩ = false
  own : wr.ownsRow (w.heap.size + 2) 43 1 v D.length (cv D)
  bel : Below w.heap.size w wr
  lt : w.heap.size + 1 < wr.heap.size
theorem SumSt.still {w wr w1 : World} {L S : Nat} {D : List (Nat × Nat)} {v : Value} {o : Obj} (h : SumSt w L S D v wr) (hg : (wr.alloc o).grownBy w1 v.ownBlock) :
    w1.cell? ⟨w.heap.size + 1, 2, none⟩ = some v ∧ w1.frozen? ⟨w.heap.size + 1, 2, none⟩ = false := by
  have hlt := h.lt
  have hb1 : Below (w.heap.size + 2) wr w1 := (((Below.refl (w.heap.size + 2) wr).alloc (by omega) o)).grown hg (by simp; omega) (fun g hg => (h.own.lt g hg).1)
  exact ⟨(hb1.cell (p := ⟨w.heap.size + 1, 2, none⟩) (Nat.lt_succ_self _)).trans h.c2, (hb1.frozen (p := ⟨w.heap.size + 1, 2, none⟩) (Nat.lt_succ_self _)).trans h.f2⟩
theorem SumSt.put {w wr w1 : World} {L S re im : Nat} {D : List (Nat × Nat)} {v v' : Value} {o : Obj} (h : SumSt w L S D v wr)
    (ho : w1.ownsRow (w.heap.size + 2) 43 1 v' (D.length + 1) (cv D ++ [.complex .f64 re im])) (hg : (wr.alloc o).grownBy w1 v.ownBlock) : SumSt w L S (D ++ [(re, im)]) v' (w1.setCell ⟨w.heap.size + 1, 2, none⟩ v') := by
  have hlt := h.lt
  have hb1 : Below (w.heap.size + 2) wr w1 := (((Below.refl (w.heap.size + 2) wr).alloc (by omega) o)).grown hg (by simp; omega) (fun g hg => (h.own.lt g hg).1)
  have hsz := hb1.size
  have q : ∀ j, w1.cell? ⟨w.heap.size + 1, j, none⟩ = wr.cell? ⟨w.heap.size + 1, j, none⟩ := fun j => hb1.cell (p := ⟨w.heap.size + 1, j, none⟩) (Nat.lt_succ_self _)
  have q2 : ∀ j, w1.frozen? ⟨w.heap.size + 1, j, none⟩ = wr.frozen? ⟨w.heap.size + 1, j, none⟩ := fun j => hb1.frozen (p := ⟨w.heap.size + 1, j, none⟩) (Nat.lt_succ_self _)
  have r : ∀ j, w1.cell? ⟨w.heap.size, j, none⟩ = wr.cell? ⟨w.heap.size, j, none⟩ := fun j => hb1.cell (p := ⟨w.heap.size, j, none⟩) (show w.heap.size < w.heap.size + 2 by omega)
  have r2 : ∀ j, w1.frozen? ⟨w.heap.size, j, none⟩ = wr.frozen? ⟨w.heap.size, j, none⟩ := fun j => hb1.frozen (p := ⟨w.heap.size, j, none⟩) (show w.heap.size < w.heap.size + 2 by omega)
  refine ⟨by simp [go_sem, q, h.c0], by simp [go_sem, q, h.c1], by simp [go_sem, q, h.c2], by simp [go_sem, q2, h.f2], by simp [go_sem, r, h.r0], by simp [go_sem, r, h.r1], by simp [go_sem, r, h.r2], by simp [go_sem, r2, h.g0], by simp [go_sem, r2, h.g1], by simp [go_sem, r2, h.g2], ?_, ?_, by simp; omega⟩
  · rw [cv_snoc, show (D ++ [(re, im)]).length = D.length + 1 by simp]
    exact ownsRow_setCell_below ho (Nat.lt_succ_self _) _
  · exact (h.bel.trans (hb1.mono (by omega))).setCell (p := ⟨w.heap.size + 1, 2, none⟩) (show w.heap.size ≤ w.heap.size + 1 by omega) _
theorem own_slice {w : World} {base : Nat} {e : TypeId} {size n : Nat} {v : Value} {xs : List Value} (h : w.ownsRow base e size v n xs) : ∃ a cap, v = .slice a n cap := by
  obtain ⟨-, ⟨rfl, rfl⟩ | ⟨g, cap, cur, rfl, -⟩⟩ := h
  · exact ⟨none, 0, rfl⟩
  · exact ⟨_, cap, rfl⟩
/-- A field of numbers with whole parts in memory. -/
def FieldAt (W : World) (base : Nat) (a : Option Addr) (D : List (Nat × Nat)) : Prop := 0 < D.length → ∃ g, a = some ⟨g, 0, none⟩ ∧ base ≤ g ∧ g < W.heap.size ∧ ∀ k z, D[k]? = some z → W.cell? ⟨g, k, none⟩ = some (.complex .f64 z.1 z.2)
theorem fieldAt_own {W : World} {base n c : Nat} {a : Option Addr} {D : List (Nat × Nat)} (h : W.ownsRow base 43 1 (.slice a n c) n (cv D)) (hn : n = D.length) : FieldAt W base a D := fun hp => by
  have h0 := h
  obtain ⟨-, ⟨-, h1⟩ | ⟨g, cap, cur, h1, h2, h3, -⟩⟩ := h0
  · omega
  · simp only [Value.slice.injEq, true_and] at h1
    obtain ⟨rfl, rfl⟩ := h1
    refine ⟨g, rfl, h2, (Array.getElem?_eq_some_iff.1 h3).1, fun k z hk => ?_⟩
    have hk2 : k < D.length := (List.getElem?_eq_some_iff.1 hk).1
    rw [h.cellAt k (by omega)]
    unfold cv
    rw [List.getElem?_map, hk]
    rfl
def SumsPost (L S S0 C : Nat) (X Y U V : Nat → Int) (w : World) (e : Ending) (w' : World) : Prop :=
  ∃ a c D, e = .returned (.agg #[.int .i64 L, .int .i64 S, .slice a D.length c]) ∧ D.length = L * S ∧ DOk X Y U V S S0 C D ∧ FieldAt w' (w.heap.size + 2) a D ∧ Below w.heap.size w w'
set_option maxRecDepth 20000 in
set_option maxHeartbeats 4000000 in
theorem sums_c (L S C S0 : Nat) (B b off n cap cb coff ccap : Nat) (lines : Int) (f fc : Nat → Nat × Nat) (X Y U V : Nat → Int) (w : World) (hL : L ≤ 64) (hS : S + C = S0 + 1) (hC : 1 ≤ C) (hS0 : S0 ≤ 64) (hn : n = L * S0)
    (hB : B < w.heap.size) (hbw : b < w.heap.size) (hcw : cb < w.heap.size) (hi : ImgBlk w B lines S0 (some ⟨b, off, none⟩) n cap) (hf : SamplesAt w b off n f) (hfc : SamplesAt w cb coff C fc) (hX : SmallS n f X Y 2047) (hU : SmallS C fc U V 3) :
    Calls Try.prog 60 #[.int .i64 L, .int .i64 S, .slice (some ⟨cb, coff, none⟩) C ccap, .func (.func 61) #[] #[.pointer (some ⟨B, 0, none⟩)]] w (SumsPost L S S0 C X Y U V w) := by
  obtain ⟨i0, hi0, hz0, hz1, hz2⟩ := info_parts infoC
  have HI := Lib.hid hi
  have HF := Lib.hid hf
  have HFC := Lib.hid hfc
  have HX := Lib.hid hX
  have HU := Lib.hid hU
  have HN := Lib.hid hn
  have hs1 : S ≤ 64 := by omega
  have hs2 : S + C ≤ S0 + 1 := by omega
  have hs3 : S0 + 1 ≤ S + C := by omega
  clear hi hf hfc hX hU hn hS
  go_enter Try.func60, Try.ntmps60
  go_wp2
  refine wp_worldV (fun W => SumSt w L S [] (.slice none 0 0) W) ⟨by simp [go_sem], by simp [go_sem], by simp [go_sem], by simp [go_sem], by simp [go_sem], by simp [go_sem], by simp [go_sem], by simp [go_sem], by simp [go_sem], by simp [go_sem], World.ownsRow_nil _ _ _ _, (by (repeat' (first | with_reducible exact Below.refl _ _ | (with_reducible refine below_later_of ?_ ?_ _) | (with_reducible refine Below.alloc ?_ ?_ _) | (with_reducible refine Below.setCell ?_ ?_ _) | (with_reducible refine Below.drew ?_) | (simp; done) | (simp; omega) | omega))), by simp⟩ ?_
  rintro W2 hst
  have HST := Lib.hid hst
  clear hst
  go_loopw [19] (fun i wr => ∃ (l : Nat) (D : List (Nat × Nat)) (v : Value), l ≤ L ∧ i = .int .i64 l ∧ D.length = l * S ∧ DOk X Y U V S S0 C D ∧ SumSt w L S D v wr) (fun i _ => L - (intOf i).toNat)
  case atStart => exact ⟨0, [], _, Nat.zero_le _, rfl, by simp, fun i z hi => by simp at hi, HST.out⟩
  case round =>
    obtain ⟨l, D, v, hl, rfl, hD, hok, hst⟩ := hrel
    have HD := Lib.hid hD
    have HOK := Lib.hid hok
    have HS1 := Lib.hid hst
    clear hD hok hst
    by_cases hlt : l < L
    · have hdl : decide ((l : Int) < (L : Int)) = true := by simp; omega
      go_wp2
      go_loopw [23] (fun i wr => ∃ (s : Nat) (D : List (Nat × Nat)) (v : Value), s ≤ S ∧ i = .int .i64 s ∧ D.length = l * S + s ∧ DOk X Y U V S S0 C D ∧ SumSt w L S D v wr) (fun i _ => S - (intOf i).toNat)
      case atStart => exact ⟨0, D, v, Nat.zero_le _, rfl, HD.out, HOK.out, HS1.out⟩
      case round =>
        obtain ⟨s, D, v, hs, rfl, hD, hok, hst⟩ := hrel
        have HD2 := Lib.hid hD
        have HOK2 := Lib.hid hok
        have HS2 := Lib.hid hst
        clear hD hok
        by_cases hst2 : s < S
        · have hds : decide ((s : Int) < (S : Int)) = true := by simp; omega
          go_wp2
          go_loop [12, 28] (fun z i => ∃ (k re im : Nat), k ≤ C ∧ i = .int .i64 k ∧ z = .complex .f64 re im ∧ BNum re im (reP X Y U V (l * S0 + s) k) (imP X Y U V (l * S0 + s) k)) (fun _ i => C - (intOf i).toNat)
          case atStart => exact ⟨0, 0, 0, Nat.zero_le _, rfl, rfl, zero_bnum⟩
          case round =>
            obtain ⟨k, re, im, hk, rfl, rfl, hz⟩ := hrel
            by_cases hkc : k < C
            · have hdk : decide ((k : Int) < (C : Int)) = true := by simp; omega
              have hin : l * S0 + s + k < n := by
                have h1 : (l + 1) * S0 ≤ L * S0 := Nat.mul_le_mul_right _ hlt
                rw [Nat.add_mul, Nat.one_mul] at h1
                have h2 := HN.out
                omega
              obtain ⟨sx, bx, by'⟩ := HX.out _ hin
              obtain ⟨su, bu, bv⟩ := HU.out _ hkc
              obtain ⟨za, zb, hcv, hcn⟩ := wide_c sx
              obtain ⟨ca, cb', hcv2, hcn2⟩ := wide_c su
              obtain ⟨b1, b2⟩ := reP_bd (k := k) HX.out HU.out (show l * S0 + s + k ≤ n by omega) hk (by omega)
              obtain ⟨p, q, re', im', h1, h2, h3⟩ := step_cnum hcn hcn2 hz bx by' bu bv b1 b2 rfl rfl
              have HCL := Lib.hid (compress1 B b off n cap lines S0 f l s k (l * S0 + s + k) za zb wr (HI.out.below hB hst.bel) (HF.out.below hbw hst.bel) (by omega) (by omega) (by omega) (by omega) (by omega) (by omega) hin hcv)
              have ck := (hst.bel.cell (p := ⟨cb, coff + k, none⟩) hcw).trans (HFC.out k hkc)
              have cw := fun w => run_wide hcv2 w
              have fm := fun w => run_complex_mul (P := Try.prog) w 43 _ _ _ _ p q h1
              have fa := fun w => run_complex_sum (P := Try.prog) w .add (Or.inl rfl) 43 .f64 re im p q re' im' h2
              have H3 := Lib.hid h3
              clear h1 h2 h3 hcv hcv2 hcn hcn2 sx su bx by' bu bv b1 b2 hz hin hst
              go_wp2_with (first | (go_at_call 61; (with_reducible refine (HCL.out).mono ?_); rintro e w' ⟨rfl, rfl⟩) | (go_at_call 100; (with_reducible refine (conj_any _ _ _).mono ?_); rintro e w' ⟨rfl, rfl⟩))
              go_round
              case rel => exact ⟨k + 1, re', im', by omega, by go_num, rfl, by rw [reP_succ, imP_succ]; exact H3.out⟩
              case measure => simp [intOf]; omega
            · obtain rfl : k = C := by omega
              have hdk : decide ((k : Int) < (k : Int)) = false := by simp
              have HZ := Lib.hid hz
              have hlen : D.length ≤ 10000 := by
                have h1 : l * S ≤ 64 * 64 := Nat.mul_le_mul (by omega) hs1
                have h2 := HD2.out
                omega
              have hc2 := hst.c2
              have hf2 := hst.f2
              have hlt2 := hst.lt
              clear hst hz
              go_wp2_with (first | (at_builtin; refine wpList_append_own _ rfl _ _ 32 rfl (w.heap.size + 2) 43 i0 (.complex .f64 0 0) 1 16 Try.underlying32 hi0 hz0 hz1 hz2 rfl (by decide) _ _ _ rfl (HS2.out.own.alloc _) ⟨wr.heap.size, 0, none⟩ 1 1 [.complex .f64 re im] rfl rfl ?d1 ?d2 ?d3 ?d4 ?d5 ?_))
              case d2 => first | rfl | (intro u hu; simp at hu; subst hu; rfl)
              case d3 => unfold maxLen; omega
              case d4 => omega
              case d5 => first | omega | (simp; omega)
              intro v' w1 hown' hgrow _
              obtain ⟨g', cc', rfl⟩ := row_slice hown' (by omega)
              have HN2 := Lib.hid (HS2.out.put (re := re) (im := im) hown' hgrow)
              obtain ⟨hcb, hfb⟩ := HS2.out.still hgrow
              clear hown' hgrow hlen
              go_wp2
              go_roundw
              case rel => exact ⟨s + 1, _, _, by omega, by go_num, by rw [List.length_append, HD2.out]; simp; omega, HOK2.out.snoc hst2 HD2.out HZ.out, HN2.out⟩
              case measure => simp [intOf]; omega
        · obtain rfl : s = S := by omega
          have hds : decide ((s : Int) < (s : Int)) = false := by simp
          clear hst
          go_wp2
          go_roundw
          case rel => exact ⟨l + 1, D, v, by omega, by go_num, by rw [HD2.out, Nat.add_mul, Nat.one_mul], HOK2.out, HS2.out⟩
          case measure => simp [intOf]; omega
    · obtain rfl : l = L := by omega
      have hdl : decide ((l : Int) < (l : Int)) = false := by simp
      have hst := HS1.out
      have hown := hst.own
      obtain ⟨a', c', rfl⟩ := own_slice hown
      obtain ⟨e0, e1, e2, -, r0, r1, r2, g0, g1, g2, -, hbel, -⟩ := hst
      have HOW := Lib.hid hown
      have HBE := Lib.hid hbel
      clear hown hbel
      go_wp2
      refine bodyPost_ret ?_ rfl ⟨a', c', D, rfl, HD.out, HOK.out, fieldAt_own (ownsRow_setCell_below (ownsRow_setCell_below (ownsRow_setCell_below HOW.out (by simp) _) (by simp) _) (by simp) _) rfl, HBE.out.trans (by (repeat' (first | with_reducible exact Below.refl _ _ | (with_reducible refine below_later_of ?_ ?_ _) | (with_reducible refine Below.alloc ?_ ?_ _) | (with_reducible refine Below.setCell ?_ ?_ _) | (with_reducible refine Below.drew ?_) | (simp; done) | (simp; omega) | omega)))⟩
      first | (simp [results, Try.results60, go_sem, r0, r1, r2]; done) | simp [results, Try.results60, go_sem, r0, r1, r2, ↓IntWalk.iteOmega]
end Go.Proofs.Ytelchmimhnpkaaa
