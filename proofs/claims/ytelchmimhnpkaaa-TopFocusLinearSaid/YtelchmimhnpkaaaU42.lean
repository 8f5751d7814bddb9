/- Chapter 1: the sums of Focus. -/
import Derived.Test.YtelchmimhnpkaaaU41
namespace Go.Proofs.Ytelchmimhnpkaaa
set_option linter.unusedVariables false
open Go.RowKit Ieee Ntt
def reF (X Y U V : Nat → Int) (S l s K : Nat) : Int := sum K fun k => X ((l + k) * S + s) * U k + Y ((l + k) * S + s) * V k
def imF (X Y U V : Nat → Int) (S l s K : Nat) : Int := sum K fun k => Y ((l + k) * S + s) * U k - X ((l + k) * S + s) * V k
theorem reF_succ (X Y U V : Nat → Int) (S l s K : Nat) : reF X Y U V S l s (K + 1) = reF X Y U V S l s K + (X ((l + K) * S + s) * U K + Y ((l + K) * S + s) * V K) := rfl
theorem imF_succ (X Y U V : Nat → Int) (S l s K : Nat) : imF X Y U V S l s (K + 1) = imF X Y U V S l s K + (Y ((l + K) * S + s) * U K - X ((l + K) * S + s) * V K) := rfl
/-- One step of a sum: product and sum as the walk meets them; for the numbers of a field. -/
theorem step_cnum2 {a b c d e g sa sb : Nat} {x y u v s t : Int} (hz : CNum a b x y) (hc : CNum c d u v) (hs : BNum sa sb s t) (x1 : -1000000000 ≤ x ∧ x ≤ 1000000000) (y1 : -1000000000 ≤ y ∧ y ≤ 1000000000) (u1 : -3 ≤ u ∧ u ≤ 3) (v1 : -3 ≤ v ∧ v ≤ 3) (s1 : -1000000000000 ≤ s ∧ s ≤ 1000000000000) (t1 : -1000000000000 ≤ t ∧ t ≤ 1000000000000) (he : e = c) (hg : g = Op.negFloat .f64 d) :
    ∃ p q re im, cMulBits a b e g = some (p, q) ∧ cSumBits .add .f64 sa sb p q = some (re, im) ∧ BNum re im (s + (x * u + y * v)) (t + (y * u - x * v)) := by
  subst he hg
  have hn : CNum e (Op.negFloat .f64 d) u (-v) := ⟨hc.re, neg_num hc.lb hc.im, hc.la, by
    obtain ⟨sg, r, hr, rfl⟩ := word_of hc.lb
    rw [neg_word sg hr]
    unfold Format.word
    have : double.signWeight = 2 ^ 63 := rfl
    split <;> omega⟩
  have m1 := mul_bd2 (x := x) (y := u) (A := 1000000000) (B := 3) x1 u1
  have m2 := mul_bd2 (x := y) (y := -v) (A := 1000000000) (B := 3) y1 (by omega)
  have m3 := mul_bd2 (x := x) (y := -v) (A := 1000000000) (B := 3) x1 (by omega)
  have m4 := mul_bd2 (x := y) (y := u) (A := 1000000000) (B := 3) y1 u1
  simp only [Int.reduceMul] at m1 m2 m3 m4
  obtain ⟨p, q, h1, h2⟩ := cmul_num hz hn 3000000000 (by decide) m1 m2 m3 m4
  obtain ⟨re, im, h3, h4⟩ := cadd_canon hs h2 (by omega) (by omega)
  refine ⟨p, q, re, im, h1, h3, ?_⟩
  have e1 : s + (x * u - y * -v) = s + (x * u + y * v) := by grind
  have e2 : t + (x * -v + y * u) = t + (y * u - x * v) := by grind
  rwa [e1, e2] at h4
/-- The numbers of a focused field: S of them in a line. -/
def DOkF (X Y U V : Nat → Int) (S C : Nat) (D : List (Nat × Nat)) : Prop := ∀ i z, D[i]? = some z → BNum z.1 z.2 (reF X Y U V S (i / S) (i % S) C) (imF X Y U V S (i / S) (i % S) C)
theorem DOkF.snoc {X Y U V : Nat → Int} {S C l s re im : Nat} {D : List (Nat × Nat)} (h : DOkF X Y U V S C D) (hs : s < S) (hl : D.length = l * S + s) (hz : BNum re im (reF X Y U V S l s C) (imF X Y U V S l s C)) : DOkF X Y U V S C (D ++ [(re, im)]) := fun i z hi => by
  rcases Nat.lt_or_ge i D.length with c | c
  · rw [List.getElem?_append_left c] at hi
    exact h i z hi
  · rw [List.getElem?_append_right c] at hi
    have e : i = D.length := by
      rcases Nat.eq_or_lt_of_le c with c | c
      · exact c.symm
      · rw [List.getElem?_eq_none (by simp; omega)] at hi; cases hi
    subst e
    simp at hi
    subst hi
    have e1 : D.length / S = l := by rw [hl, Nat.mul_comm, Nat.mul_add_div (by omega), Nat.div_eq_of_lt hs, Nat.add_zero]
    have e2 : D.length % S = s := by rw [hl, Nat.mul_comm, Nat.mul_add_mod, Nat.mod_eq_of_lt hs]
    rw [e1, e2]
    exact hz
theorem idx_lt {l k L C L0 S s n : Nat} (hL : L + C = L0 + 1) (hl : l < L) (hk : k < C) (hs : s < S) (hn : n = L0 * S) : (l + k) * S + s < n := by
  have h1 : (l + k + 1) * S ≤ L0 * S := Nat.mul_le_mul_right _ (by omega)
  rw [Nat.add_mul, Nat.one_mul] at h1
  omega
theorem reF_bd {n C L L0 S l s k : Nat} {f fc : Nat → Nat × Nat} {X Y U V : Nat → Int} (hX : SmallD n f X Y 1000000000) (hU : SmallS C fc U V 3) (hL : L + C = L0 + 1) (hl : l < L) (hs : s < S) (hn : n = L0 * S) (hk : k ≤ C) (h64 : k ≤ 64) :
    (-1000000000000 ≤ reF X Y U V S l s k ∧ reF X Y U V S l s k ≤ 1000000000000) ∧ -1000000000000 ≤ imF X Y U V S l s k ∧ imF X Y U V S l s k ≤ 1000000000000 := by
  have hb : ∀ j, j < k → (-6000000000 ≤ X ((l + j) * S + s) * U j + Y ((l + j) * S + s) * V j ∧ X ((l + j) * S + s) * U j + Y ((l + j) * S + s) * V j ≤ 6000000000) ∧ -6000000000 ≤ Y ((l + j) * S + s) * U j - X ((l + j) * S + s) * V j ∧ Y ((l + j) * S + s) * U j - X ((l + j) * S + s) * V j ≤ 6000000000 := fun j hj => by
    obtain ⟨-, x1, y1⟩ := hX ((l + j) * S + s) (idx_lt hL hl (by omega) hs hn)
    obtain ⟨-, u1, v1⟩ := hU j (by omega)
    have m1 := mul_bd2 x1 u1
    have m2 := mul_bd2 y1 v1
    have m3 := mul_bd2 y1 u1
    have m4 := mul_bd2 x1 v1
    simp only [Int.reduceMul] at m1 m2 m3 m4
    omega
  have s1 := sum_bd (n := k) (f := fun j => X ((l + j) * S + s) * U j + Y ((l + j) * S + s) * V j) (B := 6000000000) (fun j hj => (hb j hj).1)
  have s2 := sum_bd (n := k) (f := fun j => Y ((l + j) * S + s) * U j - X ((l + j) * S + s) * V j) (B := 6000000000) (fun j hj => (hb j hj).2)
  unfold reF imF
  omega
set_option maxHeartbeats 1000000 in
theorem focus1 (B b off n cap : Nat) (lines samples : Int) (f : Nat → Nat × Nat) (l s k i : Nat) (w : World) (hi : ImgBlk w B lines samples (some ⟨b, off, none⟩) n cap) (hf : SumsAt w b off n f)
    (h1 : 1 ≤ samples) (h2 : samples ≤ 64) (hl : l ≤ 64) (hs : s ≤ 64) (hk : k ≤ 64) (hx : ((l : Int) + k) * samples + s = (i : Int)) (hn : i < n) :
    Calls Try.prog 71 #[.int .i64 l, .int .i64 s, .int .i64 k, .pointer (some ⟨B, 0, none⟩)] w fun e w' => e = .returned (.complex .f64 (f i).1 (f i).2) ∧ w = w' := by
  obtain ⟨c0, c1, c2⟩ := hi
  have ci := hf i hn
  have hp : 0 ≤ ((l : Int) + k) * samples ∧ ((l : Int) + k) * samples ≤ 8192 := by
    refine ⟨Int.mul_nonneg (by omega) (by omega), ?_⟩
    have := Int.mul_le_mul (show (l : Int) + k ≤ 128 by omega) h2 (by omega) (by decide)
    omega
  obtain ⟨p1, p2⟩ := hp
  clear hf
  go_enter Try.func71, Try.ntmps71
  go_wp2
  go_ret
  exact ⟨rfl, rfl⟩
def FocPost (L S C : Nat) (X Y U V : Nat → Int) (w : World) (e : Ending) (w' : World) : Prop :=
  ∃ a c D, e = .returned (.agg #[.int .i64 L, .int .i64 S, .slice a D.length c]) ∧ D.length = L * S ∧ DOkF X Y U V S C D ∧ FieldAt w' (w.heap.size + 2) a D ∧ Below w.heap.size w w'
set_option maxRecDepth 20000 in
set_option maxHeartbeats 4000000 in
theorem sums_f (L S C L0 : Nat) (B b off n cap cb coff ccap : Nat) (lines : Int) (f fc : Nat → Nat × Nat) (X Y U V : Nat → Int) (w : World) (hL : L + C = L0 + 1) (hC : 1 ≤ C) (hL0 : L0 ≤ 64) (hS : S ≤ 64) (hn : n = L0 * S)
    (hB : B < w.heap.size) (hbw : b < w.heap.size) (hcw : cb < w.heap.size) (hi : ImgBlk w B lines S (some ⟨b, off, none⟩) n cap) (hf : SumsAt w b off n f) (hfc : SamplesAt w cb coff C fc) (hX : SmallD n f X Y 1000000000) (hU : SmallS C fc U V 3) :
    Calls Try.prog 60 #[.int .i64 L, .int .i64 S, .slice (some ⟨cb, coff, none⟩) C ccap, .func (.func 71) #[] #[.pointer (some ⟨B, 0, none⟩)]] w (FocPost L S C X Y U V w) := by
  obtain ⟨i0, hi0, hz0, hz1, hz2⟩ := info_parts infoC
  have HI := Lib.hid hi
  have HF := Lib.hid hf
  have HFC := Lib.hid hfc
  have HX := Lib.hid hX
  have HU := Lib.hid hU
  have HN := Lib.hid hn
  have hs2 : L + C ≤ L0 + 1 := by omega
  have hs3 : L0 + 1 ≤ L + C := by omega
  clear hi hf hfc hX hU hn hL
  go_enter Try.func60, Try.ntmps60
  go_wp2
  refine wp_worldV (fun W => SumSt w L S [] (.slice none 0 0) W) ⟨by simp [go_sem], by simp [go_sem], by simp [go_sem], by simp [go_sem], by simp [go_sem], by simp [go_sem], by simp [go_sem], by simp [go_sem], by simp [go_sem], by simp [go_sem], World.ownsRow_nil _ _ _ _, (by (repeat' (first | with_reducible exact Below.refl _ _ | (with_reducible refine below_later_of ?_ ?_ _) | (with_reducible refine Below.alloc ?_ ?_ _) | (with_reducible refine Below.setCell ?_ ?_ _) | (with_reducible refine Below.drew ?_) | (simp; done) | (simp; omega) | omega))), by simp⟩ ?_
  rintro W2 hst
  have HST := Lib.hid hst
  clear hst
  go_loopw [19] (fun i wr => ∃ (l : Nat) (D : List (Nat × Nat)) (v : Value), l ≤ L ∧ i = .int .i64 l ∧ D.length = l * S ∧ DOkF X Y U V S C D ∧ SumSt w L S D v wr) (fun i _ => L - (intOf i).toNat)
  case atStart => exact ⟨0, [], _, Nat.zero_le _, rfl, by simp, fun i z hi => by simp at hi, HST.out⟩
  case round =>
    obtain ⟨l, D, v, hl, rfl, hD, hok, hst⟩ := hrel
    have HD := Lib.hid hD
    have HOK := Lib.hid hok
    have HS1 := Lib.hid hst
    clear hD hok hst
    by_cases hlt : l < L
    · have hdl : decide ((l : Int) < (L : Int)) = true := by simp; omega
      go_wp2
      go_loopw [23] (fun i wr => ∃ (s : Nat) (D : List (Nat × Nat)) (v : Value), s ≤ S ∧ i = .int .i64 s ∧ D.length = l * S + s ∧ DOkF X Y U V S C D ∧ SumSt w L S D v wr) (fun i _ => S - (intOf i).toNat)
      case atStart => exact ⟨0, D, v, Nat.zero_le _, rfl, HD.out, HOK.out, HS1.out⟩
      case round =>
        obtain ⟨s, D, v, hs, rfl, hD, hok, hst⟩ := hrel
        have HD2 := Lib.hid hD
        have HOK2 := Lib.hid hok
        have HS2 := Lib.hid hst
        clear hD hok
        by_cases hst2 : s < S
        · have hds : decide ((s : Int) < (S : Int)) = true := by simp; omega
          go_wp2
          go_loop [12, 28] (fun z i => ∃ (k re im : Nat), k ≤ C ∧ i = .int .i64 k ∧ z = .complex .f64 re im ∧ BNum re im (reF X Y U V S l s k) (imF X Y U V S l s k)) (fun _ i => C - (intOf i).toNat)
          case atStart => exact ⟨0, 0, 0, Nat.zero_le _, rfl, rfl, zero_bnum⟩
          case round =>
            obtain ⟨k, re, im, hk, rfl, rfl, hz⟩ := hrel
            by_cases hkc : k < C
            · have hdk : decide ((k : Int) < (C : Int)) = true := by simp; omega
              have hin : (l + k) * S + s < n := idx_lt (by omega) hlt hkc hst2 HN.out
              obtain ⟨sx, bx, by'⟩ := HX.out _ hin
              obtain ⟨su, bu, bv⟩ := HU.out _ hkc
              obtain ⟨ca, cb', hcv2, hcn2⟩ := wide_c su
              obtain ⟨b1, b2⟩ := reF_bd (k := k) HX.out HU.out (show L + C = L0 + 1 by omega) hlt hst2 HN.out hk (by omega)
              obtain ⟨p, q, re', im', h1, h2, h3⟩ := step_cnum2 sx hcn2 hz bx by' bu bv b1 b2 rfl rfl
              have HCL := Lib.hid (focus1 B b off n cap lines S f l s k ((l + k) * S + s) wr (HI.out.below hB hst.bel) (HF.out.below hbw hst.bel) (by omega) (by omega) (by omega) (by omega) (by omega) (by rw [Int.natCast_add, Int.natCast_mul, Int.natCast_add]) hin)
              generalize (f ((l + k) * S + s)).1 = za at HCL h1
              generalize (f ((l + k) * S + s)).2 = zb at HCL h1
              have ck := (hst.bel.cell (p := ⟨cb, coff + k, none⟩) hcw).trans (HFC.out k hkc)
              have cw := fun w => run_wide hcv2 w
              have fm := fun w => run_complex_mul (P := Try.prog) w 43 _ _ _ _ p q h1
              have fa := fun w => run_complex_sum (P := Try.prog) w .add (Or.inl rfl) 43 .f64 re im p q re' im' h2
              have H3 := Lib.hid h3
              clear h1 h2 h3 hcv2 hcn2 sx su bx by' bu bv b1 b2 hz hin hst
              go_wp2_with (first | (go_at_call 71; (with_reducible refine (HCL.out).mono ?_); rintro e w' ⟨rfl, rfl⟩) | (go_at_call 100; (with_reducible refine (conj_any _ _ _).mono ?_); rintro e w' ⟨rfl, rfl⟩))
              go_round
              case rel => exact ⟨k + 1, re', im', by omega, by go_num, rfl, by rw [reF_succ, imF_succ]; exact H3.out⟩
              case measure => simp [intOf]; omega
            · obtain rfl : k = C := by omega
              have hdk : decide ((k : Int) < (k : Int)) = false := by simp
              have HZ := Lib.hid hz
              have hlen : D.length ≤ 10000 := by
                have h1 : l * S ≤ 64 * 64 := Nat.mul_le_mul (by omega) hS
                have h2 := HD2.out
                omega
              have hc2 := hst.c2
              have hf2 := hst.f2
              have hlt2 := hst.lt
              clear hst hz
              go_wp2_with (first | (at_builtin; refine wpList_append_own _ rfl _ _ 32 rfl (w.heap.size + 2) 43 i0 (.complex .f64 0 0) 1 16 Try.underlying32 hi0 hz0 hz1 hz2 rfl (by decide) _ _ _ rfl (HS2.out.own.alloc _) ⟨wr.heap.size, 0, none⟩ 1 1 [.complex .f64 re im] rfl rfl ?d1 ?d2 ?d3 ?d4 ?d5 ?_))
              case d2 => first | rfl | (intro u hu; simp at hu; subst hu; rfl)
              case d3 => unfold maxLen; omega
              case d4 => omega
              case d5 => first | omega | (simp; omega)
              intro v' w1 hown' hgrow _
              obtain ⟨g', cc', rfl⟩ := row_slice hown' (by omega)
              have HN2 := Lib.hid (HS2.out.put (re := re) (im := im) hown' hgrow)
              obtain ⟨hcb, hfb⟩ := HS2.out.still hgrow
              clear hown' hgrow hlen
              go_wp2
              go_roundw
              case rel => exact ⟨s + 1, _, _, by omega, by go_num, by rw [List.length_append, HD2.out]; simp; omega, HOK2.out.snoc hst2 HD2.out HZ.out, HN2.out⟩
              case measure => simp [intOf]; omega
        · obtain rfl : s = S := by omega
          have hds : decide ((s : Int) < (s : Int)) = false := by simp
          clear hst
          go_wp2
          go_roundw
          case rel => exact ⟨l + 1, D, v, by omega, by go_num, by rw [HD2.out, Nat.add_mul, Nat.one_mul], HOK2.out, HS2.out⟩
          case measure => simp [intOf]; omega
    · obtain rfl : l = L := by omega
      have hdl : decide ((l : Int) < (l : Int)) = false := by simp
      have hst := HS1.out
      have hown := hst.own
      obtain ⟨a', c', rfl⟩ := own_slice hown
      obtain ⟨e0, e1, e2, -, r0, r1, r2, g0, g1, g2, -, hbel, -⟩ := hst
      have HOW := Lib.hid hown
      have HBE := Lib.hid hbel
      clear hown hbel
      go_wp2
      refine bodyPost_ret ?_ rfl ⟨a', c', D, rfl, HD.out, HOK.out, fieldAt_own (ownsRow_setCell_below (ownsRow_setCell_below (ownsRow_setCell_below HOW.out (by simp) _) (by simp) _) (by simp) _) rfl, HBE.out.trans (by (repeat' (first | with_reducible exact Below.refl _ _ | (with_reducible refine below_later_of ?_ ?_ _) | (with_reducible refine Below.alloc ?_ ?_ _) | (with_reducible refine Below.setCell ?_ ?_ _) | (with_reducible refine Below.drew ?_) | (simp; done) | (simp; omega) | omega)))⟩
      first | (simp [results, Try.results60, go_sem, r0, r1, r2]; done) | simp [results, Try.results60, go_sem, r0, r1, r2, ↓IntWalk.iteOmega]
end Go.Proofs.Ytelchmimhnpkaaa
