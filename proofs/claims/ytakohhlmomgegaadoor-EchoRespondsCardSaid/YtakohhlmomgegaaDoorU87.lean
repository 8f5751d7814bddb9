/- Chapter 1: Peak; the reference's Energy, Peak. -/
import Derived.Test.YtakohhlmomgegaaDoorU86
import Derived.Test.YtakohhlmomgegaaDoorU66
import Derived.Deep.RegionHeld3
namespace Go.Proofs.YtakohhlmomgegaaDoor
set_option linter.unusedVariables false
set_option linter.unusedSimpArgs false
open Go.RowKit Ieee Ntt
theorem wp_worldP2 {P : Program} {c : Code} {Q : Exit → Act → World → Prop} {a : Act} {w : World} (F : World → Prop) (hf : F w) (h : ∀ W, F W → Code.wp P c Q a W) : Code.wp P c Q a w := h w hf
set_option maxHeartbeats 1000000 in
theorem peak_bad (L S : Int) (n cap : Nat) (f : Nat → Nat × Nat) (a : Option Addr) (w : World) (hn : n ≤ 100000) (hd : FldAt w L S n f a) (hw : Wide64 n f) {e0 : Int} (he : (fldE L S n f).2 = e0) (h0 : e0 ≠ 0) :
    Calls Tryd.prog 61 #[.agg #[.int .i64 L, .int .i64 S, .slice a n cap]] w fun e w' => e = .returned (.tuple #[.agg #[.int .i64 0, .int .i64 0], .int .i64 0, .int .i64 e0]) ∧ Below w.heap.size w w' := by
  have HIM := Lib.hid (show ∀ W, Below w.heap.size w W → _ from fun W hW => fieldErr_any L S n cap f a W hn (hd.below hW) hw he)
  have hne : (e0 != 0) = true := by simpa using h0
  clear he hd h0
  go_enter Tryd.func61, Tryd.ntmps61
  go_wp2_with (first | (go_at_call 105; (with_reducible refine (HIM.out _ (by (repeat' (first | with_reducible exact Below.refl _ _ | (with_reducible refine below_later_of ?_ ?_ _) | (with_reducible refine Below.alloc ?_ ?_ _) | (with_reducible refine Below.setCell ?_ ?_ _) | (with_reducible refine Below.drew ?_) | (simp; done) | (simp; omega) | omega)))).mono ?_); rintro e w' ⟨rfl, hb⟩; obtain ⟨pp, rfl⟩ := later_of_below hb; clear hb))
  refine bodyPost_ret ?_ rfl ⟨rfl, (by (repeat' (first | with_reducible exact Below.refl _ _ | (with_reducible refine below_later_of ?_ ?_ _) | (with_reducible refine Below.alloc ?_ ?_ _) | (with_reducible refine Below.setCell ?_ ?_ _) | (with_reducible refine Below.drew ?_) | (simp; done) | (simp; omega) | omega)))⟩
  first | (simp [results, Tryd.results61, go_sem]; done) | simp [results, Tryd.results61, go_sem, ↓IntWalk.iteOmega]
set_option maxHeartbeats 1000000 in
theorem peak_ok (L S n cap : Nat) (f : Nat → Nat × Nat) (a : Option Addr) (w : World) (hn : n = L * S) (hl : n ≤ 100000) (hd : FldAt w L S n f a) (hw : Wide64 n f) (he : (fldE L S n f).2 = 0) {p q : Nat} {m0 : Int} (hp : (grP (eng f) n).1 / S = p) (hq : (grP (eng f) n).1 % S = q) (hm : (grP (eng f) n).2 = m0) :
    Calls Tryd.prog 61 #[.agg #[.int .i64 L, .int .i64 S, .slice a n cap]] w fun e w' => e = .returned (.tuple #[.agg #[.int .i64 p, .int .i64 q], .int .i64 m0, .int .i64 0]) ∧ Below w.heap.size w w' := by
  have HIM := Lib.hid (show ∀ W, Below w.heap.size w W → _ from fun W hW => fieldErr_any L S n cap f a W hl (hd.below hW) hw he)
  obtain ⟨hs, hg⟩ := fldE_zero he
  have hX := smallD_of hw hg
  obtain ⟨⟨l1, l2⟩, ⟨s1, s2⟩, -⟩ := sizeE_zero hs
  obtain ⟨b, off, rfl, hbw, hf⟩ := hd hs
  have h0 : 0 < n := by rw [hn]; exact Nat.mul_pos (by omega) (by omega)
  obtain ⟨i0, hi0⟩ : ∃ i, (grP (eng f) n).1 = i := ⟨_, rfl⟩
  have hin := (grP_lt (eng f) h0 n (Nat.le_refl _)).1
  rw [hi0] at hp hq hin
  have HGR := Lib.hid (show ∀ W, Below w.heap.size w W → _ from fun W hW => greatest_any n b off cap f W h0 hl (hf.below hbw hW) hX (show grP (eng f) n = (i0, m0) by rw [← hi0, ← hm]))
  have hq1 : (i0 : Int) / (S : Int) = (p : Int) := by rw [← hp, Int.natCast_ediv]
  have hr1 : (i0 : Int) % (S : Int) = (q : Int) := by rw [← hq, Int.natCast_emod]
  have hS0 : (S : Int) ≠ 0 := by omega
  have hSn : ¬ S = 0 := by omega
  have t0 : ((S : Int) == 0) = false := by simpa using hS0
  have t1 : (i0 : Int).tdiv (S : Int) = (p : Int) := by rw [Int.tdiv_eq_ediv_of_nonneg (by omega), hq1]
  have t2 : (i0 : Int).tmod (S : Int) = (q : Int) := by rw [Int.tmod_eq_emod_of_nonneg (by omega), hr1]
  have hpb : p ≤ 100000 := by rw [← hp]; exact Nat.le_trans (Nat.div_le_self _ _) (by omega)
  have t3 : IntKind.i64.wrap (p : Int) = (p : Int) := IntWalk.i64_in _ (by omega)
  clear he hd hs hg hf hX hp hq hi0 hm hn
  go_enter Tryd.func61, Tryd.ntmps61
  go_wp2_with (first | (go_at_call 105; (with_reducible refine (HIM.out _ (by (repeat' (first | with_reducible exact Below.refl _ _ | (with_reducible refine below_later_of ?_ ?_ _) | (with_reducible refine Below.alloc ?_ ?_ _) | (with_reducible refine Below.setCell ?_ ?_ _) | (with_reducible refine Below.drew ?_) | (simp; done) | (simp; omega) | omega)))).mono ?_); rintro e w' ⟨rfl, hb⟩; obtain ⟨pp, rfl⟩ := later_of_below hb; clear hb) | (go_at_call 116; (with_reducible refine (HGR.out _ (by (repeat' (first | with_reducible exact Below.refl _ _ | (with_reducible refine below_later_of ?_ ?_ _) | (with_reducible refine Below.alloc ?_ ?_ _) | (with_reducible refine Below.setCell ?_ ?_ _) | (with_reducible refine Below.drew ?_) | (simp; done) | (simp; omega) | omega)))).mono ?_); rintro e w' ⟨rfl, rfl⟩))
  refine wp_worldP2 (fun W => W.cell? ⟨w.heap.size, 1, none⟩ = some (.int .i64 S) ∧ (W.cell? ⟨w.heap.size + 1, 0, none⟩ = some (.int .i64 0) ∧ W.cell? ⟨w.heap.size + 1, 1, none⟩ = some (.int .i64 0) ∧ W.frozen? ⟨w.heap.size + 1, 0, none⟩ = false ∧ W.frozen? ⟨w.heap.size + 1, 1, none⟩ = false) ∧ w.heap.size + 1 < W.heap.size ∧ Below w.heap.size w W) ⟨by simp [go_sem], ⟨by simp [go_sem], by simp [go_sem], by simp [go_sem], by simp [go_sem]⟩, by simp; omega, (by (repeat' (first | with_reducible exact Below.refl _ _ | (with_reducible refine below_later_of ?_ ?_ _) | (with_reducible refine Below.alloc ?_ ?_ _) | (with_reducible refine Below.setCell ?_ ?_ _) | (with_reducible refine Below.drew ?_) | (simp; done) | (simp; omega) | omega)))⟩ ?_
  rintro W ⟨k1, ⟨r0, r1, g0, g1⟩, hlt, hb⟩
  have HBW := Lib.hid hb
  clear hb
  go_region_held3 (fun w' => w'.cell? ⟨w.heap.size, 1, none⟩ = some (.int .i64 S)) (first | exact k1 | ((first | (simp [go_sem, k1]; done) | simp [go_sem, k1, ↓IntWalk.iteOmega]); done)) (first | fail)
  all_goals
    rename_i hheld
    clear hheld
    go_wp2_with fail
    refine bodyPost_ret ?_ rfl ⟨rfl, HBW.out.trans (by (repeat' (first | with_reducible exact Below.refl _ _ | (with_reducible refine below_later_of ?_ ?_ _) | (with_reducible refine Below.alloc ?_ ?_ _) | (with_reducible refine Below.setCell ?_ ?_ _) | (with_reducible refine Below.drew ?_) | (simp; done) | (simp; omega) | omega)))⟩
    first | (simp [results, Tryd.results61, go_sem, r0, r1]; done) | simp [results, Tryd.results61, go_sem, r0, r1, ↓IntWalk.iteOmega]
set_option maxHeartbeats 1000000 in
theorem rEnergy (L S n b off cap : Nat) (f : Nat → Nat × Nat) (l s : Nat) (w : World) (hn : n = L * S) (hS : S ≤ 64) (hL : L ≤ 64) (hbw : b < w.heap.size) (hf : SumsAt w b off n f) (hX : SmallD n f (xD f) (yD f) 1000000000) (hl : l < L) (hs : s < S) {j : Nat} (hj : l * S + s = j) {z : Int} (hz : eng f j = z) :
    Calls Tryd.prog 64 #[.agg #[.int .i64 L, .int .i64 S, .slice (some ⟨b, off, none⟩) n cap], .int .i64 l, .int .i64 s] w fun e w' => e = .returned (.int .i64 z) ∧ Below w.heap.size w w' := by
  have hjn : j < n := by
    have h1 : (l + 1) * S ≤ L * S := Nat.mul_le_mul_right _ hl
    rw [Nat.add_mul, Nat.one_mul] at h1
    omega
  have cj := hf j hjn
  obtain ⟨hc, bx, bY⟩ := hX j hjn
  have HP := Lib.hid (fun w => bParts (f j).1 (f j).2 (xD f j) (yD f j) w (flI_double hc.re (by omega) (by omega)) (flI_double hc.im (by omega) (by omega)))
  obtain ⟨m1, m2⟩ := sq_bd9 bx
  obtain ⟨m3, m4⟩ := sq_bd9 bY
  have HZ := Lib.hid (show xD f j * xD f j + yD f j * yD f j = z from hz)
  have hidx : (l : Int) * (S : Int) + (s : Int) = (j : Int) := by rw [← hj, Int.natCast_add, Int.natCast_mul]
  obtain ⟨z1, z2⟩ : (0 : Int) ≤ (l : Int) * (S : Int) ∧ (l : Int) * (S : Int) ≤ 4096 := ⟨Int.mul_nonneg (by omega) (by omega), by
    have := Int.mul_le_mul (show (l : Int) ≤ 64 by omega) (show (S : Int) ≤ 64 by omega) (by omega) (by decide)
    omega⟩
  generalize xD f j = x at HP m1 m2 HZ
  generalize yD f j = y at HP m3 m4 HZ
  clear hf hX hc bx bY hz hj hn
  go_enter Tryd.func64, Tryd.ntmps64
  go_wp2_with (first | (go_at_call 90; (with_reducible refine (HP.out _).mono ?_); rintro e w' ⟨rfl, rfl⟩))
  go_ret
  exact ⟨ret_intE HZ.out, (by (repeat' (first | with_reducible exact Below.refl _ _ | (with_reducible refine below_later_of ?_ ?_ _) | (with_reducible refine Below.alloc ?_ ?_ _) | (with_reducible refine Below.setCell ?_ ?_ _) | (with_reducible refine Below.drew ?_) | (simp; done) | (simp; omega) | omega)))⟩
/-- The reference's peak of the first k numbers. -/
def pkM (E : Nat → Int) (k : Nat) : Int × Nat := if k = 0 then (-1, 0) else ((grP E k).2, (grP E k).1)
theorem pkM_succ (E : Nat → Int) (h0 : 0 ≤ E 0) (k : Nat) : pkM E (k + 1) = if (pkM E k).1 < E k then (E k, k) else pkM E k := by
  unfold pkM
  rw [if_neg (by omega)]
  by_cases hk : k = 0
  · subst hk
    rw [if_pos rfl, if_pos (show (-1 : Int) < E 0 by omega)]
    unfold grP
    rw [if_neg (show ¬ (grP E 0).2 < E 0 from Int.lt_irrefl _)]
    rfl
  · rw [if_neg hk]
    conv => lhs; unfold grP
    by_cases c : (grP E k).2 < E k
    · rw [if_pos c, if_pos c]
    · rw [if_neg c, if_neg c]
set_option maxRecDepth 20000 in
set_option maxHeartbeats 4000000 in
theorem rPeak (L S n b off cap : Nat) (f : Nat → Nat × Nat) (w : World) (hn : n = L * S) (hS0 : 1 ≤ S) (hS : S ≤ 64) (hL0 : 1 ≤ L) (hL : L ≤ 64) (hbw : b < w.heap.size) (hf : SumsAt w b off n f) (hX : SmallD n f (xD f) (yD f) 1000000000)
    {p q : Nat} {m0 : Int} (hp : (grP (eng f) n).1 / S = p) (hq : (grP (eng f) n).1 % S = q) (hm : (grP (eng f) n).2 = m0) :
    Calls Tryd.prog 63 #[.agg #[.int .i64 L, .int .i64 S, .slice (some ⟨b, off, none⟩) n cap]] w fun e w' => e = .returned (.tuple #[.agg #[.int .i64 p, .int .i64 q], .int .i64 m0]) ∧ Below w.heap.size w w' := by
  have h0 : 0 < n := by rw [hn]; exact Nat.mul_pos (by omega) (by omega)
  have HX := Lib.hid hX
  have HEA := Lib.hid (show ∀ W, Below w.heap.size w W → ∀ l s, l < L → s < S → Calls Tryd.prog 64 #[.agg #[.int .i64 L, .int .i64 S, .slice (some ⟨b, off, none⟩) n cap], .int .i64 (l : Nat), .int .i64 (s : Nat)] W fun e w' => e = .returned (.int .i64 (eng f (l * S + s))) ∧ Below W.heap.size W w' from fun W hW l s hl hs => rEnergy L S n b off cap f l s W hn hS hL (by have := hW.size; omega) (hf.below hbw hW) hX hl hs rfl rfl)
  have HPK := Lib.hid (fun k => pkM_succ (eng f) (eng_bd hX h0).1 k)
  have HFI := Lib.hid (show (((pkM (eng f) (L * S)).2 / S : Nat) : Int) = p ∧ (((pkM (eng f) (L * S)).2 % S : Nat) : Int) = q ∧ (pkM (eng f) (L * S)).1 = m0 by
    rw [← hn]
    unfold pkM
    rw [if_neg (by omega)]
    exact ⟨by exact_mod_cast hp, by exact_mod_cast hq, hm⟩)
  have HBD := Lib.hid (fun k (hk : k < n) => eng_bd hX hk)
  have HN := Lib.hid hn
  clear hf hX hp hq hm hn
  go_enter Tryd.func63, Tryd.ntmps63
  go_wp2
  refine wp_worldP2 (fun W => ∃ W1, Below w.heap.size w W1 ∧ W1.heap.size = w.heap.size + 1 ∧ (W1.cell? ⟨w.heap.size, 0, none⟩ = some (.int .i64 L) ∧ W1.cell? ⟨w.heap.size, 1, none⟩ = some (.int .i64 S) ∧ W1.cell? ⟨w.heap.size, 2, none⟩ = some (.slice (some ⟨b, off, none⟩) n cap)) ∧ FsSt W1 (w.heap.size + 1) (0, 0) (0, 0) W)
    ⟨w.alloc (.cells #[.int .i64 L, .int .i64 S, .slice (some ⟨b, off, none⟩) n cap] 34), (by (repeat' (first | with_reducible exact Below.refl _ _ | (with_reducible refine below_later_of ?_ ?_ _) | (with_reducible refine Below.alloc ?_ ?_ _) | (with_reducible refine Below.setCell ?_ ?_ _) | (with_reducible refine Below.drew ?_) | (simp; done) | (simp; omega) | omega))), by simp, ⟨by simp [go_sem], by simp [go_sem], by simp [go_sem]⟩, by simp [go_sem], by simp [go_sem], by simp [go_sem], by simp [go_sem], by simp [go_sem], by simp [go_sem], by simp [go_sem], by simp [go_sem], (by (repeat' (first | with_reducible exact Below.refl _ _ | (with_reducible refine below_later_of ?_ ?_ _) | (with_reducible refine Below.alloc ?_ ?_ _) | (with_reducible refine Below.setCell ?_ ?_ _) | (with_reducible refine Below.drew ?_) | (simp; done) | (simp; omega) | omega))), by simp, by simp⟩ ?_
  rintro W2 ⟨W1, hb1, hsz1, ⟨q0, q1, q2⟩, hst⟩
  have HST := Lib.hid hst
  have HB1 := Lib.hid hb1
  have Q0 := Lib.hid q0
  have Q1 := Lib.hid q1
  have Q2 := Lib.hid q2
  clear hst hb1 q0 q1 q2
  go_loopw [5, 6] (fun m i wr => ∃ l : Nat, l ≤ L ∧ i = .int .i64 l ∧ m = .int .i64 (pkM (eng f) (l * S)).1 ∧ FsSt W1 (w.heap.size + 1) (0, 0) ((((pkM (eng f) (l * S)).2 / S : Nat) : Int), (((pkM (eng f) (l * S)).2 % S : Nat) : Int)) wr) (fun _ i _ => L - (intOf i).toNat)
  case atStart => exact ⟨0, Nat.zero_le _, rfl, by rw [Nat.zero_mul]; rfl, by rw [Nat.zero_mul]; simpa [pkM] using HST.out⟩
  case round =>
    obtain ⟨l, hl, rfl, rfl, hst⟩ := hrel
    have HS1 := Lib.hid hst
    have hbel := hst.bel
    have e0 := (hbel.cell (p := ⟨w.heap.size, 0, none⟩) (show w.heap.size < W1.heap.size by omega)).trans Q0.out
    by_cases hlt : l < L
    · have hdl : decide ((l : Int) < (L : Int)) = true := by simp; omega
      clear hst hbel
      go_wp2
      go_loopw [5, 7] (fun m i wr => ∃ s : Nat, s ≤ S ∧ i = .int .i64 s ∧ m = .int .i64 (pkM (eng f) (l * S + s)).1 ∧ FsSt W1 (w.heap.size + 1) (0, 0) ((((pkM (eng f) (l * S + s)).2 / S : Nat) : Int), (((pkM (eng f) (l * S + s)).2 % S : Nat) : Int)) wr) (fun _ i _ => S - (intOf i).toNat)
      case atStart => exact ⟨0, Nat.zero_le _, rfl, rfl, HS1.out⟩
      case round =>
        clear e0
        obtain ⟨s, hs, rfl, rfl, hst⟩ := hrel
        have HS2 := Lib.hid hst
        have hbel := hst.bel
        have e0 := (hbel.cell (p := ⟨w.heap.size, 0, none⟩) (show w.heap.size < W1.heap.size by omega)).trans Q0.out
        have e1 := (hbel.cell (p := ⟨w.heap.size, 1, none⟩) (show w.heap.size < W1.heap.size by omega)).trans Q1.out
        have e2 := (hbel.cell (p := ⟨w.heap.size, 2, none⟩) (show w.heap.size < W1.heap.size by omega)).trans Q2.out
        by_cases hst2 : s < S
        · have hds : decide ((s : Int) < (S : Int)) = true := by simp; omega
          have HBW := Lib.hid (HB1.out.trans (hbel.mono (by omega)))
          have hszw := HBW.out.size
          obtain ⟨z, hz⟩ : ∃ z, eng f (l * S + s) = z := ⟨_, rfl⟩
          have HEN := Lib.hid (show ∀ W, Below wr.heap.size wr W → Calls Tryd.prog 64 #[.agg #[.int .i64 L, .int .i64 S, .slice (some ⟨b, off, none⟩) n cap], .int .i64 (l : Nat), .int .i64 (s : Nat)] W fun e w' => e = .returned (.int .i64 z) ∧ Below W.heap.size W w' from fun W hW => by
            rw [← hz]
            exact HEA.out W (HBW.out.trans (hW.mono hszw)) l s hlt hst2)
          have HPS := Lib.hid (show pkM (eng f) (l * S + s + 1) = if (pkM (eng f) (l * S + s)).1 < z then (z, l * S + s) else pkM (eng f) (l * S + s) by rw [← hz]; exact HPK.out _)
          have d1 : (l * S + s) / S = l := by rw [Nat.mul_comm, Nat.mul_add_div (by omega), Nat.div_eq_of_lt hst2, Nat.add_zero]
          have d2 : (l * S + s) % S = s := by rw [Nat.mul_comm, Nat.mul_add_mod, Nat.mod_eq_of_lt hst2]
          have HD := Lib.hid (And.intro d1 d2)
          obtain ⟨g, hg⟩ : ∃ g, pkM (eng f) (l * S + s) = g := ⟨_, rfl⟩
          rw [hg] at HPS HS2 ⊢
          obtain ⟨g1, g2⟩ := g
          dsimp only at HPS HS2 ⊢
          have fb0 := HS2.out.fb0
          have fb1 := HS2.out.fb1
          have hltB := HS2.out.lt
          have b0 := HS2.out.b0
          have b1 := HS2.out.b1
          clear hst hbel hz hg d1 d2
          by_cases hc : g1 < z
          · have hd : decide (g1 < z) = true := by simpa using hc
            have HR := Lib.hid (show pkM (eng f) (l * S + s + 1) = (z, l * S + s) by rw [HPS.out]; exact if_pos hc)
            clear HPS hc
            go_wp2_with (first | (go_at_call 64; (with_reducible refine (HEN.out _ (by (repeat' (first | with_reducible exact Below.refl _ _ | (with_reducible refine below_later_of ?_ ?_ _) | (with_reducible refine Below.alloc ?_ ?_ _) | (with_reducible refine Below.setCell ?_ ?_ _) | (with_reducible refine Below.drew ?_) | (simp; done) | (simp; omega) | omega)))).mono ?_); rintro e w' ⟨rfl, hb⟩; obtain ⟨pp, rfl⟩ := later_of_below hb; clear hb))
            go_roundw
            case rel => exact ⟨s + 1, by omega, by go_num, by rw [← Nat.add_assoc, HR.out], by
              rw [← Nat.add_assoc, HR.out]
              dsimp only
              rw [HD.out.1, HD.out.2]
              exact (HS2.out.below (by (repeat' (first | with_reducible exact Below.refl _ _ | (with_reducible refine below_later_of ?_ ?_ _) | (with_reducible refine Below.alloc ?_ ?_ _) | (with_reducible refine Below.setCell ?_ ?_ _) | (with_reducible refine Below.drew ?_) | (simp; done) | (simp; omega) | omega)))).putB ((l : Int), (s : Int))⟩
            case measure => simp [intOf]; omega
          · have hd : decide (g1 < z) = false := by simpa using hc
            have HR := Lib.hid (show pkM (eng f) (l * S + s + 1) = (g1, g2) by rw [HPS.out]; exact if_neg hc)
            clear HPS hc
            go_wp2_with (first | (go_at_call 64; (with_reducible refine (HEN.out _ (by (repeat' (first | with_reducible exact Below.refl _ _ | (with_reducible refine below_later_of ?_ ?_ _) | (with_reducible refine Below.alloc ?_ ?_ _) | (with_reducible refine Below.setCell ?_ ?_ _) | (with_reducible refine Below.drew ?_) | (simp; done) | (simp; omega) | omega)))).mono ?_); rintro e w' ⟨rfl, hb⟩; obtain ⟨pp, rfl⟩ := later_of_below hb; clear hb))
            go_roundw
            case rel => exact ⟨s + 1, by omega, by go_num, by rw [← Nat.add_assoc, HR.out], by
              rw [← Nat.add_assoc, HR.out]
              exact HS2.out.below (by (repeat' (first | with_reducible exact Below.refl _ _ | (with_reducible refine below_later_of ?_ ?_ _) | (with_reducible refine Below.alloc ?_ ?_ _) | (with_reducible refine Below.setCell ?_ ?_ _) | (with_reducible refine Below.drew ?_) | (simp; done) | (simp; omega) | omega)))⟩
            case measure => simp [intOf]; omega
        · obtain rfl : s = S := by omega
          have hds : decide ((s : Int) < (s : Int)) = false := by simp
          clear hst hbel
          go_wp2
          go_roundw
          case rel => exact ⟨l + 1, by omega, by go_num, by rw [Nat.add_mul, Nat.one_mul], by rw [Nat.add_mul, Nat.one_mul]; exact HS2.out⟩
          case measure => simp [intOf]; omega
    · obtain rfl : l = L := by omega
      have hdl : decide ((l : Int) < (l : Int)) = false := by simp
      obtain ⟨f1, f2, f3⟩ := HFI.out
      rw [f1, f2] at hst
      rw [f3]
      obtain ⟨a0, a1, b0, b1, fa0, fa1, fb0, fb1, bel, wa, lt⟩ := hst
      have HBE := Lib.hid (HB1.out.trans (bel.mono (by omega)))
      clear bel hbel
      dsimp only at a0 a1 b0 b1
      go_wp2
      refine bodyPost_ret ?_ rfl ⟨rfl, HBE.out.trans (by (repeat' (first | with_reducible exact Below.refl _ _ | (with_reducible refine below_later_of ?_ ?_ _) | (with_reducible refine Below.alloc ?_ ?_ _) | (with_reducible refine Below.setCell ?_ ?_ _) | (with_reducible refine Below.drew ?_) | (simp; done) | (simp; omega) | omega)))⟩
      first | (simp [results, Tryd.results63, go_sem, a0, a1, b0, b1]; done) | simp [results, Tryd.results63, go_sem, a0, a1, b0, b1, ↓IntWalk.iteOmega]
end Go.Proofs.YtakohhlmomgegaaDoor
