/- For TopBuildingsPlaced, plain: all cells that are placed have the pixel, and their points lie in its box. -/
import Derived.Test.YtokpdmlmlkkekaaE2
namespace Go.Proofs.Ytokpdmlmlkkekaa
set_option linter.unusedVariables false
open Go.RowKit
/-- The box of a pixel has each point with this pixel, a place or not. -/
theorem back2 {t : Trk} {x y z : Int} {q : Pix} (ht : checkTrackP t = 0) (hx : Coo x) (hz : Coo z) (hoff : 1 ≤ offP t x) (hdeep : 1 ≤ depthP t z) (hline : lineP t y = q.line) (hbin : binP t (rootP (squareP t x z)) = q.bin)
    (hp : checkPixelP t q = 0) (h1 : q.lo ≤ z) (h2 : z ≤ q.hi) : ∃ a b c d, boxOfP t q = ⟨a, b, c, d, 0⟩ ∧ a ≤ x ∧ x ≤ b ∧ c ≤ y ∧ y ≤ d := by
  have ot := checkTrackP_ok ht
  have op := checkPixelP_ok hp
  obtain ⟨m1, m2, m3, m4, m5, m6, d1, d2, d3, d4⟩ := box_bd ot op
  have htop := op.top
  have e5 : squareP t x z = offP t x * offP t x + depthP t z * depthP t z := rfl
  obtain ⟨c1, c2⟩ : 0 ≤ squareP t x z ∧ squareP t x z ≤ 180000000000000000 := sq_w ot hx hz
  obtain ⟨r0, r1, r2⟩ := rootP_spec (squareP t x z) c1 (by omega)
  have g1 := (@le_bin t (rootP (squareP t x z)) q.bin ot.bi1).1 (by omega)
  have g2 := (@bin_le t (rootP (squareP t x z)) q.bin ot.bi1).1 (by omega)
  have hn := ot.ne1
  have e1 := sq_mono (a := t.near + t.bin * q.bin) (b := rootP (squareP t x z)) (by omega) g1
  have e2 := sq_mono (a := rootP (squareP t x z) + 1) (b := t.near + t.bin * q.bin + t.bin) (by omega) (by omega)
  have e3 := sq_mono (a := depthP t q.hi) (b := depthP t z) (by unfold depthP; omega) (by unfold depthP; omega)
  have e4 := sq_mono (a := depthP t z) (b := depthP t q.lo) (by omega) (by unfold depthP; omega)
  have e6 := sq_mono (a := 1) (b := offP t x) (by omega) hoff
  have hm : mostP t q = (t.near + t.bin * q.bin + t.bin) * (t.near + t.bin * q.bin + t.bin) - 1 - depthP t q.hi * depthP t q.hi := rfl
  have hl : leastP t q = (t.near + t.bin * q.bin) * (t.near + t.bin * q.bin) - depthP t q.lo * depthP t q.lo := rfl
  have k1 : offP t x ≤ rootP (mostP t q) := le_rootP (by omega) (by omega) (by omega)
  have k2 : rootUpP (max 1 (leastP t q)) ≤ offP t x := rootUpP_le (by omega) (by omega) (by omega) (by omega)
  obtain ⟨w1, w2⟩ := row_of ot hline
  refine ⟨_, _, _, _, by unfold boxOfP; rw [if_pos ht, if_pos hp, if_neg (by omega), if_neg (by omega)], ?_, ?_, w1, w2⟩
  · unfold columnsP
    unfold offP at k1 k2
    cases he : t.east <;> simp [he] at k1 k2 ⊢ <;> omega
  · unfold columnsP
    unfold offP at k1 k2
    cases he : t.east <;> simp [he] at k1 k2 ⊢ <;> omega
/-- A box is missing just for want of places. -/
theorem boxOfP_none {t : Trk} {q : Pix} (ht : checkTrackP t = 0) (hp : checkPixelP t q = 0) {a b c d e : Int} (h : boxOfP t q = ⟨a, b, c, d, e⟩) (he : e ≠ 0) : e = 12 := by
  unfold boxOfP at h
  rw [if_pos ht, if_pos hp] at h
  split at h
  · simp only [BoxE.mk.injEq] at h; omega
  · split at h
    · simp only [BoxE.mk.injEq] at h; omega
    · simp only [BoxE.mk.injEq] at h; omega
def PairsAll (l : List Value) (c : Nat) (P : Nat → Nat → Prop) : Prop := ∀ n, n < c → ∃ i k : Nat, P i k ∧ l[n * 2]? = some (.int .i64 i) ∧ l[n * 2 + 1]? = some (.int .i64 k)
theorem PairsAll.app {l m : List Value} {c d : Nat} {P : Nat → Nat → Prop} (hl : l.length = 2 * c) (h1 : PairsAll l c P) (h2 : PairsAll m d P) : PairsAll (l ++ m) (c + d) P := fun n hn => by
  by_cases e : n < c
  · obtain ⟨i, k, hp, a, b⟩ := h1 n e
    exact ⟨i, k, hp, by rw [List.getElem?_append_left (by omega)]; exact a, by rw [List.getElem?_append_left (by omega)]; exact b⟩
  · obtain ⟨i, k, hp, a, b⟩ := h2 (n - c) (by omega)
    refine ⟨i, k, hp, ?_, ?_⟩
    · rw [List.getElem?_append_right (by omega), show n * 2 - l.length = (n - c) * 2 by omega]; exact a
    · rw [List.getElem?_append_right (by omega), show n * 2 + 1 - l.length = (n - c) * 2 + 1 by omega]; exact b
theorem PairsAll.mono {l : List Value} {c : Nat} {P Q : Nat → Nat → Prop} (h : PairsAll l c P) (hpq : ∀ i k, P i k → Q i k) : PairsAll l c Q := fun n hn => by
  obtain ⟨i, k, hp, a, b⟩ := h n hn
  exact ⟨i, k, hpq i k hp, a, b⟩
theorem plRow_all {t : Trk} {r : Rel} {fi : Nat → Int} {u v : Int} {row : Nat} : ∀ k, PairsAll (plRow t r fi u v row k) (cnRow t r fi u v row k) fun i j => i = row ∧ j < k ∧ hitB t r fi u v i j = true
  | 0 => fun n hn => by simp [cnRow] at hn
  | k + 1 => by
    have ih := (@plRow_all t r fi u v row k).mono (Q := fun i j => i = row ∧ j < k + 1 ∧ hitB t r fi u v i j = true) fun i j h => ⟨h.1, by omega, h.2.2⟩
    rw [plRow, cnRow]
    refine PairsAll.app (plRow_size t r fi u v row k) ih ?_
    by_cases hh : hitB t r fi u v row k = true
    · rw [if_pos hh, if_pos hh]
      intro n hn
      obtain rfl : n = 0 := by omega
      exact ⟨row, k, ⟨rfl, by omega, hh⟩, rfl, rfl⟩
    · rw [if_neg hh, if_neg hh]
      intro n hn
      omega
theorem plGrid_all {t : Trk} {r : Rel} {fi : Nat → Int} {u v : Int} : ∀ n, PairsAll (plGrid t r fi u v n) (cnGrid t r fi u v n) fun i j => i < n ∧ j < r.cols.toNat ∧ hitB t r fi u v i j = true
  | 0 => fun n hn => by simp [cnGrid] at hn
  | n + 1 => by
    have ih := (@plGrid_all t r fi u v n).mono (Q := fun i j => i < n + 1 ∧ j < r.cols.toNat ∧ hitB t r fi u v i j = true) fun i j h => ⟨by omega, h.2.1, h.2.2⟩
    rw [plGrid, cnGrid]
    exact PairsAll.app (plGrid_size t r fi u v n) ih ((plRow_all _).mono fun i j h => ⟨by omega, h.2.1, h.2.2⟩)
/-- What is known of each cell that is placed. -/
theorem placed_cell {t : Trk} {r : Rel} {u v lo hi : Int} (h : viewErrP feB intB t r = 0) (hlo : (hiLo r r.ds.length).1 = lo) (hhi : (hiLo r r.ds.length).2 = hi) (hp : checkPixelP t ⟨u, v, lo, hi⟩ = 0) {n : Nat} (hn : n < plN t r 0 u v) :
    ∃ i k : Nat, plZ t r u v (n * 2) = i ∧ plZ t r u v (n * 2 + 1) = k ∧ (i : Int) < r.rows ∧ (k : Int) < r.cols ∧ ∃ a b c d, boxOfP t ⟨u, v, lo, hi⟩ = ⟨a, b, c, d, 0⟩ ∧ a ≤ pxP r k ∧ pxP r k ≤ b ∧ c ≤ pyP r i ∧ pyP r i ≤ d := by
  obtain ⟨h1, h2, h3, h4⟩ := viewErrP_ok h
  have o := (relErrP_ok h2).1
  unfold plN at hn
  rw [if_pos rfl] at hn
  obtain ⟨i, k, ⟨hi1, hk1, hh⟩, z1, z2⟩ := plGrid_all r.rows.toNat n hn
  have hi' : (i : Int) < r.rows := by omega
  have hk' : (k : Int) < r.cols := by omega
  obtain ⟨-, -, -, hlt⟩ := idx_lt o (Int.natCast_nonneg i) hi' (Int.natCast_nonneg k) hk'
  have hin := @hiLo_in r r.ds.length _ hlt
  have hdp := deep_all h hlt
  have hhb := height_bd h2 hlt
  unfold hitB pixLP pixBP at hh
  simp only [Bool.and_eq_true, beq_iff_eq] at hh
  refine ⟨i, k, zAt_of z1, zAt_of z2, hi', hk', ?_⟩
  refine back2 (z := intB (bitAt r.ds (idxP r i k))) h1 (px_coo o (Int.natCast_nonneg k) hk') (by unfold Coo; omega) (so_pos h3 o (Int.natCast_nonneg k) hk') (by unfold depthP; omega) hh.1 hh.2 hp ?_ ?_
  · show lo ≤ _; omega
  · show _ ≤ hi; omega
end Go.Proofs.Ytokpdmlmlkkekaa
