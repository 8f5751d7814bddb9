/- For the laws over chapter 9's layers, plain: what is known of each cell of a relief that is seen. -/
import Derived.Test.YtokpdmlmlkkekaaE1
import Derived.Test.YtokpdmlmlkkekaaC10
namespace Go.Proofs.Ytokpdmlmlkkekaa
set_option linter.unusedVariables false
open Go.RowKit
theorem cell_back {a c k : Int} (h : 1 ≤ c) : (a + k * c + c / 2 - a) / c = k := by
  rw [show a + k * c + c / 2 - a = c / 2 + k * c by omega, Int.add_mul_ediv_right _ _ (by omega), Int.ediv_eq_zero_of_lt (by omega) (by omega)]
  omega
theorem back_row {r : Rel} (o : r.Ok) (k : Int) : rowP r (pyP r k) = k := cell_back o.c1
theorem back_col {r : Rel} (o : r.Ok) (k : Int) : colP r (pxP r k) = k := cell_back o.c1
/-- The least and the greatest of the first heights. -/
def hiLo (r : Rel) : Nat → Int × Int
  | 0 => (intB (bitAt r.ds 0), intB (bitAt r.ds 0))
  | m + 1 => (min (hiLo r m).1 (intB (bitAt r.ds m)), max (hiLo r m).2 (intB (bitAt r.ds m)))
theorem hiLo_in {r : Rel} : ∀ {m j : Nat}, j < m → (hiLo r m).1 ≤ intB (bitAt r.ds j) ∧ intB (bitAt r.ds j) ≤ (hiLo r m).2
  | 0, j, h => by omega
  | m + 1, j, h => by
    unfold hiLo
    by_cases e : j = m
    · subst e; omega
    · have := @hiLo_in r m j (by omega); omega
theorem hiLo_bd {r : Rel} {c d : Int} (hp : 0 < r.ds.length) (h : ∀ j, j < r.ds.length → c ≤ intB (bitAt r.ds j) ∧ intB (bitAt r.ds j) ≤ d) : ∀ {m : Nat}, m ≤ r.ds.length → c ≤ (hiLo r m).1 ∧ (hiLo r m).2 ≤ d
  | 0, _ => ⟨(h 0 hp).1, (h 0 hp).2⟩
  | m + 1, hm => by
    have h1 := @hiLo_bd r c d hp h m (by omega)
    have h2 := h m (by omega)
    unfold hiLo
    omega
/-- All depths are at least 1. -/
theorem deep_all {t : Trk} {r : Rel} (h : viewErrP feB intB t r = 0) {j : Nat} (hj : j < r.ds.length) : intB (bitAt r.ds j) ≤ t.sz - 1 := by
  obtain ⟨h1, h2, h3, h4⟩ := viewErrP_ok h
  have o := (relErrP_ok h2).1
  have hd := (List.all_eq_true.1 h4) j (List.mem_range.2 hj)
  have h5 : 1 ≤ depK t r intB j := of_decide_eq_true hd
  have hc1 := o.l1
  obtain ⟨nc, hnc⟩ : ∃ nc : Nat, r.cols = nc := ⟨r.cols.toNat, by omega⟩
  have e : idxP r ((j / nc : Nat) : Int) ((j % nc : Nat) : Int) = j := by
    unfold idxP
    rw [hnc, ← Int.natCast_mul, ← Int.natCast_add, Nat.mul_comm, Nat.div_add_mod]
    rfl
  unfold depK sdP at h5
  rw [show r.cols.toNat = nc by omega, e] at h5
  unfold depthP at h5
  omega
theorem height_bd {r : Rel} (h : relErrP feB r = 0) {j : Nat} (hj : j < r.ds.length) : -100000 ≤ intB (bitAt r.ds j) ∧ intB (bitAt r.ds j) ≤ 100000 := (feB_zero ((relErrP_ok h).2 j hj)).2
theorem pixel_ok {t : Trk} {x y z a b lo hi : Int} (s : Seen t x y z a b) (h1 : -100000 ≤ lo) (h2 : lo ≤ hi) (h3 : hi ≤ 100000) (h4 : hi < t.sz) : checkPixelP t ⟨a, b, lo, hi⟩ = 0 := by
  unfold checkPixelP heightsB
  rw [if_pos, if_neg (by simp only; omega), if_neg (by simp only; omega)]
  simp only [Bool.and_eq_true, inR_iff]
  exact ⟨⟨s.a1, s.a2⟩, ⟨s.b1, s.b2⟩, ⟨h1, by omega⟩, by omega, h3⟩
theorem box_own {x y z : Int} (h : placeB x y z = true) : boxErrP ⟨x, x, y, y⟩ = 0 := by
  obtain ⟨⟨x1, x2⟩, ⟨y1, y2⟩, -⟩ := placeB_iff.1 h
  unfold boxErrP
  rw [if_pos, if_neg (by simp only; omega), if_neg (by simp only; omega)]
  simp only [bxB, Bool.and_eq_true, inR_iff]
  simp only [x1, x2, y1, y2, and_self]
/-- Is the pair (i, k) among the first n? -/
def fndB (z : Nat → Int) (i k : Int) : Nat → Bool
  | 0 => false
  | n + 1 => fndB z i k n || (z (n * 2) == i && z (n * 2 + 1) == k)
theorem fndB_of {z : Nat → Int} {i k : Int} {m : Nat} (h1 : z (m * 2) = i) (h2 : z (m * 2 + 1) = k) : ∀ {n : Nat}, m < n → fndB z i k n = true
  | 0, h => by omega
  | n + 1, h => by
    unfold fndB
    by_cases e : m = n
    · subst e; rw [h1, h2]; simp
    · rw [fndB_of h1 h2 (show m < n by omega)]; rfl
theorem cnGrid_few {t : Trk} {r : Rel} {u v : Int} (o : r.Ok) (h : r.ds.length ≤ 40) : cnGrid t r intB u v r.rows.toNat ≤ 40 := by
  have hl : ∀ n, cnGrid t r intB u v n ≤ n * r.cols.toNat := fun n => by
    induction n with
    | zero => exact Nat.le_of_eq (Nat.zero_mul _).symm
    | succ n ih =>
      have := cnRow_le t r intB u v n r.cols.toNat
      rw [cnGrid, Nat.add_mul, Nat.one_mul]
      omega
  have h1 := hl r.rows.toNat
  have h2 := o.len
  have h3 : ((r.rows.toNat * r.cols.toNat : Nat) : Int) = r.rows * r.cols := by
    rw [Int.natCast_mul, Int.toNat_of_nonneg (by have := o.r1; omega), Int.toNat_of_nonneg (by have := o.l1; omega)]
  omega
theorem zAt_of {l : List Value} {k : Nat} {z : Int} (h : l[k]? = some (.int .i64 z)) : zAt l k = z := by unfold zAt; rw [h]
/-- What the law asks of a cell whose point is a place. -/
structure CellFacts (t : Trk) (r : Rel) (i k : Nat) (x y z a b e : Int) : Prop where
  hgt : heightAtP r x y z = (z, 0)
  pix : pixelOfP t x y z = (a, b, e)
  err : e ≠ 0 → e = 12
  okp : e = 0 → checkPixelP t ⟨a, b, z, z⟩ = 0
  bxe : boxErrP ⟨x, x, y, y⟩ = 0
  yes : e = 0 → inPixelP t ⟨a, b, z, z⟩ ⟨x, x, y, y⟩ = 2
  fnd : e = 0 → fndB (plZ t r a b) i k (plN t r 0 a b) = true
  box : e = 0 → ∃ b0 b1 b2 b3, boxOfP t ⟨a, b, (hiLo r r.ds.length).1, (hiLo r r.ds.length).2⟩ = ⟨b0, b1, b2, b3, 0⟩ ∧ inR b0 b1 x = true ∧ inR b2 b3 y = true
theorem cellFacts {t : Trk} {r : Rel} (h : viewErrP feB intB t r = 0) {i k : Nat} (hi : (i : Int) < r.rows) (hk : (k : Int) < r.cols) {x y z : Int} (hx : pxP r k = x) (hy : pyP r i = y) (hz : intB (bitAt r.ds (idxP r i k)) = z) (hp : placeB x y z = true) :
    ∃ a b e, CellFacts t r i k x y z a b e := by
  obtain ⟨h1, h2, h3, h4⟩ := viewErrP_ok h
  have o := (relErrP_ok h2).1
  obtain ⟨-, -, -, hlt⟩ := idx_lt o (Int.natCast_nonneg i) hi (Int.natCast_nonneg k) hk
  have hp' : checkPlaceP x y z = 0 := by unfold checkPlaceP; rw [hp]; rfl
  have hsee : seenP t x y z = 0 := by unfold seenP first2; rw [h1, hp']; rfl
  have hoff : 1 ≤ offP t x := by have := so_pos h3 o (Int.natCast_nonneg k) hk; unfold soP at this; rw [hx] at this; exact this
  have hdp := deep_all h hlt
  rw [hz] at hdp
  have hhb := height_bd h2 hlt
  rw [hz] at hhb
  have hin := @hiLo_in r r.ds.length _ hlt
  rw [hz] at hin
  have hbd := @hiLo_bd r (-100000) 100000 (rel_pos h2) (fun j hj => height_bd h2 hj) _ (Nat.le_refl _)
  have hbd2 := @hiLo_bd r (-100000) (t.sz - 1) (rel_pos h2) (fun j hj => ⟨(height_bd h2 hj).1, deep_all h hj⟩) _ (Nat.le_refl _)
  obtain ⟨a, b, e, hpx⟩ : ∃ a b e, pixelOfP t x y z = (a, b, e) := ⟨_, _, _, rfl⟩
  have hseen : e = 0 → Seen t x y z a b := fun he => by subst he; exact pixelOfP_ok hpx
  refine ⟨a, b, e, ?_, hpx, ?_, fun he => ?_, box_own hp, fun he => own_yes (hseen he), fun he => ?_, fun he => ?_⟩
  · have hc : cellOfP r x y z = ((i : Int), (k : Int), 0) := by
      unfold cellOfP first2
      rw [h2, if_pos rfl, hp', if_pos rfl, ← hx, ← hy, back_row o, back_col o, if_pos]
      exact hasCellB_iff.2 ⟨⟨Int.natCast_nonneg i, by omega⟩, Int.natCast_nonneg k, by omega⟩
    unfold heightAtP
    rw [hc, if_pos rfl]
    simp only
    rw [hz]
  · intro he
    unfold pixelOfP at hpx
    rw [if_pos hsee, if_neg (by omega), if_neg (by unfold depthP; omega)] at hpx
    split at hpx
    · simp only [Prod.mk.injEq] at hpx; omega
    · simp only [Prod.mk.injEq] at hpx; omega
  · exact pixel_ok (hseen he) hhb.1 (Int.le_refl _) hhb.2 (by omega)
  · have s := hseen he
    have hit : hitB t r intB a b i k = true := by
      unfold hitB pixLP pixBP
      rw [hx, hy, hz, s.line, s.bin]
      simp
    obtain ⟨n, hn, z1, z2⟩ := plGrid_mem hit (show k < r.cols.toNat by omega) r.rows.toNat (show i < r.rows.toNat by omega)
    unfold plN
    rw [if_pos rfl]
    exact fndB_of (m := n) (zAt_of z1) (zAt_of z2) hn
  · have s := hseen he
    obtain ⟨b0, b1, b2, b3, hb, g1, g2, g3, g4⟩ := back (q := ⟨a, b, (hiLo r r.ds.length).1, (hiLo r r.ds.length).2⟩) s (pixel_ok s hbd.1 (by omega) hbd.2 (by omega)) hin.1 hin.2
    exact ⟨b0, b1, b2, b3, hb, inR_iff.2 ⟨g1, g2⟩, inR_iff.2 ⟨g3, g4⟩⟩
end Go.Proofs.Ytokpdmlmlkkekaa
