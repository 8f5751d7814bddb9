/- Chapter 1: the laws' arguments: fields; Focus with its errors told. -/
import Derived.Test.YtakohhlmomgegaaDoorU82
import Derived.Test.YtakohhlmomgegaaDoorU81
import Derived.Test.YtakohhlmomgegaaDoorU64
import Derived.Test.YtakohhlmomgegaaDoorU67
namespace Go.Proofs.YtakohhlmomgegaaDoor
set_option linter.unusedVariables false
set_option linter.unusedSimpArgs false
open Go.ChangeShapes Go.WideShapes Go.RowKit Go.Deep
theorem cells_f64 : Tryd.prog.cellsOf 47 = 1 := by kernel_rfl
theorem cells_fld : Tryd.prog.cellsOf 75 = 4 := by kernel_rfl
theorem leafs_fld : leafs Tryd.prog 8 75 = some [3, 3, 73, 22] := by kernel_rfl
section
variable {H : Type} {enc : TypeId × Value → H} {w : World} {base : Nat} {spare : Nat → Bool} {held : Bool} {r : Reach} {b0 : Nat} {v : Value} {d : DataW H} {p : List MemPlace}
theorem CellOk.dbls {v : Value} (h : CellOk enc Tryd.prog w base spare held 73 v) : ∃ (a : Option Addr) (m cap : Nat) (p : Nat → Nat), v = .slice a m cap ∧ SrcD w a m p ∧ ∀ k, k < m → p k < 2 ^ 64 := by
  obtain ⟨fuel, x, h⟩ := h
  rcases open_slice1 Tryd.underlying73 cells_f64 h with ⟨h1, _⟩ | ⟨a, len, cap, m, n, V, D, Pl, h1, _, hl, hm, hmm, _, hx⟩
  · simp at h1
    exact ⟨none, 0, 0, fun _ => 0, h1, fun hp => absurd hp (Nat.not_lt_zero _), fun k hk => absurd hk (Nat.not_lt_zero _)⟩
  · simp at h1
    subst h1
    have hle : len ≤ m := by rw [hmm]; split <;> omega
    have hf : ∀ i, i < len → ∃ b, V i = .float .f64 b ∧ b < 2 ^ 64 := fun i hi => by
      have h2 := (hx i (by omega)).2
      obtain ⟨b, hb⟩ := trod_float Tryd.underlying47 h2
      rw [hb] at h2
      exact ⟨b, hb, trod_f64 Tryd.underlying47 h2⟩
    refine ⟨some a, len, cap, fun i => match V i with | .float _ b => b | _ => 0, rfl, fun hp => ?_, fun k hk => ?_⟩
    · obtain ⟨b, off, rfl⟩ := spot_none (w := w) (v := V 0) (by have := (hx 0 (by omega)).1; simpa [Addr.add] using this)
      refine ⟨b, off, rfl, ?_, fun k hk => ?_⟩
      · have := (hx 0 (by omega)).1
        exact block_lt_of_isSome (a := ⟨b, off, none⟩) (by simp [Addr.add] at this; rw [this]; rfl)
      · have h2 := (hx k (by omega)).1
        obtain ⟨c, hc, -⟩ := hf k hk
        have e : (⟨b, off, none⟩ : Addr).add k = ⟨b, off + k, none⟩ := by simp [Addr.add] <;> omega
        rw [e] at h2
        rw [h2]
        simp [hc]
    · obtain ⟨c, hc, hlt⟩ := hf k hk
      simp only [hc]
      exact hlt
set_option maxRecDepth 100000 in
theorem open_fld (hv : Value.okWide Tryd.prog w r b0 75 v) (h : DataW.Trod enc Tryd.prog w base spare held 75 v d p) :
    ∃ x : Scn, v = .agg #[.int .i64 x.L, .int .i64 x.S, .slice x.pa x.m x.pc, .slice x.ca x.mc x.cc] ∧ x.FAt w ∧ x.Wide := by
  obtain ⟨cs, hn, rfl, ok⟩ := cells_of Tryd.underlying75 cells_fld leafs_fld hv h
  match cs, hn with
  | [c0, c1, c2, c3], _ =>
    obtain ⟨a0, rfl, h0⟩ := (ok 0 _ _ rfl rfl).int Tryd.underlying3
    obtain ⟨a1, rfl, h1⟩ := (ok 1 _ _ rfl rfl).int Tryd.underlying3
    obtain ⟨pa, m, pc, p, rfl, hp, hw⟩ := (ok 2 _ _ rfl rfl).dbls
    obtain ⟨ca, mc, cc, q, rfl, hq⟩ := (ok 3 _ _ rfl rfl).parts
    exact ⟨⟨a0, a1, pa, m, pc, p, ca, mc, cc, q⟩, rfl, ⟨hp, hq⟩, hw⟩
end
open Ieee Ntt
/-- The error of Focus. -/
def focE (L S : Int) (n C : Nat) (f fc : Nat → Nat × Nat) : Int :=
  if first2 (fldE L S n f).2 (codeE C fc).2 = 0 then (if L < C then 10 else (if (fldE ((L.toNat + 1 - C : Nat) : Int) S.toNat ((L.toNat + 1 - C) * S.toNat) (focB (xD f) (yD f) (xB fc) (yB fc) S.toNat C)).2 = 0 then 0 else 8)) else first2 (fldE L S n f).2 (codeE C fc).2
/-- What a focusing says: with its error, or without. -/
def FocSay (W : World) (base : Nat) (L S : Int) (n C : Nat) (f fc : Nat → Nat × Nat) (e0 l s : Int) (n' : Nat) (a : Option Addr) : Prop := (e0 = 0 → FocOk W base L S n C f fc l s n' a) ∧ (e0 ≠ 0 → l = 0 ∧ s = 0 ∧ n' = 0)
def FocDet (L S : Int) (n C : Nat) (f fc : Nat → Nat × Nat) (e0 : Int) (w : World) (e : Ending) (w' : World) : Prop :=
  ∃ l s n' a c, e = .returned (.tuple #[.agg #[.int .i64 l, .int .i64 s, .slice a n' c], .int .i64 e0]) ∧ FocSay w' w.heap.size L S n C f fc e0 l s n' a ∧ Below w.heap.size w w'
theorem focus_det (L S : Int) (n cap C ccap : Nat) (f fc : Nat → Nat × Nat) (a ca : Option Addr) (w : World) (hn : n ≤ 100000) (hC : C ≤ 100000) (hd : FldAt w L S n f a) (hw : Wide64 n f) (hc : CodeAt w C fc ca) {e0 : Int} (hE : focE L S n C f fc = e0) :
    Calls Tryd.prog 47 #[.agg #[.int .i64 L, .int .i64 S, .slice a n cap], .slice ca C ccap] w (FocDet L S n C f fc e0 w) := by
  by_cases he : first2 (fldE L S n f).2 (codeE C fc).2 = 0
  · obtain ⟨he1, he2⟩ := first2_zero he
    obtain ⟨hs, hg⟩ := fldE_zero he1
    obtain ⟨hC0, hC1, hgc, -⟩ := codeE_zero he2
    obtain ⟨⟨l1, l2⟩, ⟨s1, s2⟩, hnn⟩ := sizeE_zero hs
    by_cases h0 : L < C
    · obtain rfl : e0 = 10 := by rw [← hE]; unfold focE; rw [if_pos he, if_pos h0]
      refine (focus_short L S n cap C ccap f fc a ca w hn hC hd hw hc he h0).mono ?_
      rintro e w' ⟨rfl, hb⟩
      exact ⟨0, 0, 0, none, 0, rfl, ⟨fun h => absurd h (by decide), fun _ => ⟨rfl, rfl, rfl⟩⟩, hb⟩
    · obtain ⟨L0, rfl⟩ := Int.eq_ofNat_of_zero_le (show 0 ≤ L by omega)
      obtain ⟨S0, rfl⟩ := Int.eq_ofNat_of_zero_le (show 0 ≤ S by omega)
      by_cases h1 : (fldE ((L0 + 1 - C : Nat) : Int) S0 ((L0 + 1 - C) * S0) (focB (xD f) (yD f) (xB fc) (yB fc) S0 C)).2 = 0
      · obtain rfl : e0 = 0 := by rw [← hE]; unfold focE; rw [if_pos he, if_neg h0]; exact if_pos h1
        refine (focus_ok L0 S0 n cap C ccap f fc a ca w hn hC hd hw hc he (by omega) (by omega) rfl h1).mono ?_
        rintro e w' ⟨a', c', rfl, ho, hb⟩
        exact ⟨_, _, _, a', c', rfl, ⟨fun _ => ⟨L0, S0, rfl, rfl, by omega, by exact_mod_cast hnn, rfl, rfl, rfl, smallD_of hw hg, smallS_of (by decide) hgc, ho⟩, fun h => absurd rfl h⟩, hb⟩
      · obtain rfl : e0 = 8 := by rw [← hE]; unfold focE; rw [if_pos he, if_neg h0]; exact if_neg h1
        refine (focus_large L0 S0 n cap C ccap f fc a ca w hn hC hd hw hc he (by omega) (by omega) rfl rfl h1).mono ?_
        rintro e w' ⟨rfl, hb⟩
        exact ⟨0, 0, 0, none, 0, rfl, ⟨fun h => absurd h (by decide), fun _ => ⟨rfl, rfl, rfl⟩⟩, hb⟩
  · obtain rfl : e0 = first2 (fldE L S n f).2 (codeE C fc).2 := by rw [← hE]; unfold focE; rw [if_neg he]
    refine (focus_bad L S n cap C ccap f fc a ca w hn hC hd hw hc rfl he).mono ?_
    rintro e w' ⟨rfl, hb⟩
    exact ⟨0, 0, 0, none, 0, rfl, ⟨fun h => absurd h he, fun _ => ⟨rfl, rfl, rfl⟩⟩, hb⟩
theorem partD_f64I (x y m : Int) (hx : x.natAbs < 2 ^ 53) (hy : y.natAbs < 2 ^ 53) : partD (f64I x) (f64I y) m = if inE (-m) m x && inE (-m) m y then 0 else 2 := by
  obtain ⟨a1, a2⟩ := intD_of (f64I_num hx)
  obtain ⟨b1, b2⟩ := intD_of (f64I_num hy)
  unfold partD
  rw [a1, b1, a2, b2]
  rfl
/-- The number of a focused field is in its range. -/
def goodF (X Y U V : Nat → Int) (S C i : Nat) : Bool := inE (-1000000000) 1000000000 (reF X Y U V S (i / S) (i % S) C) && inE (-1000000000) 1000000000 (imF X Y U V S (i / S) (i % S) C)
theorem fld_good {n C L S L0 : Nat} {f fc : Nat → Nat × Nat} {X Y U V : Nat → Int} (hX : SmallD n f X Y 1000000000) (hU : SmallS C fc U V 3) (hL : L + C = L0 + 1) (hn : n = L0 * S) (h64 : C ≤ 64) (l1 : 1 ≤ L) (l2 : L ≤ 64) (s1 : 1 ≤ S) (s2 : S ≤ 64) :
    (fldE L S (L * S) (focB X Y U V S C)).2 = 0 ↔ ∀ i, i < L * S → goodF X Y U V S C i = true := by
  have hz : sizeE (L : Int) S (((L * S : Nat)) : Int) = 0 := by
    unfold sizeE inE
    rw [if_pos (by simp; omega), if_pos (by rw [Int.natCast_mul])]
  have hg : ∀ i, i < L * S → (gD (focB X Y U V S C) 1000000000 i = 0 ↔ goodF X Y U V S C i = true) := fun i hi => by
    have hl : i / S < L := (Nat.div_lt_iff_lt_mul (by omega)).2 hi
    have hs := Nat.mod_lt i (show 0 < S by omega)
    obtain ⟨b1, b2⟩ := reF_bd (k := C) hX hU hL hl hs hn (Nat.le_refl _) h64
    unfold gD focB
    dsimp only
    rw [partD_f64I _ _ _ (by omega) (by omega)]
    unfold goodF
    split
    · rename_i h; simp [h]
    · rename_i h; simp [h]
  unfold fldE
  rw [if_pos hz]
  constructor
  · intro h i hi
    exact (hg i hi).1 (firstE_zero h i hi)
  · intro h
    rw [firstE_ok fun i hi => (hg i hi).2 (h i hi)]
end Go.Proofs.YtakohhlmomgegaaDoor
