import Derived.Test.YtkoiknmijjiicaaGreatDoorZM
import Derived.Test.YtkoiknmijjiicaaGreatDoorZK
import Derived.Deep.CutRange
import Derived.Deep.RegionHeld3
/- Chapter 1: images that are made sample by sample: imageOf with the closure of Added; Added. -/
namespace Go.Proofs.YtkoiknmijjiicaaGreatDoor
set_option linter.unusedVariables false
set_option linter.unusedSimpArgs false
open Go.RowKit Ntt
theorem num_nearest {n : Int} (h : n.natAbs < 16777216) : FNum Ieee.single (floatOfInt .f32 n) n := fnum_int good_single h
theorem conv_f32 (n : Int) (w : World) : (convert 3 72 (.int .i64 n)).run Tryz.prog w = .ok (.float .f32 (floatOfInt .f32 n)) w :=
  run_convert_int_float w 3 72 .i64 .f32 n (by kernel_rfl) Tryz.underlying72
/-- The sample of two whole parts. -/
def smpI (x y : Int) : Nat × Nat := (floatOfInt .f32 x, floatOfInt .f32 y)
/-- The samples of a sum of two images. -/
def addB (f g : Nat → Nat × Nat) (i : Nat) : Nat × Nat := smpI (xB f i + xB g i) (yB f i + yB g i)
theorem smpI_parts {x y : Int} (hx : x.natAbs < 16777216) (hy : y.natAbs < 16777216) : intB (smpI x y).1 = x ∧ intB (smpI x y).2 = y := ⟨(intB_of (num_nearest hx)).2, (intB_of (num_nearest hy)).2⟩
theorem addB_parts {f g : Nat → Nat × Nat} {n i : Nat} (hf : SmallS n f (xB f) (yB f) 2047) (hg : SmallS n g (xB g) (yB g) 2047) (hi : i < n) : xB (addB f g) i = xB f i + xB g i ∧ yB (addB f g) i = yB f i + yB g i := by
  obtain ⟨-, h1, h2⟩ := hf i hi
  obtain ⟨-, h3, h4⟩ := hg i hi
  exact smpI_parts (by omega) (by omega)
end Go.Proofs.YtkoiknmijjiicaaGreatDoor

/- Chapter 1: imageOf with the closure of Added. -/
namespace Go.Proofs.YtkoiknmijjiicaaGreatDoor
set_option linter.unusedVariables false
set_option linter.unusedSimpArgs false
open Go.RowKit Ntt
theorem ImSt.still {w wr w1 : World} {L S : Int} {D : List (Nat × Nat)} {v : Value} {o : Obj} (h : ImSt w L S D v wr) (hg : (wr.alloc o).grownBy w1 v.ownBlock) :
    w1.cell? ⟨w.heap.size + 1, 2, none⟩ = some v ∧ w1.frozen? ⟨w.heap.size + 1, 2, none⟩ = false := by
  have hlt := h.lt
  have hb1 : Below (w.heap.size + 2) wr w1 := (((Below.refl (w.heap.size + 2) wr).alloc (by omega) o)).grown hg (by simp; omega) (fun g hg => (h.own.lt g hg).1)
  exact ⟨(hb1.cell (p := ⟨w.heap.size + 1, 2, none⟩) (Nat.lt_succ_self _)).trans h.c2, (hb1.frozen (p := ⟨w.heap.size + 1, 2, none⟩) (Nat.lt_succ_self _)).trans h.f2⟩
theorem ImSt.put2 {w wr w1 : World} {L S : Int} {re im : Nat} {D : List (Nat × Nat)} {v v' : Value} {o : Obj} (h : ImSt w L S D v wr)
    (ho : w1.ownsRow (w.heap.size + 2) 146 1 v' (D.length + 1) (cv32 D ++ [.complex .f32 re im])) (hg : (wr.alloc o).grownBy w1 v.ownBlock) : ImSt w L S (D ++ [(re, im)]) v' (w1.setCell ⟨w.heap.size + 1, 2, none⟩ v') := by
  have hlt := h.lt
  have hb1 : Below (w.heap.size + 2) wr w1 := (((Below.refl (w.heap.size + 2) wr).alloc (by omega) o)).grown hg (by simp; omega) (fun g hg => (h.own.lt g hg).1)
  have hsz := hb1.size
  have q : ∀ j, w1.cell? ⟨w.heap.size + 1, j, none⟩ = wr.cell? ⟨w.heap.size + 1, j, none⟩ := fun j => hb1.cell (p := ⟨w.heap.size + 1, j, none⟩) (Nat.lt_succ_self _)
  have q2 : ∀ j, w1.frozen? ⟨w.heap.size + 1, j, none⟩ = wr.frozen? ⟨w.heap.size + 1, j, none⟩ := fun j => hb1.frozen (p := ⟨w.heap.size + 1, j, none⟩) (Nat.lt_succ_self _)
  have r : ∀ j, w1.cell? ⟨w.heap.size, j, none⟩ = wr.cell? ⟨w.heap.size, j, none⟩ := fun j => hb1.cell (p := ⟨w.heap.size, j, none⟩) (show w.heap.size < w.heap.size + 2 by omega)
  have r2 : ∀ j, w1.frozen? ⟨w.heap.size, j, none⟩ = wr.frozen? ⟨w.heap.size, j, none⟩ := fun j => hb1.frozen (p := ⟨w.heap.size, j, none⟩) (show w.heap.size < w.heap.size + 2 by omega)
  refine ⟨by simp [go_sem, q, h.c0], by simp [go_sem, q, h.c1], by simp [go_sem, q, h.c2], by simp [go_sem, q2, h.f2], by simp [go_sem, r, h.r0], by simp [go_sem, r, h.r1], by simp [go_sem, r, h.r2], by simp [go_sem, r2, h.g0], by simp [go_sem, r2, h.g1], by simp [go_sem, r2, h.g2], ?_, ?_, by simp; omega⟩
  · rw [cv32_snoc, show (D ++ [(re, im)]).length = D.length + 1 by simp]
    exact ownsRow_setCell_below ho (Nat.lt_succ_self _) _
  · exact (h.bel.trans (hb1.mono (by omega))).setCell (p := ⟨w.heap.size + 1, 2, none⟩) (show w.heap.size ≤ w.heap.size + 1 by omega) _
/-- The first samples of an image. -/
def firstL (f : Nat → Nat × Nat) (k : Nat) : List (Nat × Nat) := (List.range k).map f
theorem firstL_len (f : Nat → Nat × Nat) (k : Nat) : (firstL f k).length = k := by unfold firstL; simp
theorem firstL_succ (f : Nat → Nat × Nat) (k : Nat) : firstL f (k + 1) = firstL f k ++ [((f k).1, (f k).2)] := by unfold firstL; rw [List.range_succ, List.map_append]; rfl
theorem samples_firstL {W : World} {base b n c : Nat} {a : Option Addr} {f : Nat → Nat × Nat} (h : W.ownsRow base 146 1 (.slice a n c) n (cv32 (firstL f n))) (hp : 0 < n) (hb : b ≤ base) :
    ∃ g, a = some ⟨g, 0, none⟩ ∧ b ≤ g ∧ g < W.heap.size ∧ SamplesAt W g 0 n f := by
  have h0 := h
  obtain ⟨-, ⟨-, h1⟩ | ⟨g, cap, cur, h1, h2, h3, -⟩⟩ := h0
  · omega
  · simp only [Value.slice.injEq, true_and] at h1
    obtain ⟨rfl, rfl⟩ := h1
    refine ⟨g, rfl, by omega, (Array.getElem?_eq_some_iff.1 h3).1, fun k hk => ?_⟩
    rw [Nat.zero_add, h.cellAt k (by omega)]
    unfold cv32 firstL
    rw [List.getElem?_map, List.getElem?_map, List.getElem?_range hk]
    rfl
end Go.Proofs.YtkoiknmijjiicaaGreatDoor

/- Chapter 1: Added. -/
namespace Go.Proofs.YtkoiknmijjiicaaGreatDoor
set_option linter.unusedVariables false
set_option linter.unusedSimpArgs false
open Go.RowKit Ntt
/-- The sum that Added returns, in memory of its own. -/
def AddOk (W : World) (base : Nat) (L S : Int) (n : Nat) (f : Nat → Nat × Nat) (L' S' : Int) (m : Nat) (g : Nat → Nat × Nat) (l s : Int) (n' : Nat) (a : Option Addr) : Prop :=
  ∃ L0 S0 : Nat, (L = L0 ∧ S = S0 ∧ L' = L0 ∧ S' = S0) ∧ (1 ≤ L0 ∧ L0 ≤ 64 ∧ 1 ≤ S0 ∧ S0 ≤ 64) ∧ n = L0 * S0 ∧ m = L0 * S0 ∧ l = L0 ∧ s = S0 ∧ n' = L0 * S0 ∧ SmallS n f (xB f) (yB f) 2047 ∧ SmallS n g (xB g) (yB g) 2047 ∧ SmallS n (addB f g) (xB (addB f g)) (yB (addB f g)) 2047 ∧
    (0 < n' → ∃ gg, a = some ⟨gg, 0, none⟩ ∧ base ≤ gg ∧ gg < W.heap.size ∧ SamplesAt W gg 0 n' (addB f g))
def AddAny (L S : Int) (n : Nat) (f : Nat → Nat × Nat) (L' S' : Int) (m : Nat) (g : Nat → Nat × Nat) (w : World) (e : Ending) (w' : World) : Prop :=
  ∃ l s n' a c e0, e = .returned (.tuple #[.agg #[.int .i64 l, .int .i64 s, .slice a n' c], .int .i64 e0]) ∧ (e0 = 0 → AddOk w' w.heap.size L S n f L' S' m g l s n' a ∧ n' ≤ c) ∧ Below w.heap.size w w'
theorem own_step2 {W W' : World} {B n : Nat} {a : Option Addr} {f : Nat → Nat × Nat} (h : 0 < n → ∃ g, a = some ⟨g, 0, none⟩ ∧ B ≤ g ∧ g < W.heap.size ∧ SamplesAt W g 0 n f) (hb : Below W.heap.size W W') : 0 < n → ∃ g, a = some ⟨g, 0, none⟩ ∧ B ≤ g ∧ g < W'.heap.size ∧ SamplesAt W' g 0 n f := fun h0 => by
  obtain ⟨g, h1, h2, h3, h4⟩ := h h0
  exact ⟨g, h1, h2, by have := hb.size; omega, h4.below h3 hb⟩
/-- The boxes of Added: two images, and the result. -/
structure AdSt (w : World) (L S : Int) (a : Option Addr) (n cap : Nat) (L' S' : Int) (b : Option Addr) (m bcap : Nat) (W : World) : Prop where
  a0 : W.cell? ⟨w.heap.size, 0, none⟩ = some (.int .i64 L)
  a1 : W.cell? ⟨w.heap.size, 1, none⟩ = some (.int .i64 S)
  a2 : W.cell? ⟨w.heap.size, 2, none⟩ = some (.slice a n cap)
  b0 : W.cell? ⟨w.heap.size + 1, 0, none⟩ = some (.int .i64 L')
  b1 : W.cell? ⟨w.heap.size + 1, 1, none⟩ = some (.int .i64 S')
  b2 : W.cell? ⟨w.heap.size + 1, 2, none⟩ = some (.slice b m bcap)
  r0 : W.cell? ⟨w.heap.size + 2, 0, none⟩ = some (.int .i64 0)
  r1 : W.cell? ⟨w.heap.size + 2, 1, none⟩ = some (.int .i64 0)
  r2 : W.cell? ⟨w.heap.size + 2, 2, none⟩ = some (.slice none 0 0)
  g0 : W.frozen? ⟨w.heap.size + 2, 0, none⟩ = false
  g1 : W.frozen? ⟨w.heap.size + 2, 1, none⟩ = false
  g2 : W.frozen? ⟨w.heap.size + 2, 2, none⟩ = false
  bel : Below w.heap.size w W
  lt : w.heap.size + 2 < W.heap.size
theorem AdSt.below {w W W' : World} {L S L' S' : Int} {a b : Option Addr} {n cap m bcap : Nat} (h : AdSt w L S a n cap L' S' b m bcap W) (hb : Below W.heap.size W W') : AdSt w L S a n cap L' S' b m bcap W' := by
  have hlt := h.lt
  have hs := hb.size
  have q1 : ∀ j, W'.cell? ⟨w.heap.size, j, none⟩ = W.cell? ⟨w.heap.size, j, none⟩ := fun j => hb.cell (p := ⟨w.heap.size, j, none⟩) (show w.heap.size < W.heap.size by omega)
  have q2 : ∀ j, W'.cell? ⟨w.heap.size + 1, j, none⟩ = W.cell? ⟨w.heap.size + 1, j, none⟩ := fun j => hb.cell (p := ⟨w.heap.size + 1, j, none⟩) (show w.heap.size + 1 < W.heap.size by omega)
  have q3 : ∀ j, W'.cell? ⟨w.heap.size + 2, j, none⟩ = W.cell? ⟨w.heap.size + 2, j, none⟩ := fun j => hb.cell (p := ⟨w.heap.size + 2, j, none⟩) hlt
  have f3 : ∀ j, W'.frozen? ⟨w.heap.size + 2, j, none⟩ = W.frozen? ⟨w.heap.size + 2, j, none⟩ := fun j => hb.frozen (p := ⟨w.heap.size + 2, j, none⟩) hlt
  exact ⟨(q1 0).trans h.a0, (q1 1).trans h.a1, (q1 2).trans h.a2, (q2 0).trans h.b0, (q2 1).trans h.b1, (q2 2).trans h.b2, (q3 0).trans h.r0, (q3 1).trans h.r1, (q3 2).trans h.r2, (f3 0).trans h.g0, (f3 1).trans h.g1, (f3 2).trans h.g2, h.bel.trans (hb.mono (by omega)), by omega⟩
def AddOkPost (L S : Int) (n : Nat) (g : Nat → Nat × Nat) (w : World) (e : Ending) (w' : World) : Prop :=
  ∃ a c, e = .returned (.tuple #[.agg #[.int .i64 L, .int .i64 S, .slice a n c], .int .i64 0]) ∧ (0 < n → ∃ gg, a = some ⟨gg, 0, none⟩ ∧ w.heap.size ≤ gg ∧ gg < w'.heap.size ∧ SamplesAt w' gg 0 n g) ∧ n ≤ c ∧ Below w.heap.size w w'
end Go.Proofs.YtkoiknmijjiicaaGreatDoor
