/- A value of three cells (two sizes, and a row that grows), as a function builds it: result cell R, variable O, row e. No function in sight. -/
import Derived.Test.YtkoiknmijjiicaaGreatDoorZM
namespace Go.Proofs.YtkoiknmijjiicaaGreatDoor
set_option linter.unusedVariables false
set_option linter.unusedSimpArgs false
open Go.RowKit
structure TriSt (w : World) (R O : Nat) (L S : Int) (e : TypeId) (v : Value) (xs : List Value) (wr : World) : Prop where
  c0 : wr.cell? ⟨O, 0, none⟩ = some (.int .i64 L)
  c1 : wr.cell? ⟨O, 1, none⟩ = some (.int .i64 S)
  c2 : wr.cell? ⟨O, 2, none⟩ = some v
  f2 : wr.frozen? ⟨O, 2, none⟩ = false
  r0 : wr.cell? ⟨R, 0, none⟩ = some (.int .i64 0)
  r1 : wr.cell? ⟨R, 1, none⟩ = some (.int .i64 0)
  r2 : wr.cell? ⟨R, 2, none⟩ = some (.slice none 0 0)
  g0 : wr.frozen? ⟨R, 0, none⟩ = false
  g1 : wr.frozen? ⟨R, 1, none⟩ = false
  g2 : wr.frozen? ⟨R, 2, none⟩ = false
  own : wr.ownsRow (O + 1) e 1 v xs.length xs
  bel : Below R w wr
  lt : O < wr.heap.size
  ro : R < O
theorem TriSt.below {w wr W : World} {R O : Nat} {L S : Int} {e : TypeId} {xs : List Value} {v : Value} (h : TriSt w R O L S e v xs wr) (hb : Below wr.heap.size wr W) : TriSt w R O L S e v xs W := by
  have hlt := h.lt
  have hro := h.ro
  have hs := hb.size
  have q : ∀ j, W.cell? ⟨O, j, none⟩ = wr.cell? ⟨O, j, none⟩ := fun j => hb.cell (p := ⟨O, j, none⟩) hlt
  have q2 : ∀ j, W.frozen? ⟨O, j, none⟩ = wr.frozen? ⟨O, j, none⟩ := fun j => hb.frozen (p := ⟨O, j, none⟩) hlt
  have r : ∀ j, W.cell? ⟨R, j, none⟩ = wr.cell? ⟨R, j, none⟩ := fun j => hb.cell (p := ⟨R, j, none⟩) (show R < wr.heap.size by omega)
  have r2 : ∀ j, W.frozen? ⟨R, j, none⟩ = wr.frozen? ⟨R, j, none⟩ := fun j => hb.frozen (p := ⟨R, j, none⟩) (show R < wr.heap.size by omega)
  exact ⟨(q 0).trans h.c0, (q 1).trans h.c1, (q 2).trans h.c2, (q2 2).trans h.f2, (r 0).trans h.r0, (r 1).trans h.r1, (r 2).trans h.r2, (r2 0).trans h.g0, (r2 1).trans h.g1, (r2 2).trans h.g2,
    h.own.kept (row := none) ⟨hb.os, hb.tape, hb.output, hb.size, fun k hk _ => hb.block k hk⟩ (Classical.em _), h.bel.trans (hb.mono (by omega)), by omega, hro⟩
theorem TriSt.still {w wr w1 : World} {R O : Nat} {L S : Int} {e : TypeId} {xs : List Value} {v : Value} {o : Obj} (h : TriSt w R O L S e v xs wr) (hg : (wr.alloc o).grownBy w1 v.ownBlock) :
    w1.cell? ⟨O, 2, none⟩ = some v ∧ w1.frozen? ⟨O, 2, none⟩ = false := by
  have hlt := h.lt
  have hb1 : Below (O + 1) wr w1 := (((Below.refl (O + 1) wr).alloc (by omega) o)).grown hg (by simp; omega) (fun g hg => (h.own.lt g hg).1)
  exact ⟨(hb1.cell (p := ⟨O, 2, none⟩) (Nat.lt_succ_self _)).trans h.c2, (hb1.frozen (p := ⟨O, 2, none⟩) (Nat.lt_succ_self _)).trans h.f2⟩
theorem TriSt.put {w wr w1 : World} {R O : Nat} {L S : Int} {e : TypeId} {xs : List Value} {v v' x : Value} {o : Obj} (h : TriSt w R O L S e v xs wr)
    (ho : w1.ownsRow (O + 1) e 1 v' (xs.length + 1) (xs ++ [x])) (hg : (wr.alloc o).grownBy w1 v.ownBlock) : TriSt w R O L S e v' (xs ++ [x]) (w1.setCell ⟨O, 2, none⟩ v') := by
  have hlt := h.lt
  have hro := h.ro
  have hb1 : Below (O + 1) wr w1 := (((Below.refl (O + 1) wr).alloc (by omega) o)).grown hg (by simp; omega) (fun g hg => (h.own.lt g hg).1)
  have hsz := hb1.size
  have q : ∀ j, w1.cell? ⟨O, j, none⟩ = wr.cell? ⟨O, j, none⟩ := fun j => hb1.cell (p := ⟨O, j, none⟩) (Nat.lt_succ_self _)
  have q2 : ∀ j, w1.frozen? ⟨O, j, none⟩ = wr.frozen? ⟨O, j, none⟩ := fun j => hb1.frozen (p := ⟨O, j, none⟩) (Nat.lt_succ_self _)
  have r : ∀ j, w1.cell? ⟨R, j, none⟩ = wr.cell? ⟨R, j, none⟩ := fun j => hb1.cell (p := ⟨R, j, none⟩) (show R < O + 1 by omega)
  have r2 : ∀ j, w1.frozen? ⟨R, j, none⟩ = wr.frozen? ⟨R, j, none⟩ := fun j => hb1.frozen (p := ⟨R, j, none⟩) (show R < O + 1 by omega)
  have hne : ∀ i j, (⟨O, j, none⟩ : Addr) ≠ ⟨R, i, none⟩ := fun i j e => absurd (congrArg Addr.block e) (show ¬ O = R by omega)
  have hr : ∀ i, (w1.setCell ⟨O, 2, none⟩ v').cell? ⟨R, i, none⟩ = w1.cell? ⟨R, i, none⟩ := fun i => World.cell?_setCell_other _ _ _ _ (hne i 2)
  refine ⟨by simp [go_sem, q, h.c0], by simp [go_sem, q, h.c1], by simp [go_sem, q, h.c2], by simp [go_sem, q2, h.f2], by rw [hr, r, h.r0], by rw [hr, r, h.r1], by rw [hr, r, h.r2], by simp [go_sem, r2, h.g0], by simp [go_sem, r2, h.g1], by simp [go_sem, r2, h.g2], ?_, ?_, by simp; omega, hro⟩
  · rw [show (xs ++ [x]).length = xs.length + 1 by simp]
    exact ownsRow_setCell_below ho (Nat.lt_succ_self _) _
  · exact (h.bel.trans (hb1.mono (by omega))).setCell (p := ⟨O, 2, none⟩) (show R ≤ O by omega) _
/-- The first n numbers of a field, as a row. -/
def cvF (F : Nat → Nat × Nat) (n : Nat) : List Value := (List.range n).map fun k => .complex .f64 (F k).1 (F k).2
theorem cvF_snoc (F : Nat → Nat × Nat) (k : Nat) : cvF F (k + 1) = cvF F k ++ [.complex .f64 (F k).1 (F k).2] := by unfold cvF; rw [List.range_succ, List.map_append]; rfl
theorem cvF_len (F : Nat → Nat × Nat) (k : Nat) : (cvF F k).length = k := by simp [cvF]
theorem ownS_row {W : World} {base n c : Nat} {a : Option Addr} {e : TypeId} {F : Nat → Nat × Nat} (h : W.ownsRow base e 1 (.slice a n c) n (cvF F n)) : OwnS W base n F a := fun hp => by
  have h0 := h
  obtain ⟨-, ⟨-, h1⟩ | ⟨g, cap, cur, h1, h2, h3, -⟩⟩ := h0
  · omega
  · simp only [Value.slice.injEq, true_and] at h1
    obtain ⟨rfl, rfl⟩ := h1
    refine ⟨g, rfl, h2, (Array.getElem?_eq_some_iff.1 h3).1, fun k hk => ?_⟩
    rw [Nat.zero_add, h.cellAt k (by omega)]
    unfold cvF
    simp [hk]
/-- The first n samples of an image, as a row. -/
def csF (F : Nat → Nat × Nat) (n : Nat) : List Value := (List.range n).map fun k => .complex .f32 (F k).1 (F k).2
theorem csF_snoc (F : Nat → Nat × Nat) (k : Nat) : csF F (k + 1) = csF F k ++ [.complex .f32 (F k).1 (F k).2] := by unfold csF; rw [List.range_succ, List.map_append]; rfl
theorem csF_len (F : Nat → Nat × Nat) (k : Nat) : (csF F k).length = k := by simp [csF]
/-- Samples of one's own. -/
def OwnC (W : World) (base n : Nat) (f : Nat → Nat × Nat) (a : Option Addr) : Prop := 0 < n → ∃ g, a = some ⟨g, 0, none⟩ ∧ base ≤ g ∧ g < W.heap.size ∧ SamplesAt W g 0 n f
theorem ownC_row {W : World} {base n c : Nat} {a : Option Addr} {e : TypeId} {F : Nat → Nat × Nat} (h : W.ownsRow base e 1 (.slice a n c) n (csF F n)) : OwnC W base n F a := fun hp => by
  have h0 := h
  obtain ⟨-, ⟨-, h1⟩ | ⟨g, cap, cur, h1, h2, h3, -⟩⟩ := h0
  · omega
  · simp only [Value.slice.injEq, true_and] at h1
    obtain ⟨rfl, rfl⟩ := h1
    refine ⟨g, rfl, h2, (Array.getElem?_eq_some_iff.1 h3).1, fun k hk => ?_⟩
    rw [Nat.zero_add, h.cellAt k (by omega)]
    unfold csF
    simp [hk]
theorem OwnC.mono {W : World} {b b' n : Nat} {a : Option Addr} {f : Nat → Nat × Nat} (h : OwnC W b n f a) (hb : b' ≤ b) : OwnC W b' n f a := fun h0 => by
  obtain ⟨g, h1, h2, h3, h4⟩ := h h0
  exact ⟨g, h1, by omega, h3, h4⟩
theorem OwnC.below {W W' : World} {b n : Nat} {a : Option Addr} {f : Nat → Nat × Nat} (h : OwnC W b n f a) (hb : Below W.heap.size W W') : OwnC W' b n f a := fun h0 => by
  obtain ⟨g, h1, h2, h3, h4⟩ := h h0
  exact ⟨g, h1, h2, by have := hb.size; omega, h4.below h3 hb⟩
theorem OwnC.set {W : World} {b n : Nat} {a : Option Addr} {f : Nat → Nat × Nat} (h : OwnC W b n f a) {p : Addr} (hp : p.block < b) (v : Value) : OwnC (W.setCell p v) b n f a := fun h0 => by
  obtain ⟨g, h1, h2, h3, h4⟩ := h h0
  refine ⟨g, h1, h2, by simpa using h3, fun k hk => ?_⟩
  rw [World.cell?_setCell_other _ _ _ _ (by intro e; rw [e] at hp; simp at hp; omega)]
  exact h4 k hk
end Go.Proofs.YtkoiknmijjiicaaGreatDoor
