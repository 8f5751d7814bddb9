/- Chapter 1: base.Sample; a value of three cells that is built up in a variable alone. -/
import Derived.Test.YtkoiknmijjiicaaGreatDoorU80
import Derived.Test.YtkoiknmijjiicaaGreatDoorZN
namespace Go.Proofs.YtkoiknmijjiicaaGreatDoor
set_option linter.unusedVariables false
set_option linter.unusedSimpArgs false
open Go.RowKit
structure BldSt (w : World) (O : Nat) (L S : Int) (e : TypeId) (v : Value) (xs : List Value) (wr : World) : Prop where
  c0 : wr.cell? ⟨O, 0, none⟩ = some (.int .i64 L)
  c1 : wr.cell? ⟨O, 1, none⟩ = some (.int .i64 S)
  c2 : wr.cell? ⟨O, 2, none⟩ = some v
  f2 : wr.frozen? ⟨O, 2, none⟩ = false
  own : wr.ownsRow (O + 1) e 1 v xs.length xs
  bel : Below O w wr
  lt : O < wr.heap.size
theorem BldSt.below {w wr W : World} {O : Nat} {L S : Int} {e : TypeId} {xs : List Value} {v : Value} (h : BldSt w O L S e v xs wr) (hb : Below wr.heap.size wr W) : BldSt w O L S e v xs W := by
  have hlt := h.lt
  have hs := hb.size
  have q : ∀ j, W.cell? ⟨O, j, none⟩ = wr.cell? ⟨O, j, none⟩ := fun j => hb.cell (p := ⟨O, j, none⟩) hlt
  have q2 : ∀ j, W.frozen? ⟨O, j, none⟩ = wr.frozen? ⟨O, j, none⟩ := fun j => hb.frozen (p := ⟨O, j, none⟩) hlt
  exact ⟨(q 0).trans h.c0, (q 1).trans h.c1, (q 2).trans h.c2, (q2 2).trans h.f2,
    h.own.kept (row := none) ⟨hb.os, hb.tape, hb.output, hb.size, fun k hk _ => hb.block k hk⟩ (Classical.em _), h.bel.trans (hb.mono (by omega)), by omega⟩
theorem BldSt.still {w wr w1 : World} {O : Nat} {L S : Int} {e : TypeId} {xs : List Value} {v : Value} {o : Obj} (h : BldSt w O L S e v xs wr) (hg : (wr.alloc o).grownBy w1 v.ownBlock) :
    w1.cell? ⟨O, 2, none⟩ = some v ∧ w1.frozen? ⟨O, 2, none⟩ = false := by
  have hlt := h.lt
  have hb1 : Below (O + 1) wr w1 := (((Below.refl (O + 1) wr).alloc (by omega) o)).grown hg (by simp; omega) (fun g hg => (h.own.lt g hg).1)
  exact ⟨(hb1.cell (p := ⟨O, 2, none⟩) (Nat.lt_succ_self _)).trans h.c2, (hb1.frozen (p := ⟨O, 2, none⟩) (Nat.lt_succ_self _)).trans h.f2⟩
theorem BldSt.put {w wr w1 : World} {O : Nat} {L S : Int} {e : TypeId} {xs : List Value} {v v' x : Value} {o : Obj} (h : BldSt w O L S e v xs wr)
    (ho : w1.ownsRow (O + 1) e 1 v' (xs.length + 1) (xs ++ [x])) (hg : (wr.alloc o).grownBy w1 v.ownBlock) : BldSt w O L S e v' (xs ++ [x]) (w1.setCell ⟨O, 2, none⟩ v') := by
  have hlt := h.lt
  have hb1 : Below (O + 1) wr w1 := (((Below.refl (O + 1) wr).alloc (by omega) o)).grown hg (by simp; omega) (fun g hg => (h.own.lt g hg).1)
  have hsz := hb1.size
  have q : ∀ j, w1.cell? ⟨O, j, none⟩ = wr.cell? ⟨O, j, none⟩ := fun j => hb1.cell (p := ⟨O, j, none⟩) (Nat.lt_succ_self _)
  have q2 : ∀ j, w1.frozen? ⟨O, j, none⟩ = wr.frozen? ⟨O, j, none⟩ := fun j => hb1.frozen (p := ⟨O, j, none⟩) (Nat.lt_succ_self _)
  refine ⟨by simp [go_sem, q, h.c0], by simp [go_sem, q, h.c1], by simp [go_sem, q, h.c2], by simp [go_sem, q2, h.f2], ?_, ?_, by simp; omega⟩
  · rw [show (xs ++ [x]).length = xs.length + 1 by simp]
    exact ownsRow_setCell_below ho (Nat.lt_succ_self _) _
  · exact (h.bel.trans (hb1.mono (by omega))).setCell (p := ⟨O, 2, none⟩) (Nat.le_refl _) _
end Go.Proofs.YtkoiknmijjiicaaGreatDoor
