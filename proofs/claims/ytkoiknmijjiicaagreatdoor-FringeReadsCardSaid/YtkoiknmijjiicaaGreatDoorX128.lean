/- Chapter 4: a map in memory that is being read; the words of a line in memory. -/
import Derived.Test.YtkoiknmijjiicaaGreatDoorX127
import Derived.Test.YtkoiknmijjiicaaGreatDoorU123
import Derived.Test.YtkoiknmijjiicaaGreatDoorU90
namespace Go.Proofs.YtkoiknmijjiicaaGreatDoor
set_option linter.unusedVariables false
set_option linter.unusedSimpArgs false
open Go.RowKit Go
theorem strR_cells {O : Nat} {w wr : World} {ws : List ByteArray} {v : Value} (h : StrR O w ws v wr) (hp : 0 < ws.length) : ∃ g c, v = .slice (some ⟨g, 0, none⟩) ws.length c ∧ O ≤ g ∧ g < wr.heap.size ∧ ∀ j, j < ws.length → wr.cell? ⟨g, j, none⟩ = some (.string (textAt ws j)) := by
  obtain ⟨ho, -⟩ := h
  obtain ⟨h1, ⟨rfl, h2⟩ | ⟨g, cap, cur, rfl, h3⟩⟩ := id ho
  · rw [h2] at hp; omega
  · refine ⟨g, cap, rfl, (ho.lt g rfl).1, (ho.lt g rfl).2, fun j hj => ?_⟩
    rw [ho.cellAt j (by omega)]
    unfold textAt strC
    simp [hj]
/-- A map that is being read: its cells lie in block G; below G all is as it was. -/
structure MpSt (w : World) (G : Nat) (R C : Int) (v : Value) (zs : List Int) (wr : World) : Prop where
  c0 : wr.cell? ⟨G, 0, none⟩ = some (.int .i64 R)
  c1 : wr.cell? ⟨G, 1, none⟩ = some (.int .i64 C)
  c2 : wr.cell? ⟨G, 2, none⟩ = some v
  f0 : wr.frozen? ⟨G, 0, none⟩ = false
  f1 : wr.frozen? ⟨G, 1, none⟩ = false
  f2 : wr.frozen? ⟨G, 2, none⟩ = false
  own : wr.ownsRow (G + 1) 3 1 v zs.length (intC zs)
  bel : Below G w wr
  lt : G < wr.heap.size
theorem MpSt.below {w wr W : World} {G : Nat} {R C : Int} {v : Value} {zs : List Int} (h : MpSt w G R C v zs wr) (hb : Below wr.heap.size wr W) : MpSt w G R C v zs W := by
  have hlt := h.lt
  have hs := hb.size
  have q : ∀ j, W.cell? ⟨G, j, none⟩ = wr.cell? ⟨G, j, none⟩ := fun j => hb.cell (p := ⟨G, j, none⟩) hlt
  have q2 : ∀ j, W.frozen? ⟨G, j, none⟩ = wr.frozen? ⟨G, j, none⟩ := fun j => hb.frozen (p := ⟨G, j, none⟩) hlt
  exact ⟨(q 0).trans h.c0, (q 1).trans h.c1, (q 2).trans h.c2, (q2 0).trans h.f0, (q2 1).trans h.f1, (q2 2).trans h.f2,
    h.own.kept (row := none) ⟨hb.os, hb.tape, hb.output, hb.size, fun k hk _ => hb.block k hk⟩ (Classical.em _), h.bel.trans (hb.mono (by omega)), by omega⟩
/-- Rows and columns are set. -/
theorem MpSt.dims {w wr : World} {G : Nat} {R C : Int} {v : Value} {zs : List Int} (h : MpSt w G R C v zs wr) (R' C' : Int) : MpSt w G R' C' v zs ((wr.setCell ⟨G, 0, none⟩ (.int .i64 R')).setCell ⟨G, 1, none⟩ (.int .i64 C')) := by
  have hlt := h.lt
  refine ⟨?_, ?_, ?_, by simpa using h.f0, by simpa using h.f1, by simpa using h.f2, ?_, ?_, by simpa using hlt⟩
  · rw [World.cell?_setCell_other _ _ _ _ (by simp)]
    exact World.cell?_setCell_same _ _ _ h.c0
  · refine World.cell?_setCell_same (u := .int .i64 C) _ _ _ ?_
    rw [World.cell?_setCell_other _ _ _ _ (by simp)]
    exact h.c1
  · rw [World.cell?_setCell_other _ _ _ _ (by simp), World.cell?_setCell_other _ _ _ _ (by simp)]
    exact h.c2
  · have e1 := h.own
    have hb : ∀ (X : World) (p : Addr) (u : Value), p.block = G → X.ownsRow (G + 1) 3 1 v zs.length (intC zs) → (X.setCell p u).ownsRow (G + 1) 3 1 v zs.length (intC zs) := by
      intro X p u hp ho
      obtain ⟨h1, h2 | ⟨g, cap, cur, k1, k2, k3, k4⟩⟩ := ho
      · exact ⟨h1, .inl h2⟩
      · exact ⟨h1, .inr ⟨g, cap, cur, k1, k2, (Below.heap_setCell _ _ _ _ (by omega)).trans k3, k4⟩⟩
    exact hb _ _ _ rfl (hb _ _ _ rfl e1)
  · exact (h.bel.setCell (p := ⟨G, 0, none⟩) (Nat.le_refl _) _).setCell (p := ⟨G, 1, none⟩) (Nat.le_refl _) _
/-- What is read is an IntsV. -/
theorem MpSt.ints {w wr : World} {G : Nat} {R C : Int} {v : Value} {zs : List Int} (h : MpSt w G R C v zs wr) (hl : zs.length ≤ 1000000000) : IntsV wr v zs := by
  obtain ⟨h1, ⟨rfl, h2⟩ | ⟨g, cap, cur, rfl, h3⟩⟩ := id h.own
  · exact ⟨hl, none, 0, by rw [h2], fun hp => by omega⟩
  · exact intsV_own h.own hl
end Go.Proofs.YtkoiknmijjiicaaGreatDoor
