/- Chapter 4: what the program's Parse holds while it reads. -/
import Derived.Test.YtkoiknmijjiicaaGreatDoorX129
import Derived.Test.YtkoiknmijjiicaaGreatDoorX131
import Derived.Maps.OwnIn
namespace Go.Proofs.YtkoiknmijjiicaaGreatDoor
set_option linter.unusedVariables false
set_option linter.unusedSimpArgs false
open Go.RowKit Go
/-- A cell that may be written. -/
def Cel (W : World) (b j : Nat) (u : Value) : Prop := W.cell? ⟨b, j, none⟩ = some u ∧ W.frozen? ⟨b, j, none⟩ = false
theorem Cel.set {W : World} {b j : Nat} {u : Value} (h : Cel W b j u) (u' : Value) : Cel (W.setCell ⟨b, j, none⟩ u') b j u' := ⟨World.cell?_setCell_same _ _ _ h.1, by simpa using h.2⟩
theorem Cel.other {W : World} {b j b' j' : Nat} {u : Value} (h : Cel W b j u) (hn : ¬ (b' = b ∧ j' = j)) (u' : Value) : Cel (W.setCell ⟨b', j', none⟩ u') b j u := by
  refine ⟨?_, by simpa using h.2⟩
  rw [World.cell?_setCell_other _ _ _ _ (by intro e; injection e with e1 e2; exact hn ⟨by omega, by omega⟩)]
  exact h.1
theorem Cel.below {W W' : World} {D b j : Nat} {u : Value} (h : Cel W b j u) (hb : Below D W W') (hlt : b < D) : Cel W' b j u := ⟨(hb.cell (p := ⟨b, j, none⟩) hlt).trans h.1, (hb.frozen (p := ⟨b, j, none⟩) hlt).trans h.2⟩
/-- Two rows apart. -/
def ApartV (v0 v1 : Value) : Prop := ∀ g, v0.ownBlock = some g → v1.ownBlock ≠ some g
theorem ApartV.or {v0 v1 : Value} (h : ApartV v0 v1) : v1.ownBlock = none ∨ v1.ownBlock ≠ v0.ownBlock := by
  cases hu : v1.ownBlock with
  | none => exact .inl rfl
  | some g => exact .inr fun e => h g e.symm hu
theorem ApartV.symm {v0 v1 : Value} (h : ApartV v0 v1) : ApartV v1 v0 := fun g h1 h2 => h g h2 h1
/-- A row of whole numbers in slice form. -/
theorem ownsRow_form {w : World} {B e : Nat} {v : Value} {n : Nat} {xs : List Value} (h : w.ownsRow B e 1 v n xs) : ∃ a c, v = .slice a n c := by
  obtain ⟨-, ⟨rfl, rfl⟩ | ⟨g, cap, cur, rfl, -⟩⟩ := h
  · exact ⟨_, _, rfl⟩
  · exact ⟨_, _, rfl⟩
/-- What Parse holds: O, O + 1, O + 2 the results, O + 3 the map, O + 4 the lengths, O + 5 the line's number; B the iterator's text; rows from D on. -/
structure RdSt (w : World) (D O B : Nat) (X : Value) (num R C : Int) (v : Value) (zs : List Int) (v2 : Value) (ls : List Int) (W : World) : Prop where
  bel : Below w.heap.size w W
  sz : D ≤ W.heap.size
  lo : w.heap.size ≤ O
  hi : O + 5 < B
  hd : B < D
  r0 : Cel W O 0 (.int .i64 0)
  r1 : Cel W O 1 (.int .i64 0)
  r2 : Cel W O 2 (.slice none 0 0)
  r3 : Cel W (O + 1) 0 (.int .i64 0)
  r4 : Cel W (O + 2) 0 (.int .i64 0)
  m0 : Cel W (O + 3) 0 (.int .i64 R)
  m1 : Cel W (O + 3) 1 (.int .i64 C)
  m2 : Cel W (O + 3) 2 v
  l0 : Cel W (O + 4) 0 v2
  n0 : Cel W (O + 5) 0 (.int .i64 num)
  own : W.ownsRow D 3 1 v zs.length (intC zs)
  own2 : W.ownsRow D 3 1 v2 ls.length (intC ls)
  ap : ApartV v v2
  st : StB W B X
section
variable {w : World} {D O B : Nat} {X : Value} {num R C : Int} {v : Value} {zs : List Int} {v2 : Value} {ls : List Int} {W : World}
theorem RdSt.keep {W' : World} (h : RdSt w D O B X num R C v zs v2 ls W) (hb : Below D W W') (hc : CellsSame W W') : RdSt w D O B X num R C v zs v2 ls W' := by
  have h1 := h.hi
  have h2 := h.hd
  have h3 := h.lo
  exact ⟨h.bel.trans (hb.mono (by omega)), Nat.le_trans h.sz hb.size, h.lo, h.hi, h.hd, h.r0.below hb (by omega), h.r1.below hb (by omega), h.r2.below hb (by omega), h.r3.below hb (by omega), h.r4.below hb (by omega),
    h.m0.below hb (by omega), h.m1.below hb (by omega), h.m2.below hb (by omega), h.l0.below hb (by omega), h.n0.below hb (by omega), ownsRow_same h.own hc, ownsRow_same h.own2 hc, h.ap, h.st.below hb h.hd⟩
theorem RdSt.below {W' : World} (h : RdSt w D O B X num R C v zs v2 ls W) (hb : Below W.heap.size W W') : RdSt w D O B X num R C v zs v2 ls W' := h.keep (hb.mono h.sz) (CellsSame.below hb)
/-- The iterator's own text. -/
theorem RdSt.setB (h : RdSt w D O B X num R C v zs v2 ls W) (u : Value) : RdSt w D O B u num R C v zs v2 ls (W.setCell ⟨B, 0, none⟩ u) := by
  have h1 := h.hi
  have h2 := h.hd
  have h3 := h.lo
  exact ⟨h.bel.setCell (p := ⟨B, 0, none⟩) (by show w.heap.size ≤ B; omega) _, by simpa [World.setCell] using h.sz, h.lo, h.hi, h.hd, h.r0.other (by omega) _, h.r1.other (by omega) _, h.r2.other (by omega) _, h.r3.other (by omega) _, h.r4.other (by omega) _,
    h.m0.other (by omega) _, h.m1.other (by omega) _, h.m2.other (by omega) _, h.l0.other (by omega) _, h.n0.other (by omega) _, ownsRow_setCell_below h.own h.hd _, ownsRow_setCell_below h.own2 h.hd _, h.ap, h.st.set _⟩
theorem StB.other {W : World} {B b j : Nat} {X : Value} (h : StB W B X) (hn : b ≠ B) (u : Value) : StB (W.setCell ⟨b, j, none⟩ u) B X := by
  have := Cel.other (j' := j) (b' := b) (show Cel W B 0 X from h) (fun e => hn e.1) u
  exact this
theorem RdSt.number (h : RdSt w D O B X num R C v zs v2 ls W) (n' : Int) : RdSt w D O B X n' R C v zs v2 ls (W.setCell ⟨O + 5, 0, none⟩ (.int .i64 n')) := by
  have h1 := h.hi
  have h2 := h.hd
  have h3 := h.lo
  exact ⟨h.bel.setCell (p := ⟨O + 5, 0, none⟩) (by show w.heap.size ≤ O + 5; omega) _, by simpa [World.setCell] using h.sz, h.lo, h.hi, h.hd, h.r0.other (by omega) _, h.r1.other (by omega) _, h.r2.other (by omega) _, h.r3.other (by omega) _, h.r4.other (by omega) _,
    h.m0.other (by omega) _, h.m1.other (by omega) _, h.m2.other (by omega) _, h.l0.other (by omega) _, h.n0.set _, ownsRow_setCell_below h.own (by show O + 5 < D; omega) _, ownsRow_setCell_below h.own2 (by show O + 5 < D; omega) _, h.ap, h.st.other (by omega) _⟩
theorem RdSt.rows (h : RdSt w D O B X num R C v zs v2 ls W) (R' : Int) : RdSt w D O B X num R' C v zs v2 ls (W.setCell ⟨O + 3, 0, none⟩ (.int .i64 R')) := by
  have h1 := h.hi
  have h2 := h.hd
  have h3 := h.lo
  exact ⟨h.bel.setCell (p := ⟨O + 3, 0, none⟩) (by show w.heap.size ≤ O + 3; omega) _, by simpa [World.setCell] using h.sz, h.lo, h.hi, h.hd, h.r0.other (by omega) _, h.r1.other (by omega) _, h.r2.other (by omega) _, h.r3.other (by omega) _, h.r4.other (by omega) _,
    h.m0.set _, h.m1.other (by omega) _, h.m2.other (by omega) _, h.l0.other (by omega) _, h.n0.other (by omega) _, ownsRow_setCell_below h.own (by show O + 3 < D; omega) _, ownsRow_setCell_below h.own2 (by show O + 3 < D; omega) _, h.ap, h.st.other (by omega) _⟩
theorem RdSt.columns (h : RdSt w D O B X num R C v zs v2 ls W) (C' : Int) : RdSt w D O B X num R C' v zs v2 ls (W.setCell ⟨O + 3, 1, none⟩ (.int .i64 C')) := by
  have h1 := h.hi
  have h2 := h.hd
  have h3 := h.lo
  exact ⟨h.bel.setCell (p := ⟨O + 3, 1, none⟩) (by show w.heap.size ≤ O + 3; omega) _, by simpa [World.setCell] using h.sz, h.lo, h.hi, h.hd, h.r0.other (by omega) _, h.r1.other (by omega) _, h.r2.other (by omega) _, h.r3.other (by omega) _, h.r4.other (by omega) _,
    h.m0.other (by omega) _, h.m1.set _, h.m2.other (by omega) _, h.l0.other (by omega) _, h.n0.other (by omega) _, ownsRow_setCell_below h.own (by show O + 3 < D; omega) _, ownsRow_setCell_below h.own2 (by show O + 3 < D; omega) _, h.ap, h.st.other (by omega) _⟩
/-- Behind an append to one of the rows. -/
theorem grown_below {W w1 : World} {D e n : Nat} {v : Value} {xs : List Value} {o : Obj} (hD : D ≤ W.heap.size) (ho : W.ownsRow D e 1 v n xs) (hg : (W.alloc o).grownBy w1 v.ownBlock) : Below D W w1 :=
  ((Below.refl D W).alloc hD o).grown hg (by simp; omega) (fun g hg => (ho.lt g hg).1)
theorem ap_new {W : World} {D e n : Nat} {v v' v2 : Value} {ys : List Value} (h : ApartV v v2) (ho : W.ownsRow D e 1 v2 n ys) (hloc : v'.ownBlock = v.ownBlock ∨ v'.ownBlock = some (W.heap.size + 1)) : ApartV v' v2 := by
  intro g h1 h2
  rcases hloc with e | e
  · exact h g (e ▸ h1) h2
  · rw [h1] at e
    have h3 := (ho.lt g h2).2
    have h4 := Option.some.inj e
    omega
/-- A phase is appended. -/
theorem RdSt.addZ {w1 : World} {v' : Value} {z : Int} {o : Obj} (h : RdSt w D O B X num R C v zs v2 ls W) {m : Nat} (hm : zs.length = m) (ho : w1.ownsRow D 3 1 v' (m + 1) (intC zs ++ [.int .i64 z]))
    (hg : (W.alloc o).grownBy w1 v.ownBlock) (hloc : v'.ownBlock = v.ownBlock ∨ v'.ownBlock = some (W.heap.size + 1)) : RdSt w D O B X num R C v' (zs ++ [z]) v2 ls (w1.setCell ⟨O + 3, 2, none⟩ v') := by
  have h1 := h.hi
  have h2 := h.hd
  have h3 := h.lo
  subst hm
  have hb := grown_below h.sz h.own hg
  have e : intC (zs ++ [z]) = intC zs ++ [.int .i64 z] := by unfold intC; rw [List.map_append]; rfl
  refine ⟨(h.bel.trans (hb.mono (by omega))).setCell (p := ⟨O + 3, 2, none⟩) (by show w.heap.size ≤ O + 3; omega) _, by simpa [World.setCell] using Nat.le_trans h.sz hb.size, h.lo, h.hi, h.hd, (h.r0.below hb (by omega)).other (by omega) _, (h.r1.below hb (by omega)).other (by omega) _, (h.r2.below hb (by omega)).other (by omega) _, (h.r3.below hb (by omega)).other (by omega) _, (h.r4.below hb (by omega)).other (by omega) _,
    (h.m0.below hb (by omega)).other (by omega) _, (h.m1.below hb (by omega)).other (by omega) _, (h.m2.below hb (by omega)).set _, (h.l0.below hb (by omega)).other (by omega) _, (h.n0.below hb (by omega)).other (by omega) _, ?_, ?_, ?_, (h.st.below hb h.hd).other (by omega) _⟩
  · rw [e, List.length_append]
    exact ownsRow_setCell_below ho (by show O + 3 < D; omega) _
  · exact ownsRow_setCell_below ((h.own2.alloc o).kept hg h.ap.or) (by show O + 3 < D; omega) _
  · exact ap_new h.ap h.own2 hloc
/-- A line's length is appended. -/
theorem RdSt.addL {w1 : World} {v' : Value} {z : Int} {o : Obj} (h : RdSt w D O B X num R C v zs v2 ls W) {m : Nat} (hm : ls.length = m) (ho : w1.ownsRow D 3 1 v' (m + 1) (intC ls ++ [.int .i64 z]))
    (hg : (W.alloc o).grownBy w1 v2.ownBlock) (hloc : v'.ownBlock = v2.ownBlock ∨ v'.ownBlock = some (W.heap.size + 1)) : RdSt w D O B X num R C v zs v' (ls ++ [z]) (w1.setCell ⟨O + 4, 0, none⟩ v') := by
  have h1 := h.hi
  have h2 := h.hd
  have h3 := h.lo
  subst hm
  have hb := grown_below h.sz h.own2 hg
  have e : intC (ls ++ [z]) = intC ls ++ [.int .i64 z] := by unfold intC; rw [List.map_append]; rfl
  refine ⟨(h.bel.trans (hb.mono (by omega))).setCell (p := ⟨O + 4, 0, none⟩) (by show w.heap.size ≤ O + 4; omega) _, by simpa [World.setCell] using Nat.le_trans h.sz hb.size, h.lo, h.hi, h.hd, (h.r0.below hb (by omega)).other (by omega) _, (h.r1.below hb (by omega)).other (by omega) _, (h.r2.below hb (by omega)).other (by omega) _, (h.r3.below hb (by omega)).other (by omega) _, (h.r4.below hb (by omega)).other (by omega) _,
    (h.m0.below hb (by omega)).other (by omega) _, (h.m1.below hb (by omega)).other (by omega) _, (h.m2.below hb (by omega)).other (by omega) _, (h.l0.below hb (by omega)).set _, (h.n0.below hb (by omega)).other (by omega) _, ?_, ?_, ?_, (h.st.below hb h.hd).other (by omega) _⟩
  · exact ownsRow_setCell_below ((h.own.alloc o).kept hg h.ap.symm.or) (by show O + 4 < D; omega) _
  · rw [e, List.length_append]
    exact ownsRow_setCell_below ho (by show O + 4 < D; omega) _
  · exact (ap_new h.ap.symm h.own hloc).symm
theorem keepT_grown {e : TypeId} {D : Nat} {W w1 : World} {n : Nat} {v : Value} {xs : List Value} {o : Obj} (hD : D ≤ W.heap.size) (ho : W.ownsRow D e 1 v n xs) (hg : (W.alloc o).grownBy w1 v.ownBlock) : KeepT e D W w1 :=
  (grown_keep (show Below W.heap.size W (W.alloc o) from (Below.refl _ _).alloc (Nat.le_refl _) _) (Nat.le_refl _) hD hg ho).2
end
/-- The words of a line, in block SB. -/
def WrdB (W : World) (SB : Nat) (ws : List ByteArray) : Prop := W.heap[SB]? = some (.cells (ws.map Value.string).toArray 9)
theorem WrdB.lt {W : World} {SB : Nat} {ws : List ByteArray} (h : WrdB W SB ws) : SB < W.heap.size := (Array.getElem?_eq_some_iff.1 h).1
theorem WrdB.below {W W' : World} {D SB : Nat} {ws : List ByteArray} (h : WrdB W SB ws) (hb : Below D W W') (hlt : SB < D) : WrdB W' SB ws := (hb.block SB hlt).trans h
theorem WrdB.cell {W : World} {SB : Nat} {ws : List ByteArray} (h : WrdB W SB ws) {j : Nat} (hj : j < ws.length) : W.cell? ⟨SB, j, none⟩ = some (.string (textAt ws j)) := by
  unfold WrdB at h
  unfold textAt
  simp [World.cell?, h, hj]
theorem WrdB.other {W : World} {SB b j : Nat} {ws : List ByteArray} (h : WrdB W SB ws) (hn : b ≠ SB) (u : Value) : WrdB (W.setCell ⟨b, j, none⟩ u) SB ws := (heap_setCell_other W ⟨b, j, none⟩ SB u (fun e => hn e.symm)).trans h
theorem WrdB.grown {W w1 : World} {D n SB : Nat} {v : Value} {xs : List Value} {ws : List ByteArray} {o : Obj} (h : WrdB W SB ws) (ho : W.ownsRow D 3 1 v n xs) (hg : (W.alloc o).grownBy w1 v.ownBlock) : WrdB w1 SB ws := by
  refine (hg.block SB (by simp; have := h.lt; omega) ?_).trans ((Below.heap_alloc _ _ _ h.lt).trans h)
  intro e
  obtain ⟨-, ⟨rfl, -⟩ | ⟨g, cap, cur, rfl, -, hc, -⟩⟩ := ho
  · simp [Value.ownBlock] at e
  · obtain rfl : SB = g := by simpa [Value.ownBlock] using e
    rw [show W.heap[SB]? = _ from h] at hc
    simp at hc
/-- strings.Split at a blank. -/
theorem split_any (T : ByteArray) (w : World) (hs : T.size ≤ 100000) (ht : TabR w) {ws : List ByteArray} (hw : wordsT T = ws) {m : Nat} (hm : ws.length = m) :
    Calls Tryz.prog 54 #[.string T, .string ⟨#[32]⟩] w fun e w' => e = .returned (.slice (some ⟨w.heap.size, 0, none⟩) m m) ∧ w' = w.alloc (.cells (ws.map Value.string).toArray 9) := by
  obtain ⟨mx, hmx⟩ := ht.mx
  refine (Tryz.strings_Split T ⟨#[32]⟩ mx w (by omega) hmx (by decide)).mono ?_
  rintro e w' ⟨rfl, rfl⟩
  have h1 : Lib.splitB ⟨#[32]⟩ 0 (Lib.countB T ⟨#[32]⟩) T = ws := by rw [split_cutW, ← hw]; rfl
  have h2 : Lib.countB T ⟨#[32]⟩ + 1 = m := by
    rw [← hm, ← h1]
    exact (Lib.splitB_all ⟨#[32]⟩ (by decide) 0 _ T rfl).symm
  rw [h1, h2]
  exact ⟨rfl, rfl⟩
/-- A line's length is asked. -/
theorem lengthIs (C z : Int) (p : Addr) (w : World) (hC : w.cell? ⟨p.block, 1, none⟩ = some (.int .i64 C)) (hp : p = ⟨p.block, 0, none⟩) : Calls Tryz.prog 57 #[.int .i64 z, .pointer (some p)] w fun e w' => e = .returned (.bool (z != C)) ∧ w = w' := by
  obtain ⟨b, hb⟩ : ∃ b, p.block = b := ⟨_, rfl⟩
  rw [hb] at hC hp
  subst hp
  go_enter Tryz.func57, Tryz.ntmps57
  go_wp2
  go_ret
  exact ⟨rfl, rfl⟩
end Go.Proofs.YtkoiknmijjiicaaGreatDoor
