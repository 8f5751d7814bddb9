import Derived.Test.YtkoiknmijjiicaaGreatDoorXD
import Derived.RangeFuncBox
import Derived.Test.YtkoiknmijjiicaaGreatDoorXW
import Derived.Maps.OwnIn
/- A region that draws its order and only reads and calls, within a round of a range over a function; rows behind an append. No program in sight. (After U107.) -/
namespace Go.Proofs.YtkoiknmijjiicaaGreatDoor
set_option linter.unusedVariables false
set_option linter.unusedSimpArgs false
open Go Go.RowKit Go.Sort
section
variable {P : Program} {ops : Array Oper} {Q : Exit → Act → World → Prop} {md : Region.Mode}
theorem callsIn_rnd4 {l m : Nat} {P : Program} {f : FuncId} {args : Array Value} {w : World} {R : Ending → World → Prop} (h : Calls P f args w R) : CallsIn (Fence.wide.inRound l) m P f args w R := callsIn_wide (n := m).2 h
theorem oper_round {l m : Nat} {o : Oper} {a : Act} {w : World} {K : Act → World → Prop} (hd : ∀ c, o.op ≠ .defer c) (h : o.wp P a w K Q) : o.wpIn (Fence.wide.inRound l) m P a w K Q := by
  unfold Oper.wp at h
  unfold Oper.wpIn
  refine ⟨fun _ _ => trivial, ?_⟩
  rw [Oper.semAt_eq _ _ _ hd]
  generalize (execOp a.eval o).run P w = r at *
  have hdep : (Fence.wide.inRound l).depth.isSome = true → 1 ≤ m := fun h => by simp [Fence.wide, Fence.inRound] at h
  cases r with
  | ok x w' =>
    cases x <;> simp only [Oper.upon, Oper.uponIn] at h ⊢
    all_goals first
      | exact h
      | exact ⟨hdep, callsIn_rnd4 h⟩
      | exact ⟨hdep, fun c cs _ => let ⟨v, w'', r, s⟩ := h c cs; ⟨v, w'', r, stepsIn_wide.2 s⟩⟩
  | halt x w' => cases x <;> simp only [Oper.upon, Oper.uponIn] at h ⊢ <;> exact h
theorem any_round {l m : Nat} (hd : ∀ (i : Nat) (o : Oper) (c : Call), ops[i]? = some o → o.op ≠ .defer c) (hQ : ¬ LetsOut Q) : ∀ (fuel : Nat) (listed : Array Bool) (a : Act) (w : World), wpAny P md ops Q fuel listed a w → wpAnyIn (Fence.wide.inRound l) m P md ops Q fuel listed a w
  | 0, _, _, _, h => h
  | fuel + 1, listed, a, w, h => by
    refine ⟨h.1, fun i hi => ?_⟩
    have h2 := h.2 i hi
    refine wpOpIn_mono (K := wpAny P md ops Q fuel (listed.setIfInBounds i true)) (fun a w h => any_round hd hQ fuel _ a w h) ?_
    unfold wpOp at h2
    unfold wpOpIn
    cases ho : ops[i]? with
    | none => simpa [ho] using h2
    | some o =>
      simp only [ho] at h2 ⊢
      split
      · rename_i hw
        rw [if_pos hw] at h2
        exact oper_round (fun c => hd i o c ho) (h2.resolve_right fun h => hQ h.2)
      · rename_i hw
        rw [if_neg hw] at h2
        exact ⟨fun _ _ => trivial, h2⟩
def noDefer (l : List Oper) : Bool := l.all fun o => match o.op with | .defer _ => false | _ => true
theorem noDefer_at {l : List Oper} (h : noDefer l = true) : ∀ (i : Nat) (o : Oper) (c : Call), l.toArray[i]? = some o → o.op ≠ .defer c := fun i o c ho hc => by
  have := List.all_eq_true.1 h o (List.mem_of_getElem? (by simpa using ho))
  rw [hc] at this
  cases this
theorem boundPost_in {B : Nat} {I : World → Prop} {Ix : Code → World → Prop} {W : World} : ¬ LetsOut (boundPost B I Ix W) := fun ⟨_, _, h⟩ => h
theorem wpIn_region_calm {r m : Nat} {id : Nat} {a : Act} {w : World} {l : List Oper} (hQ : ¬ LetsOut Q) (hm : P.follows .mixedOrders = true) (hB : Region.lexB .any l.toArray = true) (hd : noDefer l = true)
    (h : wpQuiet P l.toArray (fun w' => ∃ p : Regrown, w' = later w p) (fun a' => ∀ w', (∃ p : Regrown, w' = later w p) → Q .normal a' w') l a) : (Code.region id l.toArray true).wpIn (Fence.wide.inRound r) m P Q a w := by
  simp only [Region.lexB, Bool.and_eq_true] at hB
  refine wpIn_region_any hm (any_round (noDefer_at hd) hQ _ _ _ _ ?_)
  refine wpAny_of_quiet (C := fun w' => ∃ p : Regrown, w' = later w p) (Q := fun a' => ∀ w', (∃ p : Regrown, w' = later w p) → Q .normal a' w') (fun _ w' hw' h => h w' hw') _ _ _ _ ⟨⟨w.drawn + 1, #[]⟩, by unfold later; rw [grow_empty]; rfl⟩ ?_
  have := wpAnyQ_lex (C := fun w' => ∃ p : Regrown, w' = later w p) (md := .any) hB.1 l 0 (Array.replicate l.toArray.size false) a (by simp) (by simpa using hB.2) h
  simpa using this
end
/-- Behind an append: what lies below the rows' first block, and what is no row of theirs, is kept. -/
theorem grown_keep {W X w1 : World} {B e size n : Nat} {val : Value} {xs : List Value} (hX : Below W.heap.size W X) (hs : W.heap.size ≤ W.heap.size) (hB : B ≤ W.heap.size) (hg : X.grownBy w1 val.ownBlock) (ho : W.ownsRow B e size val n xs) :
    Below B W w1 ∧ KeepT e B W w1 := by
  refine ⟨(hX.mono hB).grown hg (Nat.le_trans hB hX.size) (fun g hg => (ho.lt g hg).1), Nat.le_trans hX.size hg.size, fun k h1 h2 h3 => ?_⟩
  refine (hg.block k (Nat.lt_of_lt_of_le h2 hX.size) (fun e' => ?_)).trans (hX.block k h2)
  obtain ⟨-, ⟨rfl, -⟩ | ⟨g, cap, cur, rfl, -, hc, -⟩⟩ := ho
  · simp [Value.ownBlock] at e'
  · obtain rfl : k = g := by simpa [Value.ownBlock] using e'
    exact h3 _ _ hc
end Go.Proofs.YtkoiknmijjiicaaGreatDoor

/- Chapter 4: what the program's Parse holds while it reads. -/
namespace Go.Proofs.YtkoiknmijjiicaaGreatDoor
set_option linter.unusedVariables false
set_option linter.unusedSimpArgs false
open Go.RowKit Go
/-- A cell that may be written. -/
def Cel (W : World) (b j : Nat) (u : Value) : Prop := W.cell? ⟨b, j, none⟩ = some u ∧ W.frozen? ⟨b, j, none⟩ = false
theorem Cel.set {W : World} {b j : Nat} {u : Value} (h : Cel W b j u) (u' : Value) : Cel (W.setCell ⟨b, j, none⟩ u') b j u' := ⟨World.cell?_setCell_same _ _ _ h.1, by simpa using h.2⟩
theorem Cel.other {W : World} {b j b' j' : Nat} {u : Value} (h : Cel W b j u) (hn : ¬ (b' = b ∧ j' = j)) (u' : Value) : Cel (W.setCell ⟨b', j', none⟩ u') b j u := by
  refine ⟨?_, by simpa using h.2⟩
  rw [World.cell?_setCell_other _ _ _ _ (by intro e; injection e with e1 e2; exact hn ⟨by omega, by omega⟩)]
  exact h.1
theorem Cel.below {W W' : World} {D b j : Nat} {u : Value} (h : Cel W b j u) (hb : Below D W W') (hlt : b < D) : Cel W' b j u := ⟨(hb.cell (p := ⟨b, j, none⟩) hlt).trans h.1, (hb.frozen (p := ⟨b, j, none⟩) hlt).trans h.2⟩
/-- Two rows apart. -/
def ApartV (v0 v1 : Value) : Prop := ∀ g, v0.ownBlock = some g → v1.ownBlock ≠ some g
theorem ApartV.or {v0 v1 : Value} (h : ApartV v0 v1) : v1.ownBlock = none ∨ v1.ownBlock ≠ v0.ownBlock := by
  cases hu : v1.ownBlock with
  | none => exact .inl rfl
  | some g => exact .inr fun e => h g e.symm hu
theorem ApartV.symm {v0 v1 : Value} (h : ApartV v0 v1) : ApartV v1 v0 := fun g h1 h2 => h g h2 h1
/-- A row of whole numbers in slice form. -/
theorem ownsRow_form {w : World} {B e : Nat} {v : Value} {n : Nat} {xs : List Value} (h : w.ownsRow B e 1 v n xs) : ∃ a c, v = .slice a n c := by
  obtain ⟨-, ⟨rfl, rfl⟩ | ⟨g, cap, cur, rfl, -⟩⟩ := h
  · exact ⟨_, _, rfl⟩
  · exact ⟨_, _, rfl⟩
/-- What Parse holds: O, O + 1, O + 2 the results, O + 3 the map, O + 4 the lengths, O + 5 the line's number; B the iterator's text; rows from D on. -/
structure RdSt (w : World) (D O B : Nat) (X : Value) (num R C : Int) (v : Value) (zs : List Int) (v2 : Value) (ls : List Int) (W : World) : Prop where
  bel : Below w.heap.size w W
  sz : D ≤ W.heap.size
  lo : w.heap.size ≤ O
  hi : O + 5 < B
  hd : B < D
  r0 : Cel W O 0 (.int .i64 0)
  r1 : Cel W O 1 (.int .i64 0)
  r2 : Cel W O 2 (.slice none 0 0)
  r3 : Cel W (O + 1) 0 (.int .i64 0)
  r4 : Cel W (O + 2) 0 (.int .i64 0)
  m0 : Cel W (O + 3) 0 (.int .i64 R)
  m1 : Cel W (O + 3) 1 (.int .i64 C)
  m2 : Cel W (O + 3) 2 v
  l0 : Cel W (O + 4) 0 v2
  n0 : Cel W (O + 5) 0 (.int .i64 num)
  own : W.ownsRow D 3 1 v zs.length (intC zs)
  own2 : W.ownsRow D 3 1 v2 ls.length (intC ls)
  ap : ApartV v v2
  st : StB W B X
section
variable {w : World} {D O B : Nat} {X : Value} {num R C : Int} {v : Value} {zs : List Int} {v2 : Value} {ls : List Int} {W : World}
theorem RdSt.keep {W' : World} (h : RdSt w D O B X num R C v zs v2 ls W) (hb : Below D W W') (hc : CellsSame W W') : RdSt w D O B X num R C v zs v2 ls W' := by
  have h1 := h.hi
  have h2 := h.hd
  have h3 := h.lo
  exact ⟨h.bel.trans (hb.mono (by omega)), Nat.le_trans h.sz hb.size, h.lo, h.hi, h.hd, h.r0.below hb (by omega), h.r1.below hb (by omega), h.r2.below hb (by omega), h.r3.below hb (by omega), h.r4.below hb (by omega),
    h.m0.below hb (by omega), h.m1.below hb (by omega), h.m2.below hb (by omega), h.l0.below hb (by omega), h.n0.below hb (by omega), ownsRow_same h.own hc, ownsRow_same h.own2 hc, h.ap, h.st.below hb h.hd⟩
theorem RdSt.below {W' : World} (h : RdSt w D O B X num R C v zs v2 ls W) (hb : Below W.heap.size W W') : RdSt w D O B X num R C v zs v2 ls W' := h.keep (hb.mono h.sz) (CellsSame.below hb)
/-- The iterator's own text. -/
theorem RdSt.setB (h : RdSt w D O B X num R C v zs v2 ls W) (u : Value) : RdSt w D O B u num R C v zs v2 ls (W.setCell ⟨B, 0, none⟩ u) := by
  have h1 := h.hi
  have h2 := h.hd
  have h3 := h.lo
  exact ⟨h.bel.setCell (p := ⟨B, 0, none⟩) (by show w.heap.size ≤ B; omega) _, by simpa [World.setCell] using h.sz, h.lo, h.hi, h.hd, h.r0.other (by omega) _, h.r1.other (by omega) _, h.r2.other (by omega) _, h.r3.other (by omega) _, h.r4.other (by omega) _,
    h.m0.other (by omega) _, h.m1.other (by omega) _, h.m2.other (by omega) _, h.l0.other (by omega) _, h.n0.other (by omega) _, ownsRow_setCell_below h.own h.hd _, ownsRow_setCell_below h.own2 h.hd _, h.ap, h.st.set _⟩
theorem StB.other {W : World} {B b j : Nat} {X : Value} (h : StB W B X) (hn : b ≠ B) (u : Value) : StB (W.setCell ⟨b, j, none⟩ u) B X := by
  have := Cel.other (j' := j) (b' := b) (show Cel W B 0 X from h) (fun e => hn e.1) u
  exact this
theorem RdSt.number (h : RdSt w D O B X num R C v zs v2 ls W) (n' : Int) : RdSt w D O B X n' R C v zs v2 ls (W.setCell ⟨O + 5, 0, none⟩ (.int .i64 n')) := by
  have h1 := h.hi
  have h2 := h.hd
  have h3 := h.lo
  exact ⟨h.bel.setCell (p := ⟨O + 5, 0, none⟩) (by show w.heap.size ≤ O + 5; omega) _, by simpa [World.setCell] using h.sz, h.lo, h.hi, h.hd, h.r0.other (by omega) _, h.r1.other (by omega) _, h.r2.other (by omega) _, h.r3.other (by omega) _, h.r4.other (by omega) _,
    h.m0.other (by omega) _, h.m1.other (by omega) _, h.m2.other (by omega) _, h.l0.other (by omega) _, h.n0.set _, ownsRow_setCell_below h.own (by show O + 5 < D; omega) _, ownsRow_setCell_below h.own2 (by show O + 5 < D; omega) _, h.ap, h.st.other (by omega) _⟩
theorem RdSt.rows (h : RdSt w D O B X num R C v zs v2 ls W) (R' : Int) : RdSt w D O B X num R' C v zs v2 ls (W.setCell ⟨O + 3, 0, none⟩ (.int .i64 R')) := by
  have h1 := h.hi
  have h2 := h.hd
  have h3 := h.lo
  exact ⟨h.bel.setCell (p := ⟨O + 3, 0, none⟩) (by show w.heap.size ≤ O + 3; omega) _, by simpa [World.setCell] using h.sz, h.lo, h.hi, h.hd, h.r0.other (by omega) _, h.r1.other (by omega) _, h.r2.other (by omega) _, h.r3.other (by omega) _, h.r4.other (by omega) _,
    h.m0.set _, h.m1.other (by omega) _, h.m2.other (by omega) _, h.l0.other (by omega) _, h.n0.other (by omega) _, ownsRow_setCell_below h.own (by show O + 3 < D; omega) _, ownsRow_setCell_below h.own2 (by show O + 3 < D; omega) _, h.ap, h.st.other (by omega) _⟩
theorem RdSt.columns (h : RdSt w D O B X num R C v zs v2 ls W) (C' : Int) : RdSt w D O B X num R C' v zs v2 ls (W.setCell ⟨O + 3, 1, none⟩ (.int .i64 C')) := by
  have h1 := h.hi
  have h2 := h.hd
  have h3 := h.lo
  exact ⟨h.bel.setCell (p := ⟨O + 3, 1, none⟩) (by show w.heap.size ≤ O + 3; omega) _, by simpa [World.setCell] using h.sz, h.lo, h.hi, h.hd, h.r0.other (by omega) _, h.r1.other (by omega) _, h.r2.other (by omega) _, h.r3.other (by omega) _, h.r4.other (by omega) _,
    h.m0.other (by omega) _, h.m1.set _, h.m2.other (by omega) _, h.l0.other (by omega) _, h.n0.other (by omega) _, ownsRow_setCell_below h.own (by show O + 3 < D; omega) _, ownsRow_setCell_below h.own2 (by show O + 3 < D; omega) _, h.ap, h.st.other (by omega) _⟩
/-- Behind an append to one of the rows. -/
theorem grown_below {W w1 : World} {D e n : Nat} {v : Value} {xs : List Value} {o : Obj} (hD : D ≤ W.heap.size) (ho : W.ownsRow D e 1 v n xs) (hg : (W.alloc o).grownBy w1 v.ownBlock) : Below D W w1 :=
  ((Below.refl D W).alloc hD o).grown hg (by simp; omega) (fun g hg => (ho.lt g hg).1)
theorem ap_new {W : World} {D e n : Nat} {v v' v2 : Value} {ys : List Value} (h : ApartV v v2) (ho : W.ownsRow D e 1 v2 n ys) (hloc : v'.ownBlock = v.ownBlock ∨ v'.ownBlock = some (W.heap.size + 1)) : ApartV v' v2 := by
  intro g h1 h2
  rcases hloc with e | e
  · exact h g (e ▸ h1) h2
  · rw [h1] at e
    have h3 := (ho.lt g h2).2
    have h4 := Option.some.inj e
    omega
/-- A phase is appended. -/
theorem RdSt.addZ {w1 : World} {v' : Value} {z : Int} {o : Obj} (h : RdSt w D O B X num R C v zs v2 ls W) {m : Nat} (hm : zs.length = m) (ho : w1.ownsRow D 3 1 v' (m + 1) (intC zs ++ [.int .i64 z]))
    (hg : (W.alloc o).grownBy w1 v.ownBlock) (hloc : v'.ownBlock = v.ownBlock ∨ v'.ownBlock = some (W.heap.size + 1)) : RdSt w D O B X num R C v' (zs ++ [z]) v2 ls (w1.setCell ⟨O + 3, 2, none⟩ v') := by
  have h1 := h.hi
  have h2 := h.hd
  have h3 := h.lo
  subst hm
  have hb := grown_below h.sz h.own hg
  have e : intC (zs ++ [z]) = intC zs ++ [.int .i64 z] := by unfold intC; rw [List.map_append]; rfl
  refine ⟨(h.bel.trans (hb.mono (by omega))).setCell (p := ⟨O + 3, 2, none⟩) (by show w.heap.size ≤ O + 3; omega) _, by simpa [World.setCell] using Nat.le_trans h.sz hb.size, h.lo, h.hi, h.hd, (h.r0.below hb (by omega)).other (by omega) _, (h.r1.below hb (by omega)).other (by omega) _, (h.r2.below hb (by omega)).other (by omega) _, (h.r3.below hb (by omega)).other (by omega) _, (h.r4.below hb (by omega)).other (by omega) _,
    (h.m0.below hb (by omega)).other (by omega) _, (h.m1.below hb (by omega)).other (by omega) _, (h.m2.below hb (by omega)).set _, (h.l0.below hb (by omega)).other (by omega) _, (h.n0.below hb (by omega)).other (by omega) _, ?_, ?_, ?_, (h.st.below hb h.hd).other (by omega) _⟩
  · rw [e, List.length_append]
    exact ownsRow_setCell_below ho (by show O + 3 < D; omega) _
  · exact ownsRow_setCell_below ((h.own2.alloc o).kept hg h.ap.or) (by show O + 3 < D; omega) _
  · exact ap_new h.ap h.own2 hloc
/-- A line's length is appended. -/
theorem RdSt.addL {w1 : World} {v' : Value} {z : Int} {o : Obj} (h : RdSt w D O B X num R C v zs v2 ls W) {m : Nat} (hm : ls.length = m) (ho : w1.ownsRow D 3 1 v' (m + 1) (intC ls ++ [.int .i64 z]))
    (hg : (W.alloc o).grownBy w1 v2.ownBlock) (hloc : v'.ownBlock = v2.ownBlock ∨ v'.ownBlock = some (W.heap.size + 1)) : RdSt w D O B X num R C v zs v' (ls ++ [z]) (w1.setCell ⟨O + 4, 0, none⟩ v') := by
  have h1 := h.hi
  have h2 := h.hd
  have h3 := h.lo
  subst hm
  have hb := grown_below h.sz h.own2 hg
  have e : intC (ls ++ [z]) = intC ls ++ [.int .i64 z] := by unfold intC; rw [List.map_append]; rfl
  refine ⟨(h.bel.trans (hb.mono (by omega))).setCell (p := ⟨O + 4, 0, none⟩) (by show w.heap.size ≤ O + 4; omega) _, by simpa [World.setCell] using Nat.le_trans h.sz hb.size, h.lo, h.hi, h.hd, (h.r0.below hb (by omega)).other (by omega) _, (h.r1.below hb (by omega)).other (by omega) _, (h.r2.below hb (by omega)).other (by omega) _, (h.r3.below hb (by omega)).other (by omega) _, (h.r4.below hb (by omega)).other (by omega) _,
    (h.m0.below hb (by omega)).other (by omega) _, (h.m1.below hb (by omega)).other (by omega) _, (h.m2.below hb (by omega)).other (by omega) _, (h.l0.below hb (by omega)).set _, (h.n0.below hb (by omega)).other (by omega) _, ?_, ?_, ?_, (h.st.below hb h.hd).other (by omega) _⟩
  · exact ownsRow_setCell_below ((h.own.alloc o).kept hg h.ap.symm.or) (by show O + 4 < D; omega) _
  · rw [e, List.length_append]
    exact ownsRow_setCell_below ho (by show O + 4 < D; omega) _
  · exact (ap_new h.ap.symm h.own hloc).symm
theorem keepT_grown {e : TypeId} {D : Nat} {W w1 : World} {n : Nat} {v : Value} {xs : List Value} {o : Obj} (hD : D ≤ W.heap.size) (ho : W.ownsRow D e 1 v n xs) (hg : (W.alloc o).grownBy w1 v.ownBlock) : KeepT e D W w1 :=
  (grown_keep (show Below W.heap.size W (W.alloc o) from (Below.refl _ _).alloc (Nat.le_refl _) _) (Nat.le_refl _) hD hg ho).2
end
/-- The words of a line, in block SB. -/
def WrdB (W : World) (SB : Nat) (ws : List ByteArray) : Prop := W.heap[SB]? = some (.cells (ws.map Value.string).toArray 9)
theorem WrdB.lt {W : World} {SB : Nat} {ws : List ByteArray} (h : WrdB W SB ws) : SB < W.heap.size := (Array.getElem?_eq_some_iff.1 h).1
theorem WrdB.below {W W' : World} {D SB : Nat} {ws : List ByteArray} (h : WrdB W SB ws) (hb : Below D W W') (hlt : SB < D) : WrdB W' SB ws := (hb.block SB hlt).trans h
theorem WrdB.cell {W : World} {SB : Nat} {ws : List ByteArray} (h : WrdB W SB ws) {j : Nat} (hj : j < ws.length) : W.cell? ⟨SB, j, none⟩ = some (.string (textAt ws j)) := by
  unfold WrdB at h
  unfold textAt
  simp [World.cell?, h, hj]
theorem WrdB.other {W : World} {SB b j : Nat} {ws : List ByteArray} (h : WrdB W SB ws) (hn : b ≠ SB) (u : Value) : WrdB (W.setCell ⟨b, j, none⟩ u) SB ws := (heap_setCell_other W ⟨b, j, none⟩ SB u (fun e => hn e.symm)).trans h
theorem WrdB.grown {W w1 : World} {D n SB : Nat} {v : Value} {xs : List Value} {ws : List ByteArray} {o : Obj} (h : WrdB W SB ws) (ho : W.ownsRow D 3 1 v n xs) (hg : (W.alloc o).grownBy w1 v.ownBlock) : WrdB w1 SB ws := by
  refine (hg.block SB (by simp; have := h.lt; omega) ?_).trans ((Below.heap_alloc _ _ _ h.lt).trans h)
  intro e
  obtain ⟨-, ⟨rfl, -⟩ | ⟨g, cap, cur, rfl, -, hc, -⟩⟩ := ho
  · simp [Value.ownBlock] at e
  · obtain rfl : SB = g := by simpa [Value.ownBlock] using e
    rw [show W.heap[SB]? = _ from h] at hc
    simp at hc
/-- strings.Split at a blank. -/
theorem split_any (T : ByteArray) (w : World) (hs : T.size ≤ 100000) (ht : TabR w) {ws : List ByteArray} (hw : wordsT T = ws) {m : Nat} (hm : ws.length = m) :
    Calls Tryz.prog 54 #[.string T, .string ⟨#[32]⟩] w fun e w' => e = .returned (.slice (some ⟨w.heap.size, 0, none⟩) m m) ∧ w' = w.alloc (.cells (ws.map Value.string).toArray 9) := by
  obtain ⟨mx, hmx⟩ := ht.mx
  refine (Tryz.strings_Split T ⟨#[32]⟩ mx w (by omega) hmx (by decide)).mono ?_
  rintro e w' ⟨rfl, rfl⟩
  have h1 : Lib.splitB ⟨#[32]⟩ 0 (Lib.countB T ⟨#[32]⟩) T = ws := by rw [split_cutW, ← hw]; rfl
  have h2 : Lib.countB T ⟨#[32]⟩ + 1 = m := by
    rw [← hm, ← h1]
    exact (Lib.splitB_all ⟨#[32]⟩ (by decide) 0 _ T rfl).symm
  rw [h1, h2]
  exact ⟨rfl, rfl⟩
/-- A line's length is asked. -/
theorem lengthIs (C z : Int) (p : Addr) (w : World) (hC : w.cell? ⟨p.block, 1, none⟩ = some (.int .i64 C)) (hp : p = ⟨p.block, 0, none⟩) : Calls Tryz.prog 57 #[.int .i64 z, .pointer (some p)] w fun e w' => e = .returned (.bool (z != C)) ∧ w = w' := by
  obtain ⟨b, hb⟩ : ∃ b, p.block = b := ⟨_, rfl⟩
  rw [hb] at hC hp
  subst hp
  go_enter Tryz.func57, Tryz.ntmps57
  go_wp2
  go_ret
  exact ⟨rfl, rfl⟩
end Go.Proofs.YtkoiknmijjiicaaGreatDoor

/- Chapter 4: the program's Parse: the first line's round. (Printed by mkx132.py from X132.src.) -/
namespace Go.Proofs.YtkoiknmijjiicaaGreatDoor
set_option linter.unusedVariables false
set_option linter.unusedSimpArgs false
open Go Go.RowKit Go.Sort
theorem numsK_head {ws : List ByteArray} {ns : List Int} (h : numsK 0 ws ws.length = some ns) : ns.length = ws.length - 1 := by
  have h1 := allO_len _ _ h
  rw [List.length_map] at h1
  unfold lookW at h1
  rw [if_pos rfl, List.take_length, List.length_drop] at h1
  exact h1
theorem numsK_one (ws : List ByteArray) : numsK 0 ws 1 = some [] := by
  unfold numsK
  rw [lookW_skip]
  rfl
theorem snoc_isSome {o : Option (List Int)} {r : Option Int} {q : Option (List Int)} (h : q = match o, r with | some ns, some v => some (ns ++ [v]) | _, _ => none) : q.isSome = (o.isSome && r.isSome) := by
  subst h
  cases o <;> cases r <;> rfl
/-- A Parse returns from within a round. -/
def RetB (w : World) (D O : Nat) (num : Int) (W : World) : Prop :=
  Cel W O 0 (.int .i64 0) ∧ Cel W O 1 (.int .i64 0) ∧ Cel W O 2 (.slice none 0 0) ∧ Cel W (O + 1) 0 (.int .i64 num) ∧ Cel W (O + 2) 0 (.int .i64 7) ∧ Below w.heap.size w W ∧ D ≤ W.heap.size
theorem RdSt.ret {w : World} {D O B : Nat} {X : Value} {num R C : Int} {v : Value} {zs : List Int} {v2 : Value} {ls : List Int} {W : World} (h : RdSt w D O B X num R C v zs v2 ls W) :
    RetB w D O num (((((W.setCell ⟨O, 0, none⟩ (.int .i64 0)).setCell ⟨O, 1, none⟩ (.int .i64 0)).setCell ⟨O, 2, none⟩ (.slice none 0 0)).setCell ⟨O + 1, 0, none⟩ (.int .i64 num)).setCell ⟨O + 2, 0, none⟩ (.int .i64 7)) := by
  have h3 := h.lo
  refine ⟨((((h.r0.set _).other (by omega) _).other (by omega) _).other (by omega) _).other (by omega) _, ((((h.r1.other (by omega) _).set _).other (by omega) _).other (by omega) _).other (by omega) _,
    ((((h.r2.other (by omega) _).other (by omega) _).set _).other (by omega) _).other (by omega) _, ((((h.r3.other (by omega) _).other (by omega) _).other (by omega) _).set _).other (by omega) _,
    ((((h.r4.other (by omega) _).other (by omega) _).other (by omega) _).other (by omega) _).set _, ?_, by simpa [World.setCell] using h.sz⟩
  exact ((((h.bel.setCell (p := ⟨O, 0, none⟩) h3 _).setCell (p := ⟨O, 1, none⟩) h3 _).setCell (p := ⟨O, 2, none⟩) h3 _).setCell (p := ⟨O + 1, 0, none⟩) (by show w.heap.size ≤ O + 1; omega) _).setCell (p := ⟨O + 2, 0, none⟩) (by show w.heap.size ≤ O + 2; omega) _
theorem RetB.drew {w : World} {D O : Nat} {num : Int} {W : World} (h : RetB w D O num W) : RetB w D O num W.drew := ⟨h.1, h.2.1, h.2.2.1, h.2.2.2.1, h.2.2.2.2.1, h.2.2.2.2.2.1.drew, h.2.2.2.2.2.2⟩
theorem KeepT.drew {T : TypeId} {B : Nat} {X Y : World} (h : KeepT T B X Y) : KeepT T B X Y.drew := ⟨h.size, h.same⟩
set_option maxRecDepth 20000 in
set_option maxHeartbeats 4000000 in
theorem parseHead (body : Code) (hbody : Tryz.f15.body.bind rangeBody = some body) (lk T : ByteArray) (b : Bool) (ws : List ByteArray) (q D O B mm l : Nat) (X : Value) (w W : World) (I : World → Prop) (Ix : Code → World → Prop)
    (hm : ws.length = q + 1) (hq : q ≤ 60000) (hwz : ∀ j, (textAt ws j).size ≤ 60000) (ht : TabR w)
    (hcs : ∀ W, Calls Tryz.prog 53 #[.string lk, .string ⟨#[10]⟩] W fun e w' => e = .returned (.tuple #[.string T, .bool b]) ∧ w' = W)
    (hsp : ∀ W, TabR W → Calls Tryz.prog 54 #[.string T, .string ⟨#[32]⟩] W fun e w' => e = .returned (.slice (some ⟨W.heap.size, 0, none⟩) (q + 1) (q + 1)) ∧ w' = W.alloc (.cells (ws.map Value.string).toArray 9))
    (hst : RdSt w D O B X 0 0 0 (.slice none 0 0) [] (.slice none 0 0) [] W)
    (hgo : ∀ W' ns, b = true → textAt ws 0 = phases → numsK 0 ws (q + 1) = some ns → ns.length = 2 → RdSt w D O B X 1 (intAt ns 0) (intAt ns 1) (.slice none 0 0) [] (.slice none 0 0) [] W' → I W')
    (hbad : ∀ W', ¬ (b = true ∧ textAt ws 0 = phases ∧ ∃ ns, numsK 0 ws (q + 1) = some ns ∧ ns.length = 2) → RetB w D O 1 W' → Ix .ret W')
    (u0 u1 u9 u10 u11 u12 u13 u14 u15 u16 u17 u18 u19 u20 u21 u22 u23 u25 u26 u27 u28 u29 u30 u31 u32 u33 u34 u35 u36 u37 u38 u39 u40 u41 u42 u43 u44 u45 u46 u47 u48 u49 u50 u51 u52 u53 u54 u55 u56 u57 u58 u59 u60 u61 u62 u63 u64 u65 u66 u67 u68 u69 u70 u71 u72 u73 u74 u75 u76 u77 u78 u79 u80 u81 u82 u83 u84 u85 u86 u87 u88 u89 u90 u91 u92 u93 u94 u95 u96 u97 u98 u99 u100 u101 u102 u103 u104 u105 u106 u107 u108 u109 u110 u111 u112 u113 u114 u115 u116 u117 u118 u119 : Value) :
    body.wpIn (Fence.wide.inRound l) (mm + 2) Tryz.prog (boundPostT 3 D I Ix W) { tmps := #[u0, u1, .pointer (some ⟨O, 0, none⟩), .pointer (some ⟨O + 1, 0, none⟩), .pointer (some ⟨O + 2, 0, none⟩), .pointer (some ⟨O + 3, 0, none⟩), .pointer (some ⟨O + 4, 0, none⟩), .pointer (some ⟨O + 5, 0, none⟩), .string lk, u9, u10, u11, u12, u13, u14, u15, u16, u17, u18, u19, u20, u21, u22, u23, .string lk, u25, u26, u27, u28, u29, u30, u31, u32, u33, u34, u35, u36, u37, u38, u39, u40, u41, u42, u43, u44, u45, u46, u47, u48, u49, u50, u51, u52, u53, u54, u55, u56, u57, u58, u59, u60, u61, u62, u63, u64, u65, u66, u67, u68, u69, u70, u71, u72, u73, u74, u75, u76, u77, u78, u79, u80, u81, u82, u83, u84, u85, u86, u87, u88, u89, u90, u91, u92, u93, u94, u95, u96, u97, u98, u99, u100, u101, u102, u103, u104, u105, u106, u107, u108, u109, u110, u111, u112, u113, u114, u115, u116, u117, u118, u119], defers := [] } W := by
  unfold Tryz.f15 at hbody
  simp only [Option.bind_some, rangeBody, Option.some.injEq] at hbody
  subst hbody
  have HT := Lib.hid ht
  have HM := Lib.hid hm
  have HWZ := Lib.hid hwz
  have HGO := Lib.hid hgo
  have HBAD := Lib.hid hbad
  have HCS := Lib.hid hcs
  have hlo := hst.lo
  have hhi := hst.hi
  have hhd := hst.hd
  have hsz := hst.sz
  obtain ⟨SB, hSB⟩ : ∃ SB, W.heap.size = SB := ⟨_, rfl⟩
  have HSB := Lib.hid (show O + 3 < SB by omega)
  have HSP := Lib.hid (show Calls Tryz.prog 54 #[.string T, .string ⟨#[32]⟩] (W.setCell ⟨O + 5, 0, none⟩ (.int .i64 1)) fun e w' => e = .returned (.slice (some ⟨SB, 0, none⟩) (q + 1) (q + 1)) ∧ RdSt w D O B X 1 0 0 (.slice none 0 0) [] (.slice none 0 0) [] w' ∧ WrdB w' SB ws ∧ KeepT 3 D W w' ∧ SB < w'.heap.size from by
    have h1 := hst.number 1
    refine (hsp _ (ht.below h1.bel)).mono ?_
    rintro e w' ⟨rfl, rfl⟩
    have hz : (W.setCell ⟨O + 5, 0, none⟩ (.int .i64 1)).heap.size = SB := by rw [← hSB]; simp [World.setCell]
    rw [hz]
    refine ⟨rfl, h1.below ((Below.refl _ _).alloc (Nat.le_refl _) _), ?_, ((KeepT.refl _ _).setCell (p := ⟨O + 5, 0, none⟩) (by show O + 5 < D; omega) _).trans (KeepT.below ((Below.refl _ _).alloc (Nat.le_refl _) _)), by simp [hz]⟩
    have := World.alloc_heap_new (W.setCell ⟨O + 5, 0, none⟩ (.int .i64 1)) (.cells (ws.map Value.string).toArray 9)
    rw [hz] at this
    exact this)
  obtain ⟨c5, f5⟩ := hst.n0
  obtain ⟨x0, hx0⟩ : ∃ x0, textAt ws 0 = x0 := ⟨_, rfl⟩
  have HX0 := Lib.hid hx0
  have hq1 : (0 : Int) ≤ (q : Int) := by omega
  have hq2 : (1 : Int) ≤ (q : Int) + 1 := by omega
  clear hst hsp hcs hgo hbad hwz ht hx0 hm
  by_cases hq0 : q = 0
  · subst hq0
    rcases (show b = false ∨ b = true by cases b <;> simp) with rfl | rfl
    · skip
      gi_wp2_with (first | (refine ⟨trivial, ?_⟩; gi_at_call 53; (with_reducible refine (callsIn_round (HCS.out _)).mono ?_); rintro e w1 ⟨rfl, rfl⟩) | (refine ⟨trivial, ?_⟩; gi_at_call 54; (with_reducible refine (callsIn_round HSP.out).mono ?_); rintro e w2 ⟨rfl, hs2, hw2, hk2, hl2⟩; have HS2 := Lib.hid hs2; have HW2 := Lib.hid hw2; have HK2 := Lib.hid hk2; obtain ⟨c6, f6⟩ := hs2.n0; have cw := hw2.cell (j := 0) (by rw [HM.out]; omega); rw [HX0.out] at cw; clear hs2 hw2 hk2 c5 f5))
      refine wpIn_region_calm (fun ⟨_, _, h⟩ => h) (by kernel_rfl) (by kernel_rfl) (by kernel_rfl) ?_
      repeat (go_big_quiet_step (fail))
      refine wpQuiet_nil ?_
      rintro _ ⟨pp, rfl⟩
      have hbl := below_later w2 pp
      generalize later w2 pp = w3 at hbl ⊢
      have HS3 := Lib.hid (HS2.out.below hbl)
      have HW3 := Lib.hid (HW2.out.below hbl HW2.out.lt)
      have HK3 := Lib.hid (HK2.out.trans (KeepT.below (T := 3) (B := D) hbl))
      clear hbl c6 f6 cw
      gi_wp2
      gi_loopw [10, 53] (fun f i wr => f = .bool false ∧ i = .int .i64 0 ∧ wr = w3) (fun _ _ _ => 0)
      case atStart => exact ⟨rfl, rfl, rfl⟩
      case round =>
        obtain ⟨rfl, rfl, rfl⟩ := hrel
        have hsr := HS3.out
        obtain ⟨c7, f7⟩ := hsr.n0
        obtain ⟨g0, g0f⟩ := hsr.r0
        obtain ⟨g1, g1f⟩ := hsr.r1
        obtain ⟨g2, g2f⟩ := hsr.r2
        obtain ⟨g3, g3f⟩ := hsr.r3
        obtain ⟨g4, g4f⟩ := hsr.r4
        have HB2 := Lib.hid (show ∀ W', RetB w D O 1 W' → Ix .ret W' from fun W' h => HBAD.out W' (fun h2 => by
          obtain ⟨h4, h5, ns, h6, h7⟩ := h2
          have h8 := numsK_head (by rw [HM.out]; exact h6)
          have := HM.out
          omega) h)
        clear hsr
        gi_wp2
        gi_region
        all_goals
          gi_wp2
          exact ⟨(((((HK3.out.setCell (p := ⟨O, 0, none⟩) (by show O < D; omega) _).setCell (p := ⟨O, 1, none⟩) (by show O < D; omega) _).setCell (p := ⟨O, 2, none⟩) (by show O < D; omega) _).setCell (p := ⟨O + 1, 0, none⟩) (by show O + 1 < D; omega) _).setCell (p := ⟨O + 2, 0, none⟩) (by show O + 2 < D; omega) _).drew, HB2.out _ HS3.out.ret.drew⟩
    · by_cases hx : x0 = phases
      · have hqx : (x0.toList == [112, 104, 97, 115, 101, 115]) = true := by rw [hx, Go.ByteArray.toList_eq]; rfl
        clear hx
        gi_wp2_with (first | (refine ⟨trivial, ?_⟩; gi_at_call 53; (with_reducible refine (callsIn_round (HCS.out _)).mono ?_); rintro e w1 ⟨rfl, rfl⟩) | (refine ⟨trivial, ?_⟩; gi_at_call 54; (with_reducible refine (callsIn_round HSP.out).mono ?_); rintro e w2 ⟨rfl, hs2, hw2, hk2, hl2⟩; have HS2 := Lib.hid hs2; have HW2 := Lib.hid hw2; have HK2 := Lib.hid hk2; obtain ⟨c6, f6⟩ := hs2.n0; have cw := hw2.cell (j := 0) (by rw [HM.out]; omega); rw [HX0.out] at cw; clear hs2 hw2 hk2 c5 f5))
        refine wpIn_region_calm (fun ⟨_, _, h⟩ => h) (by kernel_rfl) (by kernel_rfl) (by kernel_rfl) ?_
        repeat (go_big_quiet_step (fail))
        refine wpQuiet_nil ?_
        rintro _ ⟨pp, rfl⟩
        have hbl := below_later w2 pp
        generalize later w2 pp = w3 at hbl ⊢
        have HS3 := Lib.hid (HS2.out.below hbl)
        have HW3 := Lib.hid (HW2.out.below hbl HW2.out.lt)
        have HK3 := Lib.hid (HK2.out.trans (KeepT.below (T := 3) (B := D) hbl))
        clear hbl c6 f6 cw
        gi_wp2
        gi_loopw [10, 53] (fun f i wr => f = .bool false ∧ i = .int .i64 0 ∧ wr = w3) (fun _ _ _ => 0)
        case atStart => exact ⟨rfl, rfl, rfl⟩
        case round =>
          obtain ⟨rfl, rfl, rfl⟩ := hrel
          have hsr := HS3.out
          obtain ⟨c7, f7⟩ := hsr.n0
          obtain ⟨g0, g0f⟩ := hsr.r0
          obtain ⟨g1, g1f⟩ := hsr.r1
          obtain ⟨g2, g2f⟩ := hsr.r2
          obtain ⟨g3, g3f⟩ := hsr.r3
          obtain ⟨g4, g4f⟩ := hsr.r4
          have HB2 := Lib.hid (show ∀ W', RetB w D O 1 W' → Ix .ret W' from fun W' h => HBAD.out W' (fun h2 => by
            obtain ⟨h4, h5, ns, h6, h7⟩ := h2
            have h8 := numsK_head (by rw [HM.out]; exact h6)
            have := HM.out
            omega) h)
          clear hsr
          gi_wp2
          gi_region
          all_goals
            gi_wp2
            exact ⟨(((((HK3.out.setCell (p := ⟨O, 0, none⟩) (by show O < D; omega) _).setCell (p := ⟨O, 1, none⟩) (by show O < D; omega) _).setCell (p := ⟨O, 2, none⟩) (by show O < D; omega) _).setCell (p := ⟨O + 1, 0, none⟩) (by show O + 1 < D; omega) _).setCell (p := ⟨O + 2, 0, none⟩) (by show O + 2 < D; omega) _).drew, HB2.out _ HS3.out.ret.drew⟩
      · have hqx : (x0.toList == [112, 104, 97, 115, 101, 115]) = false := beq_false_of_ne fun e => hx (by apply ByteArray.ext; apply Array.toList_inj.1; rw [← Go.ByteArray.toList_eq, e]; rfl)
        clear hx
        gi_wp2_with (first | (refine ⟨trivial, ?_⟩; gi_at_call 53; (with_reducible refine (callsIn_round (HCS.out _)).mono ?_); rintro e w1 ⟨rfl, rfl⟩) | (refine ⟨trivial, ?_⟩; gi_at_call 54; (with_reducible refine (callsIn_round HSP.out).mono ?_); rintro e w2 ⟨rfl, hs2, hw2, hk2, hl2⟩; have HS2 := Lib.hid hs2; have HW2 := Lib.hid hw2; have HK2 := Lib.hid hk2; obtain ⟨c6, f6⟩ := hs2.n0; have cw := hw2.cell (j := 0) (by rw [HM.out]; omega); rw [HX0.out] at cw; clear hs2 hw2 hk2 c5 f5))
        refine wpIn_region_calm (fun ⟨_, _, h⟩ => h) (by kernel_rfl) (by kernel_rfl) (by kernel_rfl) ?_
        repeat (go_big_quiet_step (fail))
        refine wpQuiet_nil ?_
        rintro _ ⟨pp, rfl⟩
        have hbl := below_later w2 pp
        generalize later w2 pp = w3 at hbl ⊢
        have HS3 := Lib.hid (HS2.out.below hbl)
        have HW3 := Lib.hid (HW2.out.below hbl HW2.out.lt)
        have HK3 := Lib.hid (HK2.out.trans (KeepT.below (T := 3) (B := D) hbl))
        clear hbl c6 f6 cw
        gi_wp2
        gi_loopw [10, 53] (fun f i wr => f = .bool false ∧ i = .int .i64 0 ∧ wr = w3) (fun _ _ _ => 0)
        case atStart => exact ⟨rfl, rfl, rfl⟩
        case round =>
          obtain ⟨rfl, rfl, rfl⟩ := hrel
          have hsr := HS3.out
          obtain ⟨c7, f7⟩ := hsr.n0
          obtain ⟨g0, g0f⟩ := hsr.r0
          obtain ⟨g1, g1f⟩ := hsr.r1
          obtain ⟨g2, g2f⟩ := hsr.r2
          obtain ⟨g3, g3f⟩ := hsr.r3
          obtain ⟨g4, g4f⟩ := hsr.r4
          have HB2 := Lib.hid (show ∀ W', RetB w D O 1 W' → Ix .ret W' from fun W' h => HBAD.out W' (fun h2 => by
            obtain ⟨h4, h5, ns, h6, h7⟩ := h2
            have h8 := numsK_head (by rw [HM.out]; exact h6)
            have := HM.out
            omega) h)
          clear hsr
          gi_wp2
          gi_region
          all_goals
            gi_wp2
            exact ⟨(((((HK3.out.setCell (p := ⟨O, 0, none⟩) (by show O < D; omega) _).setCell (p := ⟨O, 1, none⟩) (by show O < D; omega) _).setCell (p := ⟨O, 2, none⟩) (by show O < D; omega) _).setCell (p := ⟨O + 1, 0, none⟩) (by show O + 1 < D; omega) _).setCell (p := ⟨O + 2, 0, none⟩) (by show O + 2 < D; omega) _).drew, HB2.out _ HS3.out.ret.drew⟩
  · have hqp : 0 < q := by omega
    rcases (show b = false ∨ b = true by cases b <;> simp) with rfl | rfl
    · obtain ⟨E0, hE⟩ : ∃ E0, false = E0 := ⟨_, rfl⟩
      have HE0 := Lib.hid hE.symm
      have HE1 := Lib.hid (show false = true → textAt ws 0 = phases → q = 2 → E0 = true from fun h => by cases h)
      have HE2 := Lib.hid (show E0 = true → false = true ∧ textAt ws 0 = phases ∧ q = 2 from fun h => by rw [← hE] at h; cases h)
      clear hE
      gi_wp2_with (first | (refine ⟨trivial, ?_⟩; gi_at_call 53; (with_reducible refine (callsIn_round (HCS.out _)).mono ?_); rintro e w1 ⟨rfl, rfl⟩) | (refine ⟨trivial, ?_⟩; gi_at_call 54; (with_reducible refine (callsIn_round HSP.out).mono ?_); rintro e w2 ⟨rfl, hs2, hw2, hk2, hl2⟩; have HS2 := Lib.hid hs2; have HW2 := Lib.hid hw2; have HK2 := Lib.hid hk2; obtain ⟨c6, f6⟩ := hs2.n0; have cw := hw2.cell (j := 0) (by rw [HM.out]; omega); rw [HX0.out] at cw; clear hs2 hw2 hk2 c5 f5))
      refine wpIn_region_calm (fun ⟨_, _, h⟩ => h) (by kernel_rfl) (by kernel_rfl) (by kernel_rfl) ?_
      repeat (go_big_quiet_step (fail))
      refine wpQuiet_nil ?_
      rintro _ ⟨pp, rfl⟩
      have hbl := below_later w2 pp
      generalize later w2 pp = w3 at hbl ⊢
      have HS3 := Lib.hid (HS2.out.below hbl)
      have HW3 := Lib.hid (HW2.out.below hbl HW2.out.lt)
      have HK3 := Lib.hid (HK2.out.trans (KeepT.below (T := 3) (B := D) hbl))
      clear hbl c6 f6 cw
      gi_wp2
      gi_loopw [10, 53] (fun f i wr => ∃ (j : Nat) (R C : Int), j ≤ q ∧ i = .int .i64 j ∧ f = .bool (E0 && (numsK 0 ws (j + 1)).isSome) ∧ (∀ ns, numsK 0 ws (j + 1) = some ns → (1 ≤ j → intAt ns 0 = R) ∧ (2 ≤ j → intAt ns (j - 1) = C)) ∧ RdSt w D O B X 1 R C (.slice none 0 0) [] (.slice none 0 0) [] wr ∧ WrdB wr SB ws ∧ KeepT 3 D W wr) (fun _ i _ => q - (intOf i).toNat)
      case atStart => exact ⟨0, 0, 0, Nat.zero_le _, rfl, by rw [numsK_one]; first | rfl | (rw [HE0.out]; rfl), fun ns _ => ⟨fun h => absurd h (by omega), fun h => absurd h (by omega)⟩, HS3.out, HW3.out, HK3.out⟩
      case round =>
        obtain ⟨j, R, C, hj, rfl, rfl, hRC, hsr, hwr, hkr⟩ := hrel
        have HRC := Lib.hid hRC
        have HSR := Lib.hid hsr
        have HWR := Lib.hid hwr
        have HKR := Lib.hid hkr
        have hWlt := hwr.lt
        obtain ⟨eb, heb⟩ : ∃ eb, (E0 && (numsK 0 ws (j + 1)).isSome) = eb := ⟨_, rfl⟩
        have HEB := Lib.hid heb
        rw [heb]
        by_cases hlt : j < q
        · have hd1 : decide ((j : Int) < (q : Int)) = true := by simp; omega
          have hj1 : (j : Int) < (q : Int) := by omega
          obtain ⟨x, hx⟩ : ∃ x, textAt ws (j + 1) = x := ⟨_, rfl⟩
          have cx := hwr.cell (j := j + 1) (by rw [HM.out]; omega)
          rw [hx, Nat.add_comm j 1] at cx
          obtain ⟨c, hc⟩ : ∃ c, (phW x false).isSome = c := ⟨_, rfl⟩
          have HPH := Lib.hid (show Calls Tryz.prog 55 #[.string x, .bool false] wr fun e w' => ∃ p : Int, e = .returned (.tuple #[.int .i64 p, .bool c]) ∧ (∀ v, phW x false = some v → p = v) ∧ Below wr.heap.size wr w' from by
            rw [← hc]
            exact phase_any x false wr (by have := HWZ.out (j + 1); rw [hx] at this; omega) (HT.out.below hsr.bel))
          have HR0 := Lib.hid (show wordP 0 x = phW x false from rfl)
          have HNX := Lib.hid (numsK_succ 0 ws (j + 1) (by rw [HM.out]; omega) (by omega))
          rw [hx] at HNX
          have HSO := Lib.hid (snoc_isSome HNX.out)
          rw [HR0.out, hc] at HSO
          clear hRC hsr hwr hkr hx hc heb
          by_cases hj0 : j = 0
          · have hje : ((j : Int) == 0) = true := by simp; omega
            have HJ0 := Lib.hid hj0
            clear hj0
            cases eb
            all_goals
              gi_wp2_with (first | (refine ⟨trivial, ?_⟩; gi_at_call 55; (with_reducible refine (callsIn_round HPH.out).mono ?_); rintro e w4 ⟨p, rfl, hp, hb⟩; have HS4 := Lib.hid (HSR.out.below hb); have HW4 := Lib.hid (HWR.out.below hb hWlt); have HK4 := Lib.hid (HKR.out.trans (KeepT.below (T := 3) (B := D) hb)); have HP := Lib.hid hp; obtain ⟨c30, f30⟩ := HS4.out.m0; obtain ⟨c31, f31⟩ := HS4.out.m1; have hz4 := hb.size; clear hp hb cx))
              have hpo := HS4.out.hi
              have hpd := HS4.out.hd
              have HN := Lib.hid (show ∀ ns, numsK 0 ws (j + 1 + 1) = some ns → ∃ ms, numsK 0 ws (j + 1) = some ms ∧ ns = ms ++ [p] ∧ ms.length = j from fun ns h => by
                rw [HNX.out] at h
                cases hms : numsK 0 ws (j + 1) with
                | none => rw [hms] at h; cases h
                | some ms =>
                  rw [hms] at h
                  cases hr : wordP 0 x with
                  | none => rw [hr] at h; cases h
                  | some z =>
                    rw [hr] at h
                    injection h with h
                    refine ⟨ms, rfl, ?_, ?_⟩
                    · rw [← h, HP.out z (by rw [← HR0.out]; exact hr)]
                    · have h1 := allO_len _ _ hms
                      rw [List.length_map] at h1
                      unfold lookW at h1
                      rw [if_pos rfl, List.length_drop, List.length_take] at h1
                      have := HM.out
                      omega)
              go_roundw
              case rel => exact ⟨j + 1, p, C, by omega, by go_num, by rw [HSO.out, ← Bool.and_assoc, HEB.out]; first | rfl | simp, fun ns h => ⟨fun _ => by obtain ⟨ms, -, rfl, hl⟩ := HN.out ns h; rw [HJ0.out] at hl; rw [List.length_eq_zero_iff.1 hl]; rfl, fun h => by have := HJ0.out; omega⟩, HS4.out.rows p, HW4.out.other (by have := HSB.out; omega) _, HK4.out.setCell (p := ⟨O + 3, 0, none⟩) (by show O + 3 < D; omega) _⟩
              case measure => simp [intOf]; omega
          · have hje : ((j : Int) == 0) = false := by simp; omega
            have HJ0 := Lib.hid hj0
            clear hj0
            cases eb
            all_goals
              gi_wp2_with (first | (refine ⟨trivial, ?_⟩; gi_at_call 55; (with_reducible refine (callsIn_round HPH.out).mono ?_); rintro e w4 ⟨p, rfl, hp, hb⟩; have HS4 := Lib.hid (HSR.out.below hb); have HW4 := Lib.hid (HWR.out.below hb hWlt); have HK4 := Lib.hid (HKR.out.trans (KeepT.below (T := 3) (B := D) hb)); have HP := Lib.hid hp; obtain ⟨c30, f30⟩ := HS4.out.m0; obtain ⟨c31, f31⟩ := HS4.out.m1; have hz4 := hb.size; clear hp hb cx))
              have hpo := HS4.out.hi
              have hpd := HS4.out.hd
              have HN := Lib.hid (show ∀ ns, numsK 0 ws (j + 1 + 1) = some ns → ∃ ms, numsK 0 ws (j + 1) = some ms ∧ ns = ms ++ [p] ∧ ms.length = j from fun ns h => by
                rw [HNX.out] at h
                cases hms : numsK 0 ws (j + 1) with
                | none => rw [hms] at h; cases h
                | some ms =>
                  rw [hms] at h
                  cases hr : wordP 0 x with
                  | none => rw [hr] at h; cases h
                  | some z =>
                    rw [hr] at h
                    injection h with h
                    refine ⟨ms, rfl, ?_, ?_⟩
                    · rw [← h, HP.out z (by rw [← HR0.out]; exact hr)]
                    · have h1 := allO_len _ _ hms
                      rw [List.length_map] at h1
                      unfold lookW at h1
                      rw [if_pos rfl, List.length_drop, List.length_take] at h1
                      have := HM.out
                      omega)
              go_roundw
              case rel => exact ⟨j + 1, R, p, by omega, by go_num, by rw [HSO.out, ← Bool.and_assoc, HEB.out]; first | rfl | simp, fun ns h => ⟨fun _ => by obtain ⟨ms, h1, rfl, hl⟩ := HN.out ns h; rw [← (HRC.out ms h1).1 (by have := HJ0.out; omega)]; unfold intAt; rw [List.getElem?_append_left (by have := HJ0.out; omega)], fun _ => by obtain ⟨ms, h1, rfl, hl⟩ := HN.out ns h; unfold intAt; rw [List.getElem?_append_right (by omega)]; simp [hl]⟩, HS4.out.columns p, HW4.out.other (by have := HSB.out; omega) _, HK4.out.setCell (p := ⟨O + 3, 1, none⟩) (by show O + 3 < D; omega) _⟩
              case measure => simp [intOf]; omega
        · have hd1 : decide ((j : Int) < (q : Int)) = false := by simp; omega
          have hje : j = q := by omega
          obtain ⟨c7, f7⟩ := hsr.n0
          obtain ⟨g0, g0f⟩ := hsr.r0
          obtain ⟨g1, g1f⟩ := hsr.r1
          obtain ⟨g2, g2f⟩ := hsr.r2
          obtain ⟨g3, g3f⟩ := hsr.r3
          obtain ⟨g4, g4f⟩ := hsr.r4
          have hpo := hsr.hi
          have hpd := hsr.hd
          clear hRC hsr hwr hkr heb
          cases eb
          · have HB2 := Lib.hid (show ∀ W', RetB w D O 1 W' → Ix .ret W' from fun W' h => HBAD.out W' (fun h2 => by
              have h3 := HEB.out
              obtain ⟨h4, h5, ns, h6, h7⟩ := h2
              have h8 := numsK_head (by rw [HM.out]; exact h6)
              rw [hje, h6, HE1.out h4 h5 (by have := HM.out; omega)] at h3
              cases h3) h)
            gi_wp2
            gi_region
            all_goals
              gi_wp2
              exact ⟨(((((HKR.out.setCell (p := ⟨O, 0, none⟩) (by show O < D; omega) _).setCell (p := ⟨O, 1, none⟩) (by show O < D; omega) _).setCell (p := ⟨O, 2, none⟩) (by show O < D; omega) _).setCell (p := ⟨O + 1, 0, none⟩) (by show O + 1 < D; omega) _).setCell (p := ⟨O + 2, 0, none⟩) (by show O + 2 < D; omega) _).drew, HB2.out _ HSR.out.ret.drew⟩
          · have HG2 := Lib.hid (show I wr from by
              have h3 := HEB.out
              rw [Bool.and_eq_true, hje] at h3
              obtain ⟨ns, hns⟩ := Option.isSome_iff_exists.1 h3.2
              obtain ⟨h4, h5, h6⟩ := HE2.out h3.1
              have h8 := numsK_head (by rw [HM.out]; exact hns)
              have hl : ns.length = 2 := by have := HM.out; omega
              have h9 := HRC.out ns (by rw [hje]; exact hns)
              have e1 := h9.1 (by have := HM.out; omega)
              have e2 := h9.2 (by have := HM.out; omega)
              rw [show j - 1 = 1 by have := HM.out; omega] at e2
              exact HGO.out wr ns h4 h5 hns hl (by rw [e1, e2]; exact HSR.out))
            gi_wp2
            exact ⟨HKR.out, HG2.out⟩
    · by_cases hx : x0 = phases
      · have hqx : (x0.toList == [112, 104, 97, 115, 101, 115]) = true := by rw [hx, Go.ByteArray.toList_eq]; rfl
        have HX := Lib.hid hx
        clear hx
        by_cases h3 : q = 2
        · have hq3 : ((q : Int) + 1 == 3) = true := by simp; omega
          have HQ3 := Lib.hid h3
          clear h3
          obtain ⟨E0, hE⟩ : ∃ E0, true = E0 := ⟨_, rfl⟩
          have HE0 := Lib.hid hE.symm
          have HE1 := Lib.hid (show true = true → textAt ws 0 = phases → q = 2 → E0 = true from fun _ _ _ => hE.symm)
          have HE2 := Lib.hid (show E0 = true → true = true ∧ textAt ws 0 = phases ∧ q = 2 from fun h => ⟨rfl, by rw [HX0.out, HX.out], HQ3.out⟩)
          clear hE
          gi_wp2_with (first | (refine ⟨trivial, ?_⟩; gi_at_call 53; (with_reducible refine (callsIn_round (HCS.out _)).mono ?_); rintro e w1 ⟨rfl, rfl⟩) | (refine ⟨trivial, ?_⟩; gi_at_call 54; (with_reducible refine (callsIn_round HSP.out).mono ?_); rintro e w2 ⟨rfl, hs2, hw2, hk2, hl2⟩; have HS2 := Lib.hid hs2; have HW2 := Lib.hid hw2; have HK2 := Lib.hid hk2; obtain ⟨c6, f6⟩ := hs2.n0; have cw := hw2.cell (j := 0) (by rw [HM.out]; omega); rw [HX0.out] at cw; clear hs2 hw2 hk2 c5 f5))
          refine wpIn_region_calm (fun ⟨_, _, h⟩ => h) (by kernel_rfl) (by kernel_rfl) (by kernel_rfl) ?_
          repeat (go_big_quiet_step (fail))
          refine wpQuiet_nil ?_
          rintro _ ⟨pp, rfl⟩
          have hbl := below_later w2 pp
          generalize later w2 pp = w3 at hbl ⊢
          have HS3 := Lib.hid (HS2.out.below hbl)
          have HW3 := Lib.hid (HW2.out.below hbl HW2.out.lt)
          have HK3 := Lib.hid (HK2.out.trans (KeepT.below (T := 3) (B := D) hbl))
          clear hbl c6 f6 cw
          gi_wp2
          gi_loopw [10, 53] (fun f i wr => ∃ (j : Nat) (R C : Int), j ≤ q ∧ i = .int .i64 j ∧ f = .bool (E0 && (numsK 0 ws (j + 1)).isSome) ∧ (∀ ns, numsK 0 ws (j + 1) = some ns → (1 ≤ j → intAt ns 0 = R) ∧ (2 ≤ j → intAt ns (j - 1) = C)) ∧ RdSt w D O B X 1 R C (.slice none 0 0) [] (.slice none 0 0) [] wr ∧ WrdB wr SB ws ∧ KeepT 3 D W wr) (fun _ i _ => q - (intOf i).toNat)
          case atStart => exact ⟨0, 0, 0, Nat.zero_le _, rfl, by rw [numsK_one]; first | rfl | (rw [HE0.out]; rfl), fun ns _ => ⟨fun h => absurd h (by omega), fun h => absurd h (by omega)⟩, HS3.out, HW3.out, HK3.out⟩
          case round =>
            obtain ⟨j, R, C, hj, rfl, rfl, hRC, hsr, hwr, hkr⟩ := hrel
            have HRC := Lib.hid hRC
            have HSR := Lib.hid hsr
            have HWR := Lib.hid hwr
            have HKR := Lib.hid hkr
            have hWlt := hwr.lt
            obtain ⟨eb, heb⟩ : ∃ eb, (E0 && (numsK 0 ws (j + 1)).isSome) = eb := ⟨_, rfl⟩
            have HEB := Lib.hid heb
            rw [heb]
            by_cases hlt : j < q
            · have hd1 : decide ((j : Int) < (q : Int)) = true := by simp; omega
              have hj1 : (j : Int) < (q : Int) := by omega
              obtain ⟨x, hx⟩ : ∃ x, textAt ws (j + 1) = x := ⟨_, rfl⟩
              have cx := hwr.cell (j := j + 1) (by rw [HM.out]; omega)
              rw [hx, Nat.add_comm j 1] at cx
              obtain ⟨c, hc⟩ : ∃ c, (phW x false).isSome = c := ⟨_, rfl⟩
              have HPH := Lib.hid (show Calls Tryz.prog 55 #[.string x, .bool false] wr fun e w' => ∃ p : Int, e = .returned (.tuple #[.int .i64 p, .bool c]) ∧ (∀ v, phW x false = some v → p = v) ∧ Below wr.heap.size wr w' from by
                rw [← hc]
                exact phase_any x false wr (by have := HWZ.out (j + 1); rw [hx] at this; omega) (HT.out.below hsr.bel))
              have HR0 := Lib.hid (show wordP 0 x = phW x false from rfl)
              have HNX := Lib.hid (numsK_succ 0 ws (j + 1) (by rw [HM.out]; omega) (by omega))
              rw [hx] at HNX
              have HSO := Lib.hid (snoc_isSome HNX.out)
              rw [HR0.out, hc] at HSO
              clear hRC hsr hwr hkr hx hc heb
              by_cases hj0 : j = 0
              · have hje : ((j : Int) == 0) = true := by simp; omega
                have HJ0 := Lib.hid hj0
                clear hj0
                cases eb
                all_goals
                  gi_wp2_with (first | (refine ⟨trivial, ?_⟩; gi_at_call 55; (with_reducible refine (callsIn_round HPH.out).mono ?_); rintro e w4 ⟨p, rfl, hp, hb⟩; have HS4 := Lib.hid (HSR.out.below hb); have HW4 := Lib.hid (HWR.out.below hb hWlt); have HK4 := Lib.hid (HKR.out.trans (KeepT.below (T := 3) (B := D) hb)); have HP := Lib.hid hp; obtain ⟨c30, f30⟩ := HS4.out.m0; obtain ⟨c31, f31⟩ := HS4.out.m1; have hz4 := hb.size; clear hp hb cx))
                  have hpo := HS4.out.hi
                  have hpd := HS4.out.hd
                  have HN := Lib.hid (show ∀ ns, numsK 0 ws (j + 1 + 1) = some ns → ∃ ms, numsK 0 ws (j + 1) = some ms ∧ ns = ms ++ [p] ∧ ms.length = j from fun ns h => by
                    rw [HNX.out] at h
                    cases hms : numsK 0 ws (j + 1) with
                    | none => rw [hms] at h; cases h
                    | some ms =>
                      rw [hms] at h
                      cases hr : wordP 0 x with
                      | none => rw [hr] at h; cases h
                      | some z =>
                        rw [hr] at h
                        injection h with h
                        refine ⟨ms, rfl, ?_, ?_⟩
                        · rw [← h, HP.out z (by rw [← HR0.out]; exact hr)]
                        · have h1 := allO_len _ _ hms
                          rw [List.length_map] at h1
                          unfold lookW at h1
                          rw [if_pos rfl, List.length_drop, List.length_take] at h1
                          have := HM.out
                          omega)
                  go_roundw
                  case rel => exact ⟨j + 1, p, C, by omega, by go_num, by rw [HSO.out, ← Bool.and_assoc, HEB.out]; first | rfl | simp, fun ns h => ⟨fun _ => by obtain ⟨ms, -, rfl, hl⟩ := HN.out ns h; rw [HJ0.out] at hl; rw [List.length_eq_zero_iff.1 hl]; rfl, fun h => by have := HJ0.out; omega⟩, HS4.out.rows p, HW4.out.other (by have := HSB.out; omega) _, HK4.out.setCell (p := ⟨O + 3, 0, none⟩) (by show O + 3 < D; omega) _⟩
                  case measure => simp [intOf]; omega
              · have hje : ((j : Int) == 0) = false := by simp; omega
                have HJ0 := Lib.hid hj0
                clear hj0
                cases eb
                all_goals
                  gi_wp2_with (first | (refine ⟨trivial, ?_⟩; gi_at_call 55; (with_reducible refine (callsIn_round HPH.out).mono ?_); rintro e w4 ⟨p, rfl, hp, hb⟩; have HS4 := Lib.hid (HSR.out.below hb); have HW4 := Lib.hid (HWR.out.below hb hWlt); have HK4 := Lib.hid (HKR.out.trans (KeepT.below (T := 3) (B := D) hb)); have HP := Lib.hid hp; obtain ⟨c30, f30⟩ := HS4.out.m0; obtain ⟨c31, f31⟩ := HS4.out.m1; have hz4 := hb.size; clear hp hb cx))
                  have hpo := HS4.out.hi
                  have hpd := HS4.out.hd
                  have HN := Lib.hid (show ∀ ns, numsK 0 ws (j + 1 + 1) = some ns → ∃ ms, numsK 0 ws (j + 1) = some ms ∧ ns = ms ++ [p] ∧ ms.length = j from fun ns h => by
                    rw [HNX.out] at h
                    cases hms : numsK 0 ws (j + 1) with
                    | none => rw [hms] at h; cases h
                    | some ms =>
                      rw [hms] at h
                      cases hr : wordP 0 x with
                      | none => rw [hr] at h; cases h
                      | some z =>
                        rw [hr] at h
                        injection h with h
                        refine ⟨ms, rfl, ?_, ?_⟩
                        · rw [← h, HP.out z (by rw [← HR0.out]; exact hr)]
                        · have h1 := allO_len _ _ hms
                          rw [List.length_map] at h1
                          unfold lookW at h1
                          rw [if_pos rfl, List.length_drop, List.length_take] at h1
                          have := HM.out
                          omega)
                  go_roundw
                  case rel => exact ⟨j + 1, R, p, by omega, by go_num, by rw [HSO.out, ← Bool.and_assoc, HEB.out]; first | rfl | simp, fun ns h => ⟨fun _ => by obtain ⟨ms, h1, rfl, hl⟩ := HN.out ns h; rw [← (HRC.out ms h1).1 (by have := HJ0.out; omega)]; unfold intAt; rw [List.getElem?_append_left (by have := HJ0.out; omega)], fun _ => by obtain ⟨ms, h1, rfl, hl⟩ := HN.out ns h; unfold intAt; rw [List.getElem?_append_right (by omega)]; simp [hl]⟩, HS4.out.columns p, HW4.out.other (by have := HSB.out; omega) _, HK4.out.setCell (p := ⟨O + 3, 1, none⟩) (by show O + 3 < D; omega) _⟩
                  case measure => simp [intOf]; omega
            · have hd1 : decide ((j : Int) < (q : Int)) = false := by simp; omega
              have hje : j = q := by omega
              obtain ⟨c7, f7⟩ := hsr.n0
              obtain ⟨g0, g0f⟩ := hsr.r0
              obtain ⟨g1, g1f⟩ := hsr.r1
              obtain ⟨g2, g2f⟩ := hsr.r2
              obtain ⟨g3, g3f⟩ := hsr.r3
              obtain ⟨g4, g4f⟩ := hsr.r4
              have hpo := hsr.hi
              have hpd := hsr.hd
              clear hRC hsr hwr hkr heb
              cases eb
              · have HB2 := Lib.hid (show ∀ W', RetB w D O 1 W' → Ix .ret W' from fun W' h => HBAD.out W' (fun h2 => by
                  have h3 := HEB.out
                  obtain ⟨h4, h5, ns, h6, h7⟩ := h2
                  have h8 := numsK_head (by rw [HM.out]; exact h6)
                  rw [hje, h6, HE1.out h4 h5 (by have := HM.out; omega)] at h3
                  cases h3) h)
                gi_wp2
                gi_region
                all_goals
                  gi_wp2
                  exact ⟨(((((HKR.out.setCell (p := ⟨O, 0, none⟩) (by show O < D; omega) _).setCell (p := ⟨O, 1, none⟩) (by show O < D; omega) _).setCell (p := ⟨O, 2, none⟩) (by show O < D; omega) _).setCell (p := ⟨O + 1, 0, none⟩) (by show O + 1 < D; omega) _).setCell (p := ⟨O + 2, 0, none⟩) (by show O + 2 < D; omega) _).drew, HB2.out _ HSR.out.ret.drew⟩
              · have HG2 := Lib.hid (show I wr from by
                  have h3 := HEB.out
                  rw [Bool.and_eq_true, hje] at h3
                  obtain ⟨ns, hns⟩ := Option.isSome_iff_exists.1 h3.2
                  obtain ⟨h4, h5, h6⟩ := HE2.out h3.1
                  have h8 := numsK_head (by rw [HM.out]; exact hns)
                  have hl : ns.length = 2 := by have := HM.out; omega
                  have h9 := HRC.out ns (by rw [hje]; exact hns)
                  have e1 := h9.1 (by have := HM.out; omega)
                  have e2 := h9.2 (by have := HM.out; omega)
                  rw [show j - 1 = 1 by have := HM.out; omega] at e2
                  exact HGO.out wr ns h4 h5 hns hl (by rw [e1, e2]; exact HSR.out))
                gi_wp2
                exact ⟨HKR.out, HG2.out⟩
        · have hq3 : ((q : Int) + 1 == 3) = false := by simp; omega
          have HQ3 := Lib.hid h3
          clear h3
          obtain ⟨E0, hE⟩ : ∃ E0, false = E0 := ⟨_, rfl⟩
          have HE0 := Lib.hid hE.symm
          have HE1 := Lib.hid (show true = true → textAt ws 0 = phases → q = 2 → E0 = true from fun _ _ h => absurd h HQ3.out)
          have HE2 := Lib.hid (show E0 = true → true = true ∧ textAt ws 0 = phases ∧ q = 2 from fun h => by rw [← hE] at h; cases h)
          clear hE
          gi_wp2_with (first | (refine ⟨trivial, ?_⟩; gi_at_call 53; (with_reducible refine (callsIn_round (HCS.out _)).mono ?_); rintro e w1 ⟨rfl, rfl⟩) | (refine ⟨trivial, ?_⟩; gi_at_call 54; (with_reducible refine (callsIn_round HSP.out).mono ?_); rintro e w2 ⟨rfl, hs2, hw2, hk2, hl2⟩; have HS2 := Lib.hid hs2; have HW2 := Lib.hid hw2; have HK2 := Lib.hid hk2; obtain ⟨c6, f6⟩ := hs2.n0; have cw := hw2.cell (j := 0) (by rw [HM.out]; omega); rw [HX0.out] at cw; clear hs2 hw2 hk2 c5 f5))
          refine wpIn_region_calm (fun ⟨_, _, h⟩ => h) (by kernel_rfl) (by kernel_rfl) (by kernel_rfl) ?_
          repeat (go_big_quiet_step (fail))
          refine wpQuiet_nil ?_
          rintro _ ⟨pp, rfl⟩
          have hbl := below_later w2 pp
          generalize later w2 pp = w3 at hbl ⊢
          have HS3 := Lib.hid (HS2.out.below hbl)
          have HW3 := Lib.hid (HW2.out.below hbl HW2.out.lt)
          have HK3 := Lib.hid (HK2.out.trans (KeepT.below (T := 3) (B := D) hbl))
          clear hbl c6 f6 cw
          gi_wp2
          gi_loopw [10, 53] (fun f i wr => ∃ (j : Nat) (R C : Int), j ≤ q ∧ i = .int .i64 j ∧ f = .bool (E0 && (numsK 0 ws (j + 1)).isSome) ∧ (∀ ns, numsK 0 ws (j + 1) = some ns → (1 ≤ j → intAt ns 0 = R) ∧ (2 ≤ j → intAt ns (j - 1) = C)) ∧ RdSt w D O B X 1 R C (.slice none 0 0) [] (.slice none 0 0) [] wr ∧ WrdB wr SB ws ∧ KeepT 3 D W wr) (fun _ i _ => q - (intOf i).toNat)
          case atStart => exact ⟨0, 0, 0, Nat.zero_le _, rfl, by rw [numsK_one]; first | rfl | (rw [HE0.out]; rfl), fun ns _ => ⟨fun h => absurd h (by omega), fun h => absurd h (by omega)⟩, HS3.out, HW3.out, HK3.out⟩
          case round =>
            obtain ⟨j, R, C, hj, rfl, rfl, hRC, hsr, hwr, hkr⟩ := hrel
            have HRC := Lib.hid hRC
            have HSR := Lib.hid hsr
            have HWR := Lib.hid hwr
            have HKR := Lib.hid hkr
            have hWlt := hwr.lt
            obtain ⟨eb, heb⟩ : ∃ eb, (E0 && (numsK 0 ws (j + 1)).isSome) = eb := ⟨_, rfl⟩
            have HEB := Lib.hid heb
            rw [heb]
            by_cases hlt : j < q
            · have hd1 : decide ((j : Int) < (q : Int)) = true := by simp; omega
              have hj1 : (j : Int) < (q : Int) := by omega
              obtain ⟨x, hx⟩ : ∃ x, textAt ws (j + 1) = x := ⟨_, rfl⟩
              have cx := hwr.cell (j := j + 1) (by rw [HM.out]; omega)
              rw [hx, Nat.add_comm j 1] at cx
              obtain ⟨c, hc⟩ : ∃ c, (phW x false).isSome = c := ⟨_, rfl⟩
              have HPH := Lib.hid (show Calls Tryz.prog 55 #[.string x, .bool false] wr fun e w' => ∃ p : Int, e = .returned (.tuple #[.int .i64 p, .bool c]) ∧ (∀ v, phW x false = some v → p = v) ∧ Below wr.heap.size wr w' from by
                rw [← hc]
                exact phase_any x false wr (by have := HWZ.out (j + 1); rw [hx] at this; omega) (HT.out.below hsr.bel))
              have HR0 := Lib.hid (show wordP 0 x = phW x false from rfl)
              have HNX := Lib.hid (numsK_succ 0 ws (j + 1) (by rw [HM.out]; omega) (by omega))
              rw [hx] at HNX
              have HSO := Lib.hid (snoc_isSome HNX.out)
              rw [HR0.out, hc] at HSO
              clear hRC hsr hwr hkr hx hc heb
              by_cases hj0 : j = 0
              · have hje : ((j : Int) == 0) = true := by simp; omega
                have HJ0 := Lib.hid hj0
                clear hj0
                cases eb
                all_goals
                  gi_wp2_with (first | (refine ⟨trivial, ?_⟩; gi_at_call 55; (with_reducible refine (callsIn_round HPH.out).mono ?_); rintro e w4 ⟨p, rfl, hp, hb⟩; have HS4 := Lib.hid (HSR.out.below hb); have HW4 := Lib.hid (HWR.out.below hb hWlt); have HK4 := Lib.hid (HKR.out.trans (KeepT.below (T := 3) (B := D) hb)); have HP := Lib.hid hp; obtain ⟨c30, f30⟩ := HS4.out.m0; obtain ⟨c31, f31⟩ := HS4.out.m1; have hz4 := hb.size; clear hp hb cx))
                  have hpo := HS4.out.hi
                  have hpd := HS4.out.hd
                  have HN := Lib.hid (show ∀ ns, numsK 0 ws (j + 1 + 1) = some ns → ∃ ms, numsK 0 ws (j + 1) = some ms ∧ ns = ms ++ [p] ∧ ms.length = j from fun ns h => by
                    rw [HNX.out] at h
                    cases hms : numsK 0 ws (j + 1) with
                    | none => rw [hms] at h; cases h
                    | some ms =>
                      rw [hms] at h
                      cases hr : wordP 0 x with
                      | none => rw [hr] at h; cases h
                      | some z =>
                        rw [hr] at h
                        injection h with h
                        refine ⟨ms, rfl, ?_, ?_⟩
                        · rw [← h, HP.out z (by rw [← HR0.out]; exact hr)]
                        · have h1 := allO_len _ _ hms
                          rw [List.length_map] at h1
                          unfold lookW at h1
                          rw [if_pos rfl, List.length_drop, List.length_take] at h1
                          have := HM.out
                          omega)
                  go_roundw
                  case rel => exact ⟨j + 1, p, C, by omega, by go_num, by rw [HSO.out, ← Bool.and_assoc, HEB.out]; first | rfl | simp, fun ns h => ⟨fun _ => by obtain ⟨ms, -, rfl, hl⟩ := HN.out ns h; rw [HJ0.out] at hl; rw [List.length_eq_zero_iff.1 hl]; rfl, fun h => by have := HJ0.out; omega⟩, HS4.out.rows p, HW4.out.other (by have := HSB.out; omega) _, HK4.out.setCell (p := ⟨O + 3, 0, none⟩) (by show O + 3 < D; omega) _⟩
                  case measure => simp [intOf]; omega
              · have hje : ((j : Int) == 0) = false := by simp; omega
                have HJ0 := Lib.hid hj0
                clear hj0
                cases eb
                all_goals
                  gi_wp2_with (first | (refine ⟨trivial, ?_⟩; gi_at_call 55; (with_reducible refine (callsIn_round HPH.out).mono ?_); rintro e w4 ⟨p, rfl, hp, hb⟩; have HS4 := Lib.hid (HSR.out.below hb); have HW4 := Lib.hid (HWR.out.below hb hWlt); have HK4 := Lib.hid (HKR.out.trans (KeepT.below (T := 3) (B := D) hb)); have HP := Lib.hid hp; obtain ⟨c30, f30⟩ := HS4.out.m0; obtain ⟨c31, f31⟩ := HS4.out.m1; have hz4 := hb.size; clear hp hb cx))
                  have hpo := HS4.out.hi
                  have hpd := HS4.out.hd
                  have HN := Lib.hid (show ∀ ns, numsK 0 ws (j + 1 + 1) = some ns → ∃ ms, numsK 0 ws (j + 1) = some ms ∧ ns = ms ++ [p] ∧ ms.length = j from fun ns h => by
                    rw [HNX.out] at h
                    cases hms : numsK 0 ws (j + 1) with
                    | none => rw [hms] at h; cases h
                    | some ms =>
                      rw [hms] at h
                      cases hr : wordP 0 x with
                      | none => rw [hr] at h; cases h
                      | some z =>
                        rw [hr] at h
                        injection h with h
                        refine ⟨ms, rfl, ?_, ?_⟩
                        · rw [← h, HP.out z (by rw [← HR0.out]; exact hr)]
                        · have h1 := allO_len _ _ hms
                          rw [List.length_map] at h1
                          unfold lookW at h1
                          rw [if_pos rfl, List.length_drop, List.length_take] at h1
                          have := HM.out
                          omega)
                  go_roundw
                  case rel => exact ⟨j + 1, R, p, by omega, by go_num, by rw [HSO.out, ← Bool.and_assoc, HEB.out]; first | rfl | simp, fun ns h => ⟨fun _ => by obtain ⟨ms, h1, rfl, hl⟩ := HN.out ns h; rw [← (HRC.out ms h1).1 (by have := HJ0.out; omega)]; unfold intAt; rw [List.getElem?_append_left (by have := HJ0.out; omega)], fun _ => by obtain ⟨ms, h1, rfl, hl⟩ := HN.out ns h; unfold intAt; rw [List.getElem?_append_right (by omega)]; simp [hl]⟩, HS4.out.columns p, HW4.out.other (by have := HSB.out; omega) _, HK4.out.setCell (p := ⟨O + 3, 1, none⟩) (by show O + 3 < D; omega) _⟩
                  case measure => simp [intOf]; omega
            · have hd1 : decide ((j : Int) < (q : Int)) = false := by simp; omega
              have hje : j = q := by omega
              obtain ⟨c7, f7⟩ := hsr.n0
              obtain ⟨g0, g0f⟩ := hsr.r0
              obtain ⟨g1, g1f⟩ := hsr.r1
              obtain ⟨g2, g2f⟩ := hsr.r2
              obtain ⟨g3, g3f⟩ := hsr.r3
              obtain ⟨g4, g4f⟩ := hsr.r4
              have hpo := hsr.hi
              have hpd := hsr.hd
              clear hRC hsr hwr hkr heb
              cases eb
              · have HB2 := Lib.hid (show ∀ W', RetB w D O 1 W' → Ix .ret W' from fun W' h => HBAD.out W' (fun h2 => by
                  have h3 := HEB.out
                  obtain ⟨h4, h5, ns, h6, h7⟩ := h2
                  have h8 := numsK_head (by rw [HM.out]; exact h6)
                  rw [hje, h6, HE1.out h4 h5 (by have := HM.out; omega)] at h3
                  cases h3) h)
                gi_wp2
                gi_region
                all_goals
                  gi_wp2
                  exact ⟨(((((HKR.out.setCell (p := ⟨O, 0, none⟩) (by show O < D; omega) _).setCell (p := ⟨O, 1, none⟩) (by show O < D; omega) _).setCell (p := ⟨O, 2, none⟩) (by show O < D; omega) _).setCell (p := ⟨O + 1, 0, none⟩) (by show O + 1 < D; omega) _).setCell (p := ⟨O + 2, 0, none⟩) (by show O + 2 < D; omega) _).drew, HB2.out _ HSR.out.ret.drew⟩
              · have HG2 := Lib.hid (show I wr from by
                  have h3 := HEB.out
                  rw [Bool.and_eq_true, hje] at h3
                  obtain ⟨ns, hns⟩ := Option.isSome_iff_exists.1 h3.2
                  obtain ⟨h4, h5, h6⟩ := HE2.out h3.1
                  have h8 := numsK_head (by rw [HM.out]; exact hns)
                  have hl : ns.length = 2 := by have := HM.out; omega
                  have h9 := HRC.out ns (by rw [hje]; exact hns)
                  have e1 := h9.1 (by have := HM.out; omega)
                  have e2 := h9.2 (by have := HM.out; omega)
                  rw [show j - 1 = 1 by have := HM.out; omega] at e2
                  exact HGO.out wr ns h4 h5 hns hl (by rw [e1, e2]; exact HSR.out))
                gi_wp2
                exact ⟨HKR.out, HG2.out⟩
      · have hqx : (x0.toList == [112, 104, 97, 115, 101, 115]) = false := beq_false_of_ne fun e => hx (by apply ByteArray.ext; apply Array.toList_inj.1; rw [← Go.ByteArray.toList_eq, e]; rfl)
        have HX := Lib.hid hx
        clear hx
        obtain ⟨E0, hE⟩ : ∃ E0, false = E0 := ⟨_, rfl⟩
        have HE0 := Lib.hid hE.symm
        have HE1 := Lib.hid (show true = true → textAt ws 0 = phases → q = 2 → E0 = true from fun _ h _ => absurd (by rw [← HX0.out]; exact h) HX.out)
        have HE2 := Lib.hid (show E0 = true → true = true ∧ textAt ws 0 = phases ∧ q = 2 from fun h => by rw [← hE] at h; cases h)
        clear hE
        gi_wp2_with (first | (refine ⟨trivial, ?_⟩; gi_at_call 53; (with_reducible refine (callsIn_round (HCS.out _)).mono ?_); rintro e w1 ⟨rfl, rfl⟩) | (refine ⟨trivial, ?_⟩; gi_at_call 54; (with_reducible refine (callsIn_round HSP.out).mono ?_); rintro e w2 ⟨rfl, hs2, hw2, hk2, hl2⟩; have HS2 := Lib.hid hs2; have HW2 := Lib.hid hw2; have HK2 := Lib.hid hk2; obtain ⟨c6, f6⟩ := hs2.n0; have cw := hw2.cell (j := 0) (by rw [HM.out]; omega); rw [HX0.out] at cw; clear hs2 hw2 hk2 c5 f5))
        refine wpIn_region_calm (fun ⟨_, _, h⟩ => h) (by kernel_rfl) (by kernel_rfl) (by kernel_rfl) ?_
        repeat (go_big_quiet_step (fail))
        refine wpQuiet_nil ?_
        rintro _ ⟨pp, rfl⟩
        have hbl := below_later w2 pp
        generalize later w2 pp = w3 at hbl ⊢
        have HS3 := Lib.hid (HS2.out.below hbl)
        have HW3 := Lib.hid (HW2.out.below hbl HW2.out.lt)
        have HK3 := Lib.hid (HK2.out.trans (KeepT.below (T := 3) (B := D) hbl))
        clear hbl c6 f6 cw
        gi_wp2
        gi_loopw [10, 53] (fun f i wr => ∃ (j : Nat) (R C : Int), j ≤ q ∧ i = .int .i64 j ∧ f = .bool (E0 && (numsK 0 ws (j + 1)).isSome) ∧ (∀ ns, numsK 0 ws (j + 1) = some ns → (1 ≤ j → intAt ns 0 = R) ∧ (2 ≤ j → intAt ns (j - 1) = C)) ∧ RdSt w D O B X 1 R C (.slice none 0 0) [] (.slice none 0 0) [] wr ∧ WrdB wr SB ws ∧ KeepT 3 D W wr) (fun _ i _ => q - (intOf i).toNat)
        case atStart => exact ⟨0, 0, 0, Nat.zero_le _, rfl, by rw [numsK_one]; first | rfl | (rw [HE0.out]; rfl), fun ns _ => ⟨fun h => absurd h (by omega), fun h => absurd h (by omega)⟩, HS3.out, HW3.out, HK3.out⟩
        case round =>
          obtain ⟨j, R, C, hj, rfl, rfl, hRC, hsr, hwr, hkr⟩ := hrel
          have HRC := Lib.hid hRC
          have HSR := Lib.hid hsr
          have HWR := Lib.hid hwr
          have HKR := Lib.hid hkr
          have hWlt := hwr.lt
          obtain ⟨eb, heb⟩ : ∃ eb, (E0 && (numsK 0 ws (j + 1)).isSome) = eb := ⟨_, rfl⟩
          have HEB := Lib.hid heb
          rw [heb]
          by_cases hlt : j < q
          · have hd1 : decide ((j : Int) < (q : Int)) = true := by simp; omega
            have hj1 : (j : Int) < (q : Int) := by omega
            obtain ⟨x, hx⟩ : ∃ x, textAt ws (j + 1) = x := ⟨_, rfl⟩
            have cx := hwr.cell (j := j + 1) (by rw [HM.out]; omega)
            rw [hx, Nat.add_comm j 1] at cx
            obtain ⟨c, hc⟩ : ∃ c, (phW x false).isSome = c := ⟨_, rfl⟩
            have HPH := Lib.hid (show Calls Tryz.prog 55 #[.string x, .bool false] wr fun e w' => ∃ p : Int, e = .returned (.tuple #[.int .i64 p, .bool c]) ∧ (∀ v, phW x false = some v → p = v) ∧ Below wr.heap.size wr w' from by
              rw [← hc]
              exact phase_any x false wr (by have := HWZ.out (j + 1); rw [hx] at this; omega) (HT.out.below hsr.bel))
            have HR0 := Lib.hid (show wordP 0 x = phW x false from rfl)
            have HNX := Lib.hid (numsK_succ 0 ws (j + 1) (by rw [HM.out]; omega) (by omega))
            rw [hx] at HNX
            have HSO := Lib.hid (snoc_isSome HNX.out)
            rw [HR0.out, hc] at HSO
            clear hRC hsr hwr hkr hx hc heb
            by_cases hj0 : j = 0
            · have hje : ((j : Int) == 0) = true := by simp; omega
              have HJ0 := Lib.hid hj0
              clear hj0
              cases eb
              all_goals
                gi_wp2_with (first | (refine ⟨trivial, ?_⟩; gi_at_call 55; (with_reducible refine (callsIn_round HPH.out).mono ?_); rintro e w4 ⟨p, rfl, hp, hb⟩; have HS4 := Lib.hid (HSR.out.below hb); have HW4 := Lib.hid (HWR.out.below hb hWlt); have HK4 := Lib.hid (HKR.out.trans (KeepT.below (T := 3) (B := D) hb)); have HP := Lib.hid hp; obtain ⟨c30, f30⟩ := HS4.out.m0; obtain ⟨c31, f31⟩ := HS4.out.m1; have hz4 := hb.size; clear hp hb cx))
                have hpo := HS4.out.hi
                have hpd := HS4.out.hd
                have HN := Lib.hid (show ∀ ns, numsK 0 ws (j + 1 + 1) = some ns → ∃ ms, numsK 0 ws (j + 1) = some ms ∧ ns = ms ++ [p] ∧ ms.length = j from fun ns h => by
                  rw [HNX.out] at h
                  cases hms : numsK 0 ws (j + 1) with
                  | none => rw [hms] at h; cases h
                  | some ms =>
                    rw [hms] at h
                    cases hr : wordP 0 x with
                    | none => rw [hr] at h; cases h
                    | some z =>
                      rw [hr] at h
                      injection h with h
                      refine ⟨ms, rfl, ?_, ?_⟩
                      · rw [← h, HP.out z (by rw [← HR0.out]; exact hr)]
                      · have h1 := allO_len _ _ hms
                        rw [List.length_map] at h1
                        unfold lookW at h1
                        rw [if_pos rfl, List.length_drop, List.length_take] at h1
                        have := HM.out
                        omega)
                go_roundw
                case rel => exact ⟨j + 1, p, C, by omega, by go_num, by rw [HSO.out, ← Bool.and_assoc, HEB.out]; first | rfl | simp, fun ns h => ⟨fun _ => by obtain ⟨ms, -, rfl, hl⟩ := HN.out ns h; rw [HJ0.out] at hl; rw [List.length_eq_zero_iff.1 hl]; rfl, fun h => by have := HJ0.out; omega⟩, HS4.out.rows p, HW4.out.other (by have := HSB.out; omega) _, HK4.out.setCell (p := ⟨O + 3, 0, none⟩) (by show O + 3 < D; omega) _⟩
                case measure => simp [intOf]; omega
            · have hje : ((j : Int) == 0) = false := by simp; omega
              have HJ0 := Lib.hid hj0
              clear hj0
              cases eb
              all_goals
                gi_wp2_with (first | (refine ⟨trivial, ?_⟩; gi_at_call 55; (with_reducible refine (callsIn_round HPH.out).mono ?_); rintro e w4 ⟨p, rfl, hp, hb⟩; have HS4 := Lib.hid (HSR.out.below hb); have HW4 := Lib.hid (HWR.out.below hb hWlt); have HK4 := Lib.hid (HKR.out.trans (KeepT.below (T := 3) (B := D) hb)); have HP := Lib.hid hp; obtain ⟨c30, f30⟩ := HS4.out.m0; obtain ⟨c31, f31⟩ := HS4.out.m1; have hz4 := hb.size; clear hp hb cx))
                have hpo := HS4.out.hi
                have hpd := HS4.out.hd
                have HN := Lib.hid (show ∀ ns, numsK 0 ws (j + 1 + 1) = some ns → ∃ ms, numsK 0 ws (j + 1) = some ms ∧ ns = ms ++ [p] ∧ ms.length = j from fun ns h => by
                  rw [HNX.out] at h
                  cases hms : numsK 0 ws (j + 1) with
                  | none => rw [hms] at h; cases h
                  | some ms =>
                    rw [hms] at h
                    cases hr : wordP 0 x with
                    | none => rw [hr] at h; cases h
                    | some z =>
                      rw [hr] at h
                      injection h with h
                      refine ⟨ms, rfl, ?_, ?_⟩
                      · rw [← h, HP.out z (by rw [← HR0.out]; exact hr)]
                      · have h1 := allO_len _ _ hms
                        rw [List.length_map] at h1
                        unfold lookW at h1
                        rw [if_pos rfl, List.length_drop, List.length_take] at h1
                        have := HM.out
                        omega)
                go_roundw
                case rel => exact ⟨j + 1, R, p, by omega, by go_num, by rw [HSO.out, ← Bool.and_assoc, HEB.out]; first | rfl | simp, fun ns h => ⟨fun _ => by obtain ⟨ms, h1, rfl, hl⟩ := HN.out ns h; rw [← (HRC.out ms h1).1 (by have := HJ0.out; omega)]; unfold intAt; rw [List.getElem?_append_left (by have := HJ0.out; omega)], fun _ => by obtain ⟨ms, h1, rfl, hl⟩ := HN.out ns h; unfold intAt; rw [List.getElem?_append_right (by omega)]; simp [hl]⟩, HS4.out.columns p, HW4.out.other (by have := HSB.out; omega) _, HK4.out.setCell (p := ⟨O + 3, 1, none⟩) (by show O + 3 < D; omega) _⟩
                case measure => simp [intOf]; omega
          · have hd1 : decide ((j : Int) < (q : Int)) = false := by simp; omega
            have hje : j = q := by omega
            obtain ⟨c7, f7⟩ := hsr.n0
            obtain ⟨g0, g0f⟩ := hsr.r0
            obtain ⟨g1, g1f⟩ := hsr.r1
            obtain ⟨g2, g2f⟩ := hsr.r2
            obtain ⟨g3, g3f⟩ := hsr.r3
            obtain ⟨g4, g4f⟩ := hsr.r4
            have hpo := hsr.hi
            have hpd := hsr.hd
            clear hRC hsr hwr hkr heb
            cases eb
            · have HB2 := Lib.hid (show ∀ W', RetB w D O 1 W' → Ix .ret W' from fun W' h => HBAD.out W' (fun h2 => by
                have h3 := HEB.out
                obtain ⟨h4, h5, ns, h6, h7⟩ := h2
                have h8 := numsK_head (by rw [HM.out]; exact h6)
                rw [hje, h6, HE1.out h4 h5 (by have := HM.out; omega)] at h3
                cases h3) h)
              gi_wp2
              gi_region
              all_goals
                gi_wp2
                exact ⟨(((((HKR.out.setCell (p := ⟨O, 0, none⟩) (by show O < D; omega) _).setCell (p := ⟨O, 1, none⟩) (by show O < D; omega) _).setCell (p := ⟨O, 2, none⟩) (by show O < D; omega) _).setCell (p := ⟨O + 1, 0, none⟩) (by show O + 1 < D; omega) _).setCell (p := ⟨O + 2, 0, none⟩) (by show O + 2 < D; omega) _).drew, HB2.out _ HSR.out.ret.drew⟩
            · have HG2 := Lib.hid (show I wr from by
                have h3 := HEB.out
                rw [Bool.and_eq_true, hje] at h3
                obtain ⟨ns, hns⟩ := Option.isSome_iff_exists.1 h3.2
                obtain ⟨h4, h5, h6⟩ := HE2.out h3.1
                have h8 := numsK_head (by rw [HM.out]; exact hns)
                have hl : ns.length = 2 := by have := HM.out; omega
                have h9 := HRC.out ns (by rw [hje]; exact hns)
                have e1 := h9.1 (by have := HM.out; omega)
                have e2 := h9.2 (by have := HM.out; omega)
                rw [show j - 1 = 1 by have := HM.out; omega] at e2
                exact HGO.out wr ns h4 h5 hns hl (by rw [e1, e2]; exact HSR.out))
              gi_wp2
              exact ⟨HKR.out, HG2.out⟩
end Go.Proofs.YtkoiknmijjiicaaGreatDoor

/- Chapter 4: the program's Parse: the round of a line behind the first one. (Printed by mkx132.py from X133.src.) -/
namespace Go.Proofs.YtkoiknmijjiicaaGreatDoor
set_option linter.unusedVariables false
set_option linter.unusedSimpArgs false
open Go Go.RowKit Go.Sort
set_option maxRecDepth 20000 in
set_option maxHeartbeats 4000000 in
theorem parseLine (body : Code) (hbody : Tryz.f15.body.bind rangeBody = some body) (lk T : ByteArray) (b : Bool) (ws : List ByteArray) (k m D O B mm l : Nat) (X : Value) (R C : Int) (v v2 : Value) (zs ls : List Int) (w W : World) (I : World → Prop) (Ix : Code → World → Prop)
    (hk1 : 0 < k) (hk2 : k ≤ 60000) (hzl : zs.length ≤ 60001) (hll : ls.length ≤ 60001) (hm : ws.length = m) (hm1 : 0 < m) (hm2 : m ≤ 60001) (hwz : ∀ j, (textAt ws j).size ≤ 60000) (ht : TabR w)
    (hcs : ∀ W, Calls Tryz.prog 53 #[.string lk, .string ⟨#[10]⟩] W fun e w' => e = .returned (.tuple #[.string T, .bool b]) ∧ w' = W)
    (hsp : ∀ W, TabR W → Calls Tryz.prog 54 #[.string T, .string ⟨#[32]⟩] W fun e w' => e = .returned (.slice (some ⟨W.heap.size, 0, none⟩) m m) ∧ w' = W.alloc (.cells (ws.map Value.string).toArray 9))
    (hst : RdSt w D O B X (k : Int) R C v zs v2 ls W)
    (hgo : ∀ W' ns v' v2', b = true → numsK k ws m = some ns → RdSt w D O B X ((k : Int) + 1) R C v' (zs ++ ns) v2' (ls ++ [(m : Int)]) W' → I W')
    (hbad : ∀ W', ¬ (b = true ∧ ∃ ns, numsK k ws m = some ns) → RetB w D O ((k : Int) + 1) W' → Ix .ret W')
    (u0 u1 u9 u10 u11 u12 u13 u14 u15 u16 u17 u18 u19 u20 u21 u22 u23 u25 u26 u27 u28 u29 u30 u31 u32 u33 u34 u35 u36 u37 u38 u39 u40 u41 u42 u43 u44 u45 u46 u47 u48 u49 u50 u51 u52 u53 u54 u55 u56 u57 u58 u59 u60 u61 u62 u63 u64 u65 u66 u67 u68 u69 u70 u71 u72 u73 u74 u75 u76 u77 u78 u79 u80 u81 u82 u83 u84 u85 u86 u87 u88 u89 u90 u91 u92 u93 u94 u95 u96 u97 u98 u99 u100 u101 u102 u103 u104 u105 u106 u107 u108 u109 u110 u111 u112 u113 u114 u115 u116 u117 u118 u119 : Value) :
    body.wpIn (Fence.wide.inRound l) (mm + 2) Tryz.prog (boundPostT 3 D I Ix W) { tmps := #[u0, u1, .pointer (some ⟨O, 0, none⟩), .pointer (some ⟨O + 1, 0, none⟩), .pointer (some ⟨O + 2, 0, none⟩), .pointer (some ⟨O + 3, 0, none⟩), .pointer (some ⟨O + 4, 0, none⟩), .pointer (some ⟨O + 5, 0, none⟩), .string lk, u9, u10, u11, u12, u13, u14, u15, u16, u17, u18, u19, u20, u21, u22, u23, .string lk, u25, u26, u27, u28, u29, u30, u31, u32, u33, u34, u35, u36, u37, u38, u39, u40, u41, u42, u43, u44, u45, u46, u47, u48, u49, u50, u51, u52, u53, u54, u55, u56, u57, u58, u59, u60, u61, u62, u63, u64, u65, u66, u67, u68, u69, u70, u71, u72, u73, u74, u75, u76, u77, u78, u79, u80, u81, u82, u83, u84, u85, u86, u87, u88, u89, u90, u91, u92, u93, u94, u95, u96, u97, u98, u99, u100, u101, u102, u103, u104, u105, u106, u107, u108, u109, u110, u111, u112, u113, u114, u115, u116, u117, u118, u119], defers := [] } W := by
  unfold Tryz.f15 at hbody
  simp only [Option.bind_some, rangeBody, Option.some.injEq] at hbody
  subst hbody
  obtain ⟨i0, hi0, hz0, hz1, hz2⟩ := info_parts infoInt
  have HT := Lib.hid ht
  have HM := Lib.hid hm
  have HWZ := Lib.hid hwz
  have HGO := Lib.hid hgo
  have HBAD := Lib.hid hbad
  have HCS := Lib.hid hcs
  have hlo := hst.lo
  have hhi := hst.hi
  have hhd := hst.hd
  have hsz := hst.sz
  obtain ⟨SB, hSB⟩ : ∃ SB, W.heap.size = SB := ⟨_, rfl⟩
  have HSB := Lib.hid (show O + 5 < SB by omega)
  have HSP := Lib.hid (show Calls Tryz.prog 54 #[.string T, .string ⟨#[32]⟩] (W.setCell ⟨O + 5, 0, none⟩ (.int .i64 ((k : Int) + 1))) fun e w' => e = .returned (.slice (some ⟨SB, 0, none⟩) m m) ∧ RdSt w D O B X ((k : Int) + 1) R C v zs v2 ls w' ∧ WrdB w' SB ws ∧ KeepT 3 D W w' ∧ SB < w'.heap.size from by
    have h1 := hst.number ((k : Int) + 1)
    refine (hsp _ (ht.below h1.bel)).mono ?_
    rintro e w' ⟨rfl, rfl⟩
    have hz : (W.setCell ⟨O + 5, 0, none⟩ (.int .i64 ((k : Int) + 1))).heap.size = SB := by rw [← hSB]; simp [World.setCell]
    rw [hz]
    refine ⟨rfl, h1.below ((Below.refl _ _).alloc (Nat.le_refl _) _), ?_, ((KeepT.refl _ _).setCell (p := ⟨O + 5, 0, none⟩) (by show O + 5 < D; omega) _).trans (KeepT.below ((Below.refl _ _).alloc (Nat.le_refl _) _)), by simp [hz]⟩
    have := World.alloc_heap_new (W.setCell ⟨O + 5, 0, none⟩ (.int .i64 ((k : Int) + 1))) (.cells (ws.map Value.string).toArray 9)
    rw [hz] at this
    exact this)
  obtain ⟨c5, f5⟩ := hst.n0
  have hk3 : ((k : Int) + 1 == 1) = false := by simp; omega
  clear hst hsp hcs hgo hbad hwz ht hm
  gi_wp2_with (first | (refine ⟨trivial, ?_⟩; gi_at_call 53; (with_reducible refine (callsIn_round (HCS.out _)).mono ?_); rintro e w1 ⟨rfl, rfl⟩) | (refine ⟨trivial, ?_⟩; gi_at_call 54; (with_reducible refine (callsIn_round HSP.out).mono ?_); rintro e w2 ⟨rfl, hs2, hw2, hk2, hl2⟩; have HS2 := Lib.hid hs2; have HW2 := Lib.hid hw2; have HK2 := Lib.hid hk2; obtain ⟨c6, f6⟩ := hs2.n0; clear hs2 hw2 hk2 c5 f5))
  clear c6 f6
  gi_loopw [10, 53] (fun f i wr => ∃ (j : Nat) (ps : List Int) (v' : Value), j ≤ m ∧ i = .int .i64 j ∧ f = .bool (b && (numsK k ws j).isSome) ∧ ps.length = j ∧ (∀ ns, numsK k ws j = some ns → ps = ns) ∧ RdSt w D O B X ((k : Int) + 1) R C v' (zs ++ ps) v2 ls wr ∧ WrdB wr SB ws ∧ KeepT 3 D W wr) (fun _ i _ => m - (intOf i).toNat)
  case atStart => exact ⟨0, [], v, Nat.zero_le _, rfl, by rw [numsK_zero]; cases b <;> rfl, rfl, fun ns h => by rw [numsK_zero] at h; exact Option.some.inj h, by rw [List.append_nil]; exact HS2.out, HW2.out, HK2.out⟩
  case round =>
    obtain ⟨j, ps, v', hj, rfl, rfl, hpl, hps, hsr, hwr, hkr⟩ := hrel
    have HPS := Lib.hid hps
    have HPL := Lib.hid hpl
    obtain ⟨va, vn, vc, rfl⟩ : ∃ a n c, v' = .slice a n c := by
      obtain ⟨a, c, h⟩ := ownsRow_form hsr.own
      exact ⟨a, _, c, h⟩
    have HSR := Lib.hid hsr
    have HWR := Lib.hid hwr
    have HKR := Lib.hid hkr
    have hWlt := hwr.lt
    obtain ⟨eb, heb⟩ : ∃ eb, (b && (numsK k ws j).isSome) = eb := ⟨_, rfl⟩
    have HEB := Lib.hid heb
    rw [heb]
    by_cases hlt : j < m
    · have hd1 : decide ((j : Int) < (m : Int)) = true := by simp; omega
      have hj1 : (j : Int) < (m : Int) := by omega
      obtain ⟨x, hx⟩ : ∃ x, textAt ws j = x := ⟨_, rfl⟩
      have cx := hwr.cell (j := j) (by rw [HM.out]; omega)
      rw [hx] at cx
      obtain ⟨c, hc⟩ : ∃ c, (phW x true).isSome = c := ⟨_, rfl⟩
      have HPH := Lib.hid (show Calls Tryz.prog 55 #[.string x, .bool true] wr fun e w' => ∃ p : Int, e = .returned (.tuple #[.int .i64 p, .bool c]) ∧ (∀ v, phW x true = some v → p = v) ∧ Below wr.heap.size wr w' from by
        rw [← hc]
        exact phase_any x true wr (by have := HWZ.out j; rw [hx] at this; omega) (HT.out.below hsr.bel))
      have HR0 := Lib.hid (show wordP k x = phW x true from by unfold wordP; rw [decide_eq_true hk1])
      have HNX := Lib.hid (numsK_succ k ws j (by rw [HM.out]; exact hlt) (by omega))
      rw [hx] at HNX
      have HSO := Lib.hid (snoc_isSome HNX.out)
      rw [HR0.out, hc] at HSO
      obtain ⟨ys, hys⟩ : ∃ ys, zs ++ ps = ys := ⟨_, rfl⟩
      have HYS := Lib.hid hys
      have hyl : ys.length ≤ 120002 := by rw [← hys, List.length_append]; omega
      obtain ⟨ny, hny⟩ : ∃ ny, ys.length = ny := ⟨_, rfl⟩
      have HNY := Lib.hid hny
      rw [hny] at hyl
      rw [hys] at HSR
      clear hps hpl hsr hwr hkr hx hc heb hys hny
      cases eb
      all_goals
        gi_wp2_with (first | (refine ⟨trivial, ?_⟩; gi_at_call 55; (with_reducible refine (callsIn_round HPH.out).mono ?_); rintro e w4 ⟨p, rfl, hp, hb⟩; have HS4 := Lib.hid (HSR.out.below hb); have HW4 := Lib.hid (HWR.out.below hb hWlt); have HK4 := Lib.hid (HKR.out.trans (KeepT.below (T := 3) (B := D) hb)); have HP := Lib.hid hp; obtain ⟨c30, f30⟩ := HS4.out.m2; have HOW := Lib.hid (show w4.ownsRow D 3 1 (.slice va vn vc) ny (intC ys) from by rw [← HNY.out]; exact HS4.out.own); have hz4 := hb.size; have hsz4 := HS4.out.sz; clear hp hb cx) | (gi_at_builtin; refine wpListIn_append_own_at _ rfl _ _ 42 rfl D 3 i0 (.int .i64 0) 1 8 Tryz.underlying42 hi0 hz0 hz1 hz2 rfl (by decide) _ _ _ rfl (HOW.out.alloc _) ⟨w4.heap.size, 0, none⟩ 1 1 [.int .i64 p] rfl rfl ?d1 ?d2 ?d3 ?d4 ?d5 ?_))
        case d1 => exact cells_int1 _ _ _
        case d2 => first | rfl | (intro u hu; simp at hu; subst hu; rfl)
        case d3 => unfold maxLen; omega
        case d4 => omega
        case d5 => first | omega | (simp; omega)
        intro v' w5 hown' hgrow _ hloc
        have hb5 := grown_below HS4.out.sz HS4.out.own hgrow
        obtain ⟨s1, s2⟩ := HS4.out.m2.below hb5 (by omega)
        obtain ⟨ga, gc, rfl⟩ := row_slice hown' (by omega)
        have HS5 := Lib.hid (HS4.out.addZ HNY.out hown' hgrow hloc)
        have HW5 := Lib.hid ((HW4.out.grown HS4.out.own hgrow).other (b := O + 3) (j := 2) (by have := HSB.out; omega) (.slice (some ⟨ga, 0, none⟩) (ny + 1) gc))
        have HK5 := Lib.hid ((HK4.out.trans (keepT_grown HS4.out.sz HS4.out.own hgrow)).setCell (p := ⟨O + 3, 2, none⟩) (by show O + 3 < D; omega) (.slice (some ⟨ga, 0, none⟩) (ny + 1) gc))
        clear hown' hgrow hloc hb5
        gi_wp2
        go_roundw
        case rel => exact ⟨j + 1, ps ++ [p], _, by omega, by go_num, by rw [HSO.out, ← Bool.and_assoc, HEB.out]; first | rfl | simp, by rw [List.length_append, HPL.out]; rfl, fun ns h => (by
          rw [HNX.out] at h
          cases hms : numsK k ws j with
          | none => rw [hms] at h; cases h
          | some ms =>
            rw [hms] at h
            cases hr : wordP k x with
            | none => rw [hr] at h; cases h
            | some z =>
              rw [hr] at h
              injection h with h
              rw [← h, HPS.out ms hms, HP.out z (by rw [← HR0.out]; exact hr)]), by rw [← List.append_assoc, HYS.out]; exact HS5.out, HW5.out, HK5.out⟩
        case measure => simp [intOf]; omega
    · have hd1 : decide ((j : Int) < (m : Int)) = false := by simp; omega
      have hje : j = m := by omega
      have hpo := hsr.hi
      have hpd := hsr.hd
      cases eb
      · obtain ⟨c7, f7⟩ := hsr.n0
        obtain ⟨g0, g0f⟩ := hsr.r0
        obtain ⟨g1, g1f⟩ := hsr.r1
        obtain ⟨g2, g2f⟩ := hsr.r2
        obtain ⟨g3, g3f⟩ := hsr.r3
        obtain ⟨g4, g4f⟩ := hsr.r4
        have HB2 := Lib.hid (show ∀ W', RetB w D O ((k : Int) + 1) W' → Ix .ret W' from fun W' h => HBAD.out W' (fun h2 => by
          have h3 := HEB.out
          obtain ⟨h4, ns, h6⟩ := h2
          rw [hje, h6, h4] at h3
          cases h3) h)
        clear hps hpl hsr hwr hkr heb
        gi_wp2
        gi_region
        all_goals
          gi_wp2
          exact ⟨(((((HKR.out.setCell (p := ⟨O, 0, none⟩) (by show O < D; omega) _).setCell (p := ⟨O, 1, none⟩) (by show O < D; omega) _).setCell (p := ⟨O, 2, none⟩) (by show O < D; omega) _).setCell (p := ⟨O + 1, 0, none⟩) (by show O + 1 < D; omega) _).setCell (p := ⟨O + 2, 0, none⟩) (by show O + 2 < D; omega) _).drew, HB2.out _ HSR.out.ret.drew⟩
      · obtain ⟨⟨ns, hns⟩, hbt⟩ : (∃ ns, numsK k ws m = some ns) ∧ b = true := by
          rw [Bool.and_eq_true, hje] at heb
          exact ⟨Option.isSome_iff_exists.1 heb.2, heb.1⟩
        have HN := Lib.hid hns
        have HPN := Lib.hid (hps ns (by rw [hje]; exact hns))
        have HBT := Lib.hid hbt
        obtain ⟨la, lc, rfl⟩ := ownsRow_form hsr.own2
        have HOL := Lib.hid hsr.own2
        obtain ⟨c8, f8⟩ := hsr.l0
        have hsz8 := hsr.sz
        have hllr : ls.length ≤ 60001 := hll
        clear hps hpl hsr hwr hkr heb hns hbt
        gi_wp2_with (first | (gi_at_builtin; refine wpListIn_append_own_at _ rfl _ _ 42 rfl D 3 i0 (.int .i64 0) 1 8 Tryz.underlying42 hi0 hz0 hz1 hz2 rfl (by decide) _ _ _ rfl (HOL.out.alloc _) ⟨wr.heap.size, 0, none⟩ 1 1 [.int .i64 m] rfl rfl ?d1 ?d2 ?d3 ?d4 ?d5 ?_))
        case d1 => exact cells_int1 _ _ _
        case d2 => first | rfl | (intro u hu; simp at hu; subst hu; rfl)
        case d3 => unfold maxLen; omega
        case d4 => omega
        case d5 => first | omega | (simp; omega)
        intro v' w5 hown' hgrow _ hloc
        have hb5 := grown_below HSR.out.sz HSR.out.own2 hgrow
        obtain ⟨s1, s2⟩ := HSR.out.l0.below hb5 (by omega)
        obtain ⟨ga, gc, rfl⟩ := row_slice hown' (by omega)
        have HS5 := Lib.hid (HSR.out.addL rfl hown' hgrow hloc)
        have HK5 := Lib.hid ((HKR.out.trans (keepT_grown HSR.out.sz HSR.out.own2 hgrow)).setCell (p := ⟨O + 4, 0, none⟩) (by show O + 4 < D; omega) (.slice (some ⟨ga, 0, none⟩) (ls.length + 1) gc))
        clear hown' hgrow hloc hb5
        gi_wp2
        exact ⟨HK5.out, HGO.out _ ns _ _ HBT.out HN.out (by rw [← HPN.out]; exact HS5.out)⟩
end Go.Proofs.YtkoiknmijjiicaaGreatDoor

/- Chapter 4: the program's Parse. (Printed by mkx132.py from X134.src.) -/
namespace Go.Proofs.YtkoiknmijjiicaaGreatDoor
set_option linter.unusedVariables false
set_option linter.unusedSimpArgs false
open Go Go.RowKit Go.Sort
theorem anyN_hit {C : Int} {ls : List Int} {k : Nat} (hk : k < ls.length) (h : (intAt ls k != C) = true) : (ls.any fun z => z != C) = true := by
  refine List.any_eq_true.2 ⟨ls[k], List.getElem_mem hk, ?_⟩
  unfold intAt at h
  simpa [hk] using h
theorem anyN_no {C : Int} {ls : List Int} (h : ∀ j, j < ls.length → (intAt ls j != C) = false) : (ls.any fun z => z != C) = false := by
  refine List.any_eq_false.2 fun z hz => ?_
  obtain ⟨j, hj, rfl⟩ := List.getElem_of_mem hz
  have := h j hj
  unfold intAt at this
  simpa [hj] using this
set_option maxHeartbeats 1000000 in
theorem indexFunc_l (C : Int) (b : Nat) (ls : List Int) (v : Value) (w : World) (hl : ls.length ≤ 100000) (hv : IntsV w v ls) (hC : w.cell? ⟨b, 1, none⟩ = some (.int .i64 C)) :
    Calls Tryz.prog 65 #[v, .func (.func 57) #[] #[.pointer (some ⟨b, 0, none⟩)]] w fun e w' => ∃ i : Int, e = .returned (.int .i64 i) ∧ decide (0 ≤ i) = (ls.any fun z => z != C) ∧ (-1 ≤ i ∧ i ≤ 100000) ∧ w = w' := by
  obtain ⟨-, a, cap, rfl, h4⟩ := hv
  have H4 := Lib.hid h4
  have HC := Lib.hid hC
  have HN := Lib.hid (anyN_no (C := C) (ls := ls))
  have HH := Lib.hid (fun k => anyN_hit (C := C) (ls := ls) (k := k))
  obtain ⟨n, hn⟩ : ∃ n, ls.length = n := ⟨_, rfl⟩
  rw [hn] at hl H4 HN HH ⊢
  clear h4 hC
  go_enter Tryz.func65, Tryz.ntmps65
  go_wp2
  go_loop [8] (fun i => ∃ k : Nat, k ≤ n ∧ i = .int .i64 k ∧ ∀ j, j < k → (intAt ls j != C) = false) (fun i => n - (intOf i).toNat)
  case atStart => exact ⟨0, Nat.zero_le _, rfl, fun j hj => absurd hj (Nat.not_lt_zero _)⟩
  case round =>
    obtain ⟨k, hk, rfl, hz⟩ := hrel
    have HZ := Lib.hid hz
    clear hz
    by_cases hlt : k < n
    · have hdk : decide ((k : Int) < (n : Int)) = true := by simp; omega
      obtain ⟨g, off, rfl, hbw, hc⟩ := H4.out (by omega)
      have ck := hc k hlt
      clear hc
      rcases (show (intAt ls k != C) = true ∨ (intAt ls k != C) = false by cases (intAt ls k != C) <;> simp) with h0 | h0
      · have HP := Lib.hid (show Calls Tryz.prog 57 #[.int .i64 (intAt ls k), .pointer (some ⟨b, 0, none⟩)] w fun e w' => e = .returned (.bool true) ∧ w = w' from by have := lengthIs C (intAt ls k) ⟨b, 0, none⟩ w HC.out rfl; rwa [h0] at this)
        have HT := Lib.hid (HH.out k hlt h0)
        clear h0 HZ
        generalize intAt ls k = p at ck HP
        go_wp2_with (first | (go_at_call 57; (with_reducible refine (HP.out).mono ?_); rintro e w' ⟨rfl, rfl⟩))
        go_ret
        exact ⟨k, rfl, by rw [HT.out]; simp, by omega, rfl⟩
      · have HP := Lib.hid (show Calls Tryz.prog 57 #[.int .i64 (intAt ls k), .pointer (some ⟨b, 0, none⟩)] w fun e w' => e = .returned (.bool false) ∧ w = w' from by have := lengthIs C (intAt ls k) ⟨b, 0, none⟩ w HC.out rfl; rwa [h0] at this)
        have H0 := Lib.hid h0
        clear h0
        generalize intAt ls k = p at ck HP
        go_wp2_with (first | (go_at_call 57; (with_reducible refine (HP.out).mono ?_); rintro e w' ⟨rfl, rfl⟩))
        go_round
        case rel => exact ⟨k + 1, by omega, by go_num, fun j hj => by rcases Nat.lt_succ_iff_lt_or_eq.1 hj with h | rfl; exact HZ.out j h; exact H0.out⟩
        case measure => simp [intOf]; omega
    · obtain rfl : k = n := by omega
      have hdk : decide ((k : Int) < (k : Int)) = false := by simp
      have HT := Lib.hid (HN.out HZ.out)
      clear HZ
      go_wp2
      go_ret
      exact ⟨-1, rfl, by rw [HT.out]; decide, by omega, rfl⟩
set_option maxHeartbeats 1000000 in
theorem containsFunc_l (C : Int) (b : Nat) (ls : List Int) (v : Value) (w : World) (hl : ls.length ≤ 100000) (hv : IntsV w v ls) (hC : w.cell? ⟨b, 1, none⟩ = some (.int .i64 C)) {c : Bool} (hc : (ls.any fun z => z != C) = c) :
    Calls Tryz.prog 56 #[v, .func (.func 57) #[] #[.pointer (some ⟨b, 0, none⟩)]] w fun e w' => e = .returned (.bool c) ∧ w = w' := by
  have HI := Lib.hid (indexFunc_l C b ls v w hl hv hC)
  rw [hc] at HI
  obtain ⟨-, a, cap, rfl, -⟩ := hv
  clear hc hC
  go_enter Tryz.func56, Tryz.ntmps56
  go_wp2_with (first | (go_at_call 65; (with_reducible refine (HI.out).mono ?_); rintro e w' ⟨i, rfl, hc, ⟨hi1, hi2⟩, rfl⟩; have HC := Lib.hid hc; clear hc))
  go_ret
  exact ⟨ret_bool HC.out, rfl⟩
/-- A Parse that returns. -/
structure RetV (w : World) (D O : Nat) (A : PAns) (v : Value) (W : World) : Prop where
  c0 : Cel W O 0 (.int .i64 A.rows)
  c1 : Cel W O 1 (.int .i64 A.cols)
  c2 : Cel W O 2 v
  c3 : Cel W (O + 1) 0 (.int .i64 A.line)
  c4 : Cel W (O + 2) 0 (.int .i64 A.err)
  own : W.ownsRow D 3 1 v A.zs.length (intC A.zs)
  len : A.zs.length ≤ 1000000
  bel : Below w.heap.size w W
  lo : w.heap.size ≤ O
  hi : O + 2 < D
theorem RetB.retV {w : World} {D O n : Nat} {W : World} (h : RetB w D O n W) (lo : w.heap.size ≤ O) (hi : O + 2 < D) : RetV w D O ⟨0, 0, [], n, 7⟩ (.slice none 0 0) W :=
  ⟨h.1, h.2.1, h.2.2.1, h.2.2.2.1, h.2.2.2.2.1, World.ownsRow_nil _ _ _ _, Nat.zero_le _, h.2.2.2.2.2.1, lo, hi⟩
theorem leaveD {W : World} {D O : Nat} {x : Option Obj} (h : W.heap[D]? = x) (hi : O + 2 < D) (u0 u1 u2 u3 u4 : Value) :
    (((((W.setCell ⟨O, 0, none⟩ u0).setCell ⟨O, 1, none⟩ u1).setCell ⟨O, 2, none⟩ u2).setCell ⟨O + 1, 0, none⟩ u3).setCell ⟨O + 2, 0, none⟩ u4).heap[D]? = x := by
  rw [heap_setCell_other _ _ D _ (by show D ≠ O + 2; omega), heap_setCell_other _ _ D _ (by show D ≠ O + 1; omega), heap_setCell_other _ _ D _ (by show D ≠ O; omega), heap_setCell_other _ _ D _ (by show D ≠ O; omega), heap_setCell_other _ _ D _ (by show D ≠ O; omega)]
  exact h
theorem RdSt.leave5 {w : World} {D O B : Nat} {X : Value} {num R C : Int} {v : Value} {zs : List Int} {v2 : Value} {ls : List Int} {W : World} (h : RdSt w D O B X num R C v zs v2 ls W) (a b : Int) (x : Value) (c e : Int) (A : PAns) (h0 : A.rows = a) (h1 : A.cols = b) (h3 : (A.line : Int) = c) (h4 : A.err = e)
    (ho : W.ownsRow D 3 1 x A.zs.length (intC A.zs)) (hl : A.zs.length ≤ 1000000) :
    RetV w D O A x (((((W.setCell ⟨O, 0, none⟩ (.int .i64 a)).setCell ⟨O, 1, none⟩ (.int .i64 b)).setCell ⟨O, 2, none⟩ x).setCell ⟨O + 1, 0, none⟩ (.int .i64 c)).setCell ⟨O + 2, 0, none⟩ (.int .i64 e)) := by
  have q3 := h.lo
  have q4 := h.hi
  have q5 := h.hd
  subst h0 h1 h3 h4
  refine ⟨((((h.r0.set _).other (by omega) _).other (by omega) _).other (by omega) _).other (by omega) _, ((((h.r1.other (by omega) _).set _).other (by omega) _).other (by omega) _).other (by omega) _,
    ((((h.r2.other (by omega) _).other (by omega) _).set _).other (by omega) _).other (by omega) _, ((((h.r3.other (by omega) _).other (by omega) _).other (by omega) _).set _).other (by omega) _,
    ((((h.r4.other (by omega) _).other (by omega) _).other (by omega) _).other (by omega) _).set _, ?_, hl, ?_, q3, by omega⟩
  · exact ownsRow_setCell_below (ownsRow_setCell_below (ownsRow_setCell_below (ownsRow_setCell_below (ownsRow_setCell_below ho (by show O < D; omega) _) (by show O < D; omega) _) (by show O < D; omega) _) (by show O + 1 < D; omega) _) (by show O + 2 < D; omega) _
  · exact ((((h.bel.setCell (p := ⟨O, 0, none⟩) q3 _).setCell (p := ⟨O, 1, none⟩) q3 _).setCell (p := ⟨O, 2, none⟩) q3 _).setCell (p := ⟨O + 1, 0, none⟩) (by show w.heap.size ≤ O + 1; omega) _).setCell (p := ⟨O + 2, 0, none⟩) (by show w.heap.size ≤ O + 2; omega) _
theorem RdSt.leaveN {w : World} {D O B : Nat} {X : Value} {num R C : Int} {v : Value} {zs : List Int} {v2 : Value} {ls : List Int} {W : World} (h : RdSt w D O B X num R C v zs v2 ls W) (n : Nat) (n' e : Int) (hn : (n : Int) = n') :
    RetV w D O ⟨0, 0, [], n, e⟩ (.slice none 0 0) (((((W.setCell ⟨O, 0, none⟩ (.int .i64 0)).setCell ⟨O, 1, none⟩ (.int .i64 0)).setCell ⟨O, 2, none⟩ (.slice none 0 0)).setCell ⟨O + 1, 0, none⟩ (.int .i64 n')).setCell ⟨O + 2, 0, none⟩ (.int .i64 e)) :=
  h.leave5 0 0 _ n' e _ rfl rfl hn rfl (World.ownsRow_nil _ _ _ _) (Nat.zero_le _)
theorem RdSt.leaveM {w : World} {D O B : Nat} {X : Value} {num R C : Int} {v : Value} {zs : List Int} {v2 : Value} {ls : List Int} {W : World} (h : RdSt w D O B X num R C v zs v2 ls W) (hl : zs.length ≤ 1000000) :
    RetV w D O ⟨R, C, zs, 0, 0⟩ v (((((W.setCell ⟨O, 0, none⟩ (.int .i64 R)).setCell ⟨O, 1, none⟩ (.int .i64 C)).setCell ⟨O, 2, none⟩ v).setCell ⟨O + 1, 0, none⟩ (.int .i64 0)).setCell ⟨O + 2, 0, none⟩ (.int .i64 0)) :=
  h.leave5 R C v 0 0 _ rfl rfl rfl rfl h.own hl
theorem parseLeave (s : ByteArray) (A : PAns) (hA : ansP s = A) (w W : World) (D O : Nat) (v : Value) (h : RetV w D O A v W) (hD : W.heap[D]? = some (.deferred (some []))) (u0 u1 u5 u6 u7 u8 u9 u10 u11 u12 u13 u14 u15 u16 u17 u18 u19 u20 u21 u22 u23 u24 u25 u26 u27 u28 u29 u30 u31 u32 u33 u34 u35 u36 u37 u38 u39 u40 u41 u42 u43 u44 u45 u46 u47 u48 u49 u50 u51 u52 u53 u54 u55 u56 u57 u58 u59 u60 u61 u62 u63 u64 u65 u66 u67 u68 u69 u70 u71 u72 u73 u74 u75 u76 u77 u78 u79 u80 u81 u82 u83 u84 u85 u86 u87 u88 u89 u90 u91 u92 u93 u94 u95 u96 u97 u98 u99 u100 u101 u102 u103 u104 u105 u106 u107 u108 u109 u110 u111 u112 u113 u114 u115 u116 u117 u118 u119 : Value) :
    LeavesInM Fence.wide 9 Tryz.prog Tryz.f15 #[u0, u1, .pointer (some ⟨O, 0, none⟩), .pointer (some ⟨O + 1, 0, none⟩), .pointer (some ⟨O + 2, 0, none⟩), u5, u6, u7, u8, u9, u10, u11, u12, u13, u14, u15, u16, u17, u18, u19, u20, u21, u22, u23, u24, u25, u26, u27, u28, u29, u30, u31, u32, u33, u34, u35, u36, u37, u38, u39, u40, u41, u42, u43, u44, u45, u46, u47, u48, u49, u50, u51, u52, u53, u54, u55, u56, u57, u58, u59, u60, u61, u62, u63, u64, u65, u66, u67, u68, u69, u70, u71, u72, u73, u74, u75, u76, u77, u78, u79, u80, u81, u82, u83, u84, u85, u86, u87, u88, u89, u90, u91, u92, u93, u94, u95, u96, u97, u98, u99, u100, u101, u102, u103, u104, u105, u106, u107, u108, u109, u110, u111, u112, u113, u114, u115, u116, u117, u118, u119] (RpPost s w) [{ target := .collected D, args := #[] }] .returning W := by
  refine ⟨by simp, .inl ⟨_, _, rfl, run_takeDeferred hD, ?_⟩⟩
  have hb : Below D W (W.putObj D (.deferred none)) := below_putObj (Nat.le_refl _) _
  have hlo := h.lo
  have hhi := h.hi
  obtain ⟨q0, -⟩ := h.c0.below hb (by omega)
  obtain ⟨q1, -⟩ := h.c1.below hb (by omega)
  obtain ⟨q2, -⟩ := h.c2.below hb (by omega)
  obtain ⟨q3, -⟩ := h.c3.below hb (by omega)
  obtain ⟨q4, -⟩ := h.c4.below hb (by omega)
  have ho : IntsV (W.putObj D (.deferred none)) v A.zs := ints_row (ownsRow_putObj h.own _ hD rfl) (by have := h.len; omega)
  have hB := h.bel.trans (hb.mono (by omega))
  generalize W.putObj D (.deferred none) = W2 at q0 q1 q2 q3 q4 ho hB
  refine ⟨.tuple #[.agg #[.int .i64 A.rows, .int .i64 A.cols, v], .int .i64 A.line, .int .i64 A.err], ?_, v, by rw [hA], by rw [hA]; exact ho, hB⟩
  simp [results, Tryz.results15, go_sem, q0, q1, q2, q3, q4]
/-- The lengths of the lines that have come. -/
def LensOk (k : Nat) (st : PSt) (ls : List Int) : Prop := ls.length = k - 1 ∧ (0 < k → st.fits = !(ls.any fun z => z != st.cols))
theorem LensOk.next {k : Nat} {st st' : PSt} {ls : List Int} {m : Nat} (h : LensOk k st ls) (hk : 0 < k) (h1 : st'.cols = st.cols) (h2 : st'.fits = (st.fits && decide ((m : Int) = st.cols))) : LensOk (k + 1) st' (ls ++ [(m : Int)]) := by
  refine ⟨by rw [List.length_append, h.1, List.length_singleton]; omega, fun _ => ?_⟩
  rw [h2, h.2 hk, h1, List.any_append]
  simp only [List.any_cons, List.any_nil, Bool.or_false, Bool.not_or]
  congr 1
  by_cases e : (m : Int) = st.cols <;> simp [e]
/-- What is known at the loop. -/
def PLoop (s : ByteArray) (w : World) (D O B k : Nat) (W : World) : Prop :=
  ∃ (st : PSt) (ls : List Int) (v v2 : Value) (X : Value), k ≤ endsN s ∧ runL (cutW s 10) k = some st ∧ LensOk k st ls ∧ RdSt w D O B X k st.rows st.cols v st.zs v2 ls W ∧ (k = 0 → v = .slice none 0 0 ∧ v2 = .slice none 0 0)
def PStop (s : ByteArray) (w : World) (D O : Nat) (c : Code) (W : World) : Prop := c = .ret ∧ ∃ n : Nat, RetB w D O n W ∧ ansP s = ⟨0, 0, [], n, 7⟩
theorem lineK_size (s : ByteArray) (k : Nat) : (lineK s k).size ≤ s.size := by
  have := rests_size s k
  unfold lineK
  rw [ByteArray.size_extract]
  omega
/-- The answer of a text that ends within a line, or is empty. -/
theorem ans_unended (s : ByteArray) (hs : s.size ≤ 60000) {st : PSt} (h : runL (cutW s 10) (endsN s) = some st) (h2 : textAt (cutW s 10) (endsN s) ≠ ⟨#[]⟩ ∨ endsN s = 0) : ansP s = ⟨0, 0, [], endsN s + 1, 7⟩ := by
  unfold ansP
  rw [if_neg (by omega), badL_run _ _ _ h, h]
  simp only
  rw [if_pos h2]
theorem ans_bad (s : ByteArray) (hs : s.size ≤ 60000) {k : Nat} {st : PSt} (hk : k < endsN s) (h : runL (cutW s 10) k = some st) (h2 : runL (cutW s 10) (k + 1) = none) : ansP s = ⟨0, 0, [], k + 1, 7⟩ := by
  unfold ansP
  rw [if_neg (by omega), badL_stop _ _ h h2 _ hk]
theorem linesN_last (s : ByteArray) (h : endsN s < linesN s) : textAt (cutW s 10) (endsN s) ≠ ⟨#[]⟩ := by
  rw [linesN_eq] at h
  intro e
  rw [e, if_pos (show (⟨#[]⟩ : ByteArray).size = 0 from rfl)] at h
  omega
theorem linesN_done (s : ByteArray) (h : linesN s ≤ endsN s) : linesN s = endsN s ∧ textAt (cutW s 10) (endsN s) = ⟨#[]⟩ := by
  rw [linesN_eq] at h ⊢
  split at h
  · next h1 =>
    rw [if_pos h1]
    refine ⟨rfl, ?_⟩
    generalize textAt (cutW s 10) (endsN s) = x at h1
    apply ByteArray.ext
    exact Array.eq_empty_of_size_eq_zero h1
  · omega
theorem any_world134 {G : World → Prop} {w : World} (F : World → Prop) (hf : F w) (h : ∀ W, F W → G W) : G w := h w hf
set_option maxRecDepth 20000 in
set_option maxHeartbeats 1000000 in
theorem fParse_big (s : ByteArray) (w : World) (hs : 60000 < s.size) : Calls Tryz.prog 15 #[.string s] w (RpPost s w) := by
  have hA : ansP s = ⟨0, 0, [], 0, 8⟩ := by unfold ansP; rw [if_pos hs]
  have hd : decide ((60000 : Int) < (s.size : Int)) = true := by simp; omega
  unfold RpPost
  rw [hA]
  clear hA
  refine callsIn_wide.1 (callsIn_of_wp_marks (F := Fence.wide) (n := 9) Tryz.func15 rfl trivial (wpIn_wide.2 ?_) rfl)
  simp only [Tryz.ntmps15, List.size_toArray, List.length_cons, List.length_nil, Nat.reduceAdd, Nat.reduceSub, Array.replicate_succ, Array.replicate_zero, List.push_toArray, List.append_toArray, List.nil_append, List.cons_append]
  go_wp2
  refine ⟨.tuple #[.agg #[.int .i64 0, .int .i64 0, .slice none 0 0], .int .i64 0, .int .i64 8], ?_, _, rfl, ints_nil _, (by (repeat' (first | with_reducible exact Below.refl _ _ | (with_reducible refine below_later_of ?_ ?_ _) | (with_reducible refine Below.alloc ?_ ?_ _) | (with_reducible refine Below.setCell ?_ ?_ _) | (with_reducible refine Below.drew ?_) | (simp; done) | (simp; omega) | omega)))⟩
  first | (simp [results, Tryz.results15, go_sem]; done) | simp [results, Tryz.results15, go_sem, ↓IntWalk.iteOmega]
set_option maxRecDepth 20000 in
set_option maxHeartbeats 4000000 in
theorem fParse (s : ByteArray) (w : World) (hs : s.size ≤ 60000) (ht : TabR w) : Calls Tryz.prog 15 #[.string s] w (RpPost s w) := by
  have HT := Lib.hid ht
  have hd : decide ((60000 : Int) < (s.size : Int)) = false := by simp; omega
  have hne := ends_le s
  clear ht
  refine callsIn_wide.1 (callsIn_of_wp_marks (F := Fence.wide) (n := 9) Tryz.func15 rfl trivial (wpIn_wide.2 ?_) rfl)
  simp only [Tryz.ntmps15, List.size_toArray, List.length_cons, List.length_nil, Nat.reduceAdd, Nat.reduceSub, Array.replicate_succ, Array.replicate_zero, List.push_toArray, List.append_toArray, List.nil_append, List.cons_append]
  go_wp2_with (first | (go_at_call 52; (with_reducible refine (lines_any s _).mono ?_); rintro e w5 ⟨B, hB, rfl, hsB, hlB, hbl⟩))
  obtain ⟨D, hD⟩ : ∃ D, w5.heap.size = D := ⟨_, rfl⟩
  have hB5 : B = w.heap.size + 6 := by rw [hB]; simp
  obtain ⟨O, hO⟩ : ∃ O, w.heap.size = O := ⟨_, rfl⟩
  have HRD := Lib.hid (show RdSt w D O B (.string s) 0 0 0 (.slice none 0 0) [] (.slice none 0 0) [] w5 from by
    subst hO hD
    refine ⟨(show Below w.heap.size w _ from (by (repeat' (first | with_reducible exact Below.refl _ _ | (with_reducible refine below_later_of ?_ ?_ _) | (with_reducible refine Below.alloc ?_ ?_ _) | (with_reducible refine Below.setCell ?_ ?_ _) | (with_reducible refine Below.drew ?_) | (simp; done) | (simp; omega) | omega)))).trans (hbl.mono (by simp <;> omega)), Nat.le_refl _, Nat.le_refl _, by omega, hlB, Cel.below (u := .int .i64 0) ⟨?_, ?_⟩ hbl (by simp <;> omega), Cel.below (u := .int .i64 0) ⟨?_, ?_⟩ hbl (by simp <;> omega), Cel.below (u := .slice none 0 0) ⟨?_, ?_⟩ hbl (by simp <;> omega), Cel.below (u := .int .i64 0) ⟨?_, ?_⟩ hbl (by simp <;> omega), Cel.below (u := .int .i64 0) ⟨?_, ?_⟩ hbl (by simp <;> omega),
      Cel.below (u := .int .i64 0) ⟨?_, ?_⟩ hbl (by simp <;> omega), Cel.below (u := .int .i64 0) ⟨?_, ?_⟩ hbl (by simp <;> omega), Cel.below (u := .slice none 0 0) ⟨?_, ?_⟩ hbl (by simp <;> omega), Cel.below (u := .slice none 0 0) ⟨?_, ?_⟩ hbl (by simp <;> omega), Cel.below (u := .int .i64 0) ⟨?_, ?_⟩ hbl (by simp <;> omega), World.ownsRow_nil _ _ _ _, World.ownsRow_nil _ _ _ _, (fun g h => by cases h), hsB⟩
    all_goals first | (simp [go_sem]; done) | simp [go_sem, ↓IntWalk.iteOmega])
  have hBD : B < D := by omega
  rw [show w.heap.size + 1 + 1 + 1 + 1 + 1 + 1 = B by omega, hO, show O + 1 + 1 + 1 + 1 + 1 = O + 5 from rfl, show O + 1 + 1 + 1 + 1 = O + 4 from rfl, show O + 1 + 1 + 1 = O + 3 from rfl, show O + 1 + 1 = O + 2 from rfl]
  clear hB hB5 hsB hbl
  have HST0 := Lib.hid HRD.out.st
  refine wpIn_wide.1 (wpIn_rangeCapS 3 B (fun k => .string (rests s k)) (n := 9) rfl (by omega) (gf := 98) (cap := #[.pointer (some ⟨B, 0, none⟩)]) rfl trivial (enters_of Tryz.func98 (by kernel_rfl) rfl) (N := linesN s) (enc := fun k => #[.string (lineK s k)]) (fun k => rfl)
    (fun W hW => lines_iter 3 8 (by omega) B s (by omega) (linesN s) (linesN_end s) (linesN_pos s) W (by have := hW.size; omega))
    (fun k W => PLoop s w D O B k W)
    (fun c W => PStop s w D O c W)
    ?hI ?hIx ?hIB (by omega) HST0.out ?h0
    (fun T k => (T.setIfInBounds 24 (.string (lineK s k))).setIfInBounds 8 (.string (lineK s k)))
    ?assign ?body ?done ?stop)
  case hI =>
    rw [hD]
    rintro k W1 W2 ⟨st, ls, v, v2, X, h1, h2, h3, h4, h5⟩ hb hc
    exact ⟨st, ls, v, v2, X, h1, h2, h3, h4.keep hb hc, h5⟩
  case hIx =>
    rw [hD]
    rintro c W1 W2 ⟨h0, n, ⟨h1, h2, h3, h4, h5, h6, h7⟩, h8⟩ hb hc
    have hOD : O + 2 < D := by have := HRD.out.hi; omega
    exact ⟨h0, n, ⟨h1.below hb (by omega), h2.below hb (by omega), h3.below hb (by omega), h4.below hb (by omega), h5.below hb (by omega), h6.trans (hb.mono (by omega)), Nat.le_trans h7 hb.size⟩, h8⟩
  case hIB =>
    rintro k W u ⟨st, ls, v, v2, X, h1, h2, h3, h4, h5⟩
    exact ⟨st, ls, v, v2, u, h1, h2, h3, h4.setB u, h5⟩
  case h0 => exact ⟨⟨0, 0, [], true⟩, [], _, _, _, Nat.zero_le _, rfl, ⟨rfl, fun h => absurd h (by omega)⟩, HRD.out, fun _ => ⟨rfl, rfl⟩⟩
  case assign =>
    intro l k W K hK
    simp only [List.setIfInBounds_toArray, List.set_cons_succ, List.set_cons_zero] at hK
    gi_wp2
    exact hK
  case body =>
    rw [hD]
    rintro l k W ⟨st, ls, v, v2, X, hk, hrun, hls, hrd, hv0⟩ hkN hWs hsb
    have hr2 : RdSt w D O B (.string (rests s (k + 1))) k st.rows st.cols v st.zs v2 ls W := { hrd with st := hsb }
    obtain ⟨T, hTT⟩ : ∃ T, textAt (cutW s 10) k = T := ⟨_, rfl⟩
    have hlt := line_text s k hkN
    have hcs : ∀ W, Calls Tryz.prog 53 #[.string (lineK s k), .string ⟨#[10]⟩] W fun e w' => e = .returned (.tuple #[.string T, .bool (decide (k < endsN s))]) ∧ w' = W := fun W => by
      refine (Tryz.strings_CutSuffix (lineK s k) ⟨#[10]⟩ W (by have := lineK_size s k; omega)).mono ?_
      rintro e w' ⟨rfl, rfl⟩
      rw [show (⟨#[10]⟩ : ByteArray).data.toList = [10] from rfl, hlt.1, hlt.2, hTT]
      exact ⟨rfl, rfl⟩
    have hTz : T.size ≤ 60000 := by have := piece_size s k; rw [hTT] at this; omega
    obtain ⟨ws, hws⟩ : ∃ ws, wordsT T = ws := ⟨_, rfl⟩
    have hwz : ∀ j, (textAt ws j).size ≤ 60000 := fun j => by have := word_size T j; rw [hws] at this; omega
    have hm2 : ws.length ≤ 60001 := by have := words_le T; rw [hws] at this; omega
    have hm1 : 0 < ws.length := by rw [← hws]; exact wordsT_pos T
    have hrs : runL (cutW s 10) (k + 1) = stepL k T st := by rw [runL, hrun, hTT]
    by_cases hk0 : k = 0
    · subst hk0
      obtain ⟨rfl, rfl⟩ := hv0 rfl
      obtain rfl : (⟨0, 0, [], true⟩ : PSt) = st := by simpa [runL] using hrun
      obtain rfl : ls = [] := List.length_eq_zero_iff.1 hls.1
      obtain ⟨q, hq⟩ : ∃ q, ws.length = q + 1 := ⟨ws.length - 1, by omega⟩
      refine parseHead _ (by kernel_rfl) (lineK s 0) T (decide (0 < endsN s)) ws q D O B 5 l _ w W _ _ hq (by omega) hwz HT.out hcs (fun W hW => split_any T W (by omega) hW hws hq) hr2 ?_ ?_ _ _ _ _ _ _ _ _ _ _ _ _ _ _ _ _ _ _ _ _ _ _ _ _ _ _ _ _ _ _ _ _ _ _ _ _ _ _ _ _ _ _ _ _ _ _ _ _ _ _ _ _ _ _ _ _ _ _ _ _ _ _ _ _ _ _ _ _ _ _ _ _ _ _ _ _ _ _ _ _ _ _ _ _ _ _ _ _ _ _ _ _ _ _ _ _ _ _ _ _ _ _ _ _ _ _ _ _ _ _ _ _
      · intro W' ns hb hp hn hl hrd'
        have hrn : runL (cutW s 10) 1 = some ⟨intAt ns 0, intAt ns 1, [], true⟩ := by
          rw [hrs]
          unfold stepL numsT
          rw [hws, hq, hn]
          simp only
          rw [if_pos trivial, if_pos ⟨hp, hl⟩]
        exact ⟨⟨_, [], _, _, _, of_decide_eq_true hb, hrn, ⟨rfl, fun _ => rfl⟩, hrd', fun h => absurd h (by omega)⟩, hrd'.st⟩
      · intro W' hn hrb
        refine ⟨rfl, 1, hrb, ?_⟩
        by_cases hb : 0 < endsN s
        · refine ans_bad s hs hb hrun ?_
          rw [hrs]
          unfold stepL numsT
          rw [hws, hq]
          cases hnn : numsK 0 ws (q + 1) with
          | none => rfl
          | some ns =>
            simp only
            rw [if_pos trivial, if_neg]
            exact fun h => hn ⟨by simpa using hb, h.1, ns, hnn, h.2⟩
        · have he : endsN s = 0 := by omega
          have := ans_unended s hs (st := ⟨0, 0, [], true⟩) (by rw [he]; rfl) (.inr he)
          rw [this, he]
    · have hll : ls.length ≤ 60001 := by rw [hls.1]; omega
      have hzl : st.zs.length ≤ 60001 := by have := run_bound s k st hk hrun; omega
      refine parseLine _ (by kernel_rfl) (lineK s k) T (decide (k < endsN s)) ws k ws.length D O B 5 l _ _ _ _ _ _ _ w W _ _ (by omega) (by omega) hzl hll rfl hm1 hm2 hwz HT.out hcs (fun W hW => split_any T W (by omega) hW hws rfl) hr2 ?_ ?_ _ _ _ _ _ _ _ _ _ _ _ _ _ _ _ _ _ _ _ _ _ _ _ _ _ _ _ _ _ _ _ _ _ _ _ _ _ _ _ _ _ _ _ _ _ _ _ _ _ _ _ _ _ _ _ _ _ _ _ _ _ _ _ _ _ _ _ _ _ _ _ _ _ _ _ _ _ _ _ _ _ _ _ _ _ _ _ _ _ _ _ _ _ _ _ _ _ _ _ _ _ _ _ _ _ _ _ _ _ _ _ _
      · intro W' ns v' v2' hb hn hrd'
        have hrn : runL (cutW s 10) (k + 1) = some ⟨st.rows, st.cols, st.zs ++ ns, st.fits && decide ((ns.length : Int) = st.cols)⟩ := by
          rw [hrs]
          unfold stepL numsT
          rw [hws, hn]
          simp only
          rw [if_neg hk0]
        have hnl := nums_full hk0 hn
        exact ⟨⟨_, _, _, _, _, of_decide_eq_true hb, hrn, hls.next (by omega) rfl (by rw [hnl]), hrd', fun h => absurd h (by omega)⟩, hrd'.st⟩
      · intro W' hn hrb
        refine ⟨rfl, k + 1, hrb, ?_⟩
        by_cases hb : k < endsN s
        · refine ans_bad s hs hb hrun ?_
          rw [hrs]
          unfold stepL numsT
          rw [hws]
          cases hnn : numsK k ws ws.length with
          | none => rfl
          | some ns => exact absurd ⟨by simpa using hb, ns, hnn⟩ hn
        · have he : k = endsN s := by omega
          have := ans_unended s hs (st := st) (by rw [← he]; exact hrun) (.inl (linesN_last s (by omega)))
          rw [this, he]
  case done =>
    rw [hD]
    rintro W ⟨st, ls, v, v2, X, hk, hrun, hls, hrd, hv0⟩ hDD
    obtain ⟨hN, hend⟩ := linesN_done s hk
    rw [hN] at hrun hls hrd hv0
    obtain ⟨n1, hn1⟩ : ∃ n1, endsN s = n1 := ⟨_, rfl⟩
    rw [hn1] at hrun hls hrd hv0 hend hne
    have hn2 : n1 ≤ 60000 := by omega
    have HAU := Lib.hid (fun h : n1 = 0 => ans_unended s hs (st := st) (by rw [hn1]; exact hrun) (.inr (by rw [hn1]; exact h)))
    have HANS := Lib.hid (fun h : n1 ≠ 0 => show ansP s = if st.fits = false ∨ (n1 : Int) - 1 ≠ st.rows then ⟨0, 0, [], 0, 10⟩
          else if (mapE st.rows st.cols st.zs).2 ≠ 0 then ⟨0, 0, [], 0, (mapE st.rows st.cols st.zs).2⟩
          else ⟨st.rows, st.cols, st.zs, 0, 0⟩ from by
      unfold ansP
      rw [if_neg (by omega), hn1, badL_run _ _ _ hrun, hrun]
      simp only
      rw [if_neg (fun h2 => h2.elim (fun h3 => h3 hend) h)])
    have HLS := Lib.hid hls
    obtain ⟨va, vc, rfl⟩ := ownsRow_form hrd.own
    obtain ⟨la, lc, rfl⟩ := ownsRow_form hrd.own2
    have HST := Lib.hid hrd
    have HDD := Lib.hid hDD
    have hDW : D < W.heap.size := (Array.getElem?_eq_some_iff.1 hDD).1
    have HDL := Lib.hid hDW
    have hlo := hrd.lo
    have hhi := hrd.hi
    have hhd := hrd.hd
    have hzl : st.zs.length ≤ 60001 := by have := run_bound s n1 st (by rw [hn1]; exact Nat.le_refl _) hrun; omega
    obtain ⟨c0, f0⟩ := hrd.m0
    obtain ⟨c1, f1⟩ := hrd.m1
    obtain ⟨c2, f2⟩ := hrd.m2
    obtain ⟨c3, f3⟩ := hrd.l0
    obtain ⟨c4, f4⟩ := hrd.n0
    obtain ⟨g0, g0f⟩ := hrd.r0
    obtain ⟨g1, g1f⟩ := hrd.r1
    obtain ⟨g2, g2f⟩ := hrd.r2
    obtain ⟨g3, g3f⟩ := hrd.r3
    obtain ⟨g4, g4f⟩ := hrd.r4
    by_cases hn0 : n1 = 0
    · have HA := Lib.hid (show ansP s = ⟨0, 0, [], 1, 7⟩ by rw [HAU.out hn0, hn1, hn0])
      have hne0 : ((n1 : Int) == 0) = true := by simp; omega
      clear hrun hls hrd hv0 hDD hn0
      go_wp2
      exact parseLeave s _ HA.out w _ D O _ (HST.out.leaveN 1 1 7 rfl) (leaveD HDD.out (by omega) _ _ _ _ _) _ _ _ _ _ _ _ _ _ _ _ _ _ _ _ _ _ _ _ _ _ _ _ _ _ _ _ _ _ _ _ _ _ _ _ _ _ _ _ _ _ _ _ _ _ _ _ _ _ _ _ _ _ _ _ _ _ _ _ _ _ _ _ _ _ _ _ _ _ _ _ _ _ _ _ _ _ _ _ _ _ _ _ _ _ _ _ _ _ _ _ _ _ _ _ _ _ _ _ _ _ _ _ _ _ _ _ _ _ _ _ _ _ _ _ _ _
    · have hne0 : ((n1 : Int) == 0) = false := by simp; omega
      have HN := Lib.hid (HANS.out hn0)
      have hl1 : ls.length = n1 - 1 := hls.1
      have hfit : st.fits = !(ls.any fun z => z != st.cols) := hls.2 (by omega)
      have hln : (ls.length : Int) = (n1 : Int) - 1 := by omega
      have HFIT := Lib.hid hfit
      have HLN := Lib.hid hln
      have hl2 : ls.length ≤ 60001 := by omega
      clear hrun hls hv0 hDD hn0 hl1 hfit hln
      by_cases hr : (ls.length : Int) = st.rows
      · have hrb : ((ls.length : Int) != st.rows) = false := by simp; omega
        have HR := Lib.hid hr
        clear hr
        obtain ⟨c, hc⟩ : ∃ c, (ls.any fun z => z != st.cols) = c := ⟨_, rfl⟩
        have HCF := Lib.hid (containsFunc_l st.cols (O + 3) ls _ W (by omega) (ints_row hrd.own2 (by omega)) c1 hc)
        rw [hc] at HFIT
        clear hc hrd
        cases c
        · obtain ⟨e0, he0⟩ : ∃ e0, (mapE st.rows st.cols st.zs).2 = e0 := ⟨_, rfl⟩
          have HN2 := Lib.hid (show ansP s = if e0 ≠ 0 then ⟨0, 0, [], 0, e0⟩ else ⟨st.rows, st.cols, st.zs, 0, 0⟩ by
            rw [HN.out, if_neg (fun h => h.elim (fun h => by rw [HFIT.out] at h; cases h) (fun h => h (by rw [← HLN.out]; exact HR.out))), he0])
          have HME := Lib.hid (mapErr_any st.rows st.cols st.zs _ W (by omega) (ints_row HST.out.own (by omega)) he0)
          clear he0
          by_cases h0 : e0 = 0
          · subst h0
            have HA := Lib.hid (show ansP s = ⟨st.rows, st.cols, st.zs, 0, 0⟩ by rw [HN2.out]; rfl)
            go_wp2_with (first | (go_at_call 56; (with_reducible refine (HCF.out).mono ?_); rintro e w' ⟨rfl, rfl⟩) | (go_at_call 58; (with_reducible refine (HME.out).mono ?_); rintro e w' ⟨rfl, hbm⟩; have HS9 := Lib.hid (HST.out.below hbm); obtain ⟨c0', f0'⟩ := HS9.out.m0; obtain ⟨c1', f1'⟩ := HS9.out.m1; obtain ⟨c2', f2'⟩ := HS9.out.m2; obtain ⟨g0', g0f'⟩ := HS9.out.r0; obtain ⟨g1', g1f'⟩ := HS9.out.r1; obtain ⟨g2', g2f'⟩ := HS9.out.r2; obtain ⟨g3', g3f'⟩ := HS9.out.r3; obtain ⟨g4', g4f'⟩ := HS9.out.r4; have HD9 := Lib.hid ((hbm.block _ HDL.out).trans HDD.out); clear hbm))
            exact parseLeave s _ HA.out w _ D O _ (HS9.out.leaveM (by omega)) (leaveD HD9.out (by omega) _ _ _ _ _) _ _ _ _ _ _ _ _ _ _ _ _ _ _ _ _ _ _ _ _ _ _ _ _ _ _ _ _ _ _ _ _ _ _ _ _ _ _ _ _ _ _ _ _ _ _ _ _ _ _ _ _ _ _ _ _ _ _ _ _ _ _ _ _ _ _ _ _ _ _ _ _ _ _ _ _ _ _ _ _ _ _ _ _ _ _ _ _ _ _ _ _ _ _ _ _ _ _ _ _ _ _ _ _ _ _ _ _ _ _ _ _ _ _ _ _ _
          · have hne9 : (e0 != 0) = true := by simpa using h0
            have HA := Lib.hid (show ansP s = ⟨0, 0, [], 0, e0⟩ by rw [HN2.out, if_pos h0])
            go_wp2_with (first | (go_at_call 56; (with_reducible refine (HCF.out).mono ?_); rintro e w' ⟨rfl, rfl⟩) | (go_at_call 58; (with_reducible refine (HME.out).mono ?_); rintro e w' ⟨rfl, hbm⟩; have HS9 := Lib.hid (HST.out.below hbm); obtain ⟨c0', f0'⟩ := HS9.out.m0; obtain ⟨c1', f1'⟩ := HS9.out.m1; obtain ⟨c2', f2'⟩ := HS9.out.m2; obtain ⟨g0', g0f'⟩ := HS9.out.r0; obtain ⟨g1', g1f'⟩ := HS9.out.r1; obtain ⟨g2', g2f'⟩ := HS9.out.r2; obtain ⟨g3', g3f'⟩ := HS9.out.r3; obtain ⟨g4', g4f'⟩ := HS9.out.r4; have HD9 := Lib.hid ((hbm.block _ HDL.out).trans HDD.out); clear hbm))
            exact parseLeave s _ HA.out w _ D O _ (HS9.out.leaveN 0 0 e0 rfl) (leaveD HD9.out (by omega) _ _ _ _ _) _ _ _ _ _ _ _ _ _ _ _ _ _ _ _ _ _ _ _ _ _ _ _ _ _ _ _ _ _ _ _ _ _ _ _ _ _ _ _ _ _ _ _ _ _ _ _ _ _ _ _ _ _ _ _ _ _ _ _ _ _ _ _ _ _ _ _ _ _ _ _ _ _ _ _ _ _ _ _ _ _ _ _ _ _ _ _ _ _ _ _ _ _ _ _ _ _ _ _ _ _ _ _ _ _ _ _ _ _ _ _ _ _ _ _ _ _
        · have HA := Lib.hid (show ansP s = ⟨0, 0, [], 0, 10⟩ by rw [HN.out, if_pos (.inl HFIT.out)])
          go_wp2_with (first | (go_at_call 56; (with_reducible refine (HCF.out).mono ?_); rintro e w' ⟨rfl, rfl⟩))
          exact parseLeave s _ HA.out w _ D O _ (HST.out.leaveN 0 0 10 rfl) (leaveD HDD.out (by omega) _ _ _ _ _) _ _ _ _ _ _ _ _ _ _ _ _ _ _ _ _ _ _ _ _ _ _ _ _ _ _ _ _ _ _ _ _ _ _ _ _ _ _ _ _ _ _ _ _ _ _ _ _ _ _ _ _ _ _ _ _ _ _ _ _ _ _ _ _ _ _ _ _ _ _ _ _ _ _ _ _ _ _ _ _ _ _ _ _ _ _ _ _ _ _ _ _ _ _ _ _ _ _ _ _ _ _ _ _ _ _ _ _ _ _ _ _ _ _ _ _ _
      · have hrb : ((ls.length : Int) != st.rows) = true := by simpa using hr
        have HA := Lib.hid (show ansP s = ⟨0, 0, [], 0, 10⟩ by rw [HN.out, if_pos (.inr (by rw [← HLN.out]; exact hr))])
        clear hr hrd
        go_wp2
        exact parseLeave s _ HA.out w _ D O _ (HST.out.leaveN 0 0 10 rfl) (leaveD HDD.out (by omega) _ _ _ _ _) _ _ _ _ _ _ _ _ _ _ _ _ _ _ _ _ _ _ _ _ _ _ _ _ _ _ _ _ _ _ _ _ _ _ _ _ _ _ _ _ _ _ _ _ _ _ _ _ _ _ _ _ _ _ _ _ _ _ _ _ _ _ _ _ _ _ _ _ _ _ _ _ _ _ _ _ _ _ _ _ _ _ _ _ _ _ _ _ _ _ _ _ _ _ _ _ _ _ _ _ _ _ _ _ _ _ _ _ _ _ _ _ _ _ _ _ _
  case stop =>
    rw [hD]
    rintro c W ⟨rfl, n, hret, hA⟩ hDD
    have hhi := HRD.out.hi
    gi_wp2
    exact parseLeave s _ hA w W D O _ (hret.retV (by omega) (by omega)) hDD _ _ _ _ _ _ _ _ _ _ _ _ _ _ _ _ _ _ _ _ _ _ _ _ _ _ _ _ _ _ _ _ _ _ _ _ _ _ _ _ _ _ _ _ _ _ _ _ _ _ _ _ _ _ _ _ _ _ _ _ _ _ _ _ _ _ _ _ _ _ _ _ _ _ _ _ _ _ _ _ _ _ _ _ _ _ _ _ _ _ _ _ _ _ _ _ _ _ _ _ _ _ _ _ _ _ _ _ _ _ _ _ _ _ _ _ _
end Go.Proofs.YtkoiknmijjiicaaGreatDoor
