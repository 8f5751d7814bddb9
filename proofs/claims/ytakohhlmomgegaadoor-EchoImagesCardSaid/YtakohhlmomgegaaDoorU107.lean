/- A region that draws its order and only reads and calls, within a round of a range over a function (after C6 of wip/ground); the round of Gaps. -/
import Derived.Test.YtakohhlmomgegaaDoorU106
import Derived.Test.YtakohhlmomgegaaDoorZS
import Derived.RangeFuncBox
namespace Go.Proofs.YtakohhlmomgegaaDoor
set_option linter.unusedVariables false
set_option linter.unusedSimpArgs false
open Go Go.RowKit Go.Sort
section
variable {P : Program} {ops : Array Oper} {Q : Exit → Act → World → Prop} {md : Region.Mode}
theorem callsIn_rnd {l m : Nat} {P : Program} {f : FuncId} {args : Array Value} {w : World} {R : Ending → World → Prop} (h : Calls P f args w R) : CallsIn (Fence.wide.inRound l) m P f args w R := callsIn_wide (n := m).2 h
theorem oper_round {l m : Nat} {o : Oper} {a : Act} {w : World} {K : Act → World → Prop} (hd : ∀ c, o.op ≠ .defer c) (h : o.wp P a w K Q) : o.wpIn (Fence.wide.inRound l) m P a w K Q := by
  unfold Oper.wp at h
  unfold Oper.wpIn
  refine ⟨fun _ _ => trivial, ?_⟩
  rw [Oper.semAt_eq _ _ _ hd]
  generalize (execOp a.eval o).run P w = r at *
  have hdep : (Fence.wide.inRound l).depth.isSome = true → 1 ≤ m := fun h => by simp [Fence.wide, Fence.inRound] at h
  cases r with
  | ok x w' =>
    cases x <;> simp only [Oper.upon, Oper.uponIn] at h ⊢
    all_goals first
      | exact h
      | exact ⟨hdep, callsIn_rnd h⟩
      | exact ⟨hdep, fun c cs _ => let ⟨v, w'', r, s⟩ := h c cs; ⟨v, w'', r, stepsIn_wide.2 s⟩⟩
  | halt x w' => cases x <;> simp only [Oper.upon, Oper.uponIn] at h ⊢ <;> exact h
theorem any_round {l m : Nat} (hd : ∀ (i : Nat) (o : Oper) (c : Call), ops[i]? = some o → o.op ≠ .defer c) (hQ : ¬ LetsOut Q) : ∀ (fuel : Nat) (listed : Array Bool) (a : Act) (w : World), wpAny P md ops Q fuel listed a w → wpAnyIn (Fence.wide.inRound l) m P md ops Q fuel listed a w
  | 0, _, _, _, h => h
  | fuel + 1, listed, a, w, h => by
    refine ⟨h.1, fun i hi => ?_⟩
    have h2 := h.2 i hi
    refine wpOpIn_mono (K := wpAny P md ops Q fuel (listed.setIfInBounds i true)) (fun a w h => any_round hd hQ fuel _ a w h) ?_
    unfold wpOp at h2
    unfold wpOpIn
    cases ho : ops[i]? with
    | none => simpa [ho] using h2
    | some o =>
      simp only [ho] at h2 ⊢
      split
      · rename_i hw
        rw [if_pos hw] at h2
        exact oper_round (fun c => hd i o c ho) (h2.resolve_right fun h => hQ h.2)
      · rename_i hw
        rw [if_neg hw] at h2
        exact ⟨fun _ _ => trivial, h2⟩
def noDefer (l : List Oper) : Bool := l.all fun o => match o.op with | .defer _ => false | _ => true
theorem noDefer_at {l : List Oper} (h : noDefer l = true) : ∀ (i : Nat) (o : Oper) (c : Call), l.toArray[i]? = some o → o.op ≠ .defer c := fun i o c ho hc => by
  have := List.all_eq_true.1 h o (List.mem_of_getElem? (by simpa using ho))
  rw [hc] at this
  cases this
theorem boundPost_in {B : Nat} {I : World → Prop} {Ix : Code → World → Prop} {W : World} : ¬ LetsOut (boundPost B I Ix W) := fun ⟨_, _, h⟩ => h
theorem wpIn_region_calm {r m : Nat} {id : Nat} {a : Act} {w : World} {l : List Oper} (hQ : ¬ LetsOut Q) (hm : P.follows .mixedOrders = true) (hB : Region.lexB .any l.toArray = true) (hd : noDefer l = true)
    (h : wpQuiet P l.toArray (fun w' => ∃ p : Regrown, w' = later w p) (fun a' => ∀ w', (∃ p : Regrown, w' = later w p) → Q .normal a' w') l a) : (Code.region id l.toArray true).wpIn (Fence.wide.inRound r) m P Q a w := by
  simp only [Region.lexB, Bool.and_eq_true] at hB
  refine wpIn_region_any hm (any_round (noDefer_at hd) hQ _ _ _ _ ?_)
  refine wpAny_of_quiet (C := fun w' => ∃ p : Regrown, w' = later w p) (Q := fun a' => ∀ w', (∃ p : Regrown, w' = later w p) → Q .normal a' w') (fun _ w' hw' h => h w' hw') _ _ _ _ ⟨⟨w.drawn + 1, #[]⟩, by unfold later; rw [grow_empty]; rfl⟩ ?_
  have := wpAnyQ_lex (C := fun w' => ∃ p : Regrown, w' = later w p) (md := .any) hB.1 l 0 (Array.replicate l.toArray.size false) a (by simp) (by simpa using hB.2) h
  simpa using this
end
/-- Behind an append: what lies below the rows' first block, and what is no row of theirs, is kept. -/
theorem grown_keep {W X w1 : World} {B e size n : Nat} {val : Value} {xs : List Value} (hX : Below W.heap.size W X) (hs : W.heap.size ≤ W.heap.size) (hB : B ≤ W.heap.size) (hg : X.grownBy w1 val.ownBlock) (ho : W.ownsRow B e size val n xs) :
    Below B W w1 ∧ KeepT e B W w1 := by
  refine ⟨(hX.mono hB).grown hg (Nat.le_trans hB hX.size) (fun g hg => (ho.lt g hg).1), Nat.le_trans hX.size hg.size, fun k h1 h2 h3 => ?_⟩
  refine (hg.block k (Nat.lt_of_lt_of_le h2 hX.size) (fun e' => ?_)).trans (hX.block k h2)
  obtain ⟨-, ⟨rfl, -⟩ | ⟨g, cap, cur, rfl, -, hc, -⟩⟩ := ho
  · simp [Value.ownBlock] at e'
  · obtain rfl : k = g := by simpa [Value.ownBlock] using e'
    exact h3 _ _ hc
theorem cell_bx {W : World} {B : Nat} {t : TypeId} {v : Value} (h : Boxed W B t v) : W.cell? ⟨B, 0, none⟩ = some v ∧ W.frozen? ⟨B, 0, none⟩ = false := ⟨h.cell, h.frozen⟩
theorem keepT_row {e : TypeId} {B : Nat} {W : World} {size n g j cap : Nat} {xs : List Value} {B0 : Nat} (ho : W.ownsRow B0 e size (.slice (some ⟨g, 0, none⟩) n cap) n xs) (u : Value) : KeepT e B W (W.setCell ⟨g, j, none⟩ u) :=
  ⟨by simp [World.setCell], fun k h1 h2 h3 => by
    by_cases e1 : k = g
    · subst e1
      obtain ⟨-, ⟨h4, -⟩ | ⟨g', cap', cur, h4, -, hc, -⟩⟩ := ho
      · cases h4
      · simp only [Value.slice.injEq, Option.some.injEq, Addr.mk.injEq, and_true, true_and] at h4
        obtain ⟨rfl, rfl⟩ := h4
        exact absurd hc (h3 _ _)
    · exact heap_setCell_other W ⟨g, j, none⟩ k u e1⟩
/-- What is known at the loop of Gaps: k lines are done. -/
structure GLoop (w WL : World) (Ob Nb b off n cap S p1 p2 : Nat) (k : Nat) (D : List (Int × Int)) (W : World) : Prop where
  bel : Below w.heap.size w W
  sz : WL.heap.size ≤ W.heap.size
  num : Boxed W Nb 3 (.int .i64 ((k : Int) - 1))
  own : ∃ val, Boxed W Ob 87 val ∧ W.ownsRow WL.heap.size 109 2 val D.length (rgC D)
  chk : ChunkS p1 p2 b off n cap S W
theorem GLoop.keep {w WL W W' : World} {Ob Nb b off n cap S p1 p2 k : Nat} {D : List (Int × Int)} (h : GLoop w WL Ob Nb b off n cap S p1 p2 k D W) (hw : w.heap.size ≤ WL.heap.size) (hb : Below WL.heap.size W W') (hc : CellsSame W W') : GLoop w WL Ob Nb b off n cap S p1 p2 k D W' := by
  obtain ⟨val, h1, h2⟩ := h.own
  exact ⟨h.bel.trans (hb.mono hw), Nat.le_trans h.sz hb.size, hc _ _ _ _ h.num, ⟨val, hc _ _ _ _ h1, ownsRow_same h2 hc⟩, hc _ _ _ _ h.chk.1, hc _ _ _ _ h.chk.2⟩
theorem chunk_set {p1 p2 b off n cap S : Nat} {W : World} (h : ChunkS p1 p2 b off n cap S W) {q : Nat} (h1 : q ≠ p1) (h2 : q ≠ p2) (j : Nat) (u : Value) : ChunkS p1 p2 b off n cap S (W.setCell ⟨q, j, none⟩ u) :=
  ⟨(heap_setCell_other W ⟨q, j, none⟩ p1 u (fun e => h1 e.symm)).trans h.1, (heap_setCell_other W ⟨q, j, none⟩ p2 u (fun e => h2 e.symm)).trans h.2⟩
theorem boxed_other {W : World} {B q : Nat} {t : TypeId} {v : Value} (h : Boxed W B t v) (hq : q ≠ B) (j : Nat) (u : Value) : Boxed (W.setCell ⟨q, j, none⟩ u) B t v :=
  (heap_setCell_other W ⟨q, j, none⟩ B u (fun e => hq e.symm)).trans h
/-- The line's number is stored. -/
theorem GLoop.count {w WL W : World} {Ob Nb b off n cap S p1 p2 k : Nat} {D : List (Int × Int)} (h : GLoop w WL Ob Nb b off n cap S p1 p2 k D W) (hw : w.heap.size ≤ Nb) (hN : Nb < WL.heap.size) (hON : Nb ≠ Ob) (h1 : Nb ≠ p1) (h2 : Nb ≠ p2) :
    GLoop w WL Ob Nb b off n cap S p1 p2 (k + 1) D (W.setCell ⟨Nb, 0, none⟩ (.int .i64 (k : Int))) ∧ KeepT 109 WL.heap.size W (W.setCell ⟨Nb, 0, none⟩ (.int .i64 (k : Int))) := by
  obtain ⟨val, h3, h4⟩ := h.own
  refine ⟨⟨h.bel.setCell (p := ⟨Nb, 0, none⟩) hw _, by simpa [World.setCell] using h.sz, ?_, ⟨val, boxed_other h3 hON _ _, ownsRow_setCell_below h4 hN _⟩, chunk_set h.chk h1 h2 _ _⟩, (KeepT.refl _ _).setCell hN _⟩
  have := h.num.set (.int .i64 (k : Int))
  rwa [show ((k + 1 : Nat) : Int) - 1 = (k : Int) by omega]
/-- A range is made longer. -/
theorem GLoop.long {w WL W : World} {Ob Nb b off n cap S p1 p2 k g c m : Nat} {D : List (Int × Int)} {l : Int} (h : GLoop w WL Ob Nb b off n cap S p1 p2 k D W) (hw : w.heap.size ≤ WL.heap.size) (hO : Ob < WL.heap.size) (hN : Nb < WL.heap.size) (h1 : p1 < WL.heap.size) (h2 : p2 < WL.heap.size) (hb : Boxed W Ob 87 (.slice (some ⟨g, 0, none⟩) D.length c)) (hm : D.length = m + 1) :
    GLoop w WL Ob Nb b off n cap S p1 p2 k (D.set m ((D.getD m (0, 0)).1, l)) (W.setCell ⟨g, m * 2 + 1, none⟩ (.int .i64 l)) ∧ KeepT 109 WL.heap.size W (W.setCell ⟨g, m * 2 + 1, none⟩ (.int .i64 l)) := by
  obtain ⟨val, h3, h4⟩ := h.own
  obtain rfl : val = .slice (some ⟨g, 0, none⟩) D.length c := by
    have := h3.cell.symm.trans hb.cell
    simpa using this
  have hg := (h4.lt g rfl).1
  refine ⟨⟨h.bel.setCell (p := ⟨g, m * 2 + 1, none⟩) (by simp only; omega) _, by simpa [World.setCell] using h.sz, boxed_other h.num (by omega) _ _, ⟨_, boxed_other h3 (by omega) _ _, ?_⟩, chunk_set h.chk (by omega) (by omega) _ _⟩, keepT_row h4 _⟩
  rw [← rgC_set D m l (by omega), List.length_set]
  exact (h4.stored (m * 2 + 1) (.int .i64 l)).1
/-- A range is added. -/
theorem GLoop.add {w WL W w1 : World} {Ob Nb b off n cap S p1 p2 k m : Nat} {D : List (Int × Int)} {l : Int} {val val' : Value} {o : Obj} (h : GLoop w WL Ob Nb b off n cap S p1 p2 k D W) (hw : w.heap.size ≤ Ob) (hO : Ob < WL.heap.size) (hON : Ob ≠ Nb) (hp1 : Ob ≠ p1) (hp2 : Ob ≠ p2) (hN : Nb < WL.heap.size) (h1 : p1 < WL.heap.size) (h2 : p2 < WL.heap.size) (hb : Boxed W Ob 87 val) (hm : D.length = m)
    (ho : w1.ownsRow WL.heap.size 109 2 val' (m + 1) (rgC D ++ [.int .i64 l, .int .i64 l])) (hg : (W.alloc o).grownBy w1 val.ownBlock) :
    GLoop w WL Ob Nb b off n cap S p1 p2 k (D ++ [(l, l)]) (w1.setCell ⟨Ob, 0, none⟩ val') ∧ KeepT 109 WL.heap.size W (w1.setCell ⟨Ob, 0, none⟩ val') := by
  subst hm
  obtain ⟨v0, h3, h4⟩ := h.own
  obtain rfl : v0 = val := by
    have := h3.cell.symm.trans hb.cell
    simpa using this
  have hsz := h.sz
  obtain ⟨hbel, hkt⟩ := grown_keep (show Below W.heap.size W (W.alloc o) from (Below.refl _ _).alloc (Nat.le_refl _) _) (Nat.le_refl _) hsz hg h4
  refine ⟨⟨(h.bel.trans (hbel.mono (by omega))).setCell (p := ⟨Ob, 0, none⟩) hw _, by simpa [World.setCell] using Nat.le_trans hsz hbel.size, boxed_other ((hbel.block _ hN).trans h.num) hON _ _, ⟨val', ?_, ?_⟩, chunk_set ⟨(hbel.block _ h1).trans h.chk.1, (hbel.block _ h2).trans h.chk.2⟩ hp1 hp2 _ _⟩, hkt.setCell hO _⟩
  · exact Boxed.set val' ((hbel.block _ hO).trans h3 : Boxed w1 Ob _ _)
  · rw [rgC_snoc, List.length_append]
    exact ownsRow_setCell_below ho hO _
end Go.Proofs.YtakohhlmomgegaaDoor
