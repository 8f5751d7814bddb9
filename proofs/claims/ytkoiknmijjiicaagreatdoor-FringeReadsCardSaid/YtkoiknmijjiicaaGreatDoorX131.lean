/- A region that draws its order and only reads and calls, within a round of a range over a function; rows behind an append. No program in sight. (After U107.) -/
import Derived.Test.YtkoiknmijjiicaaGreatDoorXD
import Derived.RangeFuncBox
namespace Go.Proofs.YtkoiknmijjiicaaGreatDoor
set_option linter.unusedVariables false
set_option linter.unusedSimpArgs false
open Go Go.RowKit Go.Sort
section
variable {P : Program} {ops : Array Oper} {Q : Exit → Act → World → Prop} {md : Region.Mode}
theorem callsIn_rnd4 {l m : Nat} {P : Program} {f : FuncId} {args : Array Value} {w : World} {R : Ending → World → Prop} (h : Calls P f args w R) : CallsIn (Fence.wide.inRound l) m P f args w R := callsIn_wide (n := m).2 h
theorem oper_round {l m : Nat} {o : Oper} {a : Act} {w : World} {K : Act → World → Prop} (hd : ∀ c, o.op ≠ .defer c) (h : o.wp P a w K Q) : o.wpIn (Fence.wide.inRound l) m P a w K Q := by
  unfold Oper.wp at h
  unfold Oper.wpIn
  refine ⟨fun _ _ => trivial, ?_⟩
  rw [Oper.semAt_eq _ _ _ hd]
  generalize (execOp a.eval o).run P w = r at *
  have hdep : (Fence.wide.inRound l).depth.isSome = true → 1 ≤ m := fun h => by simp [Fence.wide, Fence.inRound] at h
  cases r with
  | ok x w' =>
    cases x <;> simp only [Oper.upon, Oper.uponIn] at h ⊢
    all_goals first
      | exact h
      | exact ⟨hdep, callsIn_rnd4 h⟩
      | exact ⟨hdep, fun c cs _ => let ⟨v, w'', r, s⟩ := h c cs; ⟨v, w'', r, stepsIn_wide.2 s⟩⟩
  | halt x w' => cases x <;> simp only [Oper.upon, Oper.uponIn] at h ⊢ <;> exact h
theorem any_round {l m : Nat} (hd : ∀ (i : Nat) (o : Oper) (c : Call), ops[i]? = some o → o.op ≠ .defer c) (hQ : ¬ LetsOut Q) : ∀ (fuel : Nat) (listed : Array Bool) (a : Act) (w : World), wpAny P md ops Q fuel listed a w → wpAnyIn (Fence.wide.inRound l) m P md ops Q fuel listed a w
  | 0, _, _, _, h => h
  | fuel + 1, listed, a, w, h => by
    refine ⟨h.1, fun i hi => ?_⟩
    have h2 := h.2 i hi
    refine wpOpIn_mono (K := wpAny P md ops Q fuel (listed.setIfInBounds i true)) (fun a w h => any_round hd hQ fuel _ a w h) ?_
    unfold wpOp at h2
    unfold wpOpIn
    cases ho : ops[i]? with
    | none => simpa [ho] using h2
    | some o =>
      simp only [ho] at h2 ⊢
      split
      · rename_i hw
        rw [if_pos hw] at h2
        exact oper_round (fun c => hd i o c ho) (h2.resolve_right fun h => hQ h.2)
      · rename_i hw
        rw [if_neg hw] at h2
        exact ⟨fun _ _ => trivial, h2⟩
def noDefer (l : List Oper) : Bool := l.all fun o => match o.op with | .defer _ => false | _ => true
theorem noDefer_at {l : List Oper} (h : noDefer l = true) : ∀ (i : Nat) (o : Oper) (c : Call), l.toArray[i]? = some o → o.op ≠ .defer c := fun i o c ho hc => by
  have := List.all_eq_true.1 h o (List.mem_of_getElem? (by simpa using ho))
  rw [hc] at this
  cases this
theorem boundPost_in {B : Nat} {I : World → Prop} {Ix : Code → World → Prop} {W : World} : ¬ LetsOut (boundPost B I Ix W) := fun ⟨_, _, h⟩ => h
theorem wpIn_region_calm {r m : Nat} {id : Nat} {a : Act} {w : World} {l : List Oper} (hQ : ¬ LetsOut Q) (hm : P.follows .mixedOrders = true) (hB : Region.lexB .any l.toArray = true) (hd : noDefer l = true)
    (h : wpQuiet P l.toArray (fun w' => ∃ p : Regrown, w' = later w p) (fun a' => ∀ w', (∃ p : Regrown, w' = later w p) → Q .normal a' w') l a) : (Code.region id l.toArray true).wpIn (Fence.wide.inRound r) m P Q a w := by
  simp only [Region.lexB, Bool.and_eq_true] at hB
  refine wpIn_region_any hm (any_round (noDefer_at hd) hQ _ _ _ _ ?_)
  refine wpAny_of_quiet (C := fun w' => ∃ p : Regrown, w' = later w p) (Q := fun a' => ∀ w', (∃ p : Regrown, w' = later w p) → Q .normal a' w') (fun _ w' hw' h => h w' hw') _ _ _ _ ⟨⟨w.drawn + 1, #[]⟩, by unfold later; rw [grow_empty]; rfl⟩ ?_
  have := wpAnyQ_lex (C := fun w' => ∃ p : Regrown, w' = later w p) (md := .any) hB.1 l 0 (Array.replicate l.toArray.size false) a (by simp) (by simpa using hB.2) h
  simpa using this
end
/-- Behind an append: what lies below the rows' first block, and what is no row of theirs, is kept. -/
theorem grown_keep {W X w1 : World} {B e size n : Nat} {val : Value} {xs : List Value} (hX : Below W.heap.size W X) (hs : W.heap.size ≤ W.heap.size) (hB : B ≤ W.heap.size) (hg : X.grownBy w1 val.ownBlock) (ho : W.ownsRow B e size val n xs) :
    Below B W w1 ∧ KeepT e B W w1 := by
  refine ⟨(hX.mono hB).grown hg (Nat.le_trans hB hX.size) (fun g hg => (ho.lt g hg).1), Nat.le_trans hX.size hg.size, fun k h1 h2 h3 => ?_⟩
  refine (hg.block k (Nat.lt_of_lt_of_le h2 hX.size) (fun e' => ?_)).trans (hX.block k h2)
  obtain ⟨-, ⟨rfl, -⟩ | ⟨g, cap, cur, rfl, -, hc, -⟩⟩ := ho
  · simp [Value.ownBlock] at e'
  · obtain rfl : k = g := by simpa [Value.ownBlock] using e'
    exact h3 _ _ hc
end Go.Proofs.YtkoiknmijjiicaaGreatDoor
