/- A region that draws its order and only reads and calls, within a round of a range over a function; the cells that have a pixel, counted through. -/
import Derived.Test.YtokpdmlmlkkekaaC4
import Derived.Test.YtokpdmlmlkkekaaZK
import Derived.RangeFuncBox
namespace Go.Proofs.Ytokpdmlmlkkekaa
set_option linter.unusedVariables false
open Go Go.RowKit Go.Sort
section
variable {P : Program} {ops : Array Oper} {Q : Exit → Act → World → Prop} {md : Region.Mode}
theorem oper_round {l m : Nat} {o : Oper} {a : Act} {w : World} {K : Act → World → Prop} (hd : ∀ c, o.op ≠ .defer c) (h : o.wp P a w K Q) : o.wpIn (Fence.wide.inRound l) m P a w K Q := by
  unfold Oper.wp at h
  unfold Oper.wpIn
  refine ⟨fun _ _ => trivial, ?_⟩
  rw [Oper.semAt_eq _ _ _ hd]
  generalize (execOp a.eval o).run P w = r at *
  have hdep : (Fence.wide.inRound l).depth.isSome = true → 1 ≤ m := fun h => by simp [Fence.wide, Fence.inRound] at h
  cases r with
  | ok x w' =>
    cases x <;> simp only [Oper.upon, Oper.uponIn] at h ⊢
    all_goals first
      | exact h
      | exact ⟨hdep, callsIn_round h⟩
      | exact ⟨hdep, fun c cs _ => let ⟨v, w'', r, s⟩ := h c cs; ⟨v, w'', r, stepsIn_wide.2 s⟩⟩
  | halt x w' => cases x <;> simp only [Oper.upon, Oper.uponIn] at h ⊢ <;> exact h
theorem any_round {l m : Nat} (hd : ∀ (i : Nat) (o : Oper) (c : Call), ops[i]? = some o → o.op ≠ .defer c) (hQ : ¬ LetsOut Q) : ∀ (fuel : Nat) (listed : Array Bool) (a : Act) (w : World), wpAny P md ops Q fuel listed a w → wpAnyIn (Fence.wide.inRound l) m P md ops Q fuel listed a w
  | 0, _, _, _, h => h
  | fuel + 1, listed, a, w, h => by
    refine ⟨h.1, fun i hi => ?_⟩
    have h2 := h.2 i hi
    refine wpOpIn_mono (K := wpAny P md ops Q fuel (listed.setIfInBounds i true)) (fun a w h => any_round hd hQ fuel _ a w h) ?_
    unfold wpOp at h2
    unfold wpOpIn
    cases ho : ops[i]? with
    | none => simpa [ho] using h2
    | some o =>
      simp only [ho] at h2 ⊢
      split
      · rename_i hw
        rw [if_pos hw] at h2
        exact oper_round (fun c => hd i o c ho) (h2.resolve_right fun h => hQ h.2)
      · rename_i hw
        rw [if_neg hw] at h2
        exact ⟨fun _ _ => trivial, h2⟩
def noDefer (l : List Oper) : Bool := l.all fun o => match o.op with | .defer _ => false | _ => true
theorem noDefer_at {l : List Oper} (h : noDefer l = true) : ∀ (i : Nat) (o : Oper) (c : Call), l.toArray[i]? = some o → o.op ≠ .defer c := fun i o c ho hc => by
  have := List.all_eq_true.1 h o (List.mem_of_getElem? (by simpa using ho))
  rw [hc] at this
  cases this
theorem boundPost_in {B : Nat} {I : World → Prop} {Ix : Code → World → Prop} {W : World} : ¬ LetsOut (boundPost B I Ix W) := fun ⟨_, _, h⟩ => h
theorem wpIn_region_calm {r m : Nat} {id : Nat} {a : Act} {w : World} {l : List Oper} (hQ : ¬ LetsOut Q) (hm : P.follows .mixedOrders = true) (hB : Region.lexB .any l.toArray = true) (hd : noDefer l = true)
    (h : wpQuiet P l.toArray (fun w' => ∃ p : Regrown, w' = later w p) (fun a' => ∀ w', (∃ p : Regrown, w' = later w p) → Q .normal a' w') l a) : (Code.region id l.toArray true).wpIn (Fence.wide.inRound r) m P Q a w := by
  simp only [Region.lexB, Bool.and_eq_true] at hB
  refine wpIn_region_any hm (any_round (noDefer_at hd) hQ _ _ _ _ ?_)
  refine wpAny_of_quiet (C := fun w' => ∃ p : Regrown, w' = later w p) (Q := fun a' => ∀ w', (∃ p : Regrown, w' = later w p) → Q .normal a' w') (fun _ w' hw' h => h w' hw') _ _ _ _ ⟨⟨w.drawn + 1, #[]⟩, by unfold later; rw [grow_empty]; rfl⟩ ?_
  have := wpAnyQ_lex (C := fun w' => ∃ p : Regrown, w' = later w p) (md := .any) hB.1 l 0 (Array.replicate l.toArray.size false) a (by simp) (by simpa using hB.2) h
  simpa using this
end
/-- Cells counted through: cell number k lies in row k / nc, column k % nc. -/
def plNum (t : Trk) (r : Rel) (fi : Nat → Int) (u v : Int) (nc : Nat) : Nat → List Value
  | 0 => []
  | k + 1 => plNum t r fi u v nc k ++ if hitB t r fi u v ((k / nc : Nat) : Int) ((k % nc : Nat) : Int) then [.int .i64 ((k / nc : Nat) : Int), .int .i64 ((k % nc : Nat) : Int)] else []
def cnNum (t : Trk) (r : Rel) (fi : Nat → Int) (u v : Int) (nc : Nat) : Nat → Nat
  | 0 => 0
  | k + 1 => cnNum t r fi u v nc k + if hitB t r fi u v ((k / nc : Nat) : Int) ((k % nc : Nat) : Int) then 1 else 0
theorem num_row (t : Trk) (r : Rel) (fi : Nat → Int) (u v : Int) (nc n : Nat) : ∀ j, j ≤ nc → plNum t r fi u v nc (n * nc + j) = plNum t r fi u v nc (n * nc) ++ plRow t r fi u v n j ∧ cnNum t r fi u v nc (n * nc + j) = cnNum t r fi u v nc (n * nc) + cnRow t r fi u v n j
  | 0, _ => by simp [plRow, cnRow]
  | j + 1, h => by
    obtain ⟨h1, h2⟩ := num_row t r fi u v nc n j (by omega)
    have e1 : (n * nc + j) / nc = n := by rw [Nat.mul_comm, Nat.mul_add_div (by omega), Nat.div_eq_of_lt (by omega), Nat.add_zero]
    have e2 : (n * nc + j) % nc = j := by rw [Nat.mul_comm, Nat.mul_add_mod, Nat.mod_eq_of_lt (by omega)]
    rw [← Nat.add_assoc]
    refine ⟨?_, ?_⟩
    · rw [plNum, h1, e1, e2, plRow, List.append_assoc]
    · rw [cnNum, h2, e1, e2, cnRow, Nat.add_assoc]
theorem num_grid (t : Trk) (r : Rel) (fi : Nat → Int) (u v : Int) (nc : Nat) (hnc : r.cols.toNat = nc) : ∀ n, plNum t r fi u v nc (n * nc) = plGrid t r fi u v n ∧ cnNum t r fi u v nc (n * nc) = cnGrid t r fi u v n
  | 0 => by simp [plNum, cnNum, plGrid, cnGrid]
  | n + 1 => by
    obtain ⟨h1, h2⟩ := num_grid t r fi u v nc hnc n
    obtain ⟨k1, k2⟩ := num_row t r fi u v nc n nc (Nat.le_refl _)
    rw [Nat.add_mul, Nat.one_mul, k1, k2, h1, h2, plGrid, cnGrid, hnc]
    exact ⟨rfl, rfl⟩
theorem cnNum_le (t : Trk) (r : Rel) (fi : Nat → Int) (u v : Int) (nc : Nat) : ∀ k, cnNum t r fi u v nc k ≤ k
  | 0 => Nat.le_refl _
  | k + 1 => by
    have := cnNum_le t r fi u v nc k
    unfold cnNum
    split <;> omega
end Go.Proofs.Ytokpdmlmlkkekaa
