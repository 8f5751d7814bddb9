/- General laws of this claim's own: a region that draws its order, whose head is quiet in a class of worlds and whose tail is forced; worlds that have grown. No program in sight. -/
import Derived.StillTail
import Derived.Lib.QuietBelow
import Derived.BigQuiet
import Derived.WalkKit
namespace Go.Proofs.Ythnfepfbkmafaaa
set_option linter.unusedVariables false
open Go Go.RowKit Go.Sort

section
variable {P : Program} {ops : Array Oper} {md : Region.Mode} {C : World → Prop}

/-- The head's walk in any order, quiet in the class, until n operations have come; L is what is then asked. -/
def headQ (P : Program) (md : Region.Mode) (ops : Array Oper) (C : World → Prop) (n : Nat) (L : Array Bool → Act → Prop) : Nat → Array Bool → Act → Prop
  | 0, listed, a => L listed a
  | f + 1, listed, a => Region.ready md ops listed ≠ [] ∧ ∀ i, i ∈ Region.ready md ops listed → i < n ∧ qOp P ops C i (headQ P md ops C n L f (listed.setIfInBounds i true)) a

theorem any_of_headQ {n g : Nat} {L : Array Bool → Act → Prop} {Q : Exit → Act → World → Prop}
    (hL : ∀ listed a w, C w → L listed a → wpAny P md ops Q g listed a w) :
    ∀ (f : Nat) (listed : Array Bool) (a : Act) (w : World), C w → headQ P md ops C n L f listed a → wpAny P md ops Q (f + g) listed a w := by
  intro f
  induction f with
  | zero => intro listed a w hw h; rw [Nat.zero_add]; exact hL _ _ _ hw h
  | succ f ih =>
    intro listed a w hw h
    rw [Nat.succ_add]
    exact ⟨fun h0 => absurd h0 h.1, fun i hi => wpOp_of_qOp hw (fun a' w' hw' h' => ih _ a' w' hw' h') (h.2 i hi).2⟩

theorem headQ_first {n i : Nat} {oi : Oper} {v : Value} {L : Array Bool → Act → Prop} (hi : ops[i]? = some oi)
    (hsel : ∀ (j : Nat) (o : Oper) cs b, ops[j]? = some o → o.op ≠ .select cs b)
    (hs : Region.sinkB md ops n = true) (hc : Region.chainB md ops n = true) (hn : n < ops.size) (hin : i < n)
    (hdone : ∀ listed a, L listed a → ∀ j, j ∈ Region.ready md ops listed → n ≤ j) :
    ∀ (f : Nat) (listed : Array Bool) (a : Act), HeadInv md ops n listed →
      (∀ j oj, ops[j]? = some oj → j ≠ i → listed.getD j true = false → (∀ e ∈ oj.after, Region.binds md e = true → e.on ≠ i) → oi.apart ops oj = true) →
      i ∈ Region.ready md ops listed → YieldsIn P ops C oi v a →
      headQ P md ops C n L f (listed.setIfInBounds i true) (a.put oi.dst v) → headQ P md ops C n L (f + 1) listed a := by
  intro f
  induction f with
  | zero =>
    intro listed a inv _ hr hy H
    have hun := (mem_ready.1 hr).1
    refine ⟨fun h => (by rw [h] at hr; cases hr), fun j hj => ?_⟩
    have hjn : j < n := Nat.lt_of_not_le fun h => tail_waits hs hc hn inv _ i rfl hin hun j h hj
    refine ⟨hjn, ?_⟩
    by_cases hji : j = i
    · subst hji; exact hy.qOp hi H
    · exact absurd (hdone _ _ H j (ready_mono hj hji)) (by omega)
  | succ f ih =>
    intro listed a inv hfree hr hy H
    have hun := (mem_ready.1 hr).1
    refine ⟨fun h => (by rw [h] at hr; cases hr), fun j hj => ?_⟩
    have hjn : j < n := Nat.lt_of_not_le fun h => tail_waits hs hc hn inv _ i rfl hin hun j h hj
    refine ⟨hjn, ?_⟩
    by_cases hji : j = i
    · subst hji; exact hy.qOp hi H
    · have h1 := (H.2 j (ready_mono hj hji)).2
      obtain ⟨hjun, oj, hoj, hall⟩ := mem_ready.1 hj
      have hnot : ∀ e ∈ oj.after, Region.binds md e = true → e.on ≠ i := fun e he hb heq => by
        have h1 := hall e he hb
        rw [heq, getD_both hun] at h1
        cases h1
      have h2 := qOp_put hoj (hfree j oj hoj hji hjun hnot) (fun cs b => hsel i oi cs b hi) (fun cs b => hsel j oj cs b hoj) hy h1
      refine qOp_mono (fun a' h3 => ih (listed.setIfInBounds j true) a' (inv.set hj hjn) (fun k ok hk hki hu hno => ?_) (ready_mono hr (Ne.symm hji)) h3.1 ?_) h2
      · refine hfree k ok hk hki ?_ hno
        by_cases hjk : j = k
        · subst hjk; exact hjun
        · rwa [getD_set_ne true hjk] at hu
      · rw [Array.setIfInBounds_comm _ _ hji]
        exact h3.2

theorem headQ_lex {n g : Nat} {Lq : Act → Prop} (hsel : Region.noSelect ops = true) (hs : Region.sinkB md ops n = true) (hc : Region.chainB md ops n = true) (hn : n < ops.size) :
    ∀ (l : List Oper) (k : Nat) (listed : Array Bool) (a : Act), (∀ j, j < l.length → l[j]? = ops[k + j]?) → k + l.length = n → HeadInv md ops n listed →
    Region.lexHead md ops g l.length k listed = true → wpQuiet P ops C Lq l a →
    headQ P md ops C n (fun listed' a' => Region.seqB md ops g n listed' = true ∧ Lq a') l.length listed a := by
  intro l
  induction l with
  | nil =>
    intro k listed a _ hk _ hB h
    have : k = n := by simpa using hk
    subst this
    exact ⟨by simpa [Region.lexHead] using hB, h⟩
  | cons o l ih =>
    intro k listed a hl hk inv hB h
    have h0 : ops[k]? = some o := by simpa using (hl 0 (by simp)).symm
    simp only [List.length_cons, Region.lexHead, Bool.and_eq_true] at hB
    simp only [List.length_cons] at hk
    have hkn : k < n := by omega
    have hr : k ∈ Region.ready md ops listed := by simpa using hB.1.1
    have hst : qOp P ops C k (wpQuiet P ops C Lq l) a := by unfold qOp; simp only [h0]; exact h
    obtain ⟨v, hy, hK⟩ := yieldsIn_of_qOp h0 hst
    refine headQ_first h0 (Region.noSelect_spec hsel) hs hc hn hkn (fun _ _ hL => seqB_ready hL.1) l.length listed a inv (Region.free_spec h0 hB.1.2) hr hy
      (ih (k + 1) _ _ (fun j hj => ?_) (by omega) (inv.set hr hkn) hB.2 hK)
    have := hl (j + 1) (by simp; omega)
    simpa [Nat.add_assoc, Nat.add_comm 1 j] using this

/-- A region that draws: its first n operations quiet in the class, in the order of the text; the others forced behind them. -/
theorem wp_region_head {id : Nat} {Q : Exit → Act → World → Prop} {a : Act} {w : World} {l : List Oper} (n : Nat) (hm : P.follows .mixedOrders = true)
    (hB : Region.lexTailB .any l.toArray n = true) (hC : C { w with drawn := w.drawn + 1 })
    (h : wpQuiet P l.toArray C (fun a' => ∀ w', C w' → wpList P l.toArray Q (l.drop n) a' w') (l.take n) a) : (Code.region id l.toArray true).wp P Q a w := by
  simp only [Region.lexTailB, Bool.and_eq_true, decide_eq_true_eq] at hB
  obtain ⟨⟨⟨⟨hsel, hn⟩, hs⟩, hc⟩, hlex⟩ := hB
  have hn' : n < l.length := by simpa using hn
  have htl : (l.take n).length = n := by simp; omega
  have hdl : (l.drop n).length = l.toArray.size - n := by simp
  have inv0 : HeadInv .any l.toArray n (Array.replicate l.toArray.size false) :=
    ⟨by simp, fun j oj _ hl => (by rw [getD_replicate_false] at hl; cases hl), fun t _ ht => getD_in (by simpa using ht) (getD_replicate_false _ _)⟩
  have H := headQ_lex (md := .any) (C := C) (g := l.toArray.size - n) hsel hs hc hn (l.take n) 0 _ a (fun j hj => by
    have hj' : j < n := by rw [htl] at hj; exact hj
    simp [hj']) (by simpa using htl) inv0 (by rw [htl]; exact hlex) h
  refine wp_region_any hm ?_
  have := any_of_headQ (Q := Q) (C := C) (g := l.toArray.size - n) (fun listed a' w' hw' hL => by
    have := wpAny_of_seq (md := .any) (Q' := Q) (l.drop n) n listed a' w' (fun j => by simp [List.getElem?_drop]) (by rw [hdl]; exact hL.1) (hL.2 w' hw')
    rwa [hdl] at this) _ _ _ _ hC H
  rw [htl, show n + (l.toArray.size - n) = l.toArray.size by omega] at this
  exact this
end

theorem ret_int {k : IntKind} {a b : Int} (h : a = b) : Ending.returned (.int k a) = .returned (.int k b) := by rw [h]
theorem ret_bool {a b : Bool} (h : a = b) : Ending.returned (.bool a) = .returned (.bool b) := by rw [h]

/-- A world with another count of draws and some blocks more: one name. -/
def later (w : World) (p : Regrown) : World := grow (redrawn w p.d) p.os

theorem later_of_below {w w' : World} (h : Below w.heap.size w w') : ∃ p : Regrown, w' = later w p := regrown_of_below h
theorem below_later (w : World) (p : Regrown) : Below w.heap.size w (later w p) := below_regrown w p.d p.os
theorem later_later (w : World) (p q : Regrown) : ∃ r : Regrown, later (later w p) q = later w r :=
  later_of_below ((below_later w p).trans ((below_later (later w p) q).mono (below_later w p).size))
@[go_sem, simp] theorem size_later (w : World) (p : Regrown) : (later w p).heap.size = w.heap.size + p.os.size := by simp [later, grow, redrawn]
theorem block_lt_of_isSome {w : World} {a : Addr} (h : (w.cell? a).isSome = true) : a.block < w.heap.size := by
  obtain ⟨v, hv⟩ := Option.isSome_iff_exists.1 h
  exact World.block_lt_of_cell? _ _ hv
/-- Choices over block numbers, which the walk decides by linear arithmetic once the numbers are written out. -/
def pickLt {α : Type} (n s : Nat) (x y : α) : α := if n < s then x else y
def pickEq {α : Type} (n s : Nat) (x y : α) : α := if n = s then x else y
@[go_sem] theorem pickLt_eq {α : Type} (n s : Nat) (x y : α) : pickLt n s x y = if n < s then x else y := rfl
@[go_sem] theorem pickEq_eq {α : Type} (n s : Nat) (x y : α) : pickEq n s x y = if n = s then x else y := rfl
/-- What lies in a world's newer blocks: not looked into. -/
def farCell (w : World) (p : Regrown) (a : Addr) : Option Value := (later w p).cell? a
def farFrozen (w : World) (p : Regrown) (a : Addr) : Bool := (later w p).frozen? a
@[go_sem] theorem cell_later_pick (w : World) (p : Regrown) (n i : Nat) : (later w p).cell? ⟨n, i, none⟩ = pickLt n w.heap.size (w.cell? ⟨n, i, none⟩) (farCell w p ⟨n, i, none⟩) := by
  unfold pickLt
  split
  · exact (below_later w p).cell (by assumption)
  · rfl
@[go_sem] theorem frozen_later_pick (w : World) (p : Regrown) (n i : Nat) : (later w p).frozen? ⟨n, i, none⟩ = pickLt n w.heap.size (w.frozen? ⟨n, i, none⟩) (farFrozen w p ⟨n, i, none⟩) := by
  unfold pickLt
  split
  · exact (below_later w p).frozen (by assumption)
  · rfl
@[go_sem] theorem cell_alloc_pick (w : World) (c : Array Value) (t : TypeId) (n i : Nat) : (w.alloc (.cells c t)).cell? ⟨n, i, none⟩ = pickEq n w.heap.size (c[i]?) (w.cell? ⟨n, i, none⟩) := by
  unfold pickEq
  split
  · rename_i h; rw [h]; exact World.cell?_alloc_new _ _ _ _
  · exact World.cell?_alloc_old _ _ _ (by assumption)
@[go_sem] theorem frozen_alloc_pick (w : World) (c : Array Value) (t : TypeId) (n i : Nat) : (w.alloc (.cells c t)).frozen? ⟨n, i, none⟩ = pickEq n w.heap.size false (w.frozen? ⟨n, i, none⟩) := by
  unfold pickEq
  split
  · exact World.frozen?_alloc_at _ _ _ _ (by assumption)
  · exact frozen?_alloc_cells w c t _
@[go_sem] theorem cell_setCell_pick (w : World) (v : Value) (m j n i : Nat) : (w.setCell ⟨m, j, none⟩ v).cell? ⟨n, i, none⟩ = pickEq m n (pickEq j i ((w.cell? ⟨n, i, none⟩).map fun _ => v) (w.cell? ⟨n, i, none⟩)) (w.cell? ⟨n, i, none⟩) := by
  unfold pickEq
  by_cases h1 : m = n
  · subst h1
    rw [if_pos rfl]
    by_cases h2 : j = i
    · subst h2
      rw [if_pos rfl]
      cases h : w.cell? ⟨m, j, none⟩ with
      | none =>
        simp only [World.setCell, World.cell?, Array.getElem?_modify, if_true] at h ⊢
        cases hb : w.heap[m]? with
        | none => simp
        | some o =>
          cases o <;> simp_all
      | some u => rw [World.cell?_setCell_same _ _ _ h]; rfl
    · rw [if_neg h2]
      exact World.cell?_setCell_other _ _ _ _ (by simp)
  · rw [if_neg h1]
    exact World.cell?_setCell_other _ _ _ _ (by simp)
theorem later_drew (w : World) (p : Regrown) : (later w p).drew = later w ⟨p.d + 1, p.os⟩ := rfl

theorem below_later_of {B : Nat} {a w : World} (h : Below B a w) (hB : B ≤ w.heap.size) (p : Regrown) : Below B a (later w p) := h.trans ((below_later w p).mono hB)

section
variable {P : Program}
theorem wp_region_calm {id : Nat} {Q : Exit → Act → World → Prop} {a : Act} {w : World} {l : List Oper} (hm : P.follows .mixedOrders = true) (hB : Region.lexB .any l.toArray = true)
    (h : wpQuiet P l.toArray (fun w' => ∃ p : Regrown, w' = later w p) (fun a' => ∀ w', (∃ p : Regrown, w' = later w p) → Q .normal a' w') l a) : (Code.region id l.toArray true).wp P Q a w :=
  wp_region_quiet (C := fun w' => ∃ p : Regrown, w' = later w p) hm hB ⟨⟨w.drawn + 1, #[]⟩, by unfold later; rw [grow_empty]; rfl⟩ (by simpa using h)

theorem wp_region_calm_tail {id : Nat} {Q : Exit → Act → World → Prop} {a : Act} {w : World} {l : List Oper} (n : Nat) (hm : P.follows .mixedOrders = true) (hB : Region.lexTailB .any l.toArray n = true)
    (h : wpQuiet P l.toArray (fun w' => ∃ p : Regrown, w' = later w p) (fun a' => ∀ w', (∃ p : Regrown, w' = later w p) → wpList P l.toArray Q (l.drop n) a' w') (l.take n) a) : (Code.region id l.toArray true).wp P Q a w :=
  wp_region_head (C := fun w' => ∃ p : Regrown, w' = later w p) n hm hB ⟨⟨w.drawn + 1, #[]⟩, by unfold later; rw [grow_empty]; rfl⟩ h

/-- A callee's contract that ends in 'Below', met in a world of the class. -/
theorem calm_of {f : FuncId} {args : Array Value} {w : World} {p : Regrown} {v : Value}
    (h : Calls P f args (later w p) fun e w' => e = .returned v ∧ Below (later w p).heap.size (later w p) w') : Calls P f args (later w p) fun e w'' => e = .returned v ∧ ∃ q : Regrown, w'' = later w q :=
  h.mono fun _ _ ⟨he, hb⟩ => ⟨he, later_of_below ((below_later w p).trans (hb.mono (below_later w p).size))⟩
theorem calm_same {f : FuncId} {args : Array Value} {w : World} {p : Regrown} {v : Value}
    (h : Calls P f args (later w p) fun e w' => e = .returned v ∧ later w p = w') : Calls P f args (later w p) fun e w'' => e = .returned v ∧ ∃ q : Regrown, w'' = later w q :=
  h.mono fun _ _ ⟨he, hb⟩ => ⟨he, p, hb.symm⟩
end
end Go.Proofs.Ythnfepfbkmafaaa
