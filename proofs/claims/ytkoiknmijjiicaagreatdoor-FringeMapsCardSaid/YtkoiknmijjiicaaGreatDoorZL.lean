import Derived.StillTail
import Derived.Lib.QuietBelow
import Derived.BigQuiet
import Derived.WalkKit
import Derived.RangeFuncNested
import Derived.RangeFuncLeaves
/- General laws of this claim's own: a region that draws its order, whose head is quiet in a class of worlds and whose tail is forced; worlds that have grown. No program in sight. -/
namespace Go.Proofs.YtkoiknmijjiicaaGreatDoor
set_option linter.unusedVariables false
set_option linter.unusedSimpArgs false
open Go Go.RowKit Go.Sort

section
variable {P : Program} {ops : Array Oper} {md : Region.Mode} {C : World → Prop}

/-- The head's walk in any order, quiet in the class, until n operations have come; L is what is then asked. -/
def headQ (P : Program) (md : Region.Mode) (ops : Array Oper) (C : World → Prop) (n : Nat) (L : Array Bool → Act → Prop) : Nat → Array Bool → Act → Prop
  | 0, listed, a => L listed a
  | f + 1, listed, a => Region.ready md ops listed ≠ [] ∧ ∀ i, i ∈ Region.ready md ops listed → i < n ∧ qOp P ops C i (headQ P md ops C n L f (listed.setIfInBounds i true)) a

theorem any_of_headQ {n g : Nat} {L : Array Bool → Act → Prop} {Q : Exit → Act → World → Prop}
    (hL : ∀ listed a w, C w → L listed a → wpAny P md ops Q g listed a w) :
    ∀ (f : Nat) (listed : Array Bool) (a : Act) (w : World), C w → headQ P md ops C n L f listed a → wpAny P md ops Q (f + g) listed a w := by
  intro f
  induction f with
  | zero => intro listed a w hw h; rw [Nat.zero_add]; exact hL _ _ _ hw h
  | succ f ih =>
    intro listed a w hw h
    rw [Nat.succ_add]
    exact ⟨fun h0 => absurd h0 h.1, fun i hi => wpOp_of_qOp hw (fun a' w' hw' h' => ih _ a' w' hw' h') (h.2 i hi).2⟩

theorem headQ_first {n i : Nat} {oi : Oper} {v : Value} {L : Array Bool → Act → Prop} (hi : ops[i]? = some oi)
    (hsel : ∀ (j : Nat) (o : Oper) cs b, ops[j]? = some o → o.op ≠ .select cs b)
    (hs : Region.sinkB md ops n = true) (hc : Region.chainB md ops n = true) (hn : n < ops.size) (hin : i < n)
    (hdone : ∀ listed a, L listed a → ∀ j, j ∈ Region.ready md ops listed → n ≤ j) :
    ∀ (f : Nat) (listed : Array Bool) (a : Act), HeadInv md ops n listed →
      (∀ j oj, ops[j]? = some oj → j ≠ i → listed.getD j true = false → (∀ e ∈ oj.after, Region.binds md e = true → e.on ≠ i) → oi.apart ops oj = true) →
      i ∈ Region.ready md ops listed → YieldsIn P ops C oi v a →
      headQ P md ops C n L f (listed.setIfInBounds i true) (a.put oi.dst v) → headQ P md ops C n L (f + 1) listed a := by
  intro f
  induction f with
  | zero =>
    intro listed a inv _ hr hy H
    have hun := (mem_ready.1 hr).1
    refine ⟨fun h => (by rw [h] at hr; cases hr), fun j hj => ?_⟩
    have hjn : j < n := Nat.lt_of_not_le fun h => tail_waits hs hc hn inv _ i rfl hin hun j h hj
    refine ⟨hjn, ?_⟩
    by_cases hji : j = i
    · subst hji; exact hy.qOp hi H
    · exact absurd (hdone _ _ H j (ready_mono hj hji)) (by omega)
  | succ f ih =>
    intro listed a inv hfree hr hy H
    have hun := (mem_ready.1 hr).1
    refine ⟨fun h => (by rw [h] at hr; cases hr), fun j hj => ?_⟩
    have hjn : j < n := Nat.lt_of_not_le fun h => tail_waits hs hc hn inv _ i rfl hin hun j h hj
    refine ⟨hjn, ?_⟩
    by_cases hji : j = i
    · subst hji; exact hy.qOp hi H
    · have h1 := (H.2 j (ready_mono hj hji)).2
      obtain ⟨hjun, oj, hoj, hall⟩ := mem_ready.1 hj
      have hnot : ∀ e ∈ oj.after, Region.binds md e = true → e.on ≠ i := fun e he hb heq => by
        have h1 := hall e he hb
        rw [heq, getD_both hun] at h1
        cases h1
      have h2 := qOp_put hoj (hfree j oj hoj hji hjun hnot) (fun cs b => hsel i oi cs b hi) (fun cs b => hsel j oj cs b hoj) hy h1
      refine qOp_mono (fun a' h3 => ih (listed.setIfInBounds j true) a' (inv.set hj hjn) (fun k ok hk hki hu hno => ?_) (ready_mono hr (Ne.symm hji)) h3.1 ?_) h2
      · refine hfree k ok hk hki ?_ hno
        by_cases hjk : j = k
        · subst hjk; exact hjun
        · rwa [getD_set_ne true hjk] at hu
      · rw [Array.setIfInBounds_comm _ _ hji]
        exact h3.2

theorem headQ_lex {n g : Nat} {Lq : Act → Prop} (hsel : Region.noSelect ops = true) (hs : Region.sinkB md ops n = true) (hc : Region.chainB md ops n = true) (hn : n < ops.size) :
    ∀ (l : List Oper) (k : Nat) (listed : Array Bool) (a : Act), (∀ j, j < l.length → l[j]? = ops[k + j]?) → k + l.length = n → HeadInv md ops n listed →
    Region.lexHead md ops g l.length k listed = true → wpQuiet P ops C Lq l a →
    headQ P md ops C n (fun listed' a' => Region.seqB md ops g n listed' = true ∧ Lq a') l.length listed a := by
  intro l
  induction l with
  | nil =>
    intro k listed a _ hk _ hB h
    have : k = n := by simpa using hk
    subst this
    exact ⟨by simpa [Region.lexHead] using hB, h⟩
  | cons o l ih =>
    intro k listed a hl hk inv hB h
    have h0 : ops[k]? = some o := by simpa using (hl 0 (by simp)).symm
    simp only [List.length_cons, Region.lexHead, Bool.and_eq_true] at hB
    simp only [List.length_cons] at hk
    have hkn : k < n := by omega
    have hr : k ∈ Region.ready md ops listed := by simpa using hB.1.1
    have hst : qOp P ops C k (wpQuiet P ops C Lq l) a := by unfold qOp; simp only [h0]; exact h
    obtain ⟨v, hy, hK⟩ := yieldsIn_of_qOp h0 hst
    refine headQ_first h0 (Region.noSelect_spec hsel) hs hc hn hkn (fun _ _ hL => seqB_ready hL.1) l.length listed a inv (Region.free_spec h0 hB.1.2) hr hy
      (ih (k + 1) _ _ (fun j hj => ?_) (by omega) (inv.set hr hkn) hB.2 hK)
    have := hl (j + 1) (by simp; omega)
    simpa [Nat.add_assoc, Nat.add_comm 1 j] using this

/-- A region that draws: its first n operations quiet in the class, in the order of the text; the others forced behind them. -/
theorem wp_region_head {id : Nat} {Q : Exit → Act → World → Prop} {a : Act} {w : World} {l : List Oper} (n : Nat) (hm : P.follows .mixedOrders = true)
    (hB : Region.lexTailB .any l.toArray n = true) (hC : C { w with drawn := w.drawn + 1 })
    (h : wpQuiet P l.toArray C (fun a' => ∀ w', C w' → wpList P l.toArray Q (l.drop n) a' w') (l.take n) a) : (Code.region id l.toArray true).wp P Q a w := by
  simp only [Region.lexTailB, Bool.and_eq_true, decide_eq_true_eq] at hB
  obtain ⟨⟨⟨⟨hsel, hn⟩, hs⟩, hc⟩, hlex⟩ := hB
  have hn' : n < l.length := by simpa using hn
  have htl : (l.take n).length = n := by simp; omega
  have hdl : (l.drop n).length = l.toArray.size - n := by simp
  have inv0 : HeadInv .any l.toArray n (Array.replicate l.toArray.size false) :=
    ⟨by simp, fun j oj _ hl => (by rw [getD_replicate_false] at hl; cases hl), fun t _ ht => getD_in (by simpa using ht) (getD_replicate_false _ _)⟩
  have H := headQ_lex (md := .any) (C := C) (g := l.toArray.size - n) hsel hs hc hn (l.take n) 0 _ a (fun j hj => by
    have hj' : j < n := by rw [htl] at hj; exact hj
    simp [hj']) (by simpa using htl) inv0 (by rw [htl]; exact hlex) h
  refine wp_region_any hm ?_
  have := any_of_headQ (Q := Q) (C := C) (g := l.toArray.size - n) (fun listed a' w' hw' hL => by
    have := wpAny_of_seq (md := .any) (Q' := Q) (l.drop n) n listed a' w' (fun j => by simp [List.getElem?_drop]) (by rw [hdl]; exact hL.1) (hL.2 w' hw')
    rwa [hdl] at this) _ _ _ _ hC H
  rw [htl, show n + (l.toArray.size - n) = l.toArray.size by omega] at this
  exact this
end

theorem ret_int {k : IntKind} {a b : Int} (h : a = b) : Ending.returned (.int k a) = .returned (.int k b) := by rw [h]
theorem ret_bool {a b : Bool} (h : a = b) : Ending.returned (.bool a) = .returned (.bool b) := by rw [h]

/-- A world with another count of draws and some blocks more: one name. -/
def later (w : World) (p : Regrown) : World := grow (redrawn w p.d) p.os

theorem later_of_below {w w' : World} (h : Below w.heap.size w w') : ∃ p : Regrown, w' = later w p := regrown_of_below h
theorem below_later (w : World) (p : Regrown) : Below w.heap.size w (later w p) := below_regrown w p.d p.os
theorem later_later (w : World) (p q : Regrown) : ∃ r : Regrown, later (later w p) q = later w r :=
  later_of_below ((below_later w p).trans ((below_later (later w p) q).mono (below_later w p).size))
@[go_sem, simp] theorem size_later (w : World) (p : Regrown) : (later w p).heap.size = w.heap.size + p.os.size := by simp [later, grow, redrawn]
theorem block_lt_of_isSome {w : World} {a : Addr} (h : (w.cell? a).isSome = true) : a.block < w.heap.size := by
  obtain ⟨v, hv⟩ := Option.isSome_iff_exists.1 h
  exact World.block_lt_of_cell? _ _ hv
/-- Choices over block numbers, which the walk decides by linear arithmetic once the numbers are written out. -/
def pickLt {α : Type} (n s : Nat) (x y : α) : α := if n < s then x else y
def pickEq {α : Type} (n s : Nat) (x y : α) : α := if n = s then x else y
@[go_sem] theorem pickLt_eq {α : Type} (n s : Nat) (x y : α) : pickLt n s x y = if n < s then x else y := rfl
@[go_sem] theorem pickEq_eq {α : Type} (n s : Nat) (x y : α) : pickEq n s x y = if n = s then x else y := rfl
/-- What lies in a world's newer blocks: not looked into. -/
def farCell (w : World) (p : Regrown) (a : Addr) : Option Value := (later w p).cell? a
def farFrozen (w : World) (p : Regrown) (a : Addr) : Bool := (later w p).frozen? a
@[go_sem] theorem cell_later_pick (w : World) (p : Regrown) (n i : Nat) : (later w p).cell? ⟨n, i, none⟩ = pickLt n w.heap.size (w.cell? ⟨n, i, none⟩) (farCell w p ⟨n, i, none⟩) := by
  unfold pickLt
  split
  · exact (below_later w p).cell (by assumption)
  · rfl
@[go_sem] theorem frozen_later_pick (w : World) (p : Regrown) (n i : Nat) : (later w p).frozen? ⟨n, i, none⟩ = pickLt n w.heap.size (w.frozen? ⟨n, i, none⟩) (farFrozen w p ⟨n, i, none⟩) := by
  unfold pickLt
  split
  · exact (below_later w p).frozen (by assumption)
  · rfl
@[go_sem] theorem cell_alloc_pick (w : World) (c : Array Value) (t : TypeId) (n i : Nat) : (w.alloc (.cells c t)).cell? ⟨n, i, none⟩ = pickEq n w.heap.size (c[i]?) (w.cell? ⟨n, i, none⟩) := by
  unfold pickEq
  split
  · rename_i h; rw [h]; exact World.cell?_alloc_new _ _ _ _
  · exact World.cell?_alloc_old _ _ _ (by assumption)
@[go_sem] theorem frozen_alloc_pick (w : World) (c : Array Value) (t : TypeId) (n i : Nat) : (w.alloc (.cells c t)).frozen? ⟨n, i, none⟩ = pickEq n w.heap.size false (w.frozen? ⟨n, i, none⟩) := by
  unfold pickEq
  split
  · exact World.frozen?_alloc_at _ _ _ _ (by assumption)
  · exact frozen?_alloc_cells w c t _
@[go_sem] theorem cell_setCell_pick (w : World) (v : Value) (m j n i : Nat) : (w.setCell ⟨m, j, none⟩ v).cell? ⟨n, i, none⟩ = pickEq m n (pickEq j i ((w.cell? ⟨n, i, none⟩).map fun _ => v) (w.cell? ⟨n, i, none⟩)) (w.cell? ⟨n, i, none⟩) := by
  unfold pickEq
  by_cases h1 : m = n
  · subst h1
    rw [if_pos rfl]
    by_cases h2 : j = i
    · subst h2
      rw [if_pos rfl]
      cases h : w.cell? ⟨m, j, none⟩ with
      | none =>
        simp only [World.setCell, World.cell?, Array.getElem?_modify, if_true] at h ⊢
        cases hb : w.heap[m]? with
        | none => simp
        | some o =>
          cases o <;> simp_all
      | some u => rw [World.cell?_setCell_same _ _ _ h]; rfl
    · rw [if_neg h2]
      exact World.cell?_setCell_other _ _ _ _ (by simp)
  · rw [if_neg h1]
    exact World.cell?_setCell_other _ _ _ _ (by simp)
theorem later_drew (w : World) (p : Regrown) : (later w p).drew = later w ⟨p.d + 1, p.os⟩ := rfl

theorem below_later_of {B : Nat} {a w : World} (h : Below B a w) (hB : B ≤ w.heap.size) (p : Regrown) : Below B a (later w p) := h.trans ((below_later w p).mono hB)

section
variable {P : Program}
theorem wp_region_calm {id : Nat} {Q : Exit → Act → World → Prop} {a : Act} {w : World} {l : List Oper} (hm : P.follows .mixedOrders = true) (hB : Region.lexB .any l.toArray = true)
    (h : wpQuiet P l.toArray (fun w' => ∃ p : Regrown, w' = later w p) (fun a' => ∀ w', (∃ p : Regrown, w' = later w p) → Q .normal a' w') l a) : (Code.region id l.toArray true).wp P Q a w :=
  wp_region_quiet (C := fun w' => ∃ p : Regrown, w' = later w p) hm hB ⟨⟨w.drawn + 1, #[]⟩, by unfold later; rw [grow_empty]; rfl⟩ (by simpa using h)

theorem wp_region_calm_tail {id : Nat} {Q : Exit → Act → World → Prop} {a : Act} {w : World} {l : List Oper} (n : Nat) (hm : P.follows .mixedOrders = true) (hB : Region.lexTailB .any l.toArray n = true)
    (h : wpQuiet P l.toArray (fun w' => ∃ p : Regrown, w' = later w p) (fun a' => ∀ w', (∃ p : Regrown, w' = later w p) → wpList P l.toArray Q (l.drop n) a' w') (l.take n) a) : (Code.region id l.toArray true).wp P Q a w :=
  wp_region_head (C := fun w' => ∃ p : Regrown, w' = later w p) n hm hB ⟨⟨w.drawn + 1, #[]⟩, by unfold later; rw [grow_empty]; rfl⟩ h

/-- A callee's contract that ends in 'Below', met in a world of the class. -/
theorem calm_of {f : FuncId} {args : Array Value} {w : World} {p : Regrown} {v : Value}
    (h : Calls P f args (later w p) fun e w' => e = .returned v ∧ Below (later w p).heap.size (later w p) w') : Calls P f args (later w p) fun e w'' => e = .returned v ∧ ∃ q : Regrown, w'' = later w q :=
  h.mono fun _ _ ⟨he, hb⟩ => ⟨he, later_of_below ((below_later w p).trans (hb.mono (below_later w p).size))⟩
theorem calm_same {f : FuncId} {args : Array Value} {w : World} {p : Regrown} {v : Value}
    (h : Calls P f args (later w p) fun e w' => e = .returned v ∧ later w p = w') : Calls P f args (later w p) fun e w'' => e = .returned v ∧ ∃ q : Regrown, w'' = later w q :=
  h.mono fun _ _ ⟨he, hb⟩ => ⟨he, p, hb.symm⟩
end
end Go.Proofs.YtkoiknmijjiicaaGreatDoor

/- General laws, second part. -/
namespace Go.Proofs.YtkoiknmijjiicaaGreatDoor
set_option linter.unusedVariables false
set_option linter.unusedSimpArgs false
open Go Go.RowKit

@[go_sem ↓] theorem run_max_int {P : Program} (ats : Array TypeId) (ty : TypeId) (k : IntKind) (a b : Int) (w : World) : (Builtin.max_ ats ty #[.int k a, .int k b]).run P w = .ok (.int k (max a b)) w := by
  have e : max a b = if b > a then b else a := by split <;> omega
  rw [e]; rfl
@[go_sem ↓] theorem run_min_int {P : Program} (ats : Array TypeId) (ty : TypeId) (k : IntKind) (a b : Int) (w : World) : (Builtin.min_ ats ty #[.int k a, .int k b]).run P w = .ok (.int k (min a b)) w := by
  have e : min a b = if b < a then b else a := by split <;> omega
  rw [e]; rfl
end Go.Proofs.YtkoiknmijjiicaaGreatDoor

/- A range over a method value (a function with a bound receiver): one law, over an iterator that yields so many times. No program in sight. -/
namespace Go.Proofs.YtkoiknmijjiicaaGreatDoor
set_option linter.unusedVariables false
set_option linter.unusedSimpArgs false
open Go Go.RowKit
variable {F : Fence} {n : Nat} {P : Program}

/-! In a round's frame an operation other than 'defer' does what it does elsewhere. -/
@[go_sem] theorem semAt_move (l : Nat) (ρ : Operand → Value) (d : Option Tmp) (x : Operand) (ty : TypeId) (pos : String) (af : Array Edge) (g : Option (Nat × Bool)) : Oper.semAt (some l) ρ ⟨d, .move x, ty, pos, af, g⟩ = execOp ρ ⟨d, .move x, ty, pos, af, g⟩ := rfl
@[go_sem] theorem semAt_assign (l : Nat) (ρ : Operand → Value) (d : Option Tmp) (x : Operand) (ty : TypeId) (pos : String) (af : Array Edge) (g : Option (Nat × Bool)) : Oper.semAt (some l) ρ ⟨d, .assign x, ty, pos, af, g⟩ = execOp ρ ⟨d, .assign x, ty, pos, af, g⟩ := rfl
@[go_sem] theorem semAt_pick (l : Nat) (ρ : Operand → Value) (d : Option Tmp) (c : Operand) (a : Operand) (b : Operand) (ty : TypeId) (pos : String) (af : Array Edge) (g : Option (Nat × Bool)) : Oper.semAt (some l) ρ ⟨d, .pick c a b, ty, pos, af, g⟩ = execOp ρ ⟨d, .pick c a b, ty, pos, af, g⟩ := rfl
@[go_sem] theorem semAt_alloc (l : Nat) (ρ : Operand → Value) (d : Option Tmp) (e : TypeId) (ty : TypeId) (pos : String) (af : Array Edge) (g : Option (Nat × Bool)) : Oper.semAt (some l) ρ ⟨d, .alloc e, ty, pos, af, g⟩ = execOp ρ ⟨d, .alloc e, ty, pos, af, g⟩ := rfl
@[go_sem] theorem semAt_box (l : Nat) (ρ : Operand → Value) (d : Option Tmp) (e : TypeId) (v : Operand) (ty : TypeId) (pos : String) (af : Array Edge) (g : Option (Nat × Bool)) : Oper.semAt (some l) ρ ⟨d, .box e v, ty, pos, af, g⟩ = execOp ρ ⟨d, .box e v, ty, pos, af, g⟩ := rfl
@[go_sem] theorem semAt_build (l : Nat) (ρ : Operand → Value) (d : Option Tmp) (t : TypeId) (ps : Array (Nat × Operand)) (ty : TypeId) (pos : String) (af : Array Edge) (g : Option (Nat × Bool)) : Oper.semAt (some l) ρ ⟨d, .build t ps, ty, pos, af, g⟩ = execOp ρ ⟨d, .build t ps, ty, pos, af, g⟩ := rfl
@[go_sem] theorem semAt_buildSlice (l : Nat) (ρ : Operand → Value) (d : Option Tmp) (t : TypeId) (n : Nat) (ps : Array (Nat × Operand)) (ty : TypeId) (pos : String) (af : Array Edge) (g : Option (Nat × Bool)) : Oper.semAt (some l) ρ ⟨d, .buildSlice t n ps, ty, pos, af, g⟩ = execOp ρ ⟨d, .buildSlice t n ps, ty, pos, af, g⟩ := rfl
@[go_sem] theorem semAt_load (l : Nat) (ρ : Operand → Value) (d : Option Tmp) (t : TypeId) (x : Operand) (ty : TypeId) (pos : String) (af : Array Edge) (g : Option (Nat × Bool)) : Oper.semAt (some l) ρ ⟨d, .load t x, ty, pos, af, g⟩ = execOp ρ ⟨d, .load t x, ty, pos, af, g⟩ := rfl
@[go_sem] theorem semAt_store (l : Nat) (ρ : Operand → Value) (d : Option Tmp) (t : TypeId) (x : Operand) (y : Operand) (ty : TypeId) (pos : String) (af : Array Edge) (g : Option (Nat × Bool)) : Oper.semAt (some l) ρ ⟨d, .store t x y, ty, pos, af, g⟩ = execOp ρ ⟨d, .store t x y, ty, pos, af, g⟩ := rfl
@[go_sem] theorem semAt_binOp (l : Nat) (ρ : Operand → Value) (d : Option Tmp) (op : BinOp) (t : TypeId) (x : Operand) (y : Operand) (u : TypeId) (ty : TypeId) (pos : String) (af : Array Edge) (g : Option (Nat × Bool)) : Oper.semAt (some l) ρ ⟨d, .binOp op t x y u, ty, pos, af, g⟩ = execOp ρ ⟨d, .binOp op t x y u, ty, pos, af, g⟩ := rfl
@[go_sem] theorem semAt_unOp (l : Nat) (ρ : Operand → Value) (d : Option Tmp) (op : UnOp) (t : TypeId) (x : Operand) (ty : TypeId) (pos : String) (af : Array Edge) (g : Option (Nat × Bool)) : Oper.semAt (some l) ρ ⟨d, .unOp op t x, ty, pos, af, g⟩ = execOp ρ ⟨d, .unOp op t x, ty, pos, af, g⟩ := rfl
@[go_sem] theorem semAt_convert (l : Nat) (ρ : Operand → Value) (d : Option Tmp) (s : TypeId) (t : TypeId) (x : Operand) (ty : TypeId) (pos : String) (af : Array Edge) (g : Option (Nat × Bool)) : Oper.semAt (some l) ρ ⟨d, .convert s t x, ty, pos, af, g⟩ = execOp ρ ⟨d, .convert s t x, ty, pos, af, g⟩ := rfl
@[go_sem] theorem semAt_makeSlice (l : Nat) (ρ : Operand → Value) (d : Option Tmp) (t : TypeId) (x : Operand) (y : Operand) (ty : TypeId) (pos : String) (af : Array Edge) (g : Option (Nat × Bool)) : Oper.semAt (some l) ρ ⟨d, .makeSlice t x y, ty, pos, af, g⟩ = execOp ρ ⟨d, .makeSlice t x y, ty, pos, af, g⟩ := rfl
@[go_sem] theorem semAt_slice (l : Nat) (ρ : Operand → Value) (d : Option Tmp) (t : TypeId) (x : Operand) (lo : Option Operand) (hi : Option Operand) (m : Option Operand) (ty : TypeId) (pos : String) (af : Array Edge) (g : Option (Nat × Bool)) : Oper.semAt (some l) ρ ⟨d, .slice t x lo hi m, ty, pos, af, g⟩ = execOp ρ ⟨d, .slice t x lo hi m, ty, pos, af, g⟩ := rfl
@[go_sem] theorem semAt_fieldAddr (l : Nat) (ρ : Operand → Value) (d : Option Tmp) (t : TypeId) (x : Operand) (f : Nat) (ty : TypeId) (pos : String) (af : Array Edge) (g : Option (Nat × Bool)) : Oper.semAt (some l) ρ ⟨d, .fieldAddr t x f, ty, pos, af, g⟩ = execOp ρ ⟨d, .fieldAddr t x f, ty, pos, af, g⟩ := rfl
@[go_sem] theorem semAt_field (l : Nat) (ρ : Operand → Value) (d : Option Tmp) (t : TypeId) (x : Operand) (f : Nat) (ty : TypeId) (pos : String) (af : Array Edge) (g : Option (Nat × Bool)) : Oper.semAt (some l) ρ ⟨d, .field t x f, ty, pos, af, g⟩ = execOp ρ ⟨d, .field t x f, ty, pos, af, g⟩ := rfl
@[go_sem] theorem semAt_indexAddr (l : Nat) (ρ : Operand → Value) (d : Option Tmp) (t : TypeId) (x : Operand) (y : Operand) (ty : TypeId) (pos : String) (af : Array Edge) (g : Option (Nat × Bool)) : Oper.semAt (some l) ρ ⟨d, .indexAddr t x y, ty, pos, af, g⟩ = execOp ρ ⟨d, .indexAddr t x y, ty, pos, af, g⟩ := rfl
@[go_sem] theorem semAt_index (l : Nat) (ρ : Operand → Value) (d : Option Tmp) (t : TypeId) (x : Operand) (y : Operand) (ty : TypeId) (pos : String) (af : Array Edge) (g : Option (Nat × Bool)) : Oper.semAt (some l) ρ ⟨d, .index t x y, ty, pos, af, g⟩ = execOp ρ ⟨d, .index t x y, ty, pos, af, g⟩ := rfl
@[go_sem] theorem semAt_extract (l : Nat) (ρ : Operand → Value) (d : Option Tmp) (x : Operand) (f : Nat) (ty : TypeId) (pos : String) (af : Array Edge) (g : Option (Nat × Bool)) : Oper.semAt (some l) ρ ⟨d, .extract x f, ty, pos, af, g⟩ = execOp ρ ⟨d, .extract x f, ty, pos, af, g⟩ := rfl
@[go_sem] theorem semAt_call (l : Nat) (ρ : Operand → Value) (d : Option Tmp) (c : Call) (ty : TypeId) (pos : String) (af : Array Edge) (g : Option (Nat × Bool)) : Oper.semAt (some l) ρ ⟨d, .call c, ty, pos, af, g⟩ = execOp ρ ⟨d, .call c, ty, pos, af, g⟩ := rfl

/-- Every block from B on lies as it lay. -/
structure KeepTop (B : Nat) (W W' : World) : Prop where
  size : W.heap.size ≤ W'.heap.size
  same : ∀ k, B ≤ k → k < W.heap.size → W'.heap[k]? = W.heap[k]?
theorem KeepTop.refl (B : Nat) (W : World) : KeepTop B W W := ⟨Nat.le_refl _, fun _ _ _ => rfl⟩
theorem KeepTop.trans {B : Nat} {X Y Z : World} (h : KeepTop B X Y) (k : KeepTop B Y Z) : KeepTop B X Z :=
  ⟨Nat.le_trans h.size k.size, fun i h1 h2 => (k.same i h1 (Nat.lt_of_lt_of_le h2 h.size)).trans (h.same i h1 h2)⟩
theorem KeepTop.mono {B B' : Nat} {X Y : World} (h : KeepTop B X Y) (hB : B ≤ B') : KeepTop B' X Y := ⟨h.size, fun i h1 h2 => h.same i (by omega) h2⟩
theorem KeepTop.below {B : Nat} {X Y : World} (h : Below X.heap.size X Y) : KeepTop B X Y := ⟨h.size, fun i _ h2 => h.block i h2⟩
theorem KeepTop.setCell {B : Nat} {X Y : World} (h : KeepTop B X Y) {p : Addr} (hp : p.block < B) (v : Value) : KeepTop B X (Y.setCell p v) :=
  ⟨by simpa [World.setCell] using h.size, fun i h1 h2 => (Below.heap_setCell _ _ _ _ (by omega)).trans (h.same i h1 h2)⟩

/-- An iterator with a bound receiver that yields N times, if it is let. -/
def IterOk (F : Fence) (n : Nat) (P : Program) (gf : FuncId) (bound : Array Value) (N : Nat) (enc : Nat → Array Value) (W : World) : Prop :=
  ∀ (l : Nat) (J : Nat → World → Prop) (Jx : World → Prop),
    (∀ k W1 W2, J k W1 → Below W.heap.size W1 W2 → J k W2) → (∀ W1 W2, Jx W1 → Below W.heap.size W1 W2 → Jx W2) →
    (∀ k W1, J k W1 → k < N → W.heap.size ≤ W1.heap.size → YieldAt F (n - 1) P l (enc k) W1 fun e W' =>
      (e = .returned (.bool true) ∧ J (k + 1) W' ∧ KeepTop W.heap.size W1 W') ∨ (e = .returned (.bool false) ∧ Jx W')) →
    J 0 W → CallsIn F n P gf (bound ++ #[.func (.yield l) #[] #[]]) W fun e W' => (∃ v, e = .returned v) ∧ (J N W' ∨ Jx W')

/-- How a round may be left. -/
def boundPost (B : Nat) (I : World → Prop) (Ix : Code → World → Prop) (W : World) : Exit → Act → World → Prop
  | .normal, _, W' => KeepTop B W W' ∧ I W'
  | .ret, _, W' => KeepTop B W W' ∧ Ix .ret W'
  | .exit id, _, W' => KeepTop B W W' ∧ Ix (.exit id) W'
  | .goto t, _, W' => KeepTop B W W' ∧ Ix (.goto t) W'
  | .panic _, _, _ => False
  | .outgrown, _, _ => False

theorem below_putObj {B : Nat} {W : World} {l : Nat} (hl : B ≤ l) (o : Obj) : Below B W (W.putObj l o) :=
  ⟨rfl, rfl, rfl, by simp, fun k hk => World.putObj_heap_other (by omega)⟩

theorem wpIn_rangeBound {g : Operand} {ps : Array Tmp} {assign body : Code} {Q : Exit → Act → World → Prop} {a : Act} {w : World}
    (hro : F.round = none) (h1 : 1 ≤ n) {gf : Nat} {bound : Array Value} (hg : a.eval g = .func (.func gf) bound #[]) (hFg : F.fn gf) (eg : ∀ args w, (callFunc gf args).run P w = .ok (.enter gf args) w)
    {N : Nat} {enc : Nat → Array Value} (hps : ∀ k, (enc k).size = ps.size)
    (hseq : ∀ W, Below w.heap.size w W → IterOk F (n - 1) P gf bound N enc W)
    (I : Nat → World → Prop) (Ix : Code → World → Prop) (hI : ∀ k W1 W2, I k W1 → Below w.heap.size W1 W2 → I k W2) (hIx : ∀ c W1 W2, Ix c W1 → Below w.heap.size W1 W2 → Ix c W2) (h0 : I 0 w) (f : Array Value → Nat → Array Value)
    (hassign : ∀ (l : Nat) (k : Nat) (W : World) (K : Act → World → Prop), K { tmps := f a.tmps k, defers := [] } W →
      assign.wpIn (F.inRound l) (n - 1 - 1) P (Exit.then K (fun _ _ _ => False)) { tmps := (ps.zip (enc k)).foldl (fun t (p, v) => t.setIfInBounds p v) a.tmps, defers := [] } W)
    (hbody : ∀ (l : Nat) (k : Nat) (W : World), I k W → k < N → w.heap.size ≤ W.heap.size → body.wpIn (F.inRound l) (n - 1 - 1) P (boundPost w.heap.size (I (k + 1)) Ix W) { tmps := f a.tmps k, defers := [] } W)
    (hdone : ∀ (W : World), I N W → W.heap[w.heap.size]? = some (.deferred (some [])) → Q .normal { a with defers := { target := .collected w.heap.size, args := #[] } :: a.defers } W)
    (hstop : ∀ (c : Code) (W : World), Ix c W → W.heap[w.heap.size]? = some (.deferred (some [])) → c.wpIn F n P Q { a with defers := { target := .collected w.heap.size, args := #[] } :: a.defers } W) :
    (Code.rangeFunc g ps assign body).wpIn F n P Q a w := by
  refine wpIn_rangeFunc ?_
  intro fn hfn
  rw [hro]
  obtain ⟨rec, hrec⟩ : ∃ rec : LoopState → Option Code → Loop, rec = fun st pe => { state := st, pending := pe, fn, tmps := a.tmps, params := ps, assign, body, defers := w.heap.size } := ⟨_, rfl⟩
  obtain ⟨W1, hW1⟩ : ∃ W1, (w.alloc (.deferred (some []))).alloc (.loop (rec .ready none)) = W1 := ⟨_, rfl⟩
  have hz1 : W1.heap.size = w.heap.size + 2 := by rw [← hW1]; simp
  have hL1 : W1.heap[w.heap.size + 1]? = some (.loop (rec .ready none)) := by
    rw [← hW1]; have := World.alloc_heap_new (w.alloc (.deferred (some []))) (.loop (rec .ready none)); rwa [World.size_alloc] at this
  have hK1 : W1.heap[w.heap.size]? = some (.deferred (some [])) := by
    rw [← hW1]; exact (Below.heap_alloc _ _ _ (by simp)).trans (World.alloc_heap_new w _)
  have hb1 : Below w.heap.size w W1 := by
    rw [← hW1]; exact ((Below.refl _ w).alloc (Nat.le_refl _) _).alloc (by simp) _
  refine ⟨w.heap.size + 1, [{ target := .collected w.heap.size, args := #[] }], W1, { target := .fn (.func gf) #[], args := bound ++ #[.func (.yield (w.heap.size + 1)) #[] #[]] }, W1, gf,
    bound ++ #[.func (.yield (w.heap.size + 1)) #[] #[]], W1, ?_, ?_, ?_, ?_, fun _ => h1, ?_⟩
  · rw [← hW1, hrec]; exact run_enterLoop_outer _ _ _ _ _
  · simp only [resolve, hg]
    simp [go_sem]
  · intro f' hf'; simp [Target.leads] at hf'; subst hf'; exact hFg
  · simp [invoke, go_sem, eg]
  · refine ((hseq W1 hb1) (w.heap.size + 1)
      (fun k W => I k W ∧ W.heap[w.heap.size + 1]? = some (.loop (rec .ready none)) ∧ W.heap[w.heap.size]? = some (.deferred (some [])))
      (fun W => ∃ c, Ix c W ∧ W.heap[w.heap.size + 1]? = some (.loop (rec .done (some c))) ∧ W.heap[w.heap.size]? = some (.deferred (some [])))
      (fun k A B hs hb => ⟨hI k A B hs.1 (hb.mono (by omega)), (hb.block _ (by omega)).trans hs.2.1, (hb.block _ (by omega)).trans hs.2.2⟩)
      (fun A B hs hb => by
        obtain ⟨c, hc, hl, hk⟩ := hs
        exact ⟨c, hIx c A B hc (hb.mono (by omega)), (hb.block _ (by omega)).trans hl, (hb.block _ (by omega)).trans hk⟩)
      ?_ ⟨hI 0 _ _ h0 hb1, hL1, hK1⟩).mono ?_
    · rintro k W ⟨hi, hl, hk⟩ hkN hWs
      have hlt : w.heap.size + 1 < W.heap.size := (Array.getElem?_eq_some_iff.1 hl).1
      have hy := run_yield (P := P) (args := enc k) hl (by rw [hrec]; simp [hps k])
      rw [hrec] at hy
      refine ⟨fn, _, assign, body, hy, roundIn_of_wpIn hfn (hassign _ k W _ ⟨_, run_beginRound hl (by rw [hrec]), ?_⟩)⟩
      obtain ⟨Wb, hWb⟩ : ∃ Wb, W.putObj (w.heap.size + 1) (.loop { rec .ready none with state := .busy }) = Wb := ⟨_, rfl⟩
      have hl2 : Wb.heap[w.heap.size + 1]? = some (.loop { rec .ready none with state := .busy }) := by rw [← hWb]; exact World.putObj_heap_same hlt
      have hk2 : Wb.heap[w.heap.size]? = some (.deferred (some [])) := by rw [← hWb]; exact (World.putObj_heap_other (by omega)).trans hk
      have hbb : Below w.heap.size W Wb := by rw [← hWb]; exact below_putObj (by omega) _
      have hWz : Wb.heap.size = W.heap.size := by rw [← hWb]; simp
      have hkt : KeepTop W1.heap.size W Wb := ⟨by omega, fun i h1 _ => by rw [← hWb]; exact World.putObj_heap_other (by omega)⟩
      rw [hWb]
      refine wpIn_mono (hbody _ k _ (hI k _ _ hi hbb) hkN (by omega)) ?_
      have fin : ∀ (jump : Option Code) (W3 : World), KeepTop w.heap.size Wb W3 →
          (Instr.endRound (w.heap.size + 1) jump).run P W3 = .ok (.bool jump.isNone) (W3.putObj (w.heap.size + 1) (.loop (rec (if jump.isNone then .ready else .done) jump))) ∧
          Below w.heap.size W3 (W3.putObj (w.heap.size + 1) (.loop (rec (if jump.isNone then .ready else .done) jump))) ∧
          (W3.putObj (w.heap.size + 1) (.loop (rec (if jump.isNone then .ready else .done) jump))).heap[w.heap.size + 1]? = some (.loop (rec (if jump.isNone then .ready else .done) jump)) ∧
          (W3.putObj (w.heap.size + 1) (.loop (rec (if jump.isNone then .ready else .done) jump))).heap[w.heap.size]? = some (.deferred (some [])) ∧
          KeepTop W1.heap.size W (W3.putObj (w.heap.size + 1) (.loop (rec (if jump.isNone then .ready else .done) jump))) := fun jump W3 hk3 => by
        have hl3 := (hk3.same _ (by omega) (by omega)).trans hl2
        have := run_endRound (P := P) jump hl3
        rw [hrec] at this ⊢
        refine ⟨this, below_putObj (by omega) _, World.putObj_heap_same (Array.getElem?_eq_some_iff.1 hl3).1, (World.putObj_heap_other (by omega)).trans ((hk3.same _ (by omega) (by omega)).trans hk2), ?_⟩
        refine hkt.trans ((hk3.mono (by omega)).trans ⟨by simp, fun i h1 _ => World.putObj_heap_other (by omega)⟩)
      rintro e a3 W3 hp
      cases e with
      | normal =>
        obtain ⟨hk3, hi3⟩ := hp
        obtain ⟨hr, hb3, hl4, hk4, ht⟩ := fin none W3 hk3
        exact ⟨_, _, hr, .inl ⟨rfl, ⟨hI _ _ _ hi3 hb3, hl4, hk4⟩, ht⟩⟩
      | ret =>
        obtain ⟨hk3, hi3⟩ := hp
        obtain ⟨hr, hb3, hl4, hk4, ht⟩ := fin (some .ret) W3 hk3
        exact ⟨_, _, hr, .inr ⟨rfl, .ret, hIx _ _ _ hi3 hb3, hl4, hk4⟩⟩
      | exit id =>
        obtain ⟨hk3, hi3⟩ := hp
        obtain ⟨hr, hb3, hl4, hk4, ht⟩ := fin (some (.exit id)) W3 hk3
        exact ⟨_, _, hr, .inr ⟨rfl, .exit id, hIx _ _ _ hi3 hb3, hl4, hk4⟩⟩
      | goto t =>
        obtain ⟨hk3, hi3⟩ := hp
        obtain ⟨hr, hb3, hl4, hk4, ht⟩ := fin (some (.goto t)) W3 hk3
        exact ⟨_, _, hr, .inr ⟨rfl, .goto t, hIx _ _ _ hi3 hb3, hl4, hk4⟩⟩
      | panic ch => exact hp.elim
      | outgrown => exact hp.elim
    · rintro e W2 ⟨⟨v, rfl⟩, (⟨hi, hl, hk⟩ | ⟨c, hi, hl, hk⟩)⟩
      · exact ⟨none, _, by have := run_endLoop (P := P) hl (by rw [hrec]; simp); rw [hrec] at this; exact this, hdone _ (hI _ _ _ hi (below_putObj (by omega) _)) ((World.putObj_heap_other (by omega)).trans hk)⟩
      · exact ⟨some c, _, by have := run_endLoop (P := P) hl (by rw [hrec]; simp); rw [hrec] at this; exact this, hstop c _ (hIx _ _ _ hi (below_putObj (by omega) _)) ((World.putObj_heap_other (by omega)).trans hk)⟩
end Go.Proofs.YtkoiknmijjiicaaGreatDoor
