import Derived.StillTail
import Derived.Lib.QuietBelow
import Derived.BigQuiet
import Derived.WalkKit
import Derived.Test.YtokpdmlmlkkekaaRows
import Derived.WalkSpells
import Derived.WalkLawsBesides
import Derived.RangeFuncNested
import Derived.RangeFuncLeaves
import Derived.Laws.FloatArith
/- General laws of this claim's own: a region that draws its order, whose head is quiet in a class of worlds and whose tail is forced; worlds that have grown. No program in sight. -/
namespace Go.Proofs.Ytokpdmlmlkkekaa
set_option linter.unusedVariables false
open Go Go.RowKit Go.Sort

section
variable {P : Program} {ops : Array Oper} {md : Region.Mode} {C : World → Prop}

/-- The head's walk in any order, quiet in the class, until n operations have come; L is what is then asked. -/
def headQ (P : Program) (md : Region.Mode) (ops : Array Oper) (C : World → Prop) (n : Nat) (L : Array Bool → Act → Prop) : Nat → Array Bool → Act → Prop
  | 0, listed, a => L listed a
  | f + 1, listed, a => Region.ready md ops listed ≠ [] ∧ ∀ i, i ∈ Region.ready md ops listed → i < n ∧ qOp P ops C i (headQ P md ops C n L f (listed.setIfInBounds i true)) a

theorem any_of_headQ {n g : Nat} {L : Array Bool → Act → Prop} {Q : Exit → Act → World → Prop}
    (hL : ∀ listed a w, C w → L listed a → wpAny P md ops Q g listed a w) :
    ∀ (f : Nat) (listed : Array Bool) (a : Act) (w : World), C w → headQ P md ops C n L f listed a → wpAny P md ops Q (f + g) listed a w := by
  intro f
  induction f with
  | zero => intro listed a w hw h; rw [Nat.zero_add]; exact hL _ _ _ hw h
  | succ f ih =>
    intro listed a w hw h
    rw [Nat.succ_add]
    exact ⟨fun h0 => absurd h0 h.1, fun i hi => wpOp_of_qOp hw (fun a' w' hw' h' => ih _ a' w' hw' h') (h.2 i hi).2⟩

theorem headQ_first {n i : Nat} {oi : Oper} {v : Value} {L : Array Bool → Act → Prop} (hi : ops[i]? = some oi)
    (hsel : ∀ (j : Nat) (o : Oper) cs b, ops[j]? = some o → o.op ≠ .select cs b)
    (hs : Region.sinkB md ops n = true) (hc : Region.chainB md ops n = true) (hn : n < ops.size) (hin : i < n)
    (hdone : ∀ listed a, L listed a → ∀ j, j ∈ Region.ready md ops listed → n ≤ j) :
    ∀ (f : Nat) (listed : Array Bool) (a : Act), HeadInv md ops n listed →
      (∀ j oj, ops[j]? = some oj → j ≠ i → listed.getD j true = false → (∀ e ∈ oj.after, Region.binds md e = true → e.on ≠ i) → oi.apart ops oj = true) →
      i ∈ Region.ready md ops listed → YieldsIn P ops C oi v a →
      headQ P md ops C n L f (listed.setIfInBounds i true) (a.put oi.dst v) → headQ P md ops C n L (f + 1) listed a := by
  intro f
  induction f with
  | zero =>
    intro listed a inv _ hr hy H
    have hun := (mem_ready.1 hr).1
    refine ⟨fun h => (by rw [h] at hr; cases hr), fun j hj => ?_⟩
    have hjn : j < n := Nat.lt_of_not_le fun h => tail_waits hs hc hn inv _ i rfl hin hun j h hj
    refine ⟨hjn, ?_⟩
    by_cases hji : j = i
    · subst hji; exact hy.qOp hi H
    · exact absurd (hdone _ _ H j (ready_mono hj hji)) (by omega)
  | succ f ih =>
    intro listed a inv hfree hr hy H
    have hun := (mem_ready.1 hr).1
    refine ⟨fun h => (by rw [h] at hr; cases hr), fun j hj => ?_⟩
    have hjn : j < n := Nat.lt_of_not_le fun h => tail_waits hs hc hn inv _ i rfl hin hun j h hj
    refine ⟨hjn, ?_⟩
    by_cases hji : j = i
    · subst hji; exact hy.qOp hi H
    · have h1 := (H.2 j (ready_mono hj hji)).2
      obtain ⟨hjun, oj, hoj, hall⟩ := mem_ready.1 hj
      have hnot : ∀ e ∈ oj.after, Region.binds md e = true → e.on ≠ i := fun e he hb heq => by
        have h1 := hall e he hb
        rw [heq, getD_both hun] at h1
        cases h1
      have h2 := qOp_put hoj (hfree j oj hoj hji hjun hnot) (fun cs b => hsel i oi cs b hi) (fun cs b => hsel j oj cs b hoj) hy h1
      refine qOp_mono (fun a' h3 => ih (listed.setIfInBounds j true) a' (inv.set hj hjn) (fun k ok hk hki hu hno => ?_) (ready_mono hr (Ne.symm hji)) h3.1 ?_) h2
      · refine hfree k ok hk hki ?_ hno
        by_cases hjk : j = k
        · subst hjk; exact hjun
        · rwa [getD_set_ne true hjk] at hu
      · rw [Array.setIfInBounds_comm _ _ hji]
        exact h3.2

theorem headQ_lex {n g : Nat} {Lq : Act → Prop} (hsel : Region.noSelect ops = true) (hs : Region.sinkB md ops n = true) (hc : Region.chainB md ops n = true) (hn : n < ops.size) :
    ∀ (l : List Oper) (k : Nat) (listed : Array Bool) (a : Act), (∀ j, j < l.length → l[j]? = ops[k + j]?) → k + l.length = n → HeadInv md ops n listed →
    Region.lexHead md ops g l.length k listed = true → wpQuiet P ops C Lq l a →
    headQ P md ops C n (fun listed' a' => Region.seqB md ops g n listed' = true ∧ Lq a') l.length listed a := by
  intro l
  induction l with
  | nil =>
    intro k listed a _ hk _ hB h
    have : k = n := by simpa using hk
    subst this
    exact ⟨by simpa [Region.lexHead] using hB, h⟩
  | cons o l ih =>
    intro k listed a hl hk inv hB h
    have h0 : ops[k]? = some o := by simpa using (hl 0 (by simp)).symm
    simp only [List.length_cons, Region.lexHead, Bool.and_eq_true] at hB
    simp only [List.length_cons] at hk
    have hkn : k < n := by omega
    have hr : k ∈ Region.ready md ops listed := by simpa using hB.1.1
    have hst : qOp P ops C k (wpQuiet P ops C Lq l) a := by unfold qOp; simp only [h0]; exact h
    obtain ⟨v, hy, hK⟩ := yieldsIn_of_qOp h0 hst
    refine headQ_first h0 (Region.noSelect_spec hsel) hs hc hn hkn (fun _ _ hL => seqB_ready hL.1) l.length listed a inv (Region.free_spec h0 hB.1.2) hr hy
      (ih (k + 1) _ _ (fun j hj => ?_) (by omega) (inv.set hr hkn) hB.2 hK)
    have := hl (j + 1) (by simp; omega)
    simpa [Nat.add_assoc, Nat.add_comm 1 j] using this

/-- A region that draws: its first n operations quiet in the class, in the order of the text; the others forced behind them. -/
theorem wp_region_head {id : Nat} {Q : Exit → Act → World → Prop} {a : Act} {w : World} {l : List Oper} (n : Nat) (hm : P.follows .mixedOrders = true)
    (hB : Region.lexTailB .any l.toArray n = true) (hC : C { w with drawn := w.drawn + 1 })
    (h : wpQuiet P l.toArray C (fun a' => ∀ w', C w' → wpList P l.toArray Q (l.drop n) a' w') (l.take n) a) : (Code.region id l.toArray true).wp P Q a w := by
  simp only [Region.lexTailB, Bool.and_eq_true, decide_eq_true_eq] at hB
  obtain ⟨⟨⟨⟨hsel, hn⟩, hs⟩, hc⟩, hlex⟩ := hB
  have hn' : n < l.length := by simpa using hn
  have htl : (l.take n).length = n := by simp; omega
  have hdl : (l.drop n).length = l.toArray.size - n := by simp
  have inv0 : HeadInv .any l.toArray n (Array.replicate l.toArray.size false) :=
    ⟨by simp, fun j oj _ hl => (by rw [getD_replicate_false] at hl; cases hl), fun t _ ht => getD_in (by simpa using ht) (getD_replicate_false _ _)⟩
  have H := headQ_lex (md := .any) (C := C) (g := l.toArray.size - n) hsel hs hc hn (l.take n) 0 _ a (fun j hj => by
    have hj' : j < n := by rw [htl] at hj; exact hj
    simp [hj']) (by simpa using htl) inv0 (by rw [htl]; exact hlex) h
  refine wp_region_any hm ?_
  have := any_of_headQ (Q := Q) (C := C) (g := l.toArray.size - n) (fun listed a' w' hw' hL => by
    have := wpAny_of_seq (md := .any) (Q' := Q) (l.drop n) n listed a' w' (fun j => by simp [List.getElem?_drop]) (by rw [hdl]; exact hL.1) (hL.2 w' hw')
    rwa [hdl] at this) _ _ _ _ hC H
  rw [htl, show n + (l.toArray.size - n) = l.toArray.size by omega] at this
  exact this
end

theorem ret_int {k : IntKind} {a b : Int} (h : a = b) : Ending.returned (.int k a) = .returned (.int k b) := by rw [h]
theorem ret_bool {a b : Bool} (h : a = b) : Ending.returned (.bool a) = .returned (.bool b) := by rw [h]

/-- A world with another count of draws and some blocks more: one name. -/
def later (w : World) (p : Regrown) : World := grow (redrawn w p.d) p.os

theorem later_of_below {w w' : World} (h : Below w.heap.size w w') : ∃ p : Regrown, w' = later w p := regrown_of_below h
theorem below_later (w : World) (p : Regrown) : Below w.heap.size w (later w p) := below_regrown w p.d p.os
theorem later_later (w : World) (p q : Regrown) : ∃ r : Regrown, later (later w p) q = later w r :=
  later_of_below ((below_later w p).trans ((below_later (later w p) q).mono (below_later w p).size))
@[go_sem, simp] theorem size_later (w : World) (p : Regrown) : (later w p).heap.size = w.heap.size + p.os.size := by simp [later, grow, redrawn]
theorem block_lt_of_isSome {w : World} {a : Addr} (h : (w.cell? a).isSome = true) : a.block < w.heap.size := by
  obtain ⟨v, hv⟩ := Option.isSome_iff_exists.1 h
  exact World.block_lt_of_cell? _ _ hv
/-- Choices over block numbers, which the walk decides by linear arithmetic once the numbers are written out. -/
def pickLt {α : Type} (n s : Nat) (x y : α) : α := if n < s then x else y
def pickEq {α : Type} (n s : Nat) (x y : α) : α := if n = s then x else y
@[go_sem] theorem pickLt_eq {α : Type} (n s : Nat) (x y : α) : pickLt n s x y = if n < s then x else y := rfl
@[go_sem] theorem pickEq_eq {α : Type} (n s : Nat) (x y : α) : pickEq n s x y = if n = s then x else y := rfl
/-- What lies in a world's newer blocks: not looked into. -/
def farCell (w : World) (p : Regrown) (a : Addr) : Option Value := (later w p).cell? a
def farFrozen (w : World) (p : Regrown) (a : Addr) : Bool := (later w p).frozen? a
@[go_sem] theorem cell_later_pick (w : World) (p : Regrown) (n i : Nat) : (later w p).cell? ⟨n, i, none⟩ = pickLt n w.heap.size (w.cell? ⟨n, i, none⟩) (farCell w p ⟨n, i, none⟩) := by
  unfold pickLt
  split
  · exact (below_later w p).cell (by assumption)
  · rfl
@[go_sem] theorem frozen_later_pick (w : World) (p : Regrown) (n i : Nat) : (later w p).frozen? ⟨n, i, none⟩ = pickLt n w.heap.size (w.frozen? ⟨n, i, none⟩) (farFrozen w p ⟨n, i, none⟩) := by
  unfold pickLt
  split
  · exact (below_later w p).frozen (by assumption)
  · rfl
@[go_sem] theorem cell_alloc_pick (w : World) (c : Array Value) (t : TypeId) (n i : Nat) : (w.alloc (.cells c t)).cell? ⟨n, i, none⟩ = pickEq n w.heap.size (c[i]?) (w.cell? ⟨n, i, none⟩) := by
  unfold pickEq
  split
  · rename_i h; rw [h]; exact World.cell?_alloc_new _ _ _ _
  · exact World.cell?_alloc_old _ _ _ (by assumption)
@[go_sem] theorem frozen_alloc_pick (w : World) (c : Array Value) (t : TypeId) (n i : Nat) : (w.alloc (.cells c t)).frozen? ⟨n, i, none⟩ = pickEq n w.heap.size false (w.frozen? ⟨n, i, none⟩) := by
  unfold pickEq
  split
  · exact World.frozen?_alloc_at _ _ _ _ (by assumption)
  · exact frozen?_alloc_cells w c t _
@[go_sem] theorem cell_setCell_pick (w : World) (v : Value) (m j n i : Nat) : (w.setCell ⟨m, j, none⟩ v).cell? ⟨n, i, none⟩ = pickEq m n (pickEq j i ((w.cell? ⟨n, i, none⟩).map fun _ => v) (w.cell? ⟨n, i, none⟩)) (w.cell? ⟨n, i, none⟩) := by
  unfold pickEq
  by_cases h1 : m = n
  · subst h1
    rw [if_pos rfl]
    by_cases h2 : j = i
    · subst h2
      rw [if_pos rfl]
      cases h : w.cell? ⟨m, j, none⟩ with
      | none =>
        simp only [World.setCell, World.cell?, Array.getElem?_modify, if_true] at h ⊢
        cases hb : w.heap[m]? with
        | none => simp
        | some o =>
          cases o <;> simp_all
      | some u => rw [World.cell?_setCell_same _ _ _ h]; rfl
    · rw [if_neg h2]
      exact World.cell?_setCell_other _ _ _ _ (by simp)
  · rw [if_neg h1]
    exact World.cell?_setCell_other _ _ _ _ (by simp)
theorem later_drew (w : World) (p : Regrown) : (later w p).drew = later w ⟨p.d + 1, p.os⟩ := rfl

theorem below_later_of {B : Nat} {a w : World} (h : Below B a w) (hB : B ≤ w.heap.size) (p : Regrown) : Below B a (later w p) := h.trans ((below_later w p).mono hB)

section
variable {P : Program}
theorem wp_region_calm {id : Nat} {Q : Exit → Act → World → Prop} {a : Act} {w : World} {l : List Oper} (hm : P.follows .mixedOrders = true) (hB : Region.lexB .any l.toArray = true)
    (h : wpQuiet P l.toArray (fun w' => ∃ p : Regrown, w' = later w p) (fun a' => ∀ w', (∃ p : Regrown, w' = later w p) → Q .normal a' w') l a) : (Code.region id l.toArray true).wp P Q a w :=
  wp_region_quiet (C := fun w' => ∃ p : Regrown, w' = later w p) hm hB ⟨⟨w.drawn + 1, #[]⟩, by unfold later; rw [grow_empty]; rfl⟩ (by simpa using h)

theorem wp_region_calm_tail {id : Nat} {Q : Exit → Act → World → Prop} {a : Act} {w : World} {l : List Oper} (n : Nat) (hm : P.follows .mixedOrders = true) (hB : Region.lexTailB .any l.toArray n = true)
    (h : wpQuiet P l.toArray (fun w' => ∃ p : Regrown, w' = later w p) (fun a' => ∀ w', (∃ p : Regrown, w' = later w p) → wpList P l.toArray Q (l.drop n) a' w') (l.take n) a) : (Code.region id l.toArray true).wp P Q a w :=
  wp_region_head (C := fun w' => ∃ p : Regrown, w' = later w p) n hm hB ⟨⟨w.drawn + 1, #[]⟩, by unfold later; rw [grow_empty]; rfl⟩ h

/-- A callee's contract that ends in 'Below', met in a world of the class. -/
theorem calm_of {f : FuncId} {args : Array Value} {w : World} {p : Regrown} {v : Value}
    (h : Calls P f args (later w p) fun e w' => e = .returned v ∧ Below (later w p).heap.size (later w p) w') : Calls P f args (later w p) fun e w'' => e = .returned v ∧ ∃ q : Regrown, w'' = later w q :=
  h.mono fun _ _ ⟨he, hb⟩ => ⟨he, later_of_below ((below_later w p).trans (hb.mono (below_later w p).size))⟩
theorem calm_same {f : FuncId} {args : Array Value} {w : World} {p : Regrown} {v : Value}
    (h : Calls P f args (later w p) fun e w' => e = .returned v ∧ later w p = w') : Calls P f args (later w p) fun e w'' => e = .returned v ∧ ∃ q : Regrown, w'' = later w q :=
  h.mono fun _ _ ⟨he, hb⟩ => ⟨he, p, hb.symm⟩
end
end Go.Proofs.Ytokpdmlmlkkekaa

/- General laws, second part. -/
namespace Go.Proofs.Ytokpdmlmlkkekaa
set_option linter.unusedVariables false
open Go Go.RowKit

@[go_sem ↓] theorem run_max_int {P : Program} (ats : Array TypeId) (ty : TypeId) (k : IntKind) (a b : Int) (w : World) : (Builtin.max_ ats ty #[.int k a, .int k b]).run P w = .ok (.int k (max a b)) w := by
  have e : max a b = if b > a then b else a := by split <;> omega
  rw [e]; rfl
@[go_sem ↓] theorem run_min_int {P : Program} (ats : Array TypeId) (ty : TypeId) (k : IntKind) (a b : Int) (w : World) : (Builtin.min_ ats ty #[.int k a, .int k b]).run P w = .ok (.int k (min a b)) w := by
  have e : min a b = if b < a then b else a := by split <;> omega
  rw [e]; rfl
end Go.Proofs.Ytokpdmlmlkkekaa

/- Plain functions of chapter 9: tracks and pixels. No program in sight. -/
namespace Go.Proofs.Ytokpdmlmlkkekaa
set_option linter.unusedVariables false
structure Trk where
  sx : Int
  sy : Int
  sz : Int
  step : Int
  lines : Int
  near : Int
  bin : Int
  bins : Int
  east : Bool

/-- A right track, as bounds. -/
structure Trk.Ok (t : Trk) : Prop where
  sx1 : -100000000 ≤ t.sx
  sx2 : t.sx ≤ 100000000
  sy1 : -100000000 ≤ t.sy
  sy2 : t.sy ≤ 100000000
  sz1 : -100000000 ≤ t.sz
  sz2 : t.sz ≤ 100000000
  st0 : t.step ≠ 0
  st1 : -1000 ≤ t.step
  st2 : t.step ≤ 1000
  li1 : 1 ≤ t.lines
  li2 : t.lines ≤ 10000
  ne1 : 0 ≤ t.near
  ne2 : t.near ≤ 100000000
  bi1 : 1 ≤ t.bin
  bi2 : t.bin ≤ 1000
  bs1 : 1 ≤ t.bins
  bs2 : t.bins ≤ 100000

def inR (lo hi n : Int) : Bool := decide (lo ≤ n) && decide (n ≤ hi)
def offP (t : Trk) (x : Int) : Int := if t.east then x - t.sx else t.sx - x
def depthP (t : Trk) (z : Int) : Int := t.sz - z
def placeB (x y z : Int) : Bool := inR (-100000000) 100000000 x && (inR (-100000000) 100000000 y && inR (-100000000) 100000000 z)
def checkPlaceP (x y z : Int) : Int := if placeB x y z then 0 else 2
/-- The error of a track. -/
def checkTrackP (t : Trk) : Int :=
  if placeB t.sx t.sy t.sz then
    if t.step = 0 then 11
    else if inR (-1000) 1000 t.step && (inR 1 10000 t.lines && (inR 0 100000000 t.near && (inR 1 1000 t.bin && inR 1 100000 t.bins))) then 0 else 2
  else 2
/-- The first error of two. -/
def first2 (a b : Int) : Int := if a = 0 then b else a
def floorP (n b : Int) : Int := if b < 0 then (-n) / (-b) else n / b

theorem inR_iff {lo hi n : Int} : inR lo hi n = true ↔ lo ≤ n ∧ n ≤ hi := by simp [inR]
theorem placeB_iff {x y z : Int} : placeB x y z = true ↔ (-100000000 ≤ x ∧ x ≤ 100000000) ∧ (-100000000 ≤ y ∧ y ≤ 100000000) ∧ (-100000000 ≤ z ∧ z ≤ 100000000) := by
  simp [placeB, inR_iff]
theorem checkTrackP_ok {t : Trk} (h : checkTrackP t = 0) : t.Ok := by
  unfold checkTrackP at h
  split at h
  · rename_i hp
    split at h
    · omega
    · split at h
      · rename_i hs hb
        simp only [Bool.and_eq_true, inR_iff] at hb
        rw [placeB_iff] at hp
        constructor <;> omega
      · omega
  · omega

/-- Go's rounding down: the quotient towards 0, less 1 where something below 0 is left. -/
theorem floor_of_tdiv (n b : Int) (hb : 1 ≤ b) : (if n.tmod b < 0 then n.tdiv b - 1 else n.tdiv b) = n / b := by
  have h1 := Int.tmod_add_mul_tdiv n b
  have h2 := Int.emod_add_mul_ediv n b
  have h3 := Int.emod_nonneg n (show b ≠ 0 by omega)
  have h4 := Int.emod_lt_of_pos n (show 0 < b by omega)
  rw [Int.tdiv_eq_ediv, Int.tmod_eq_emod]
  have hs : b.sign = 1 := Int.sign_eq_one_of_pos (by omega)
  have hn : (b.natAbs : Int) = b := Int.natAbs_of_nonneg (by omega)
  rw [hs]
  by_cases h : 0 ≤ n ∨ b ∣ n
  · simp only [if_pos h]
    rw [if_neg (by omega)]; omega
  · simp only [if_neg h]
    have : n % b ≠ 0 := fun e => h (Or.inr (Int.dvd_of_emod_eq_zero e))
    rw [if_pos (by omega)]; omega
end Go.Proofs.Ytokpdmlmlkkekaa

/- The whole root, plain. -/
namespace Go.Proofs.Ytokpdmlmlkkekaa
set_option linter.unusedVariables false

theorem sq_lt_of_lt {a b : Int} (ha : 0 ≤ a) (h : a < b) : a * a < b * b :=
  Int.lt_of_le_of_lt (Int.mul_le_mul_of_nonneg_left (Int.le_of_lt h) ha) (Int.mul_lt_mul_of_pos_right h (by omega))
theorem lt_of_sq_lt {a b : Int} (hb : 0 ≤ b) (h : a * a < b * b) : a < b := by
  rcases Int.lt_or_le a b with h1 | h1
  · exact h1
  · have := Int.mul_le_mul h1 h1 hb (Int.le_trans hb h1); omega
theorem le_of_sq_le {a b : Int} (hb : 0 ≤ b) (h : a * a ≤ b * b) : a ≤ b := by
  rcases Int.lt_or_le b a with h1 | h1
  · have := sq_lt_of_lt hb h1; omega
  · exact h1

/-- The root digit by digit, as the reference finds it: bit is 2 ^ k. -/
def rootGo (n : Int) : Nat → Int → Int
  | 0, r => r
  | k + 1, r => rootGo n k (if (r + 2 ^ k) * (r + 2 ^ k) ≤ n then r + 2 ^ k else r)
def rootP (n : Int) : Int := rootGo n 31 0
def rootUpP (n : Int) : Int := if rootP n * rootP n < n then rootP n + 1 else rootP n

theorem rootGo_spec (n : Int) : ∀ (k : Nat) (r : Int), 0 ≤ r → r * r ≤ n → n < (r + 2 ^ k) * (r + 2 ^ k) →
    0 ≤ rootGo n k r ∧ rootGo n k r * rootGo n k r ≤ n ∧ n < (rootGo n k r + 1) * (rootGo n k r + 1)
  | 0, r, h0, h1, h2 => by simp only [rootGo]; exact ⟨h0, h1, by simpa using h2⟩
  | k + 1, r, h0, h1, h2 => by
    simp only [rootGo]
    have hp : (0 : Int) < 2 ^ k := Int.pow_pos (by omega)
    have he : (2 : Int) ^ (k + 1) = 2 ^ k + 2 ^ k := by rw [Int.pow_succ]; omega
    by_cases h : (r + 2 ^ k) * (r + 2 ^ k) ≤ n
    · rw [if_pos h]
      refine rootGo_spec n k _ (by omega) h ?_
      rw [he] at h2
      rw [Int.add_assoc]
      exact h2
    · rw [if_neg h]
      exact rootGo_spec n k r h0 h1 (by omega)

theorem rootP_spec (n : Int) (h0 : 0 ≤ n) (h1 : n < 4611686018427387904) : 0 ≤ rootP n ∧ rootP n * rootP n ≤ n ∧ n < (rootP n + 1) * (rootP n + 1) := by
  unfold rootP
  exact rootGo_spec n 31 0 (by omega) (by simpa using h0) (by simpa using h1)

theorem rootP_unique (n r : Int) (h0 : 0 ≤ r) (h1 : r * r ≤ n) (h2 : n < (r + 1) * (r + 1)) (h3 : n < 4611686018427387904) : rootP n = r := by
  have hn : 0 ≤ n := Int.le_trans (Int.mul_nonneg h0 h0) h1
  obtain ⟨s0, s1, s2⟩ := rootP_spec n hn h3
  have a : rootP n < r + 1 := lt_of_sq_lt (by omega) (by omega)
  have b : r < rootP n + 1 := lt_of_sq_lt (by omega) (by omega)
  omega

theorem rootP_le (n : Int) (h0 : 0 ≤ n) (h1 : n < 4611686018427387904) : rootP n ≤ 2147483647 := by
  obtain ⟨s0, s1, s2⟩ := rootP_spec n h0 h1
  have : rootP n < 2147483648 := lt_of_sq_lt (by omega) (by omega)
  omega

theorem sq_bd (a b : Int) (h1 : -b ≤ a) (h2 : a ≤ b) : 0 ≤ a * a ∧ a * a ≤ b * b := by
  rcases Int.le_total 0 a with h | h
  · exact ⟨Int.mul_nonneg h h, Int.mul_le_mul h2 h2 h (by omega)⟩
  · have : a * a = (-a) * (-a) := by rw [Int.neg_mul_neg]
    rw [this]
    exact ⟨Int.mul_nonneg (by omega) (by omega), Int.mul_le_mul (by omega) (by omega) (by omega) (by omega)⟩

/-- The line of a Y, the square of a slant, the bin of a slant that was rounded down. -/
def lineP (t : Trk) (y : Int) : Int := floorP (y - t.sy) t.step
def squareP (t : Trk) (x z : Int) : Int := offP t x * offP t x + depthP t z * depthP t z
def binP (t : Trk) (slant : Int) : Int := floorP (slant - t.near) t.bin

theorem offP_bd (t : Trk) (x : Int) (h1 : -100000000 ≤ t.sx) (h2 : t.sx ≤ 100000000) (x1 : -100000000 ≤ x) (x2 : x ≤ 100000000) : -200000000 ≤ offP t x ∧ offP t x ≤ 200000000 := by
  unfold offP; split <;> omega
theorem depthP_bd (t : Trk) (z : Int) (h1 : -100000000 ≤ t.sz) (h2 : t.sz ≤ 100000000) (x1 : -100000000 ≤ z) (x2 : z ≤ 100000000) : -200000000 ≤ depthP t z ∧ depthP t z ≤ 200000000 := by
  unfold depthP; omega
theorem squareP_bd (t : Trk) (x z : Int) (h1 : -100000000 ≤ t.sx) (h2 : t.sx ≤ 100000000) (k1 : -100000000 ≤ t.sz) (k2 : t.sz ≤ 100000000) (x1 : -100000000 ≤ x) (x2 : x ≤ 100000000)
    (z1 : -100000000 ≤ z) (z2 : z ≤ 100000000) : 0 ≤ squareP t x z ∧ squareP t x z ≤ 80000000000000000 := by
  obtain ⟨a1, a2⟩ := offP_bd t x h1 h2 x1 x2
  obtain ⟨b1, b2⟩ := depthP_bd t z k1 k2 z1 z2
  have a := sq_bd (offP t x) 200000000 a1 a2
  have b := sq_bd (depthP t z) 200000000 b1 b2
  unfold squareP
  omega
end Go.Proofs.Ytokpdmlmlkkekaa

/- Plain functions of chapter 9: lines, slants, pixels, boxes. No program in sight. -/
namespace Go.Proofs.Ytokpdmlmlkkekaa
set_option linter.unusedVariables false
/-- A pixel with heights. -/
structure Pix where
  line : Int
  bin : Int
  lo : Int
  hi : Int
/-- Two ranges, and an error. -/
structure BoxE where
  x1 : Int
  x2 : Int
  y1 : Int
  y2 : Int
  err : Int
def seenP (t : Trk) (x y z : Int) : Int := first2 (checkTrackP t) (checkPlaceP x y z)
def lineOfP (t : Trk) (x y z : Int) : Int × Int :=
  if seenP t x y z = 0 then (if inR 0 (t.lines - 1) (lineP t y) then (lineP t y, 0) else (0, 12)) else (0, seenP t x y z)
def slantOfP (t : Trk) (x y z : Int) : Int × Int × Int :=
  if seenP t x y z = 0 then (rootP (squareP t x z), rootUpP (squareP t x z), 0) else (0, 0, seenP t x y z)
def pixelOfP (t : Trk) (x y z : Int) : Int × Int × Int :=
  if seenP t x y z = 0 then
    if offP t x ≤ 0 then (0, 0, 15) else if depthP t z < 1 then (0, 0, 26)
    else if inR 0 (t.lines - 1) (lineP t y) && inR 0 (t.bins - 1) (binP t (rootP (squareP t x z))) then (lineP t y, binP t (rootP (squareP t x z)), 0) else (0, 0, 12)
  else (0, 0, seenP t x y z)
def heightsB (lo hi : Int) : Bool := inR (-100000) 100000 lo && inR (-100000) 100000 hi
def checkPixelP (t : Trk) (q : Pix) : Int :=
  if inR 0 (t.lines - 1) q.line && (inR 0 (t.bins - 1) q.bin && heightsB q.lo q.hi) then (if q.hi < q.lo then 9 else if t.sz ≤ q.hi then 26 else 0) else 2
def rowsP (t : Trk) (line : Int) : Int × Int :=
  if t.step < 0 then (t.sy + (line + 1) * t.step + 1, t.sy + line * t.step) else (t.sy + line * t.step, t.sy + (line + 1) * t.step - 1)
def columnsP (t : Trk) (lo hi : Int) : Int × Int := if t.east then (t.sx + lo, t.sx + hi) else (t.sx - hi, t.sx - lo)
def leastP (t : Trk) (q : Pix) : Int := (t.near + t.bin * q.bin) * (t.near + t.bin * q.bin) - depthP t q.lo * depthP t q.lo
def mostP (t : Trk) (q : Pix) : Int := (t.near + t.bin * q.bin + t.bin) * (t.near + t.bin * q.bin + t.bin) - 1 - depthP t q.hi * depthP t q.hi
def boxOfP (t : Trk) (q : Pix) : BoxE :=
  if checkTrackP t = 0 then
    if checkPixelP t q = 0 then
      if mostP t q < 0 then ⟨0, 0, 0, 0, 12⟩
      else if rootP (mostP t q) < rootUpP (max 1 (leastP t q)) then ⟨0, 0, 0, 0, 12⟩
      else ⟨(columnsP t (rootUpP (max 1 (leastP t q))) (rootP (mostP t q))).1, (columnsP t (rootUpP (max 1 (leastP t q))) (rootP (mostP t q))).2, (rowsP t q.line).1, (rowsP t q.line).2, 0⟩
    else ⟨0, 0, 0, 0, checkPixelP t q⟩
  else ⟨0, 0, 0, 0, checkTrackP t⟩

theorem seenP_ok {t : Trk} {x y z : Int} (h : seenP t x y z = 0) : t.Ok ∧ placeB x y z = true := by
  unfold seenP first2 at h
  split at h
  · rename_i h1
    refine ⟨checkTrackP_ok h1, ?_⟩
    unfold checkPlaceP at h
    split at h
    · assumption
    · omega
  · contradiction
/-- A right pixel, as bounds. -/
structure Pix.Ok (t : Trk) (q : Pix) : Prop where
  l1 : 0 ≤ q.line
  l2 : q.line ≤ t.lines - 1
  b1 : 0 ≤ q.bin
  b2 : q.bin ≤ t.bins - 1
  lo1 : -100000 ≤ q.lo
  lo2 : q.lo ≤ 100000
  hi1 : -100000 ≤ q.hi
  hi2 : q.hi ≤ 100000
  ord : q.lo ≤ q.hi
  top : q.hi < t.sz
theorem checkPixelP_ok {t : Trk} {q : Pix} (h : checkPixelP t q = 0) : q.Ok t := by
  unfold checkPixelP at h
  split at h
  · rename_i hb
    simp only [heightsB, Bool.and_eq_true, inR_iff] at hb
    split at h
    · omega
    · split at h
      · omega
      · constructor <;> omega
  · omega
theorem mul_bd {a b A B : Int} (a0 : 0 ≤ a) (a1 : a ≤ A) (b0 : 0 ≤ b) (b1 : b ≤ B) : 0 ≤ a * b ∧ a * b ≤ A * B :=
  ⟨Int.mul_nonneg a0 b0, Int.mul_le_mul a1 b1 b0 (by omega)⟩
theorem rootUpP_bd (n : Int) (h0 : 0 ≤ n) (h1 : n < 4611686018427387904) : 0 ≤ rootUpP n ∧ rootUpP n ≤ 2147483648 := by
  have a := rootP_spec n h0 h1
  have b := rootP_le n h0 h1
  unfold rootUpP
  split <;> omega
/-- The bounds that a walk of BoxOf wants. -/
theorem box_bd {t : Trk} {q : Pix} (o : t.Ok) (p : q.Ok t) :
    0 ≤ t.bin * q.bin ∧ t.bin * q.bin ≤ 100000000 ∧ 0 ≤ (t.near + t.bin * q.bin) * (t.near + t.bin * q.bin) ∧ (t.near + t.bin * q.bin) * (t.near + t.bin * q.bin) ≤ 40000000000000000 ∧
    0 ≤ (t.near + t.bin * q.bin + t.bin) * (t.near + t.bin * q.bin + t.bin) ∧ (t.near + t.bin * q.bin + t.bin) * (t.near + t.bin * q.bin + t.bin) ≤ 40000400001000000 ∧
    0 ≤ depthP t q.lo * depthP t q.lo ∧ depthP t q.lo * depthP t q.lo ≤ 10020010000000000 ∧ 0 ≤ depthP t q.hi * depthP t q.hi ∧ depthP t q.hi * depthP t q.hi ≤ 10020010000000000 := by
  obtain ⟨-, -, -, -, h_sz1, h_sz2, -, -, -, -, -, h_ne1, h_ne2, h_bi1, h_bi2, h_bs1, h_bs2⟩ := o
  obtain ⟨-, -, b1, b2, lo1, lo2, hi1, hi2, _, top⟩ := p
  have m := mul_bd (a := t.bin) (b := q.bin) (A := 1000) (B := 100000) (by omega) h_bi2 b1 (by omega)
  have s := sq_bd (t.near + t.bin * q.bin) 200000000 (by omega) (by omega)
  have s2 := sq_bd (t.near + t.bin * q.bin + t.bin) 200001000 (by omega) (by omega)
  have d1 := sq_bd (depthP t q.lo) 100100000 (by unfold depthP; omega) (by unfold depthP; omega)
  have d2 := sq_bd (depthP t q.hi) 100100000 (by unfold depthP; omega) (by unfold depthP; omega)
  omega
theorem rows_bd {t : Trk} {n : Int} (o : t.Ok) (h0 : 0 ≤ n) (h1 : n ≤ 10000) : -10000000 ≤ n * t.step ∧ n * t.step ≤ 10000000 := by
  obtain ⟨-, -, -, -, -, -, -, h1', h2', -, -, -, -, -, -, -, -⟩ := o
  rcases Int.le_total 0 t.step with h | h
  · have := mul_bd h0 h1 h h2'; omega
  · have := mul_bd h0 h1 (show 0 ≤ - t.step by omega) (show - t.step ≤ 1000 by omega)
    rw [Int.mul_neg] at this; omega
end Go.Proofs.Ytokpdmlmlkkekaa

/- Arrays and structs that are compared. -/
namespace Go.Proofs.Ytokpdmlmlkkekaa
set_option linter.unusedVariables false
open Go.RowKit
theorem equal_arr2 {P : Program} (n : Nat) (t e : TypeId) (x0 x1 y0 y1 : Value) (b0 b1 : Bool) (w : World) (ht : P.underlying t = some (.array 2 e)) (xs ys : Array Value) (sz : Nat) (hs : ∀ w, (sizeOf e).run P w = .ok sz w)
    (p0 : ∀ w, (part e xs 0).run P w = .ok x0 w) (p1 : ∀ w, (part e xs sz).run P w = .ok x1 w) (q0 : ∀ w, (part e ys 0).run P w = .ok y0 w) (q1 : ∀ w, (part e ys sz).run P w = .ok y1 w)
    (h0 : ∀ w, (Op.equalIn n e x0 y0).run P w = .ok b0 w) (h1 : ∀ w, (Op.equalIn n e x1 y1).run P w = .ok b1 w) :
    (Op.equalIn (n + 1) t (.agg xs) (.agg ys)).run P w = .ok (b0 && b1) w := by
  simp only [Op.equalIn, Sem.run_bind, run_underlying ht, Result.andThen_ok, hs]
  cases b0 <;> cases b1 <;> simp [Std.Legacy.Range.forIn_eq_forIn_range', Std.Legacy.Range.size, List.range', p0, p1, q0, q1, h0, h1]
theorem equal_int {P : Program} (n : Nat) (e : TypeId) (k : IntKind) (he : P.underlying e = some (.int k)) (a b : Int) (w : World) : (Op.equalIn (n + 1) e (.int k a) (.int k b)).run P w = .ok (a == b) w :=
  run_equalIn_int w n e k k a b he
theorem eqA2 (a b c d : Int) (w : World) : (Op.equalIn 10000 44 (.agg #[.int .i64 a, .int .i64 b]) (.agg #[.int .i64 c, .int .i64 d])).run Try.prog w = .ok (a == c && b == d) w :=
  equal_arr2 9999 _ _ (.int .i64 a) (.int .i64 b) (.int .i64 c) (.int .i64 d) _ _ w Try.underlying44 _ _ 1 (fun w => by kernel_rfl) (fun w => by kernel_rfl) (fun w => by kernel_rfl) (fun w => by kernel_rfl) (fun w => by kernel_rfl)
    (fun w => equal_int 9998 _ _ Try.underlying3 a c w) (fun w => equal_int 9998 _ _ Try.underlying3 b d w)
theorem equal_struct2 {P : Program} (n : Nat) (t : TypeId) (f0 f1 : Field) (x0 x1 y0 y1 : Value) (b0 b1 : Bool) (w : World) (ht : P.underlying t = some (.struct #[f0, f1])) (hp : P.stoodInHeld t = false) (xs ys : Array Value) (n0 : (f0.name == "_") = false) (n1 : (f1.name == "_") = false)
    (p0 : ∀ w, (part f0.type xs f0.offset).run P w = .ok x0 w) (p1 : ∀ w, (part f1.type xs f1.offset).run P w = .ok x1 w) (q0 : ∀ w, (part f0.type ys f0.offset).run P w = .ok y0 w) (q1 : ∀ w, (part f1.type ys f1.offset).run P w = .ok y1 w)
    (h0 : ∀ w, (Op.equalIn n f0.type x0 y0).run P w = .ok b0 w) (h1 : ∀ w, (Op.equalIn n f1.type x1 y1).run P w = .ok b1 w) :
    (Op.equalIn (n + 1) t (.agg xs) (.agg ys)).run P w = .ok (b0 && b1) w := by
  have n0' : f0.name ≠ "_" := by simpa using n0
  have n1' : f1.name ≠ "_" := by simpa using n1
  simp only [Op.equalIn, Sem.run_bind, run_underlying ht, Result.andThen_ok, run_program, hp, Bool.false_eq_true, if_false]
  cases b0 <;> cases b1 <;> simp [p0, p1, q0, q1, h0, h1, n0', n1']
noncomputable def fR0 : Field := (Try.prog.fieldsOf 27)[0]!
noncomputable def fR1 : Field := (Try.prog.fieldsOf 27)[1]!
theorem tyR0 : fR0.type = 3 := by kernel_rfl
theorem tyR1 : fR1.type = 3 := by kernel_rfl
theorem undR : Try.prog.underlying 27 = some (.struct #[fR0, fR1]) := by kernel_rfl
theorem eqRange (n : Nat) (a b c d : Int) (w : World) : (Op.equalIn (n + 2) 27 (.agg #[.int .i64 a, .int .i64 b]) (.agg #[.int .i64 c, .int .i64 d])).run Try.prog w = .ok (a == c && b == d) w :=
  equal_struct2 (n + 1) _ fR0 fR1 (.int .i64 a) (.int .i64 b) (.int .i64 c) (.int .i64 d) _ _ w undR (by kernel_rfl) _ _ (by kernel_rfl) (by kernel_rfl) (fun w => by kernel_rfl) (fun w => by kernel_rfl) (fun w => by kernel_rfl) (fun w => by kernel_rfl)
    (fun w => by rw [tyR0]; exact equal_int n 3 _ Try.underlying3 a c w) (fun w => by rw [tyR1]; exact equal_int n 3 _ Try.underlying3 b d w)
theorem eqR1 (a b c d : Int) (w : World) : (Op.equalIn 10000 27 (.agg #[.int .i64 a, .int .i64 b]) (.agg #[.int .i64 c, .int .i64 d])).run Try.prog w = .ok (a == c && b == d) w := eqRange 9998 a b c d w
theorem eqR2 (a b c d e f g h : Int) (w : World) : (Op.equalIn 10000 31 (.agg #[.int .i64 a, .int .i64 b, .int .i64 c, .int .i64 d]) (.agg #[.int .i64 e, .int .i64 f, .int .i64 g, .int .i64 h])).run Try.prog w = .ok ((a == e && b == f) && (c == g && d == h)) w :=
  equal_arr2 9999 _ 27 (.agg #[.int .i64 a, .int .i64 b]) (.agg #[.int .i64 c, .int .i64 d]) (.agg #[.int .i64 e, .int .i64 f]) (.agg #[.int .i64 g, .int .i64 h]) _ _ w Try.underlying31 _ _ 2 (fun w => by kernel_rfl) (fun w => by kernel_rfl) (fun w => by kernel_rfl) (fun w => by kernel_rfl) (fun w => by kernel_rfl)
    (fun w => eqRange 9997 a b e f w) (fun w => eqRange 9997 c d g h w)
attribute [go_sem] eqA2 eqR1 eqR2
end Go.Proofs.Ytokpdmlmlkkekaa

/- A range over a method value (a function with a bound receiver): one law, over an iterator that yields so many times. No program in sight. -/
namespace Go.Proofs.Ytokpdmlmlkkekaa
set_option linter.unusedVariables false
open Go Go.RowKit
variable {F : Fence} {n : Nat} {P : Program}

/-! In a round's frame an operation other than 'defer' does what it does elsewhere. -/
@[go_sem] theorem semAt_move (l : Nat) (ρ : Operand → Value) (d : Option Tmp) (x : Operand) (ty : TypeId) (pos : String) (af : Array Edge) (g : Option (Nat × Bool)) : Oper.semAt (some l) ρ ⟨d, .move x, ty, pos, af, g⟩ = execOp ρ ⟨d, .move x, ty, pos, af, g⟩ := rfl
@[go_sem] theorem semAt_assign (l : Nat) (ρ : Operand → Value) (d : Option Tmp) (x : Operand) (ty : TypeId) (pos : String) (af : Array Edge) (g : Option (Nat × Bool)) : Oper.semAt (some l) ρ ⟨d, .assign x, ty, pos, af, g⟩ = execOp ρ ⟨d, .assign x, ty, pos, af, g⟩ := rfl
@[go_sem] theorem semAt_pick (l : Nat) (ρ : Operand → Value) (d : Option Tmp) (c : Operand) (a : Operand) (b : Operand) (ty : TypeId) (pos : String) (af : Array Edge) (g : Option (Nat × Bool)) : Oper.semAt (some l) ρ ⟨d, .pick c a b, ty, pos, af, g⟩ = execOp ρ ⟨d, .pick c a b, ty, pos, af, g⟩ := rfl
@[go_sem] theorem semAt_alloc (l : Nat) (ρ : Operand → Value) (d : Option Tmp) (e : TypeId) (ty : TypeId) (pos : String) (af : Array Edge) (g : Option (Nat × Bool)) : Oper.semAt (some l) ρ ⟨d, .alloc e, ty, pos, af, g⟩ = execOp ρ ⟨d, .alloc e, ty, pos, af, g⟩ := rfl
@[go_sem] theorem semAt_box (l : Nat) (ρ : Operand → Value) (d : Option Tmp) (e : TypeId) (v : Operand) (ty : TypeId) (pos : String) (af : Array Edge) (g : Option (Nat × Bool)) : Oper.semAt (some l) ρ ⟨d, .box e v, ty, pos, af, g⟩ = execOp ρ ⟨d, .box e v, ty, pos, af, g⟩ := rfl
@[go_sem] theorem semAt_build (l : Nat) (ρ : Operand → Value) (d : Option Tmp) (t : TypeId) (ps : Array (Nat × Operand)) (ty : TypeId) (pos : String) (af : Array Edge) (g : Option (Nat × Bool)) : Oper.semAt (some l) ρ ⟨d, .build t ps, ty, pos, af, g⟩ = execOp ρ ⟨d, .build t ps, ty, pos, af, g⟩ := rfl
@[go_sem] theorem semAt_buildSlice (l : Nat) (ρ : Operand → Value) (d : Option Tmp) (t : TypeId) (n : Nat) (ps : Array (Nat × Operand)) (ty : TypeId) (pos : String) (af : Array Edge) (g : Option (Nat × Bool)) : Oper.semAt (some l) ρ ⟨d, .buildSlice t n ps, ty, pos, af, g⟩ = execOp ρ ⟨d, .buildSlice t n ps, ty, pos, af, g⟩ := rfl
@[go_sem] theorem semAt_load (l : Nat) (ρ : Operand → Value) (d : Option Tmp) (t : TypeId) (x : Operand) (ty : TypeId) (pos : String) (af : Array Edge) (g : Option (Nat × Bool)) : Oper.semAt (some l) ρ ⟨d, .load t x, ty, pos, af, g⟩ = execOp ρ ⟨d, .load t x, ty, pos, af, g⟩ := rfl
@[go_sem] theorem semAt_store (l : Nat) (ρ : Operand → Value) (d : Option Tmp) (t : TypeId) (x : Operand) (y : Operand) (ty : TypeId) (pos : String) (af : Array Edge) (g : Option (Nat × Bool)) : Oper.semAt (some l) ρ ⟨d, .store t x y, ty, pos, af, g⟩ = execOp ρ ⟨d, .store t x y, ty, pos, af, g⟩ := rfl
@[go_sem] theorem semAt_binOp (l : Nat) (ρ : Operand → Value) (d : Option Tmp) (op : BinOp) (t : TypeId) (x : Operand) (y : Operand) (u : TypeId) (ty : TypeId) (pos : String) (af : Array Edge) (g : Option (Nat × Bool)) : Oper.semAt (some l) ρ ⟨d, .binOp op t x y u, ty, pos, af, g⟩ = execOp ρ ⟨d, .binOp op t x y u, ty, pos, af, g⟩ := rfl
@[go_sem] theorem semAt_unOp (l : Nat) (ρ : Operand → Value) (d : Option Tmp) (op : UnOp) (t : TypeId) (x : Operand) (ty : TypeId) (pos : String) (af : Array Edge) (g : Option (Nat × Bool)) : Oper.semAt (some l) ρ ⟨d, .unOp op t x, ty, pos, af, g⟩ = execOp ρ ⟨d, .unOp op t x, ty, pos, af, g⟩ := rfl
@[go_sem] theorem semAt_convert (l : Nat) (ρ : Operand → Value) (d : Option Tmp) (s : TypeId) (t : TypeId) (x : Operand) (ty : TypeId) (pos : String) (af : Array Edge) (g : Option (Nat × Bool)) : Oper.semAt (some l) ρ ⟨d, .convert s t x, ty, pos, af, g⟩ = execOp ρ ⟨d, .convert s t x, ty, pos, af, g⟩ := rfl
@[go_sem] theorem semAt_makeSlice (l : Nat) (ρ : Operand → Value) (d : Option Tmp) (t : TypeId) (x : Operand) (y : Operand) (ty : TypeId) (pos : String) (af : Array Edge) (g : Option (Nat × Bool)) : Oper.semAt (some l) ρ ⟨d, .makeSlice t x y, ty, pos, af, g⟩ = execOp ρ ⟨d, .makeSlice t x y, ty, pos, af, g⟩ := rfl
@[go_sem] theorem semAt_slice (l : Nat) (ρ : Operand → Value) (d : Option Tmp) (t : TypeId) (x : Operand) (lo : Option Operand) (hi : Option Operand) (m : Option Operand) (ty : TypeId) (pos : String) (af : Array Edge) (g : Option (Nat × Bool)) : Oper.semAt (some l) ρ ⟨d, .slice t x lo hi m, ty, pos, af, g⟩ = execOp ρ ⟨d, .slice t x lo hi m, ty, pos, af, g⟩ := rfl
@[go_sem] theorem semAt_fieldAddr (l : Nat) (ρ : Operand → Value) (d : Option Tmp) (t : TypeId) (x : Operand) (f : Nat) (ty : TypeId) (pos : String) (af : Array Edge) (g : Option (Nat × Bool)) : Oper.semAt (some l) ρ ⟨d, .fieldAddr t x f, ty, pos, af, g⟩ = execOp ρ ⟨d, .fieldAddr t x f, ty, pos, af, g⟩ := rfl
@[go_sem] theorem semAt_field (l : Nat) (ρ : Operand → Value) (d : Option Tmp) (t : TypeId) (x : Operand) (f : Nat) (ty : TypeId) (pos : String) (af : Array Edge) (g : Option (Nat × Bool)) : Oper.semAt (some l) ρ ⟨d, .field t x f, ty, pos, af, g⟩ = execOp ρ ⟨d, .field t x f, ty, pos, af, g⟩ := rfl
@[go_sem] theorem semAt_indexAddr (l : Nat) (ρ : Operand → Value) (d : Option Tmp) (t : TypeId) (x : Operand) (y : Operand) (ty : TypeId) (pos : String) (af : Array Edge) (g : Option (Nat × Bool)) : Oper.semAt (some l) ρ ⟨d, .indexAddr t x y, ty, pos, af, g⟩ = execOp ρ ⟨d, .indexAddr t x y, ty, pos, af, g⟩ := rfl
@[go_sem] theorem semAt_index (l : Nat) (ρ : Operand → Value) (d : Option Tmp) (t : TypeId) (x : Operand) (y : Operand) (ty : TypeId) (pos : String) (af : Array Edge) (g : Option (Nat × Bool)) : Oper.semAt (some l) ρ ⟨d, .index t x y, ty, pos, af, g⟩ = execOp ρ ⟨d, .index t x y, ty, pos, af, g⟩ := rfl
@[go_sem] theorem semAt_extract (l : Nat) (ρ : Operand → Value) (d : Option Tmp) (x : Operand) (f : Nat) (ty : TypeId) (pos : String) (af : Array Edge) (g : Option (Nat × Bool)) : Oper.semAt (some l) ρ ⟨d, .extract x f, ty, pos, af, g⟩ = execOp ρ ⟨d, .extract x f, ty, pos, af, g⟩ := rfl
@[go_sem] theorem semAt_call (l : Nat) (ρ : Operand → Value) (d : Option Tmp) (c : Call) (ty : TypeId) (pos : String) (af : Array Edge) (g : Option (Nat × Bool)) : Oper.semAt (some l) ρ ⟨d, .call c, ty, pos, af, g⟩ = execOp ρ ⟨d, .call c, ty, pos, af, g⟩ := rfl

/-- Every block from B on lies as it lay. -/
structure KeepTop (B : Nat) (W W' : World) : Prop where
  size : W.heap.size ≤ W'.heap.size
  same : ∀ k, B ≤ k → k < W.heap.size → W'.heap[k]? = W.heap[k]?
theorem KeepTop.refl (B : Nat) (W : World) : KeepTop B W W := ⟨Nat.le_refl _, fun _ _ _ => rfl⟩
theorem KeepTop.trans {B : Nat} {X Y Z : World} (h : KeepTop B X Y) (k : KeepTop B Y Z) : KeepTop B X Z :=
  ⟨Nat.le_trans h.size k.size, fun i h1 h2 => (k.same i h1 (Nat.lt_of_lt_of_le h2 h.size)).trans (h.same i h1 h2)⟩
theorem KeepTop.mono {B B' : Nat} {X Y : World} (h : KeepTop B X Y) (hB : B ≤ B') : KeepTop B' X Y := ⟨h.size, fun i h1 h2 => h.same i (by omega) h2⟩
theorem KeepTop.below {B : Nat} {X Y : World} (h : Below X.heap.size X Y) : KeepTop B X Y := ⟨h.size, fun i _ h2 => h.block i h2⟩
theorem KeepTop.setCell {B : Nat} {X Y : World} (h : KeepTop B X Y) {p : Addr} (hp : p.block < B) (v : Value) : KeepTop B X (Y.setCell p v) :=
  ⟨by simpa [World.setCell] using h.size, fun i h1 h2 => (Below.heap_setCell _ _ _ _ (by omega)).trans (h.same i h1 h2)⟩

/-- An iterator with a bound receiver that yields N times, if it is let. -/
def IterOk (F : Fence) (n : Nat) (P : Program) (gf : FuncId) (bound : Array Value) (N : Nat) (enc : Nat → Array Value) (W : World) : Prop :=
  ∀ (l : Nat) (J : Nat → World → Prop) (Jx : World → Prop),
    (∀ k W1 W2, J k W1 → Below W.heap.size W1 W2 → J k W2) → (∀ W1 W2, Jx W1 → Below W.heap.size W1 W2 → Jx W2) →
    (∀ k W1, J k W1 → k < N → W.heap.size ≤ W1.heap.size → YieldAt F (n - 1) P l (enc k) W1 fun e W' =>
      (e = .returned (.bool true) ∧ J (k + 1) W' ∧ KeepTop W.heap.size W1 W') ∨ (e = .returned (.bool false) ∧ Jx W')) →
    J 0 W → CallsIn F n P gf (bound ++ #[.func (.yield l) #[] #[]]) W fun e W' => (∃ v, e = .returned v) ∧ (J N W' ∨ Jx W')

/-- How a round may be left. -/
def boundPost (B : Nat) (I : World → Prop) (Ix : Code → World → Prop) (W : World) : Exit → Act → World → Prop
  | .normal, _, W' => KeepTop B W W' ∧ I W'
  | .ret, _, W' => KeepTop B W W' ∧ Ix .ret W'
  | .exit id, _, W' => KeepTop B W W' ∧ Ix (.exit id) W'
  | .goto t, _, W' => KeepTop B W W' ∧ Ix (.goto t) W'
  | .panic _, _, _ => False
  | .outgrown, _, _ => False

theorem below_putObj {B : Nat} {W : World} {l : Nat} (hl : B ≤ l) (o : Obj) : Below B W (W.putObj l o) :=
  ⟨rfl, rfl, rfl, by simp, fun k hk => World.putObj_heap_other (by omega)⟩

theorem wpIn_rangeBound {g : Operand} {ps : Array Tmp} {assign body : Code} {Q : Exit → Act → World → Prop} {a : Act} {w : World}
    (hro : F.round = none) (h1 : 1 ≤ n) {gf : Nat} {bound : Array Value} (hg : a.eval g = .func (.func gf) bound #[]) (hFg : F.fn gf) (eg : ∀ args w, (callFunc gf args).run P w = .ok (.enter gf args) w)
    {N : Nat} {enc : Nat → Array Value} (hps : ∀ k, (enc k).size = ps.size)
    (hseq : ∀ W, Below w.heap.size w W → IterOk F (n - 1) P gf bound N enc W)
    (I : Nat → World → Prop) (Ix : Code → World → Prop) (hI : ∀ k W1 W2, I k W1 → Below w.heap.size W1 W2 → I k W2) (hIx : ∀ c W1 W2, Ix c W1 → Below w.heap.size W1 W2 → Ix c W2) (h0 : I 0 w) (f : Array Value → Nat → Array Value)
    (hassign : ∀ (l : Nat) (k : Nat) (W : World) (K : Act → World → Prop), K { tmps := f a.tmps k, defers := [] } W →
      assign.wpIn (F.inRound l) (n - 1 - 1) P (Exit.then K (fun _ _ _ => False)) { tmps := (ps.zip (enc k)).foldl (fun t (p, v) => t.setIfInBounds p v) a.tmps, defers := [] } W)
    (hbody : ∀ (l : Nat) (k : Nat) (W : World), I k W → k < N → w.heap.size ≤ W.heap.size → body.wpIn (F.inRound l) (n - 1 - 1) P (boundPost w.heap.size (I (k + 1)) Ix W) { tmps := f a.tmps k, defers := [] } W)
    (hdone : ∀ (W : World), I N W → W.heap[w.heap.size]? = some (.deferred (some [])) → Q .normal { a with defers := { target := .collected w.heap.size, args := #[] } :: a.defers } W)
    (hstop : ∀ (c : Code) (W : World), Ix c W → W.heap[w.heap.size]? = some (.deferred (some [])) → c.wpIn F n P Q { a with defers := { target := .collected w.heap.size, args := #[] } :: a.defers } W) :
    (Code.rangeFunc g ps assign body).wpIn F n P Q a w := by
  refine wpIn_rangeFunc ?_
  intro fn hfn
  rw [hro]
  obtain ⟨rec, hrec⟩ : ∃ rec : LoopState → Option Code → Loop, rec = fun st pe => { state := st, pending := pe, fn, tmps := a.tmps, params := ps, assign, body, defers := w.heap.size } := ⟨_, rfl⟩
  obtain ⟨W1, hW1⟩ : ∃ W1, (w.alloc (.deferred (some []))).alloc (.loop (rec .ready none)) = W1 := ⟨_, rfl⟩
  have hz1 : W1.heap.size = w.heap.size + 2 := by rw [← hW1]; simp
  have hL1 : W1.heap[w.heap.size + 1]? = some (.loop (rec .ready none)) := by
    rw [← hW1]; have := World.alloc_heap_new (w.alloc (.deferred (some []))) (.loop (rec .ready none)); rwa [World.size_alloc] at this
  have hK1 : W1.heap[w.heap.size]? = some (.deferred (some [])) := by
    rw [← hW1]; exact (Below.heap_alloc _ _ _ (by simp)).trans (World.alloc_heap_new w _)
  have hb1 : Below w.heap.size w W1 := by
    rw [← hW1]; exact ((Below.refl _ w).alloc (Nat.le_refl _) _).alloc (by simp) _
  refine ⟨w.heap.size + 1, [{ target := .collected w.heap.size, args := #[] }], W1, { target := .fn (.func gf) #[], args := bound ++ #[.func (.yield (w.heap.size + 1)) #[] #[]] }, W1, gf,
    bound ++ #[.func (.yield (w.heap.size + 1)) #[] #[]], W1, ?_, ?_, ?_, ?_, fun _ => h1, ?_⟩
  · rw [← hW1, hrec]; exact run_enterLoop_outer _ _ _ _ _
  · simp only [resolve, hg]
    simp [go_sem]
  · intro f' hf'; simp [Target.leads] at hf'; subst hf'; exact hFg
  · simp [invoke, go_sem, eg]
  · refine ((hseq W1 hb1) (w.heap.size + 1)
      (fun k W => I k W ∧ W.heap[w.heap.size + 1]? = some (.loop (rec .ready none)) ∧ W.heap[w.heap.size]? = some (.deferred (some [])))
      (fun W => ∃ c, Ix c W ∧ W.heap[w.heap.size + 1]? = some (.loop (rec .done (some c))) ∧ W.heap[w.heap.size]? = some (.deferred (some [])))
      (fun k A B hs hb => ⟨hI k A B hs.1 (hb.mono (by omega)), (hb.block _ (by omega)).trans hs.2.1, (hb.block _ (by omega)).trans hs.2.2⟩)
      (fun A B hs hb => by
        obtain ⟨c, hc, hl, hk⟩ := hs
        exact ⟨c, hIx c A B hc (hb.mono (by omega)), (hb.block _ (by omega)).trans hl, (hb.block _ (by omega)).trans hk⟩)
      ?_ ⟨hI 0 _ _ h0 hb1, hL1, hK1⟩).mono ?_
    · rintro k W ⟨hi, hl, hk⟩ hkN hWs
      have hlt : w.heap.size + 1 < W.heap.size := (Array.getElem?_eq_some_iff.1 hl).1
      have hy := run_yield (P := P) (args := enc k) hl (by rw [hrec]; simp [hps k])
      rw [hrec] at hy
      refine ⟨fn, _, assign, body, hy, roundIn_of_wpIn hfn (hassign _ k W _ ⟨_, run_beginRound hl (by rw [hrec]), ?_⟩)⟩
      obtain ⟨Wb, hWb⟩ : ∃ Wb, W.putObj (w.heap.size + 1) (.loop { rec .ready none with state := .busy }) = Wb := ⟨_, rfl⟩
      have hl2 : Wb.heap[w.heap.size + 1]? = some (.loop { rec .ready none with state := .busy }) := by rw [← hWb]; exact World.putObj_heap_same hlt
      have hk2 : Wb.heap[w.heap.size]? = some (.deferred (some [])) := by rw [← hWb]; exact (World.putObj_heap_other (by omega)).trans hk
      have hbb : Below w.heap.size W Wb := by rw [← hWb]; exact below_putObj (by omega) _
      have hWz : Wb.heap.size = W.heap.size := by rw [← hWb]; simp
      have hkt : KeepTop W1.heap.size W Wb := ⟨by omega, fun i h1 _ => by rw [← hWb]; exact World.putObj_heap_other (by omega)⟩
      rw [hWb]
      refine wpIn_mono (hbody _ k _ (hI k _ _ hi hbb) hkN (by omega)) ?_
      have fin : ∀ (jump : Option Code) (W3 : World), KeepTop w.heap.size Wb W3 →
          (Instr.endRound (w.heap.size + 1) jump).run P W3 = .ok (.bool jump.isNone) (W3.putObj (w.heap.size + 1) (.loop (rec (if jump.isNone then .ready else .done) jump))) ∧
          Below w.heap.size W3 (W3.putObj (w.heap.size + 1) (.loop (rec (if jump.isNone then .ready else .done) jump))) ∧
          (W3.putObj (w.heap.size + 1) (.loop (rec (if jump.isNone then .ready else .done) jump))).heap[w.heap.size + 1]? = some (.loop (rec (if jump.isNone then .ready else .done) jump)) ∧
          (W3.putObj (w.heap.size + 1) (.loop (rec (if jump.isNone then .ready else .done) jump))).heap[w.heap.size]? = some (.deferred (some [])) ∧
          KeepTop W1.heap.size W (W3.putObj (w.heap.size + 1) (.loop (rec (if jump.isNone then .ready else .done) jump))) := fun jump W3 hk3 => by
        have hl3 := (hk3.same _ (by omega) (by omega)).trans hl2
        have := run_endRound (P := P) jump hl3
        rw [hrec] at this ⊢
        refine ⟨this, below_putObj (by omega) _, World.putObj_heap_same (Array.getElem?_eq_some_iff.1 hl3).1, (World.putObj_heap_other (by omega)).trans ((hk3.same _ (by omega) (by omega)).trans hk2), ?_⟩
        refine hkt.trans ((hk3.mono (by omega)).trans ⟨by simp, fun i h1 _ => World.putObj_heap_other (by omega)⟩)
      rintro e a3 W3 hp
      cases e with
      | normal =>
        obtain ⟨hk3, hi3⟩ := hp
        obtain ⟨hr, hb3, hl4, hk4, ht⟩ := fin none W3 hk3
        exact ⟨_, _, hr, .inl ⟨rfl, ⟨hI _ _ _ hi3 hb3, hl4, hk4⟩, ht⟩⟩
      | ret =>
        obtain ⟨hk3, hi3⟩ := hp
        obtain ⟨hr, hb3, hl4, hk4, ht⟩ := fin (some .ret) W3 hk3
        exact ⟨_, _, hr, .inr ⟨rfl, .ret, hIx _ _ _ hi3 hb3, hl4, hk4⟩⟩
      | exit id =>
        obtain ⟨hk3, hi3⟩ := hp
        obtain ⟨hr, hb3, hl4, hk4, ht⟩ := fin (some (.exit id)) W3 hk3
        exact ⟨_, _, hr, .inr ⟨rfl, .exit id, hIx _ _ _ hi3 hb3, hl4, hk4⟩⟩
      | goto t =>
        obtain ⟨hk3, hi3⟩ := hp
        obtain ⟨hr, hb3, hl4, hk4, ht⟩ := fin (some (.goto t)) W3 hk3
        exact ⟨_, _, hr, .inr ⟨rfl, .goto t, hIx _ _ _ hi3 hb3, hl4, hk4⟩⟩
      | panic ch => exact hp.elim
      | outgrown => exact hp.elim
    · rintro e W2 ⟨⟨v, rfl⟩, (⟨hi, hl, hk⟩ | ⟨c, hi, hl, hk⟩)⟩
      · exact ⟨none, _, by have := run_endLoop (P := P) hl (by rw [hrec]; simp); rw [hrec] at this; exact this, hdone _ (hI _ _ _ hi (below_putObj (by omega) _)) ((World.putObj_heap_other (by omega)).trans hk)⟩
      · exact ⟨some c, _, by have := run_endLoop (P := P) hl (by rw [hrec]; simp); rw [hrec] at this; exact this, hstop c _ (hIx _ _ _ hi (below_putObj (by omega) _)) ((World.putObj_heap_other (by omega)).trans hk)⟩
end Go.Proofs.Ytokpdmlmlkkekaa

/- Floats: coarse bounds of conversions and of the square root, in the model's own words. No program in sight. -/
namespace Go.Proofs.Ytokpdmlmlkkekaa
set_option linter.unusedVariables false
open Ieee

theorem log2_lt_pow (m : Nat) (h : m ≠ 0) : m < 2 ^ (m.log2 + 1) := Nat.lt_log2_self
theorem pow_le_log2 (m : Nat) (h : m ≠ 0) : 2 ^ m.log2 ≤ m := Nat.log2_self_le h

/-- Cut to the nearest, at most one more than the quotient. -/
theorem cut_le (way : Toward) (neg : Bool) (n drop : Nat) : way.cut neg n drop ≤ n / (1 <<< min drop (n.log2 + 2)) + 1 := by
  unfold Toward.cut
  exact Nat.add_le_add_left (Bool.toNat_le _) _

theorem shl_one (k : Nat) : 1 <<< k = 2 ^ k := by rw [Nat.shiftLeft_eq, Nat.one_mul]

/-- The rung of a positive number of exponent L is at most that of 2 ^ (L + 1). -/
theorem nearest_le (m : Nat) (e : Int) (hm : m ≠ 0) (L : Int) (hL : e + m.log2 = L) (h1 : -1000 ≤ L) (h2 : L ≤ 1000) :
    double.nearest false m e ≤ (L + 1024).toNat * 2 ^ 52 := by
  unfold Format.nearest
  rw [if_neg hm]
  have hlp : double.leastPlace = -1074 := by decide
  have hfb : (double.fractionBits : Int) = 52 := rfl
  have hbin : double.binade = 2 ^ 52 := rfl
  simp only [hlp, hfb, hbin, hL]
  have hmax : max (L - 52) (-1074) = L - 52 := by omega
  rw [hmax]
  unfold Format.word
  simp only [Bool.false_eq_true, if_false]
  refine Nat.le_trans (Nat.min_le_left _ _) ?_
  have hkept : Toward.even.cut false (m <<< (e - (L - 52)).toNat) (L - 52 - e).toNat ≤ 2 ^ 53 := by
    have hlg : m < 2 ^ (m.log2 + 1) := log2_lt_pow m hm
    rcases Int.le_total 0 (e - (L - 52)) with h | h
    · -- no digit is dropped
      have hd : (L - 52 - e).toNat = 0 := by omega
      rw [hd]
      unfold Toward.cut
      simp only [Nat.zero_min, Nat.shiftLeft_zero, Nat.mod_one, Nat.div_one, Nat.mul_zero]
      have : m <<< (e - (L - 52)).toNat < 2 ^ 53 := by
        rw [Nat.shiftLeft_eq]
        have hk : (e - (L - 52)).toNat = 52 - m.log2 ∧ m.log2 ≤ 52 := by omega
        rw [hk.1]
        calc m * 2 ^ (52 - m.log2) < 2 ^ (m.log2 + 1) * 2 ^ (52 - m.log2) := Nat.mul_lt_mul_of_pos_right hlg (Nat.two_pow_pos _)
          _ = 2 ^ 53 := by rw [← Nat.pow_add]; congr 1; omega
      simp
      omega
    · have hs : (e - (L - 52)).toNat = 0 := by omega
      rw [hs, Nat.shiftLeft_zero]
      refine Nat.le_trans (cut_le _ _ _ _) ?_
      have hmin : min (L - 52 - e).toNat (m.log2 + 2) = m.log2 - 52 ∧ 52 ≤ m.log2 := by omega
      rw [hmin.1, shl_one]
      have : m / 2 ^ (m.log2 - 52) < 2 ^ 53 := by
        rw [Nat.div_lt_iff_lt_mul (Nat.two_pow_pos _), ← Nat.pow_add]
        have : 53 + (m.log2 - 52) = m.log2 + 1 := by omega
        rw [this]
        exact hlg
      omega
  have : (L - 52 - -1074).toNat = (L + 1022).toNat := by omega
  rw [this]
  have h3 : (L + 1024).toNat = (L + 1022).toNat + 2 := by omega
  rw [h3, Nat.add_mul]
  omega

/-- What is read of a rung that is not too great: a number of a bounded exponent. -/
theorem read_exp (r K : Nat) (hK : K ≤ 2040) (h : r ≤ K * 2 ^ 52) (hK1 : 1 ≤ K) : ∃ m e, double.read r = .number false m e ∧ (m = 0 ∨ e + (m.log2 : Int) ≤ (K : Int) - 1023) ∧ -1074 ≤ e := by
  have hsw : double.signWeight = 2 ^ 63 := rfl
  have hb : double.binade = 2 ^ 52 := rfl
  have hi : double.infRung = 2047 * 2 ^ 52 := rfl
  have hlp : double.leastPlace = -1074 := by decide
  have hr : r < 2 ^ 63 := by omega
  unfold Format.read
  simp only [hsw, hb, hi, hlp, Nat.mod_eq_of_lt hr, Nat.div_eq_of_lt hr]
  have hneg : ((0 % 2 == 1) : Bool) = false := rfl
  rw [hneg]
  by_cases h1 : r < 2 ^ 52
  · rw [if_pos h1]
    refine ⟨_, _, rfl, ?_, Int.le_refl _⟩
    by_cases h0 : r = 0
    · exact Or.inl h0
    · right
      have : r.log2 < 52 := (Nat.log2_lt h0).2 h1
      omega
  · rw [if_neg h1, if_pos (by omega)]
    refine ⟨_, _, rfl, Or.inr ?_, by omega⟩
    have hlog : (2 ^ 52 + r % 2 ^ 52).log2 = 52 := by
      have h2 : r % 2 ^ 52 < 2 ^ 52 := Nat.mod_lt _ (Nat.two_pow_pos _)
      rw [Nat.log2_eq_iff (by omega)]
      omega
    rw [hlog]
    have hd : r / 2 ^ 52 ≤ K := Nat.div_le_of_le_mul (by rw [Nat.mul_comm]; exact h)
    have hd1 : 1 ≤ r / 2 ^ 52 := (Nat.le_div_iff_mul_le (Nat.two_pow_pos _)).2 (by omega)
    omega

theorem log2_shl (m k : Nat) (hm : m ≠ 0) : (m <<< k).log2 = m.log2 + k := by
  have hp := Nat.two_pow_pos k
  have h0 : m <<< k ≠ 0 := by rw [Nat.shiftLeft_eq]; have := Nat.mul_pos (Nat.pos_of_ne_zero hm) hp; omega
  rw [Nat.log2_eq_iff h0, Nat.shiftLeft_eq, show m.log2 + k + 1 = (m.log2 + 1) + k by omega, Nat.pow_add, Nat.pow_add 2 (m.log2 + 1)]
  exact ⟨Nat.mul_le_mul_right _ (pow_le_log2 m hm), Nat.mul_lt_mul_of_pos_right (log2_lt_pow m hm) hp⟩

theorem rootFrom_sq (n : Nat) : ∀ (todo root : Nat), root * root ≤ n → Datum.rootFrom n todo root * Datum.rootFrom n todo root ≤ n
  | 0, root, h => by simpa [Datum.rootFrom] using h
  | todo + 1, root, h => by
    simp only [Datum.rootFrom]
    apply rootFrom_sq
    split
    · assumption
    · exact h

theorem log2_le_of_sq (r n : Nat) (hr : r ≠ 0) (h : r * r ≤ n) : r.log2 ≤ n.log2 / 2 := by
  have h1 := pow_le_log2 r hr
  have hn : n ≠ 0 := by
    have := Nat.mul_pos (Nat.pos_of_ne_zero hr) (Nat.pos_of_ne_zero hr); omega
  have h2 : 2 ^ (r.log2 + r.log2) ≤ n := by
    rw [Nat.pow_add]
    exact Nat.le_trans (Nat.mul_le_mul h1 h1) h
  have := (Nat.le_log2 hn).2 h2
  omega

/-- The root's exponent is at most half of the number's. -/
theorem root_exp (m : Nat) (e : Int) (hm : m ≠ 0) (L : Int) (hL : e + (m.log2 : Int) ≤ L) : ∃ m' e', Datum.root 54 (.number false m e) = some (.number false m' e') ∧ m' ≠ 0 ∧ e' + (m'.log2 : Int) ≤ L / 2 ∧ (e - 110) / 2 - 1 ≤ e' := by
  simp only [Datum.root]
  rw [if_neg hm]
  simp only [Bool.false_eq_true, if_false]
  generalize hmore : 2 * 54 - m.log2 + ((e - ((2 * 54 - m.log2 : Nat) : Int)) % 2).toNat = more
  have heven : (e - (more : Int)) % 2 = 0 := by omega
  have hnl : (m <<< more).log2 = m.log2 + more := by exact log2_shl m more hm
  have hn0 : m <<< more ≠ 0 := by
    rw [Nat.shiftLeft_eq]
    have := Nat.mul_pos (Nat.pos_of_ne_zero hm) (Nat.two_pow_pos more); omega
  have hsq := rootFrom_sq (m <<< more) ((m <<< more).log2 / 2 + 1) 0 (Nat.zero_le _)
  generalize hwh : Datum.rootFrom (m <<< more) ((m <<< more).log2 / 2 + 1) 0 = whole at hsq ⊢
  refine ⟨_, _, rfl, ?_, ?_, by omega⟩
  · intro h0
    have hw : whole = 0 := by omega
    rw [hw] at h0
    simp [Ne.symm hn0] at h0
  · have hb : (2 * whole + (whole * whole != m <<< more).toNat).log2 ≤ (m.log2 + more) / 2 + 1 := by
      generalize (whole * whole != m <<< more) = b
      have hbt : b.toNat ≤ 1 := by cases b <;> decide
      by_cases hw : whole = 0
      · rw [hw]
        have : (2 * 0 + b.toNat).log2 = 0 := by cases b <;> rfl
        omega
      · have h1 := log2_le_of_sq whole _ hw hsq
        rw [hnl] at h1
        have h2 : 2 * whole + b.toNat < 2 ^ (whole.log2 + 2) := by
          have := log2_lt_pow whole hw
          rw [Nat.pow_succ] at *
          omega
        have := (Nat.log2_lt (by omega)).2 h2
        omega
    have hbi : (((2 * whole + (whole * whole != m <<< more).toNat).log2 : Nat) : Int) ≤ (((m.log2 + more) / 2 + 1 : Nat) : Int) := by exact_mod_cast hb
    push_cast at hbi
    omega

/-- A number cut to a whole one. -/
theorem toInt_lt (m : Nat) (e : Int) (K : Nat) (h : m = 0 ∨ e + (m.log2 : Int) < K) : ∃ r : Nat, (Datum.number false m e).toInt .zero = some (r : Int) ∧ r < 2 ^ K := by
  refine ⟨Toward.zero.cut false (m <<< e.toNat) (-e).toNat, ?_, ?_⟩
  · simp [Datum.toInt, Datum.integral, signed]
  · have hz : Toward.zero.cut false (m <<< e.toNat) (-e).toNat = (m <<< e.toNat) / 2 ^ min (-e).toNat ((m <<< e.toNat).log2 + 2) := by
      unfold Toward.cut; simp [shl_one]
    rw [hz]
    rcases h with h | h
    · subst h; simp [Nat.two_pow_pos]
    · by_cases hm : m = 0
      · subst hm; simp [Nat.two_pow_pos]
      · have hlg := log2_lt_pow m hm
        rcases Int.le_total 0 e with he | he
        · have : (-e).toNat = 0 := by omega
          rw [this, Nat.zero_min, Nat.pow_zero, Nat.div_one, Nat.shiftLeft_eq]
          calc m * 2 ^ e.toNat < 2 ^ (m.log2 + 1) * 2 ^ e.toNat := Nat.mul_lt_mul_of_pos_right hlg (Nat.two_pow_pos _)
            _ = 2 ^ (m.log2 + 1 + e.toNat) := by rw [← Nat.pow_add]
            _ ≤ 2 ^ K := Nat.pow_le_pow_right (by omega) (by omega)
        · have : e.toNat = 0 := by omega
          rw [this, Nat.shiftLeft_zero, Nat.div_lt_iff_lt_mul (Nat.two_pow_pos _), ← Nat.pow_add]
          exact Nat.lt_of_lt_of_le hlg (Nat.pow_le_pow_right (by omega) (by omega))

/-- The root of a whole number below 2 ^ 59, as a float, cut: from 0 to 2 ^ 31. -/
theorem sqrt_bound (n : Int) (h0 : 0 ≤ n) (h1 : n < 576460752303423488) :
    ∃ b, double.sqrt (floatOfInt .f64 n) = some b ∧ ∃ r : Int, floatToIntVal .f64 b .i64 = some r ∧ 0 ≤ r ∧ r ≤ 2147483648 := by
  obtain ⟨k, rfl⟩ := Int.eq_ofNat_of_zero_le h0
  have hneg : decide ((k : Int) < 0) = false := by simp
  have hfl : floatOfInt .f64 (k : Int) = double.nearest false k 0 := by
    unfold floatOfInt FloatKind.nearest FloatKind.encode Format.write
    rw [hneg]; rfl
  rw [hfl]
  have fin : ∀ m e, (m = 0 ∨ e + (m.log2 : Int) < 31) → ∃ r : Int, (∀ b, double.read b = .number false m e → floatToIntVal .f64 b .i64 = some r) ∧ 0 ≤ r ∧ r ≤ 2147483648 := by
    intro m e h
    obtain ⟨r, hr, hlt⟩ := toInt_lt m e 31 h
    refine ⟨r, fun b hb => ?_, by omega, by omega⟩
    unfold floatToIntVal FloatKind.decode
    have : FloatKind.f64.format.read b = .number false m e := hb
    rw [this, hr]
    simp only
    rw [if_pos]
    have e1 : IntKind.i64.min = -9223372036854775808 := by decide
    have e2 : IntKind.i64.max = 9223372036854775807 := by decide
    rw [e1, e2]
    omega
  by_cases hk : k = 0
  · subst hk
    refine ⟨0, by decide +kernel, ?_⟩
    obtain ⟨r, h, hr⟩ := fin 0 (-1074) (Or.inl rfl)
    exact ⟨r, h 0 (by decide +kernel), hr⟩
  · have hl : k.log2 < 59 := (Nat.log2_lt hk).2 (by omega)
    have hn := nearest_le k 0 hk k.log2 (by omega) (by omega) (by omega)
    obtain ⟨m, e, hrd, hme, hlo⟩ := read_exp (double.nearest false k 0) (k.log2 + 1024) (by omega) (by
      have : ((k.log2 : Int) + 1024).toNat = k.log2 + 1024 := by omega
      rw [this] at hn; exact hn) (by omega)
    unfold Format.sqrt
    rw [hrd]
    by_cases hm : m = 0
    · subst hm
      have hroot : Datum.root (double.fractionBits + 2) (.number false 0 e) = some (.number false 0 e) := by simp [Datum.root]
      rw [hroot]
      refine ⟨_, rfl, ?_⟩
      obtain ⟨r, h, hr⟩ := fin 0 (-1074) (Or.inl rfl)
      refine ⟨r, h _ ?_, hr⟩
      show double.read (double.nearest false 0 e) = _
      have : double.nearest false 0 e = 0 := by unfold Format.nearest Format.word; simp
      rw [this]; decide +kernel
    · have hme' : e + (m.log2 : Int) ≤ 59 := by
        rcases hme with h | h
        · exact absurd h hm
        · omega
      obtain ⟨m', e', hroot, hm', hx, hlo'⟩ := root_exp m e hm 59 hme'
      have : Datum.root (double.fractionBits + 2) (.number false m e) = some (.number false m' e') := hroot
      rw [this]
      refine ⟨double.nearest false m' e', rfl, ?_⟩
      have hn' := nearest_le m' e' hm' _ rfl (by omega) (by omega)
      obtain ⟨m2, e2, hrd2, hme2, _⟩ := read_exp (double.nearest false m' e') 1053 (by omega) (Nat.le_trans hn' (Nat.mul_le_mul_right _ (by omega))) (by omega)
      obtain ⟨r, h, hr⟩ := fin m2 e2 (by rcases hme2 with h | h; exact Or.inl h; right; omega)
      exact ⟨r, h _ hrd2, hr⟩
end Go.Proofs.Ytokpdmlmlkkekaa
