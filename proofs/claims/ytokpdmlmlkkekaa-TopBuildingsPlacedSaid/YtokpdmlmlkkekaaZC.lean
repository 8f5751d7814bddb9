import Derived.Test.YtokpdmlmlkkekaaZN
import Derived.Test.YtokpdmlmlkkekaaZM
import Derived.Test.YtokpdmlmlkkekaaZK
import Derived.RangeFuncBox
/- Counts, in plain Lean: how many cells of each kind. -/
namespace Go.Proofs.Ytokpdmlmlkkekaa
set_option linter.unusedVariables false
open Go.RowKit
def cntRow (t : Trk) (r : Rel) (fi : Nat → Int) (row : Int) (c : Int) : Nat → Int
  | 0 => 0
  | k + 1 => cntRow t r fi row c k + if kindP t r fi row k = c then 1 else 0
def cntGrid (t : Trk) (r : Rel) (fi : Nat → Int) (c : Int) : Nat → Int
  | 0 => 0
  | n + 1 => cntGrid t r fi c n + cntRow t r fi n c r.cols.toNat
def countP (t : Trk) (r : Rel) (fi : Nat → Int) (c : Int) : Int := cntGrid t r fi c r.rows.toNat
theorem cntRow_bd (t : Trk) (r : Rel) (fi : Nat → Int) (row c : Int) : ∀ k, 0 ≤ cntRow t r fi row c k ∧ cntRow t r fi row c k ≤ (k : Int)
  | 0 => by unfold cntRow; omega
  | k + 1 => by
    have := cntRow_bd t r fi row c k
    unfold cntRow
    split <;> omega
theorem cntGrid_bd (t : Trk) (r : Rel) (fi : Nat → Int) (c : Int) (h : r.cols.toNat ≤ 64) : ∀ n, 0 ≤ cntGrid t r fi c n ∧ cntGrid t r fi c n ≤ (n * 64 : Nat)
  | 0 => by unfold cntGrid; omega
  | n + 1 => by
    have := cntGrid_bd t r fi c h n
    have := cntRow_bd t r fi n c r.cols.toNat
    unfold cntGrid
    omega
theorem kindP_cases (t : Trk) (r : Rel) (fi : Nat → Int) (row : Int) (k : Nat) : kindP t r fi row k = 0 ∨ kindP t r fi row k = 1 ∨ kindP t r fi row k = 2 ∨ kindP t r fi row k = 3 := by
  unfold kindP kindB
  split
  · simp
  · split
    · simp
    · split <;> simp
theorem cntRow_sum (t : Trk) (r : Rel) (fi : Nat → Int) (row : Int) : ∀ k, cntRow t r fi row 0 k + cntRow t r fi row 1 k + cntRow t r fi row 2 k + cntRow t r fi row 3 k = (k : Int)
  | 0 => by simp [cntRow]
  | k + 1 => by
    have h1 := cntRow_sum t r fi row k
    have h2 := kindP_cases t r fi row k
    simp only [cntRow]
    generalize kindP t r fi row k = kd at *
    rcases h2 with rfl | rfl | rfl | rfl <;> simp <;> omega
theorem cntGrid_sum (t : Trk) (r : Rel) (fi : Nat → Int) : ∀ n, cntGrid t r fi 0 n + cntGrid t r fi 1 n + cntGrid t r fi 2 n + cntGrid t r fi 3 n = ((n * r.cols.toNat : Nat) : Int)
  | 0 => by simp [cntGrid]
  | n + 1 => by
    have h1 := cntGrid_sum t r fi n
    have h2 := cntRow_sum t r fi n r.cols.toNat
    simp only [cntGrid]
    rw [Nat.add_mul, Nat.one_mul]
    omega
theorem count_sum {t : Trk} {r : Rel} {fi : Nat → Int} (o : r.Ok) : countP t r fi 0 + countP t r fi 1 + countP t r fi 2 + countP t r fi 3 = (r.ds.length : Int) := by
  unfold countP
  rw [cntGrid_sum, o.len]
  have h1 := o.r1
  have h2 := o.l1
  rw [Int.natCast_mul, Int.toNat_of_nonneg (by omega), Int.toNat_of_nonneg (by omega)]
/-- In a flat relief that lies below the satellite nothing is hidden, nothing is over. -/
theorem flat_hides {a c d : Int} (hd : 1 ≤ d) : hidesP a d c d = false := by
  unfold hidesP
  by_cases h : a < c
  · have : a * d < c * d := Int.mul_lt_mul_of_pos_right h (by omega)
    simp only [Bool.and_eq_false_iff, decide_eq_false_iff_not]
    exact Or.inr (by omega)
  · simp [h]
theorem sq_lt {a c : Int} (h1 : 0 ≤ a) (h : a < c) : a * a < c * c := by
  have := Int.mul_lt_mul_of_pos_right h (show 0 < c by omega)
  have := Int.mul_le_mul_of_nonneg_left (Int.le_of_lt h) h1
  omega
theorem flat_lies {a c d : Int} (ha : 1 ≤ a) (hc : 1 ≤ c) : liesP a d c d = false := by
  unfold liesP sqP
  rcases Int.lt_trichotomy a c with h | h | h
  · have := sq_lt (show 0 ≤ a by omega) h
    simp [h, Int.not_lt.2 (Int.le_of_lt h)]
    omega
  · subst h; simp
  · have := sq_lt (show 0 ≤ c by omega) h
    simp [h, Int.not_lt.2 (Int.le_of_lt h)]
    omega
end Go.Proofs.Ytokpdmlmlkkekaa

/- Placed: pixels of points; which cells have a pixel. -/
namespace Go.Proofs.Ytokpdmlmlkkekaa
set_option linter.unusedVariables false
open Go.RowKit
set_option maxHeartbeats 1000000 in
theorem square_w (t : Trk) (x y z : Int) (w : World) (h1 : -100000000 ≤ t.sx) (h2 : t.sx ≤ 100000000) (h3 : -200000000 ≤ x) (h4 : x ≤ 200000000)
     (k1 : -100000000 ≤ t.sz) (k2 : t.sz ≤ 100000000) (k3 : -200000000 ≤ z) (k4 : z ≤ 200000000) :
    Calls Try.prog 92 #[.agg #[.int .i64 t.sx, .int .i64 t.sy, .int .i64 t.sz, .int .i64 t.step, .int .i64 t.lines, .int .i64 t.near, .int .i64 t.bin, .int .i64 t.bins, .bool t.east], .agg #[.int .i64 x, .int .i64 y, .int .i64 z]] w fun e w' => e = .returned (.int .i64 (offP t x * offP t x + depthP t z * depthP t z)) ∧ Below w.heap.size w w' := by
  have b1 := sq_bd (offP t x) 300000000 (by unfold offP; split <;> omega) (by unfold offP; split <;> omega)
  have b2 := sq_bd (depthP t z) 300000000 (by unfold depthP; omega) (by unfold depthP; omega)
  obtain ⟨b11, b12⟩ := b1
  obtain ⟨b21, b22⟩ := b2
  go_enter Try.func92, Try.ntmps92
  go_wp2
  refine wp_region_calm (by kernel_rfl) (by kernel_rfl) ?_
  repeat (go_big_quiet_step (first | (go_at_call 94; exact calm_of (off_any t _ _ (by omega) (by omega) (by omega) (by omega))) | (go_at_call 80; exact calm_of (depth_any t _ _ (by omega) (by omega) (by omega) (by omega)))))
  refine wpQuiet_nil ?_
  rintro _ ⟨p1, rfl⟩
  go_wp2
  go_ret
  exact ⟨rfl, (by (repeat' (first | with_reducible exact Below.refl _ _ | (with_reducible refine below_later_of ?_ ?_ _) | (with_reducible refine Below.alloc ?_ ?_ _) | (with_reducible refine Below.setCell ?_ ?_ _) | (with_reducible refine Below.drew ?_) | (simp; done) | (simp; omega) | omega)))⟩
theorem sq_w {t : Trk} {x z : Int} (ot : t.Ok) (hx : Coo x) (hz : Coo z) : 0 ≤ squareP t x z ∧ squareP t x z ≤ 180000000000000000 := by
  obtain ⟨h3, h4⟩ := hx
  obtain ⟨k3, k4⟩ := hz
  have := ot.sx1; have := ot.sx2; have := ot.sz1; have := ot.sz2
  have b1 := sq_bd (offP t x) 300000000 (by unfold offP; split <;> omega) (by unfold offP; split <;> omega)
  have b2 := sq_bd (depthP t z) 300000000 (by unfold depthP; omega) (by unfold depthP; omega)
  unfold squareP
  omega
set_option maxHeartbeats 1000000 in
theorem pixel_w (t : Trk) (x y z : Int) (w : World) (o : t.Ok) (hx : Coo x) (hy : Coo y) (hz : Coo z) :
    Calls Try.prog 93 #[.agg #[.int .i64 t.sx, .int .i64 t.sy, .int .i64 t.sz, .int .i64 t.step, .int .i64 t.lines, .int .i64 t.near, .int .i64 t.bin, .int .i64 t.bins, .bool t.east], .agg #[.int .i64 x, .int .i64 y, .int .i64 z]] w
      fun e w' => e = .returned (.agg #[.int .i64 (lineP t y), .int .i64 (binP t (rootP (squareP t x z)))]) ∧ Below w.heap.size w w' := by
  have O := Lib.hid o
  obtain ⟨s1, s2⟩ := sq_w o hx hz
  obtain ⟨h_sx1, h_sx2, h_sy1, h_sy2, h_sz1, h_sz2, -, -, -, -, -, h_ne1, h_ne2, h_bi1, h_bi2, -, -⟩ := o
  obtain ⟨x1, x2⟩ := hx
  obtain ⟨y1, y2⟩ := hy
  obtain ⟨z1, z2⟩ := hz
  unfold squareP at s1 s2 ⊢
  have r1 := rootP_spec _ s1 (by omega)
  have r2 := rootP_le _ s1 (by omega)
  obtain ⟨r0, -, -⟩ := r1
  go_enter Try.func93, Try.ntmps93
  go_wp2
  refine wp_region_calm_tail 17 (by kernel_rfl) (by kernel_rfl) ?_
  simp only [List.take_succ_cons, List.take_zero, List.drop_succ_cons, List.drop_zero]
  repeat (go_big_quiet_step (first | (go_at_call 90; exact calm_of (line_any t _ _ O.out (by omega) (by omega))) | (go_at_call 92; exact calm_of (square_w t _ _ _ _ (by omega) (by omega) (by omega) (by omega) (by omega) (by omega) (by omega) (by omega))) | (go_at_call 82; exact calm_same (root_any _ _ (by omega) (by omega))) | (go_at_call 133; exact calm_same (floor_any _ _ _ (by omega) (by omega) (by omega) (by omega) (by omega)))))
  refine wpQuiet_nil ?_
  rintro _ ⟨p1, rfl⟩
  go_wp2
  refine bodyPost_ret ?_ rfl ⟨rfl, (by (repeat' (first | with_reducible exact Below.refl _ _ | (with_reducible refine below_later_of ?_ ?_ _) | (with_reducible refine Below.alloc ?_ ?_ _) | (with_reducible refine Below.setCell ?_ ?_ _) | (with_reducible refine Below.drew ?_) | (simp; done) | (simp; omega) | omega)))⟩
  first | (simp [results, Try.results93, go_sem, binP]; done) | simp [results, Try.results93, go_sem, binP, ↓IntWalk.iteOmega]
/-- The pixel of the point of a cell. -/
def pixLP (t : Trk) (r : Rel) (row : Int) : Int := lineP t (pyP r row)
def pixBP (t : Trk) (r : Rel) (fi : Nat → Int) (row col : Int) : Int := binP t (rootP (squareP t (pxP r col) (fi (bitAt r.ds (idxP r row col)))))
def hitB (t : Trk) (r : Rel) (fi : Nat → Int) (u v : Int) (row col : Int) : Bool := (pixLP t r row == u) && (pixBP t r fi row col == v)
/-- The first k cells, row by row, that have the pixel (u, v): their numbers. -/
def plRow (t : Trk) (r : Rel) (fi : Nat → Int) (u v : Int) (row : Nat) : Nat → List Value
  | 0 => []
  | k + 1 => plRow t r fi u v row k ++ if hitB t r fi u v row k then [.int .i64 row, .int .i64 k] else []
def plGrid (t : Trk) (r : Rel) (fi : Nat → Int) (u v : Int) : Nat → List Value
  | 0 => []
  | n + 1 => plGrid t r fi u v n ++ plRow t r fi u v n r.cols.toNat
def cnRow (t : Trk) (r : Rel) (fi : Nat → Int) (u v : Int) (row : Nat) : Nat → Nat
  | 0 => 0
  | k + 1 => cnRow t r fi u v row k + if hitB t r fi u v row k then 1 else 0
def cnGrid (t : Trk) (r : Rel) (fi : Nat → Int) (u v : Int) : Nat → Nat
  | 0 => 0
  | n + 1 => cnGrid t r fi u v n + cnRow t r fi u v n r.cols.toNat
theorem cnRow_le (t : Trk) (r : Rel) (fi : Nat → Int) (u v : Int) (row : Nat) : ∀ k, cnRow t r fi u v row k ≤ k
  | 0 => Nat.le_refl _
  | k + 1 => by
    have := cnRow_le t r fi u v row k
    unfold cnRow
    split <;> omega
theorem cnGrid_le (t : Trk) (r : Rel) (fi : Nat → Int) (u v : Int) (h : r.cols.toNat ≤ 64) : ∀ n, cnGrid t r fi u v n ≤ n * 64
  | 0 => Nat.le_refl _
  | n + 1 => by
    have := cnGrid_le t r fi u v h n
    have := cnRow_le t r fi u v n r.cols.toNat
    unfold cnGrid
    omega
end Go.Proofs.Ytokpdmlmlkkekaa

/- A region that draws its order and only reads and calls, within a round of a range over a function; the cells that have a pixel, counted through. -/
namespace Go.Proofs.Ytokpdmlmlkkekaa
set_option linter.unusedVariables false
open Go Go.RowKit Go.Sort
section
variable {P : Program} {ops : Array Oper} {Q : Exit → Act → World → Prop} {md : Region.Mode}
theorem oper_round {l m : Nat} {o : Oper} {a : Act} {w : World} {K : Act → World → Prop} (hd : ∀ c, o.op ≠ .defer c) (h : o.wp P a w K Q) : o.wpIn (Fence.wide.inRound l) m P a w K Q := by
  unfold Oper.wp at h
  unfold Oper.wpIn
  refine ⟨fun _ _ => trivial, ?_⟩
  rw [Oper.semAt_eq _ _ _ hd]
  generalize (execOp a.eval o).run P w = r at *
  have hdep : (Fence.wide.inRound l).depth.isSome = true → 1 ≤ m := fun h => by simp [Fence.wide, Fence.inRound] at h
  cases r with
  | ok x w' =>
    cases x <;> simp only [Oper.upon, Oper.uponIn] at h ⊢
    all_goals first
      | exact h
      | exact ⟨hdep, callsIn_round h⟩
      | exact ⟨hdep, fun c cs _ => let ⟨v, w'', r, s⟩ := h c cs; ⟨v, w'', r, stepsIn_wide.2 s⟩⟩
  | halt x w' => cases x <;> simp only [Oper.upon, Oper.uponIn] at h ⊢ <;> exact h
theorem any_round {l m : Nat} (hd : ∀ (i : Nat) (o : Oper) (c : Call), ops[i]? = some o → o.op ≠ .defer c) (hQ : ¬ LetsOut Q) : ∀ (fuel : Nat) (listed : Array Bool) (a : Act) (w : World), wpAny P md ops Q fuel listed a w → wpAnyIn (Fence.wide.inRound l) m P md ops Q fuel listed a w
  | 0, _, _, _, h => h
  | fuel + 1, listed, a, w, h => by
    refine ⟨h.1, fun i hi => ?_⟩
    have h2 := h.2 i hi
    refine wpOpIn_mono (K := wpAny P md ops Q fuel (listed.setIfInBounds i true)) (fun a w h => any_round hd hQ fuel _ a w h) ?_
    unfold wpOp at h2
    unfold wpOpIn
    cases ho : ops[i]? with
    | none => simpa [ho] using h2
    | some o =>
      simp only [ho] at h2 ⊢
      split
      · rename_i hw
        rw [if_pos hw] at h2
        exact oper_round (fun c => hd i o c ho) (h2.resolve_right fun h => hQ h.2)
      · rename_i hw
        rw [if_neg hw] at h2
        exact ⟨fun _ _ => trivial, h2⟩
def noDefer (l : List Oper) : Bool := l.all fun o => match o.op with | .defer _ => false | _ => true
theorem noDefer_at {l : List Oper} (h : noDefer l = true) : ∀ (i : Nat) (o : Oper) (c : Call), l.toArray[i]? = some o → o.op ≠ .defer c := fun i o c ho hc => by
  have := List.all_eq_true.1 h o (List.mem_of_getElem? (by simpa using ho))
  rw [hc] at this
  cases this
theorem boundPost_in {B : Nat} {I : World → Prop} {Ix : Code → World → Prop} {W : World} : ¬ LetsOut (boundPost B I Ix W) := fun ⟨_, _, h⟩ => h
theorem wpIn_region_calm {r m : Nat} {id : Nat} {a : Act} {w : World} {l : List Oper} (hQ : ¬ LetsOut Q) (hm : P.follows .mixedOrders = true) (hB : Region.lexB .any l.toArray = true) (hd : noDefer l = true)
    (h : wpQuiet P l.toArray (fun w' => ∃ p : Regrown, w' = later w p) (fun a' => ∀ w', (∃ p : Regrown, w' = later w p) → Q .normal a' w') l a) : (Code.region id l.toArray true).wpIn (Fence.wide.inRound r) m P Q a w := by
  simp only [Region.lexB, Bool.and_eq_true] at hB
  refine wpIn_region_any hm (any_round (noDefer_at hd) hQ _ _ _ _ ?_)
  refine wpAny_of_quiet (C := fun w' => ∃ p : Regrown, w' = later w p) (Q := fun a' => ∀ w', (∃ p : Regrown, w' = later w p) → Q .normal a' w') (fun _ w' hw' h => h w' hw') _ _ _ _ ⟨⟨w.drawn + 1, #[]⟩, by unfold later; rw [grow_empty]; rfl⟩ ?_
  have := wpAnyQ_lex (C := fun w' => ∃ p : Regrown, w' = later w p) (md := .any) hB.1 l 0 (Array.replicate l.toArray.size false) a (by simp) (by simpa using hB.2) h
  simpa using this
end
/-- Cells counted through: cell number k lies in row k / nc, column k % nc. -/
def plNum (t : Trk) (r : Rel) (fi : Nat → Int) (u v : Int) (nc : Nat) : Nat → List Value
  | 0 => []
  | k + 1 => plNum t r fi u v nc k ++ if hitB t r fi u v ((k / nc : Nat) : Int) ((k % nc : Nat) : Int) then [.int .i64 ((k / nc : Nat) : Int), .int .i64 ((k % nc : Nat) : Int)] else []
def cnNum (t : Trk) (r : Rel) (fi : Nat → Int) (u v : Int) (nc : Nat) : Nat → Nat
  | 0 => 0
  | k + 1 => cnNum t r fi u v nc k + if hitB t r fi u v ((k / nc : Nat) : Int) ((k % nc : Nat) : Int) then 1 else 0
theorem num_row (t : Trk) (r : Rel) (fi : Nat → Int) (u v : Int) (nc n : Nat) : ∀ j, j ≤ nc → plNum t r fi u v nc (n * nc + j) = plNum t r fi u v nc (n * nc) ++ plRow t r fi u v n j ∧ cnNum t r fi u v nc (n * nc + j) = cnNum t r fi u v nc (n * nc) + cnRow t r fi u v n j
  | 0, _ => by simp [plRow, cnRow]
  | j + 1, h => by
    obtain ⟨h1, h2⟩ := num_row t r fi u v nc n j (by omega)
    have e1 : (n * nc + j) / nc = n := by rw [Nat.mul_comm, Nat.mul_add_div (by omega), Nat.div_eq_of_lt (by omega), Nat.add_zero]
    have e2 : (n * nc + j) % nc = j := by rw [Nat.mul_comm, Nat.mul_add_mod, Nat.mod_eq_of_lt (by omega)]
    rw [← Nat.add_assoc]
    refine ⟨?_, ?_⟩
    · rw [plNum, h1, e1, e2, plRow, List.append_assoc]
    · rw [cnNum, h2, e1, e2, cnRow, Nat.add_assoc]
theorem num_grid (t : Trk) (r : Rel) (fi : Nat → Int) (u v : Int) (nc : Nat) (hnc : r.cols.toNat = nc) : ∀ n, plNum t r fi u v nc (n * nc) = plGrid t r fi u v n ∧ cnNum t r fi u v nc (n * nc) = cnGrid t r fi u v n
  | 0 => by simp [plNum, cnNum, plGrid, cnGrid]
  | n + 1 => by
    obtain ⟨h1, h2⟩ := num_grid t r fi u v nc hnc n
    obtain ⟨k1, k2⟩ := num_row t r fi u v nc n nc (Nat.le_refl _)
    rw [Nat.add_mul, Nat.one_mul, k1, k2, h1, h2, plGrid, cnGrid, hnc]
    exact ⟨rfl, rfl⟩
theorem cnNum_le (t : Trk) (r : Rel) (fi : Nat → Int) (u v : Int) (nc : Nat) : ∀ k, cnNum t r fi u v nc k ≤ k
  | 0 => Nat.le_refl _
  | k + 1 => by
    have := cnNum_le t r fi u v nc k
    unfold cnNum
    split <;> omega
end Go.Proofs.Ytokpdmlmlkkekaa
