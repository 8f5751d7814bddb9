/- Shadows: a raised relief; masks as cells. -/
import Derived.Test.YtokpdmlmlkkekaaZN
import Derived.Test.YtokpdmlmlkkekaaM7
import Derived.Test.YtokpdmlmlkkekaaZO
import Derived.Laws.FloatArith
namespace Go.Proofs.Ytokpdmlmlkkekaa
set_option linter.unusedVariables false
open Go.RowKit
/-- Block g holds the kinds of a row. -/
def KindsAt (w : World) (g : Nat) (t : Trk) (r : Rel) (fi : Nat → Int) (row : Int) (n : Nat) : Prop := ∀ k : Nat, k < n → w.cell? ⟨g, k, none⟩ = some (.int .i64 (kindP t r fi row k))
theorem KindsAt.below {w w' : World} {g B : Nat} {t : Trk} {r : Rel} {fi : Nat → Int} {row : Int} {n : Nat} (h : KindsAt w g t r fi row n) (hg : g < B) (hw : Below B w w') : KindsAt w' g t r fi row n := fun k hk =>
  (hw.cell (p := ⟨g, k, none⟩) hg).trans (h k hk)
theorem maskRow_k (t : Trk) (r : Rel) (a : Option Addr) (cap n : Nat) (row : Int) (w : World) (h : RelAt feB intB w r a) (hm : maskErrP feB intB t r row = 0) (hn : r.cols.toNat = n) :
    Calls Try.prog 32 #[.agg #[.int .i64 t.sx, .int .i64 t.sy, .int .i64 t.sz, .int .i64 t.step, .int .i64 t.lines, .int .i64 t.near, .int .i64 t.bin, .int .i64 t.bins, .bool t.east], .agg #[.int .i64 r.x, .int .i64 r.y, .int .i64 r.cell, .int .i64 r.rows, .int .i64 r.cols, .slice a r.ds.length cap], .int .i64 row] w fun e w' => ∃ g, e = .returned (.tuple #[.slice (some ⟨g, 0, none⟩) n n, .int .i64 0]) ∧ g < w'.heap.size ∧ KindsAt w' g t r intB row n ∧ Below w.heap.size w w' := by
  subst hn
  refine (maskRow_ok feB intB t r a cap row w h hm).mono ?_
  rintro e w' ⟨g, rfl, ho, hb⟩
  refine ⟨g, rfl, (ho.lt g rfl).2, fun k hk => ?_, hb⟩
  rw [ho.cellAt k (by omega)]
  unfold kindsP
  simp [hk]
/-- The float of a sum. -/
theorem num_nearest {n : Int} (h : n.natAbs < 16777216) : FNum Ieee.single (floatOfInt .f32 n) n := fnum_int good_single h
theorem raise_bits {b : Nat} {by_ : Int} (hb : feB b = 0) (h1 : 0 ≤ by_) (h2 : by_ ≤ 200000) :
    ∃ v, FNum Ieee.single v (intB b + by_) ∧ ∀ w, (binOp .add 75 (.float .f32 b) (.float .f32 (floatOfInt .f32 by_))).run Try.prog w = .ok (.float .f32 v) w := by
  obtain ⟨k1, k2, k3⟩ := feB_zero hb
  obtain ⟨v, hv, hn⟩ := add_num good_single k1 (num_nearest (n := by_) (by omega)) (show (intB b + by_).natAbs < 2 ^ (Ieee.single.fractionBits + 1) from Nat.lt_of_lt_of_le (show (intB b + by_).natAbs < 1000000 by omega) (by decide))
  exact ⟨v, hn, fun w => run_float_arith w .add _ .f32 _ _ v hv⟩
theorem reData_ok {r : Rel} {ds : List Nat} (o : r.Ok) (h : ds.length = r.ds.length) : (reData r ds).Ok := by
  obtain ⟨a1, a2, a3, a4, a5, a6, a7, a8, a9, a10, a11⟩ := o
  exact ⟨a1, a2, a3, a4, a5, a6, a7, a8, a9, a10, by rw [show (reData r ds).ds.length = r.ds.length from h]; exact a11⟩
theorem lViewErr_re (t : Trk) (r : Rel) (ds : List Nat) (a : Option Addr) (cap : Nat) (w : World) (hd : ds.length = r.ds.length) (hl : r.ds.length ≤ 1000000000) (hs : SrcAt w a ds) {e0 : Int} (he : viewErrP feB intB t (reData r ds) = e0) :
    Calls Try.prog 35 #[.agg #[.int .i64 t.sx, .int .i64 t.sy, .int .i64 t.sz, .int .i64 t.step, .int .i64 t.lines, .int .i64 t.near, .int .i64 t.bin, .int .i64 t.bins, .bool t.east], .agg #[.int .i64 r.x, .int .i64 r.y, .int .i64 r.cell, .int .i64 r.rows, .int .i64 r.cols, .slice a r.ds.length cap]] w fun e w' => e = .returned (.int .i64 e0) ∧ Below w.heap.size w w' := by
  have := lViewErr t (reData r ds) a cap w (by rw [show (reData r ds).ds.length = r.ds.length from hd]; exact hl) hs he
  rw [show (reData r ds).ds.length = r.ds.length from hd] at this
  exact this
theorem maskRow_re (t : Trk) (r : Rel) (ds : List Nat) (a : Option Addr) (cap n : Nat) (row : Int) (w : World) (hd : ds.length = r.ds.length) (h : RelAt feB intB w (reData r ds) a) (hm : maskErrP feB intB t (reData r ds) row = 0) (hn : r.cols.toNat = n) :
    Calls Try.prog 32 #[.agg #[.int .i64 t.sx, .int .i64 t.sy, .int .i64 t.sz, .int .i64 t.step, .int .i64 t.lines, .int .i64 t.near, .int .i64 t.bin, .int .i64 t.bins, .bool t.east], .agg #[.int .i64 r.x, .int .i64 r.y, .int .i64 r.cell, .int .i64 r.rows, .int .i64 r.cols, .slice a r.ds.length cap], .int .i64 row] w fun e w' => ∃ g, e = .returned (.tuple #[.slice (some ⟨g, 0, none⟩) n n, .int .i64 0]) ∧ g < w'.heap.size ∧ KindsAt w' g t (reData r ds) intB row n ∧ Below w.heap.size w w' := by
  have := maskRow_k t (reData r ds) a cap n row w h hm hn
  rw [show (reData r ds).ds.length = r.ds.length from hd] at this
  exact this
theorem floatsAt_set {w : World} {b : Nat} {ds : List Nat} (h : FloatsAt w b 0 ds) {i v : Nat} (hi : i < ds.length) : FloatsAt (w.setCell ⟨b, i, none⟩ (.float .f32 v)) b 0 (ds.set i v) := fun k hk => by
  rw [List.length_set] at hk
  rw [bitAt_set hi, Nat.zero_add]
  have hk' := h k hk
  rw [Nat.zero_add] at hk'
  by_cases e : k = i
  · subst e
    rw [if_pos rfl, World.cell?_setCell_same _ _ _ hk']
  · rw [if_neg e, World.cell?_setCell_other _ _ _ _ (by intro h; simp at h <;> omega)]
    exact hk'
/-- All that the shadow law says of a cell: whether it is in shadow, what Blocker returns of it. -/
theorem block_shadow {t : Trk} {r : Rel} {row : Int} {k n : Nat} (hv : viewErrP feB intB t r = 0) (hn : r.cols.toNat = n) (hh : hasCellB r row k = true) (hs : anyShadow t r intB row k n = false) : blockP feB intB t r row k = (0, 12) := by
  have h0 : bestP t r intB row k n < 0 := by
    refine Int.lt_of_not_ge fun h => ?_
    rw [best_shadow.1 h] at hs
    cases hs
  unfold blockP
  rw [if_pos hv, if_pos hh, hn, if_pos h0]
theorem block_hidden {t : Trk} {r : Rel} {row : Int} {k n : Nat} (o : r.Ok) (hv : viewErrP feB intB t r = 0) (hn : r.cols.toNat = n) (hh : hasCellB r row k = true) (hs : anyShadow t r intB row k n = true) :
    ∃ j : Nat, blockP feB intB t r row k = ((j : Int), (0 : Int)) ∧ j < n ∧ (t.east = true → j < k) ∧ (t.east = false → k < j) := by
  have h0 := best_shadow.2 hs
  obtain ⟨j, h1, h2, h3⟩ := best_hides h0
  refine ⟨j, ?_, h2, fun he => ?_, fun he => ?_⟩
  · unfold blockP
    rw [if_pos hv, if_pos hh, hn, if_neg (by omega), h1]
  · have := so_east o he (hides_iff.1 h3).1; omega
  · have := so_west o he (hides_iff.1 h3).1; omega
theorem mask_ok {t : Trk} {r : Rel} {row : Int} (hv : viewErrP feB intB t r = 0) (h1 : 0 ≤ row) (h2 : row < r.rows) : maskErrP feB intB t r row = 0 := by
  unfold maskErrP
  rw [if_pos hv, if_pos (inR_iff.2 ⟨h1, by omega⟩)]
theorem so_pos {t : Trk} {r : Rel} (hb : ¬ BadOff t r) (o : r.Ok) {k : Int} (h1 : 0 ≤ k) (h2 : k < r.cols) : 1 ≤ soP t r k := by
  obtain ⟨n, hn⟩ : ∃ n : Nat, k = n := ⟨k.toNat, by omega⟩
  subst hn
  refine Int.not_lt.1 fun h => hb ⟨n, ?_, ?_⟩
  · have := (idx_lt o (row := 0) (col := n) (by omega) (by have := o.r1; omega) (by omega) h2).2.2.2
    have e : idxP r 0 n = n := by unfold idxP; omega
    rw [e] at this; exact this
  · unfold offK
    rw [Nat.mod_eq_of_lt (by omega)]
    omega
end Go.Proofs.Ytokpdmlmlkkekaa
