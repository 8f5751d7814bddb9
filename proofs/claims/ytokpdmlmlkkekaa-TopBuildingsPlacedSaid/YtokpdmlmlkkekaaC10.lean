/- Counts and Placed, as the law meets them. -/
import Derived.Test.YtokpdmlmlkkekaaC9
import Derived.Test.YtokpdmlmlkkekaaC2
namespace Go.Proofs.Ytokpdmlmlkkekaa
set_option linter.unusedVariables false
open Go.RowKit
theorem equal_arr4 {P : Program} (n : Nat) (t e : TypeId) (x0 x1 x2 x3 y0 y1 y2 y3 : Value) (b0 b1 b2 b3 : Bool) (w : World) (ht : P.underlying t = some (.array 4 e)) (xs ys : Array Value) (hs : ∀ w, (sizeOf e).run P w = .ok 1 w)
    (p0 : ∀ w, (part e xs 0).run P w = .ok x0 w) (p1 : ∀ w, (part e xs 1).run P w = .ok x1 w) (p2 : ∀ w, (part e xs 2).run P w = .ok x2 w) (p3 : ∀ w, (part e xs 3).run P w = .ok x3 w)
    (q0 : ∀ w, (part e ys 0).run P w = .ok y0 w) (q1 : ∀ w, (part e ys 1).run P w = .ok y1 w) (q2 : ∀ w, (part e ys 2).run P w = .ok y2 w) (q3 : ∀ w, (part e ys 3).run P w = .ok y3 w)
    (h0 : ∀ w, (Op.equalIn n e x0 y0).run P w = .ok b0 w) (h1 : ∀ w, (Op.equalIn n e x1 y1).run P w = .ok b1 w) (h2 : ∀ w, (Op.equalIn n e x2 y2).run P w = .ok b2 w) (h3 : ∀ w, (Op.equalIn n e x3 y3).run P w = .ok b3 w) :
    (Op.equalIn (n + 1) t (.agg xs) (.agg ys)).run P w = .ok (((b0 && b1) && b2) && b3) w := by
  simp only [Op.equalIn, Sem.run_bind, run_underlying ht, Result.andThen_ok, hs]
  cases b0 <;> cases b1 <;> cases b2 <;> cases b3 <;> simp [Std.Legacy.Range.forIn_eq_forIn_range', Std.Legacy.Range.size, List.range', p0, p1, p2, p3, q0, q1, q2, q3, h0, h1, h2, h3]
@[go_sem] theorem eqA4 (a b c d e f g h : Int) (w : World) : (Op.equalIn 10000 96 (.agg #[.int .i64 a, .int .i64 b, .int .i64 c, .int .i64 d]) (.agg #[.int .i64 e, .int .i64 f, .int .i64 g, .int .i64 h])).run Try.prog w = .ok (((a == e && b == f) && c == g) && d == h) w :=
  equal_arr4 9999 _ _ (.int .i64 a) (.int .i64 b) (.int .i64 c) (.int .i64 d) (.int .i64 e) (.int .i64 f) (.int .i64 g) (.int .i64 h) _ _ _ _ w Try.underlying96 _ _ (fun w => by kernel_rfl)
    (fun w => by kernel_rfl) (fun w => by kernel_rfl) (fun w => by kernel_rfl) (fun w => by kernel_rfl) (fun w => by kernel_rfl) (fun w => by kernel_rfl) (fun w => by kernel_rfl) (fun w => by kernel_rfl)
    (fun w => equal_int 9998 _ _ Try.underlying3 a e w) (fun w => equal_int 9998 _ _ Try.underlying3 b f w) (fun w => equal_int 9998 _ _ Try.underlying3 c g w) (fun w => equal_int 9998 _ _ Try.underlying3 d h w)
/-- The counts as they are returned: nothing where there is an error. -/
noncomputable def cntE (t : Trk) (r : Rel) (e0 c : Int) : Int := if e0 = 0 then countP t r intB c else 0
theorem counts_v (t : Trk) (r : Rel) (a : Option Addr) (cap : Nat) (w : World) (h : RelAt feB intB w r a) {e0 : Int} (he : viewErrP feB intB t r = e0) :
    Calls Try.prog 58 #[.agg #[.int .i64 t.sx, .int .i64 t.sy, .int .i64 t.sz, .int .i64 t.step, .int .i64 t.lines, .int .i64 t.near, .int .i64 t.bin, .int .i64 t.bins, .bool t.east], .agg #[.int .i64 r.x, .int .i64 r.y, .int .i64 r.cell, .int .i64 r.rows, .int .i64 r.cols, .slice a r.ds.length cap]] w fun e w' => e = .returned (.tuple #[.agg #[.int .i64 (cntE t r e0 0), .int .i64 (cntE t r e0 1), .int .i64 (cntE t r e0 2), .int .i64 (cntE t r e0 3)], .int .i64 e0]) ∧ Below w.heap.size w w' := by
  unfold cntE
  by_cases hz : e0 = 0
  · subst hz
    simp only [if_true]
    exact counts_ok t r a cap w h he
  · simp only [if_neg hz]
    exact counts_bad t r a cap w h he hz
def zAt (xs : List Value) (k : Nat) : Int := match xs[k]? with | some (.int _ z) => z | _ => 0
theorem zAt_at {xs : List Value} (h : ∀ x ∈ xs, ∃ z : Int, x = .int .i64 z) {k : Nat} (hk : k < xs.length) : xs[k]? = some (.int .i64 (zAt xs k)) := by
  obtain ⟨z, hz⟩ := h _ (List.getElem_mem hk)
  have e : xs[k]? = some (.int .i64 z) := by rw [List.getElem?_eq_getElem hk, hz]
  unfold zAt
  rw [e]
theorem plRow_ints (t : Trk) (r : Rel) (fi : Nat → Int) (u v : Int) (row : Nat) : ∀ k, ∀ x ∈ plRow t r fi u v row k, ∃ z : Int, x = .int .i64 z
  | 0, x, h => by simp [plRow] at h
  | k + 1, x, h => by
    rw [plRow, List.mem_append] at h
    rcases h with h | h
    · exact plRow_ints t r fi u v row k x h
    · split at h
      · simp at h
        rcases h with rfl | rfl
        · exact ⟨_, rfl⟩
        · exact ⟨_, rfl⟩
      · simp at h
theorem plGrid_ints (t : Trk) (r : Rel) (fi : Nat → Int) (u v : Int) : ∀ n, ∀ x ∈ plGrid t r fi u v n, ∃ z : Int, x = .int .i64 z
  | 0, x, h => by simp [plGrid] at h
  | n + 1, x, h => by
    rw [plGrid, List.mem_append] at h
    rcases h with h | h
    · exact plGrid_ints t r fi u v n x h
    · exact plRow_ints t r fi u v n _ x h
/-- Pairs of numbers in a row. -/
def PairsV (w : World) (a : Option Addr) (n : Nat) (z : Nat → Int) : Prop :=
  0 < n → ∃ g, a = some ⟨g, 0, none⟩ ∧ g < w.heap.size ∧ ∀ k, k < n → w.cell? ⟨g, k * 2, none⟩ = some (.int .i64 (z (k * 2))) ∧ w.cell? ⟨g, k * 2 + 1, none⟩ = some (.int .i64 (z (k * 2 + 1)))
theorem PairsV.below {w w' : World} {a : Option Addr} {n : Nat} {z : Nat → Int} (h : PairsV w a n z) (hw : Below w.heap.size w w') : PairsV w' a n z := fun hp => by
  obtain ⟨g, rfl, hg, hc⟩ := h hp
  exact ⟨g, rfl, Nat.lt_of_lt_of_le hg hw.size, fun k hk => ⟨(hw.cell (p := ⟨g, k * 2, none⟩) hg).trans (hc k hk).1, (hw.cell (p := ⟨g, k * 2 + 1, none⟩) hg).trans (hc k hk).2⟩⟩
theorem pairs_own {w : World} {base n : Nat} {v : Value} {xs : List Value} (h : w.ownsRow base 44 2 v n xs) (hx : ∀ x ∈ xs, ∃ z : Int, x = .int .i64 z) : ∃ a cap, v = .slice a n cap ∧ PairsV w a n (zAt xs) := by
  have h0 := h
  have hlen := h.1
  obtain ⟨-, ⟨rfl, rfl⟩ | ⟨g, cap, cur, rfl, -, hg, -⟩⟩ := h0
  · exact ⟨none, 0, rfl, fun h => absurd h (by omega)⟩
  · refine ⟨_, cap, rfl, fun _ => ⟨g, rfl, (Array.getElem?_eq_some_iff.1 hg).1, fun k hk => ⟨?_, ?_⟩⟩⟩
    · exact (h.cellAt (k * 2) (by omega)).trans (zAt_at hx (by omega))
    · exact (h.cellAt (k * 2 + 1) (by omega)).trans (zAt_at hx (by omega))
noncomputable def plN (t : Trk) (r : Rel) (e0 u v : Int) : Nat := if e0 = 0 then cnGrid t r intB u v r.rows.toNat else 0
noncomputable def plZ (t : Trk) (r : Rel) (u v : Int) : Nat → Int := zAt (plGrid t r intB u v r.rows.toNat)
theorem placed_v (t : Trk) (r : Rel) (a : Option Addr) (cap : Nat) (u v : Int) (w : World) (h : RelAt feB intB w r a) {e0 : Int} (he : viewErrP feB intB t r = e0) {n : Nat} (hn : plN t r e0 u v = n) :
    Calls Try.prog 59 #[.agg #[.int .i64 t.sx, .int .i64 t.sy, .int .i64 t.sz, .int .i64 t.step, .int .i64 t.lines, .int .i64 t.near, .int .i64 t.bin, .int .i64 t.bins, .bool t.east], .agg #[.int .i64 r.x, .int .i64 r.y, .int .i64 r.cell, .int .i64 r.rows, .int .i64 r.cols, .slice a r.ds.length cap], .agg #[.int .i64 u, .int .i64 v]] w fun e w' => ∃ p c, e = .returned (.tuple #[.slice p n c, .int .i64 e0]) ∧ PairsV w' p n (plZ t r u v) ∧ Below w.heap.size w w' := by
  subst hn
  unfold plN
  by_cases hz : e0 = 0
  · subst hz
    simp only [if_true]
    refine (placed_ok t r a cap u v w h he).mono ?_
    rintro e w' ⟨val, rfl, ho, hb⟩
    obtain ⟨p, c, rfl, hp⟩ := pairs_own ho (plGrid_ints t r intB u v _)
    exact ⟨p, c, rfl, hp, hb⟩
  · simp only [if_neg hz]
    refine (placed_bad t r a cap u v w h he hz).mono ?_
    rintro e w' ⟨rfl, hb⟩
    exact ⟨none, 0, rfl, fun h => absurd h (by omega), hb⟩
theorem rPlaced_v (t : Trk) (r : Rel) (b off cap : Nat) (u v : Int) (w : World) (he : viewErrP feB intB t r = 0) (hbw : b < w.heap.size) (hfl : FloatsAt w b off r.ds) {n : Nat} (hn : plN t r 0 u v = n) :
    Calls Try.prog 60 #[.agg #[.int .i64 t.sx, .int .i64 t.sy, .int .i64 t.sz, .int .i64 t.step, .int .i64 t.lines, .int .i64 t.near, .int .i64 t.bin, .int .i64 t.bins, .bool t.east], .agg #[.int .i64 r.x, .int .i64 r.y, .int .i64 r.cell, .int .i64 r.rows, .int .i64 r.cols, .slice (some ⟨b, off, none⟩) r.ds.length cap], .agg #[.int .i64 u, .int .i64 v]] w fun e w' => ∃ p c, e = .returned (.slice p n c) ∧ PairsV w' p n (plZ t r u v) ∧ Below w.heap.size w w' := by
  subst hn
  unfold plN
  simp only [if_true]
  refine (rPlaced t r b off cap u v w he hbw hfl).mono ?_
  rintro e w' ⟨val, rfl, ho, hb⟩
  obtain ⟨p, c, rfl, hp⟩ := pairs_own ho (plGrid_ints t r intB u v _)
  exact ⟨p, c, rfl, hp, hb⟩
end Go.Proofs.Ytokpdmlmlkkekaa
