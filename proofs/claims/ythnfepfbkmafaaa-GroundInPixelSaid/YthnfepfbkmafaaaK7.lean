/- viewOf. -/
import Derived.Test.YthnfepfbkmafaaaK6
import Derived.Test.YthnfepfbkmafaaaA9
namespace Go.Proofs.Ythnfepfbkmafaaa
set_option linter.unusedVariables false
open Go.RowKit
/-- Stores and loads of whole rows inside a fence. -/
theorem wpListIn_store_row {F : Fence} {n : Nat} {P : Program} {ops : Array Oper} {rest : List Oper} {o : Oper} {a : Act} {w : World} {Q : Exit → Act → World → Prop} (hgd : o.guard = none) (ty : TypeId) (x y : Operand) (ho : o.op = .store ty x y)
    (g : Nat) (cells : Array Value) (hx : a.eval x = .pointer (some ⟨g, 0, none⟩)) (hy : a.eval y = .agg cells)
    (t : TypeId) (old : Array Value) (hg : w.heap[g]? = some (.cells old t (0, 0))) (hi : (P.info? ty).map (·.size) = some cells.size)
    (hold : old.size = cells.size) (h1 : cells.all (·.oneCell') = true)
    (h : wpListIn F n P ops Q rest (a.put o.dst undef) (w.setRow g cells)) : wpListIn F n P ops Q (o :: rest) a w := by
  refine wpListIn_plain hgd fun K hK => ?_
  unfold Oper.wpIn
  refine ⟨?_, ?_⟩
  · simp [Oper.about, ho]
  · rw [Oper.semAt_eq _ _ _ (by rw [ho]; intro c hc; cases hc)]
    unfold execOp
    simp only [ho, hx, hy, Instr.storeAt, Instr.sureAddr, Sem.run_bind, Sem.run_pure, Result.andThen_ok, run_storeVar_row w g t ty old cells hg hi hold h1]
    exact hK _ _ h
theorem wpListIn_load_row {F : Fence} {n : Nat} {P : Program} {ops : Array Oper} {rest : List Oper} {o : Oper} {a : Act} {w : World} {Q : Exit → Act → World → Prop} (hgd : o.guard = none) (ty : TypeId) (x : Operand) (ho : o.op = .load ty x)
    (g : Nat) (hx : a.eval x = .pointer (some ⟨g, 0, none⟩)) (t : TypeId) (cs : Array Value) (fr : Nat × Nat) (d : TypeDesc) (hg : w.heap[g]? = some (.cells cs t fr))
    (hu : P.underlying ty = some d) (hd : (match d with | .struct _ | .array _ _ => true | _ => false) = true) (hi : (P.info? ty).map (·.size) = some cs.size)
    (h : wpListIn F n P ops Q rest (a.put o.dst (.agg cs)) w) : wpListIn F n P ops Q (o :: rest) a w := by
  refine wpListIn_plain hgd fun K hK => ?_
  unfold Oper.wpIn
  refine ⟨?_, ?_⟩
  · simp [Oper.about, ho]
  · rw [Oper.semAt_eq _ _ _ (by rw [ho]; intro c hc; cases hc)]
    unfold execOp
    simp only [ho, hx, Instr.loadAt, Instr.sureAddr, Sem.run_bind, Sem.run_pure, Result.andThen_ok, run_loadVar_row w g t ty cs fr d hg hu hd hi]
    exact hK _ _ h
theorem callsIn_round {l m : Nat} {P : Program} {f : FuncId} {args : Array Value} {w : World} {R : Ending → World → Prop} (h : Calls P f args w R) : CallsIn (Fence.wide.inRound l) m P f args w R := callsIn_wide (n := m).2 h
/-- The off and the depth of cell k, row by row. -/
def offK (t : Trk) (r : Rel) (k : Nat) : Int := soP t r ((k % r.cols.toNat : Nat) : Int)
def depK (t : Trk) (r : Rel) (fi : Nat → Int) (k : Nat) : Int := sdP t r fi ((k / r.cols.toNat : Nat) : Int) ((k % r.cols.toNat : Nat) : Int)
def deepUpto (t : Trk) (r : Rel) (fi : Nat → Int) (k : Nat) : Bool := (List.range k).all fun j => decide (1 ≤ depK t r fi j)
/-- Some cell is not on the side that the satellite sees. -/
def BadOff (t : Trk) (r : Rel) : Prop := ∃ k, k < r.ds.length ∧ offK t r k ≤ 0
open Classical in
noncomputable def viewErrP (fe fi : Nat → Int) (t : Trk) (r : Rel) : Int :=
  if first2 (checkTrackP t) (relErrP fe r) = 0 then (if BadOff t r then 15 else if deepUpto t r fi r.ds.length then 0 else 26) else first2 (checkTrackP t) (relErrP fe r)
theorem first_e (x y : Int) (b : Nat) (w : World) {e0 : Int} (he : first2 x y = e0) (h0 : w.cell? ⟨b, 0, none⟩ = some (.int .i64 x)) (h1 : w.cell? ⟨b, 1, none⟩ = some (.int .i64 y)) :
    Calls Try.prog 105 #[.slice (some ⟨b, 0, none⟩) 2 2] w fun e w' => e = .returned (.int .i64 e0) ∧ w = w' := by
  subst he; exact first_two x y b w h0 h1
set_option maxRecDepth 20000 in
set_option maxHeartbeats 2000000 in
theorem viewOf_err (fe fi : Nat → Int) (t : Trk) (r : Rel) (a : Option Addr) (cap : Nat) (w : World) (hlen : r.ds.length ≤ 1000000000) (hfe : ∀ k, k < r.ds.length → FlErr (bitAt r.ds k) (fe (bitAt r.ds k)))
    (ha : 0 < r.ds.length → ∃ b off, a = some ⟨b, off, none⟩ ∧ b < w.heap.size ∧ FloatsAt w b off r.ds) (h : ¬ first2 (checkTrackP t) (relErrP fe r) = 0) :
    Calls Try.prog 95 #[.agg #[.int .i64 t.sx, .int .i64 t.sy, .int .i64 t.sz, .int .i64 t.step, .int .i64 t.lines, .int .i64 t.near, .int .i64 t.bin, .int .i64 t.bins, .bool t.east], .agg #[.int .i64 r.x, .int .i64 r.y, .int .i64 r.cell, .int .i64 r.rows, .int .i64 r.cols, .slice a r.ds.length cap]] w fun e w' => e = .returned (.tuple #[.agg #[.int .i64 t.sx, .int .i64 t.sy, .int .i64 t.sz, .int .i64 t.step, .int .i64 t.lines, .int .i64 t.near, .int .i64 t.bin, .int .i64 t.bins, .bool t.east, .int .i64 r.x, .int .i64 r.y, .int .i64 r.cell, .int .i64 r.rows, .int .i64 r.cols, .slice a r.ds.length cap], .int .i64 (viewErrP fe fi t r)]) ∧ Below w.heap.size w w' := by
  obtain ⟨e0, he⟩ : ∃ e0, first2 (checkTrackP t) (relErrP fe r) = e0 := ⟨_, rfl⟩
  have HF : viewErrP fe fi t r = e0 := by unfold viewErrP; rw [if_neg h, he]
  rw [HF]
  rw [he] at h
  have HE := Lib.hid he
  have HFE := Lib.hid hfe
  have HA := Lib.hid (show ∀ w', w.heap.size ≤ w'.heap.size → Below w.heap.size w w' → 0 < r.ds.length → ∃ b off, a = some ⟨b, off, none⟩ ∧ b < w'.heap.size ∧ FloatsAt w' b off r.ds from fun w' hs hb hp => by
    obtain ⟨b, off, h1, h2, h3⟩ := ha hp
    exact ⟨b, off, h1, by omega, h3.below h2 hb⟩)
  clear he hfe ha HF
  go_enter Try.func95, Try.ntmps95
  go_wp2
  go_region_held3 (fun w' => w'.cell? ⟨w.heap.size, 0, none⟩ = some (.int .i64 t.sx) ∧ w'.cell? ⟨w.heap.size, 1, none⟩ = some (.int .i64 t.sy) ∧ w'.cell? ⟨w.heap.size, 2, none⟩ = some (.int .i64 t.sz) ∧ w'.cell? ⟨w.heap.size, 3, none⟩ = some (.int .i64 t.step) ∧ w'.cell? ⟨w.heap.size, 4, none⟩ = some (.int .i64 t.lines) ∧ w'.cell? ⟨w.heap.size, 5, none⟩ = some (.int .i64 t.near) ∧ w'.cell? ⟨w.heap.size, 6, none⟩ = some (.int .i64 t.bin) ∧ w'.cell? ⟨w.heap.size, 7, none⟩ = some (.int .i64 t.bins) ∧ w'.cell? ⟨w.heap.size, 8, none⟩ = some (.bool t.east) ∧ w'.cell? ⟨w.heap.size + 1, 0, none⟩ = some (.int .i64 r.x) ∧ w'.cell? ⟨w.heap.size + 1, 1, none⟩ = some (.int .i64 r.y) ∧ w'.cell? ⟨w.heap.size + 1, 2, none⟩ = some (.int .i64 r.cell) ∧ w'.cell? ⟨w.heap.size + 1, 3, none⟩ = some (.int .i64 r.rows) ∧ w'.cell? ⟨w.heap.size + 1, 4, none⟩ = some (.int .i64 r.cols) ∧ w'.cell? ⟨w.heap.size + 1, 5, none⟩ = some (.slice a r.ds.length cap)) (first | ((first | (simp [go_sem]; done) | simp [go_sem, ↓IntWalk.iteOmega]); done)) (first | (go_at_call 24; refine (checkTrack_any t _).mono ?_; rintro e w' ⟨rfl, hb⟩; obtain ⟨pp, rfl⟩ := later_of_below hb; clear hb) | (go_at_call 42; refine (checkRelief_any fe r a cap _ (by omega) HFE.out (HA.out _ (by simp; omega) (by (repeat' (first | with_reducible exact Below.refl _ _ | (with_reducible refine below_later_of ?_ ?_ _) | (with_reducible refine Below.alloc ?_ ?_ _) | (with_reducible refine Below.setCell ?_ ?_ _) | (with_reducible refine Below.drew ?_) | (simp; done) | (simp; omega) | omega))))).mono ?_; rintro e w' ⟨rfl, hb⟩; obtain ⟨pp, rfl⟩ := later_of_below hb; clear hb) | (go_at_call 105; refine (first_e (checkTrackP t) (relErrP fe r) _ _ HE.out (by (first | (simp [go_sem]; done) | simp [go_sem, ↓IntWalk.iteOmega])) (by (first | (simp [go_sem]; done) | simp [go_sem, ↓IntWalk.iteOmega]))).mono ?_; rintro e w' ⟨rfl, rfl⟩))
  go_wp2
  refine bodyPost_ret ?_ rfl ⟨rfl, (by (repeat' (first | with_reducible exact Below.refl _ _ | (with_reducible refine below_later_of ?_ ?_ _) | (with_reducible refine Below.alloc ?_ ?_ _) | (with_reducible refine Below.setCell ?_ ?_ _) | (with_reducible refine Below.drew ?_) | (simp; done) | (simp; omega) | omega)))⟩
  first | (simp [results, Try.results95, go_sem]; done) | simp [results, Try.results95, go_sem, ↓IntWalk.iteOmega]
end Go.Proofs.Ythnfepfbkmafaaa
