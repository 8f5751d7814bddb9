import Derived.Test.YtokpdmlmlkkekaaZH
import Derived.Test.YtokpdmlmlkkekaaZK
import Derived.Test.YtokpdmlmlkkekaaZR
/- Reliefs in memory of their own. -/
namespace Go.Proofs.Ytokpdmlmlkkekaa
set_option linter.unusedVariables false
open Go.RowKit
theorem info75 : (Try.prog.info? 75).map (fun i => (i.zero, i.size, i.bytes)) = some (some (.float .f32 0), 1, 4) := by kernel_rfl
def floatVals (ds : List Nat) : List Value := ds.map (.float .f32)
theorem ownsRow_new (w : World) (e : TypeId) (base B : Nat) (hB : B = w.heap.size) (h : base ≤ w.heap.size) : (w.alloc (.cells #[] e)).ownsRow base e 1 (.slice (some ⟨B, 0, none⟩) 0 0) 0 [] := by
  subst hB
  exact ⟨rfl, Or.inr ⟨w.heap.size, 0, #[], rfl, h, heap_alloc_new w _, Nat.le_refl _, by unfold maxLen; omega, rfl, rfl⟩⟩
theorem frozen_of_block {w w' : World} {i j : Nat} (h : w'.heap[i]? = w.heap[i]?) : w'.frozen? ⟨i, j, none⟩ = w.frozen? ⟨i, j, none⟩ := by
  unfold World.frozen?
  simp only [h]
/-- The floats of a slice, as cells behind its address. -/
def SrcAt (w : World) (a : Option Addr) (ds : List Nat) : Prop := 0 < ds.length → ∃ b off, a = some ⟨b, off, none⟩ ∧ b < w.heap.size ∧ FloatsAt w b off ds
theorem SrcAt.below {w w' : World} {a : Option Addr} {ds : List Nat} (h : SrcAt w a ds) (hw : Below w.heap.size w w') : SrcAt w' a ds := fun hp => by
  obtain ⟨b, off, h1, h2, h3⟩ := h hp
  exact ⟨b, off, h1, Nat.lt_of_lt_of_le h2 hw.size, h3.below h2 hw⟩
/-- .. in blocks from B on. -/
def SrcFrom (w : World) (B : Nat) (a : Option Addr) (ds : List Nat) : Prop := 0 < ds.length → ∃ b off, a = some ⟨b, off, none⟩ ∧ B ≤ b ∧ b < w.heap.size ∧ FloatsAt w b off ds
theorem SrcFrom.mono {w : World} {B C : Nat} {a : Option Addr} {ds : List Nat} (h : SrcFrom w B a ds) (hC : C ≤ B) : SrcFrom w C a ds := fun hp => by
  obtain ⟨b, off, h1, h2, h3, h4⟩ := h hp
  exact ⟨b, off, h1, Nat.le_trans hC h2, h3, h4⟩
theorem SrcFrom.at_ {w : World} {B : Nat} {a : Option Addr} {ds : List Nat} (h : SrcFrom w B a ds) : SrcAt w a ds := fun hp => by
  obtain ⟨b, off, h1, _, h2, h3⟩ := h hp
  exact ⟨b, off, h1, h2, h3⟩
theorem SrcFrom.set_ {w : World} {B : Nat} {a : Option Addr} {ds : List Nat} (h : SrcFrom w B a ds) {g j : Nat} (hg : g < B) (u : Value) : SrcFrom (w.setCell ⟨g, j, none⟩ u) B a ds := fun hp => by
  obtain ⟨b, off, h1, h2, h3, h4⟩ := h hp
  refine ⟨b, off, h1, h2, by simpa using h3, fun k hk => ?_⟩
  rw [World.cell?_setCell_other _ _ _ _ (by intro e; simp at e <;> omega)]
  exact h4 k hk
theorem srcAt_own {w : World} {base : Nat} {v : Value} {ds : List Nat} (h : w.ownsRow base 75 1 v ds.length (floatVals ds)) : ∃ a cap, v = .slice a ds.length cap ∧ SrcFrom w base a ds ∧ (a = none → cap = 0) := by
  by_cases hp : 0 < ds.length
  · obtain ⟨g, c, rfl, h1, h2, h3, h4⟩ := ownsRow_slice h hp
    refine ⟨_, c, rfl, fun _ => ⟨g, 0, rfl, h1, h2, fun k hk => ?_⟩, fun h => by cases h⟩
    rw [Nat.zero_add, h.cellAt k (by omega)]
    unfold floatVals bitAt
    simp [hk]
  · have h0 : ds.length = 0 := by omega
    rcases h.2 with ⟨rfl, h2⟩ | ⟨g, cap, cur, rfl, _⟩
    · exact ⟨none, 0, by rw [h0], fun hq => by omega, fun _ => rfl⟩
    · exact ⟨_, cap, rfl, fun hq => by omega, fun h => by cases h⟩
theorem add_cell {w : World} {b off : Nat} {ds : List Nat} (h : FloatsAt w b off ds) (j : Nat) (u : Value) (hu : (floatVals ds)[j]? = some u) : w.cell? ((⟨b, off, none⟩ : Addr).add j) = some u := by
  have hj : j < ds.length := by
    rcases Nat.lt_or_ge j ds.length with h1 | h1
    · exact h1
    · unfold floatVals at hu; rw [List.getElem?_eq_none (by simpa using h1)] at hu; cases hu
  have e : (⟨b, off, none⟩ : Addr).add j = ⟨b, off + j, none⟩ := by simp [Addr.add] <;> omega
  rw [e, h j hj, ← hu]
  unfold floatVals bitAt
  simp [hj]
theorem one_cells {ds : List Nat} : ∀ u ∈ floatVals ds, u.oneCell' = true := by
  intro u hu
  unfold floatVals at hu
  rw [List.mem_map] at hu
  obtain ⟨x, _, rfl⟩ := hu
  rfl
set_option maxRecDepth 20000 in
set_option maxHeartbeats 1000000 in
theorem copyFloats_some (x y : Int) (r : Rel) (ad : Addr) (cap : Nat) (w : World) (hl : r.ds.length ≤ 1000000000) (hf : ∀ W, Below w.heap.size w W → ∀ j u, (floatVals r.ds)[j]? = some u → W.cell? (ad.add j) = some u) :
    Calls Try.prog 103 #[.agg #[.int .i64 x, .int .i64 y, .slice (some ad) r.ds.length cap]] w fun e w' => ∃ a' cap', e = .returned (.agg #[.int .i64 x, .int .i64 y, .slice a' r.ds.length cap']) ∧ SrcFrom w' w.heap.size a' r.ds ∧ (a' = none → cap' = 0) ∧ Below w.heap.size w w' := by
  obtain ⟨i0, hi, hz0, hz1, hz2⟩ := info_parts info75
  have HF := Lib.hid hf
  clear hf
  go_enter Try.func103, Try.ntmps103
  go_wp2_with (at_builtin; refine wpList_append_own _ rfl _ _ 55 rfl (w.heap.size + 2) 75 i0 (.float .f32 0) 1 4 Try.underlying55 hi hz0 hz1 hz2 rfl (by decide) _ 0 [] rfl (ownsRow_new _ _ _ _ (by simp) (by simp <;> omega)) ad r.ds.length cap (floatVals r.ds) rfl ?c1 ?c2 ?c3 ?c4 ?c5 ?c6 ?_)
  case c1 => unfold floatVals; simp
  case c2 => exact HF.out _ (by (repeat' (first | with_reducible exact Below.refl _ _ | (with_reducible refine below_later_of ?_ ?_ _) | (with_reducible refine Below.alloc ?_ ?_ _) | (with_reducible refine Below.setCell ?_ ?_ _) | (with_reducible refine Below.drew ?_) | (simp; done) | (simp; omega) | omega)))
  case c3 => exact one_cells
  case c4 => unfold maxLen; omega
  case c5 => omega
  case c6 => simp <;> omega
  intro v' w1 hown hgrow _
  have hown2 : w1.ownsRow (w.heap.size + 2) 75 1 v' r.ds.length (floatVals r.ds) := by simpa using hown
  obtain ⟨a', cap', rfl, hs, hn⟩ := srcAt_own hown2
  have HB := Lib.hid (show Below w.heap.size w w1 from (show Below w.heap.size w _ from (by (repeat' (first | with_reducible exact Below.refl _ _ | (with_reducible refine below_later_of ?_ ?_ _) | (with_reducible refine Below.alloc ?_ ?_ _) | (with_reducible refine Below.setCell ?_ ?_ _) | (with_reducible refine Below.drew ?_) | (simp; done) | (simp; omega) | omega)))).grown hgrow (by simp; omega) (fun g hg => by simp [Value.ownBlock] at hg; omega))
  have hcell : ∀ i j, i < w.heap.size + 1 + 1 → w1.cell? ⟨i, j, none⟩ = _ := fun i j hi => World.cell?_of_block (hgrow.block i (by simp; omega) (fun e => by simp [Value.ownBlock] at e; omega))
  have c0 : w1.cell? ⟨w.heap.size, 0, none⟩ = some (.int .i64 x) := (hcell _ _ (by omega)).trans (by (first | (simp [go_sem]; done) | simp [go_sem, ↓IntWalk.iteOmega]))
  have c1 : w1.cell? ⟨w.heap.size, 1, none⟩ = some (.int .i64 y) := (hcell _ _ (by omega)).trans (by (first | (simp [go_sem]; done) | simp [go_sem, ↓IntWalk.iteOmega]))
  have c2 : w1.cell? ⟨w.heap.size, 2, none⟩ = some (.slice (some ad) r.ds.length cap) := (hcell _ _ (by omega)).trans (by (first | (simp [go_sem]; done) | simp [go_sem, ↓IntWalk.iteOmega]))
  have d0 : w1.cell? ⟨w.heap.size + 1, 0, none⟩ = some (.int .i64 0) := (hcell _ _ (by omega)).trans (by (first | (simp [go_sem]; done) | simp [go_sem, ↓IntWalk.iteOmega]))
  have d1 : w1.cell? ⟨w.heap.size + 1, 1, none⟩ = some (.int .i64 0) := (hcell _ _ (by omega)).trans (by (first | (simp [go_sem]; done) | simp [go_sem, ↓IntWalk.iteOmega]))
  have d2 : w1.cell? ⟨w.heap.size + 1, 2, none⟩ = some (.slice none 0 0) := (hcell _ _ (by omega)).trans (by (first | (simp [go_sem]; done) | simp [go_sem, ↓IntWalk.iteOmega]))
  have hfro : ∀ i j, i < w.heap.size + 1 + 1 → w1.frozen? ⟨i, j, none⟩ = _ := fun i j hi => frozen_of_block (hgrow.block i (by simp; omega) (fun e => by simp [Value.ownBlock] at e; omega))
  have f2 : w1.frozen? ⟨w.heap.size, 2, none⟩ = false := (hfro _ _ (by omega)).trans (by (first | (simp [go_sem]; done) | simp [go_sem, ↓IntWalk.iteOmega]))
  have g0 : w1.frozen? ⟨w.heap.size + 1, 0, none⟩ = false := (hfro _ _ (by omega)).trans (by (first | (simp [go_sem]; done) | simp [go_sem, ↓IntWalk.iteOmega]))
  have g1 : w1.frozen? ⟨w.heap.size + 1, 1, none⟩ = false := (hfro _ _ (by omega)).trans (by (first | (simp [go_sem]; done) | simp [go_sem, ↓IntWalk.iteOmega]))
  have g2 : w1.frozen? ⟨w.heap.size + 1, 2, none⟩ = false := (hfro _ _ (by omega)).trans (by (first | (simp [go_sem]; done) | simp [go_sem, ↓IntWalk.iteOmega]))
  have hsz := hgrow.size
  have HS := Lib.hid hs
  have HN := Lib.hid hn
  simp at hsz
  clear hown hown2 hgrow hcell hfro hs hn
  go_wp2
  refine bodyPost_ret (v := .agg #[.int .i64 x, .int .i64 y, .slice a' r.ds.length cap']) (by (first | (simp [results, Try.results103, go_sem, d0, d1, d2]; done) | simp [results, Try.results103, go_sem, d0, d1, d2, ↓IntWalk.iteOmega])) rfl ⟨_, _, rfl, ((((HS.out.set_ (by omega) _).set_ (by omega) _).set_ (by omega) _).set_ (by omega) _).mono (by omega), HN.out, ?_⟩
  exact (((HB.out.setCell (p := ⟨w.heap.size, 2, none⟩) (Nat.le_refl _) _).setCell (p := ⟨w.heap.size + 1, 0, none⟩) (by simp) _).setCell (p := ⟨w.heap.size + 1, 1, none⟩) (by simp) _).setCell (p := ⟨w.heap.size + 1, 2, none⟩) (by simp) _
set_option maxRecDepth 20000 in
set_option maxHeartbeats 1000000 in
theorem copyFloats_none (x y : Int) (w : World) :
    Calls Try.prog 103 #[.agg #[.int .i64 x, .int .i64 y, .slice none 0 0]] w fun e w' => ∃ a' cap', e = .returned (.agg #[.int .i64 x, .int .i64 y, .slice a' 0 cap']) ∧ (a' = none → cap' = 0) ∧ Below w.heap.size w w' := by
  obtain ⟨i0, hi, hz0, hz1, hz2⟩ := info_parts info75
  go_enter Try.func103, Try.ntmps103
  go_wp2_with (at_builtin; refine wpList_append_own_none _ _ _ 55 rfl (w.heap.size + 2) 75 i0 1 Try.underlying55 hi _ 0 [] rfl (ownsRow_new _ _ _ _ (by simp) (by simp <;> omega)) rfl ?_)
  go_wp2
  refine bodyPost_ret (v := .agg #[.int .i64 x, .int .i64 y, .slice (some ⟨w.heap.size + 1 + 1, 0, none⟩) 0 0]) (by (first | (simp [results, Try.results103, go_sem]; done) | simp [results, Try.results103, go_sem, ↓IntWalk.iteOmega])) rfl ⟨_, _, rfl, fun h => (by cases h), ?_⟩
  exact (by (repeat' (first | with_reducible exact Below.refl _ _ | (with_reducible refine below_later_of ?_ ?_ _) | (with_reducible refine Below.alloc ?_ ?_ _) | (with_reducible refine Below.setCell ?_ ?_ _) | (with_reducible refine Below.drew ?_) | (simp; done) | (simp; omega) | omega)))
theorem copyFloats_any (x y : Int) (r : Rel) (a : Option Addr) (cap : Nat) (w : World) (hl : r.ds.length ≤ 1000000000) (hs : SrcAt w a r.ds) (hn : a = none → cap = 0) :
    Calls Try.prog 103 #[.agg #[.int .i64 x, .int .i64 y, .slice a r.ds.length cap]] w fun e w' => ∃ a' cap', e = .returned (.agg #[.int .i64 x, .int .i64 y, .slice a' r.ds.length cap']) ∧ SrcFrom w' w.heap.size a' r.ds ∧ (a' = none → cap' = 0) ∧ Below w.heap.size w w' := by
  by_cases hp : 0 < r.ds.length
  · obtain ⟨b, off, rfl, hbw, hf⟩ := hs hp
    exact copyFloats_some x y r _ cap w hl (fun W hW => add_cell (hf.below hbw hW))
  · have h0 : r.ds = [] := List.length_eq_zero_iff.1 (by omega)
    cases a with
    | none =>
      obtain rfl := hn rfl
      have h1 : r.ds.length = 0 := by omega
      have := copyFloats_none x y w
      rw [h1]
      refine this.mono ?_
      rintro e w' ⟨a', cap', he, hn', hb⟩
      exact ⟨a', cap', he, fun h => by omega, hn', hb⟩
    | some ad =>
      refine copyFloats_some x y r ad cap w hl (fun W hW j u hu => ?_)
      rw [h0] at hu
      unfold floatVals at hu
      simp at hu
set_option maxRecDepth 20000 in
set_option maxHeartbeats 1000000 in
/-- A relief in memory of its own. -/
theorem copy_any (r : Rel) (a : Option Addr) (cap : Nat) (w : World) (hl : r.ds.length ≤ 1000000000) (hs : SrcAt w a r.ds) (hn : a = none → cap = 0) :
    Calls Try.prog 33 #[.agg #[.int .i64 r.x, .int .i64 r.y, .int .i64 r.cell, .int .i64 r.rows, .int .i64 r.cols, .slice a r.ds.length cap]] w fun e w' => ∃ a' cap', e = .returned (.agg #[.int .i64 r.x, .int .i64 r.y, .int .i64 r.cell, .int .i64 r.rows, .int .i64 r.cols, .slice a' r.ds.length cap']) ∧ SrcAt w' a' r.ds ∧ (a' = none → cap' = 0) ∧ Below w.heap.size w w' := by
  have HS := Lib.hid hs
  have HN := Lib.hid hn
  clear hs hn
  go_enter Try.func33, Try.ntmps33
  go_wp2_with (go_at_call 103; refine (copyFloats_any _ _ r a cap _ hl (HS.out.below (by (repeat' (first | with_reducible exact Below.refl _ _ | (with_reducible refine below_later_of ?_ ?_ _) | (with_reducible refine Below.alloc ?_ ?_ _) | (with_reducible refine Below.setCell ?_ ?_ _) | (with_reducible refine Below.drew ?_) | (simp; done) | (simp; omega) | omega)))) HN.out).mono ?_; rintro e w2 ⟨a', cap', rfl, hs2, hn2, hb2⟩; have HS2 := Lib.hid hs2; have HN2 := Lib.hid hn2; clear hs2 hn2; obtain ⟨p2, rfl⟩ := later_of_below hb2; clear hb2)
  refine bodyPost_ret (v := .agg #[.int .i64 r.x, .int .i64 r.y, .int .i64 r.cell, .int .i64 r.rows, .int .i64 r.cols, .slice a' r.ds.length cap']) (by (first | (simp [results, Try.results33, go_sem]; done) | simp [results, Try.results33, go_sem, ↓IntWalk.iteOmega])) rfl ⟨_, _, rfl, ?_, HN2.out, (by (repeat' (first | with_reducible exact Below.refl _ _ | (with_reducible refine below_later_of ?_ ?_ _) | (with_reducible refine Below.alloc ?_ ?_ _) | (with_reducible refine Below.setCell ?_ ?_ _) | (with_reducible refine Below.drew ?_) | (simp; done) | (simp; omega) | omega)))⟩
  have h1 := HS2.out
  exact (((((((((h1.set_ (by simp <;> omega) _).set_ (by simp <;> omega) _).set_ (by simp <;> omega) _).set_ (by simp <;> omega) _).set_ (by simp <;> omega) _).set_ (by simp <;> omega) _).set_ (by simp <;> omega) _).set_ (by simp <;> omega) _).set_ (by simp <;> omega) _).at_
end Go.Proofs.Ytokpdmlmlkkekaa

/- Reliefs: the reference's check. -/
namespace Go.Proofs.Ytokpdmlmlkkekaa
set_option linter.unusedVariables false
open Go.RowKit
set_option maxRecDepth 20000 in
set_option maxHeartbeats 4000000 in
theorem rCheckRelief (r : Rel) (a : Option Addr) (cap : Nat) (w : World) (hlen : r.ds.length ≤ 1000000000) (ha : 0 < r.ds.length → ∃ b off, a = some ⟨b, off, none⟩ ∧ b < w.heap.size ∧ FloatsAt w b off r.ds) :
    Calls Try.prog 43 #[.agg #[.int .i64 r.x, .int .i64 r.y, .int .i64 r.cell, .int .i64 r.rows, .int .i64 r.cols, .slice a r.ds.length cap]] w fun e w' => e = .returned (.int .i64 (relErrP feB r)) ∧ Below w.heap.size w w' := by
  have HA := Lib.hid ha
  clear ha
  rcases (show inR (-100000000) 100000000 r.x = false ∨ inR (-100000000) 100000000 r.x = true by cases inR (-100000000) 100000000 r.x <;> simp) with h0 | h0
  · have HF := Lib.hid (show relErrP feB r = 2 by unfold relErrP relPlaceB; rw [h0]; rfl)
    have H0 := Lib.hid h0
    clear h0
    go_enter Try.func43, Try.ntmps43
    go_wp2_with (first | (go_at_call 112; (with_reducible refine (rIsPlace1 r.x _ H0.out).mono ?_); rintro e w' ⟨rfl, rfl⟩))
    (go_ret; exact ⟨ret_int HF.out.symm, (by (repeat' (first | with_reducible exact Below.refl _ _ | (with_reducible refine below_later_of ?_ ?_ _) | (with_reducible refine Below.alloc ?_ ?_ _) | (with_reducible refine Below.setCell ?_ ?_ _) | (with_reducible refine Below.drew ?_) | (simp; done) | (simp; omega) | omega)))⟩)
  rcases (show inR (-100000000) 100000000 r.y = false ∨ inR (-100000000) 100000000 r.y = true by cases inR (-100000000) 100000000 r.y <;> simp) with h1 | h1
  · have HF := Lib.hid (show relErrP feB r = 2 by unfold relErrP relPlaceB; rw [h0, h1]; rfl)
    have H0 := Lib.hid h0
    have H1 := Lib.hid h1
    clear h0 h1
    go_enter Try.func43, Try.ntmps43
    go_wp2_with (first | (go_at_call 112; (with_reducible refine (rIsPlace1 r.x _ H0.out).mono ?_); rintro e w' ⟨rfl, rfl⟩) | (go_at_call 112; (with_reducible refine (rIsPlace1 r.y _ H1.out).mono ?_); rintro e w' ⟨rfl, rfl⟩))
    (go_ret; exact ⟨ret_int HF.out.symm, (by (repeat' (first | with_reducible exact Below.refl _ _ | (with_reducible refine below_later_of ?_ ?_ _) | (with_reducible refine Below.alloc ?_ ?_ _) | (with_reducible refine Below.setCell ?_ ?_ _) | (with_reducible refine Below.drew ?_) | (simp; done) | (simp; omega) | omega)))⟩)
  rcases (show inR 1 1000 r.cell = false ∨ inR 1 1000 r.cell = true by cases inR 1 1000 r.cell <;> simp) with h2 | h2
  · have HF := Lib.hid (show relErrP feB r = 2 by unfold relErrP relPlaceB; rw [h0, h1, h2]; rfl)
    have H0 := Lib.hid h0
    have H1 := Lib.hid h1
    have H2 := Lib.hid h2
    clear h0 h1 h2
    go_enter Try.func43, Try.ntmps43
    go_wp2_with (first | (go_at_call 112; (with_reducible refine (rIsPlace1 r.x _ H0.out).mono ?_); rintro e w' ⟨rfl, rfl⟩) | (go_at_call 112; (with_reducible refine (rIsPlace1 r.y _ H1.out).mono ?_); rintro e w' ⟨rfl, rfl⟩) | (go_at_call 36; (with_reducible refine (bWithin r.cell _ _ _ H2.out).mono ?_); rintro e w' ⟨rfl, rfl⟩))
    (go_ret; exact ⟨ret_int HF.out.symm, (by (repeat' (first | with_reducible exact Below.refl _ _ | (with_reducible refine below_later_of ?_ ?_ _) | (with_reducible refine Below.alloc ?_ ?_ _) | (with_reducible refine Below.setCell ?_ ?_ _) | (with_reducible refine Below.drew ?_) | (simp; done) | (simp; omega) | omega)))⟩)
  have HQ := Lib.hid (show relErrP feB r = (if relSizeB r then scan (fun k => feB (bitAt r.ds k)) 0 r.ds.length else 10) by unfold relErrP relPlaceB; rw [h0, h1, h2]; rfl)
  have H0 := Lib.hid h0
  have H1 := Lib.hid h1
  have H2 := Lib.hid h2
  clear h0 h1 h2
  rcases (show inR 1 64 r.rows = false ∨ inR 1 64 r.rows = true by cases inR 1 64 r.rows <;> simp) with h3 | h3
  · have HF := Lib.hid (show relErrP feB r = 10 by rw [HQ.out]; unfold relSizeB; rw [h3]; rfl)
    have H3 := Lib.hid h3
    clear h3 HQ
    go_enter Try.func43, Try.ntmps43
    go_wp2_with (first | (go_at_call 112; (with_reducible refine (rIsPlace1 r.x _ H0.out).mono ?_); rintro e w' ⟨rfl, rfl⟩) | (go_at_call 112; (with_reducible refine (rIsPlace1 r.y _ H1.out).mono ?_); rintro e w' ⟨rfl, rfl⟩) | (go_at_call 36; (with_reducible refine (bWithin r.cell _ _ _ H2.out).mono ?_); rintro e w' ⟨rfl, rfl⟩) | (go_at_call 36; (with_reducible refine (bWithin r.rows _ _ _ H3.out).mono ?_); rintro e w' ⟨rfl, rfl⟩))
    (go_ret; exact ⟨ret_int HF.out.symm, (by (repeat' (first | with_reducible exact Below.refl _ _ | (with_reducible refine below_later_of ?_ ?_ _) | (with_reducible refine Below.alloc ?_ ?_ _) | (with_reducible refine Below.setCell ?_ ?_ _) | (with_reducible refine Below.drew ?_) | (simp; done) | (simp; omega) | omega)))⟩)
  rcases (show inR 1 64 r.cols = false ∨ inR 1 64 r.cols = true by cases inR 1 64 r.cols <;> simp) with h4 | h4
  · have HF := Lib.hid (show relErrP feB r = 10 by rw [HQ.out]; unfold relSizeB; rw [h3, h4]; rfl)
    have H3 := Lib.hid h3
    have H4 := Lib.hid h4
    clear h3 h4 HQ
    go_enter Try.func43, Try.ntmps43
    go_wp2_with (first | (go_at_call 112; (with_reducible refine (rIsPlace1 r.x _ H0.out).mono ?_); rintro e w' ⟨rfl, rfl⟩) | (go_at_call 112; (with_reducible refine (rIsPlace1 r.y _ H1.out).mono ?_); rintro e w' ⟨rfl, rfl⟩) | (go_at_call 36; (with_reducible refine (bWithin r.cell _ _ _ H2.out).mono ?_); rintro e w' ⟨rfl, rfl⟩) | (go_at_call 36; (with_reducible refine (bWithin r.rows _ _ _ H3.out).mono ?_); rintro e w' ⟨rfl, rfl⟩) | (go_at_call 36; (with_reducible refine (bWithin r.cols _ _ _ H4.out).mono ?_); rintro e w' ⟨rfl, rfl⟩))
    (go_ret; exact ⟨ret_int HF.out.symm, (by (repeat' (first | with_reducible exact Below.refl _ _ | (with_reducible refine below_later_of ?_ ?_ _) | (with_reducible refine Below.alloc ?_ ?_ _) | (with_reducible refine Below.setCell ?_ ?_ _) | (with_reducible refine Below.drew ?_) | (simp; done) | (simp; omega) | omega)))⟩)
  obtain ⟨r1, r2⟩ := inR_iff.1 h3
  obtain ⟨l1, l2⟩ := inR_iff.1 h4
  obtain ⟨m1, m2⟩ := mul_bd (show 0 ≤ r.rows by omega) r2 (show 0 ≤ r.cols by omega) l2
  by_cases h5 : (r.ds.length : Int) = r.rows * r.cols
  · have HQ2 := Lib.hid (show relErrP feB r = scan (fun k => feB (bitAt r.ds k)) 0 r.ds.length by rw [HQ.out]; unfold relSizeB; rw [h3, h4, decide_eq_true h5]; rfl)
    have H3 := Lib.hid h3
    have H4 := Lib.hid h4
    have h5' : ((r.ds.length : Int) != r.rows * r.cols) = false := by simpa using h5
    have hpos : 0 < r.ds.length := by
      have : 1 * 1 ≤ r.rows * r.cols := Int.mul_le_mul r1 l1 (by omega) (by omega)
      omega
    obtain ⟨b, off, rfl, hbw, hfl⟩ := HA.out hpos
    have HFL := Lib.hid hfl
    clear h3 h4 HQ h5 HA hfl
    go_enter Try.func43, Try.ntmps43
    go_wp2_with (first | (go_at_call 112; (with_reducible refine (rIsPlace1 r.x _ H0.out).mono ?_); rintro e w' ⟨rfl, rfl⟩) | (go_at_call 112; (with_reducible refine (rIsPlace1 r.y _ H1.out).mono ?_); rintro e w' ⟨rfl, rfl⟩) | (go_at_call 36; (with_reducible refine (bWithin r.cell _ _ _ H2.out).mono ?_); rintro e w' ⟨rfl, rfl⟩) | (go_at_call 36; (with_reducible refine (bWithin r.rows _ _ _ H3.out).mono ?_); rintro e w' ⟨rfl, rfl⟩) | (go_at_call 36; (with_reducible refine (bWithin r.cols _ _ _ H4.out).mono ?_); rintro e w' ⟨rfl, rfl⟩))
    obtain ⟨W3, hW3, hc3, hlt3, hb3⟩ : ∃ W3, W3 = (w.alloc (.cells #[.int .i64 r.x, .int .i64 r.y, .int .i64 r.cell, .int .i64 r.rows, .int .i64 r.cols, .slice (some ⟨b, off, none⟩) r.ds.length cap] 59)).alloc (.cells #[.int .i64 r.rows, .int .i64 r.cols, .slice (some ⟨b, off, none⟩) r.ds.length cap] 57) ∧ W3.cell? ⟨w.heap.size + 1, 2, none⟩ = some (.slice (some ⟨b, off, none⟩) r.ds.length cap) ∧ w.heap.size + 1 < W3.heap.size ∧ Below w.heap.size w W3 :=
      ⟨_, rfl, by (first | (simp [go_sem]; done) | simp [go_sem, ↓IntWalk.iteOmega]), by simp, (by (repeat' (first | with_reducible exact Below.refl _ _ | (with_reducible refine below_later_of ?_ ?_ _) | (with_reducible refine Below.alloc ?_ ?_ _) | (with_reducible refine Below.setCell ?_ ?_ _) | (with_reducible refine Below.drew ?_) | (simp; done) | (simp; omega) | omega)))⟩
    rw [← hW3]
    have HC3 := Lib.hid hc3
    have HB3 := Lib.hid hb3
    clear hW3 hc3 hb3
    go_loopw [4] (fun i wr => ∃ k : Nat, k ≤ r.ds.length ∧ i = .int .i64 k ∧ Below W3.heap.size W3 wr ∧ ∀ j, j < k → feB (bitAt r.ds j) = 0) (fun i _ => r.ds.length - (intOf i).toNat)
    case atStart => exact ⟨0, Nat.zero_le _, rfl, Below.refl _ _, fun j hj => by omega⟩
    case round =>
      obtain ⟨k, hk, rfl, hnx, hz⟩ := hrel
      have hs3 := HB3.out.size
      have HX := Lib.hid (HB3.out.trans (hnx.mono hs3))
      have HXN := Lib.hid hnx
      have hsz3 := hnx.size
      have hsz : w.heap.size ≤ wr.heap.size := by omega
      have hm := (hnx.cell (p := ⟨w.heap.size + 1, 2, none⟩) hlt3).trans HC3.out
      have HZ := Lib.hid hz
      clear hz hnx
      by_cases hlt : k < r.ds.length
      · have hc := (HFL.out.below hbw HX.out) k hlt
        have hbr : b < wr.heap.size := by omega
        have HQ3 := Lib.hid (show feB (bitAt r.ds k) ≠ 0 → scan (fun k => feB (bitAt r.ds k)) 0 r.ds.length = feB (bitAt r.ds k) from
          fun h => scan_hit (f := fun k => feB (bitAt r.ds k)) r.ds.length 0 k (fun j _ hj => HZ.out j hj) (Nat.zero_le _) (by omega) h)
        have HG := Lib.hid (show ∀ j, j < k + 1 → feB (bitAt r.ds k) = 0 → feB (bitAt r.ds j) = 0 from fun j hj h => by
          by_cases e : j = k
          · rw [e]; exact h
          · exact HZ.out j (by omega))
        have HE := Lib.hid (show feB (bitAt r.ds k) = if wholeB (bitAt r.ds k) then (if loB (bitAt r.ds k) || hiB (bitAt r.ds k) then 2 else 0) else 29 from rfl)
        generalize bitAt r.ds k = bk at hc HQ3 HE HG
        cases hd : Ieee.single.read bk with
        | number s m e =>
          have hcv := fun w => conv_num hd w
          have hw := fun w => (bIsWhole_num hd w).mono (R' := fun e' w' => e' = .returned (.bool (wholeB bk)) ∧ Below w.heap.size w w') fun _ _ ⟨h1, h2⟩ => ⟨h1, h2 ▸ Below.refl _ _⟩
          generalize Ieee.double.write (.number s m e) = r64 at hcv hw
          have HW := Lib.hid hw
          clear hw hd
          rcases (show wholeB bk = false ∨ wholeB bk = true by cases wholeB bk <;> simp) with h9 | h9
          · have HF := Lib.hid (show relErrP feB r = 29 by rw [HQ2.out, HQ3.out (by rw [HE.out, h9]; simp), HE.out, h9]; rfl)
            go_wp2_with (first | (go_at_call 113; refine (HW.out _).mono ?_; rintro e w' ⟨rfl, hb⟩; obtain ⟨pp, rfl⟩ := later_of_below hb; clear hb))
            (go_ret; exact ⟨ret_int HF.out.symm, HX.out.trans (below_mono_of hsz (by (repeat' (first | with_reducible exact Below.refl _ _ | (with_reducible refine below_later_of ?_ ?_ _) | (with_reducible refine Below.alloc ?_ ?_ _) | (with_reducible refine Below.setCell ?_ ?_ _) | (with_reducible refine Below.drew ?_) | (simp; done) | (simp; omega) | omega))))⟩)
          rcases (show loB bk = false ∨ loB bk = true by cases loB bk <;> simp) with h6 | h6
          · rcases (show hiB bk = false ∨ hiB bk = true by cases hiB bk <;> simp) with h7 | h7
            · have HV := Lib.hid (show feB bk = 0 by rw [HE.out, h9, h6, h7]; rfl)
              unfold loB at h6
              unfold hiB at h7
              go_wp2_with (first | (go_at_call 113; refine (HW.out _).mono ?_; rintro e w' ⟨rfl, hb⟩; obtain ⟨pp, rfl⟩ := later_of_below hb; clear hb))
              go_roundw
              case rel => exact ⟨k + 1, by omega, by go_num, HXN.out.trans (below_mono_of hsz3 (by (repeat' (first | with_reducible exact Below.refl _ _ | (with_reducible refine below_later_of ?_ ?_ _) | (with_reducible refine Below.alloc ?_ ?_ _) | (with_reducible refine Below.setCell ?_ ?_ _) | (with_reducible refine Below.drew ?_) | (simp; done) | (simp; omega) | omega)))), fun j hj => HG.out j hj HV.out⟩
              case measure => simp [intOf]; omega
            · have HF := Lib.hid (show relErrP feB r = 2 by rw [HQ2.out, HQ3.out (by rw [HE.out, h9, h7]; simp), HE.out, h9, h7]; simp)
              unfold loB at h6
              unfold hiB at h7
              go_wp2_with (first | (go_at_call 113; refine (HW.out _).mono ?_; rintro e w' ⟨rfl, hb⟩; obtain ⟨pp, rfl⟩ := later_of_below hb; clear hb))
              (go_ret; exact ⟨ret_int HF.out.symm, HX.out.trans (below_mono_of hsz (by (repeat' (first | with_reducible exact Below.refl _ _ | (with_reducible refine below_later_of ?_ ?_ _) | (with_reducible refine Below.alloc ?_ ?_ _) | (with_reducible refine Below.setCell ?_ ?_ _) | (with_reducible refine Below.drew ?_) | (simp; done) | (simp; omega) | omega))))⟩)
          · have HF := Lib.hid (show relErrP feB r = 2 by rw [HQ2.out, HQ3.out (by rw [HE.out, h9, h6]; simp), HE.out, h9, h6]; simp)
            unfold loB at h6
            go_wp2_with (first | (go_at_call 113; refine (HW.out _).mono ?_; rintro e w' ⟨rfl, hb⟩; obtain ⟨pp, rfl⟩ := later_of_below hb; clear hb))
            (go_ret; exact ⟨ret_int HF.out.symm, HX.out.trans (below_mono_of hsz (by (repeat' (first | with_reducible exact Below.refl _ _ | (with_reducible refine below_later_of ?_ ?_ _) | (with_reducible refine Below.alloc ?_ ?_ _) | (with_reducible refine Below.setCell ?_ ?_ _) | (with_reducible refine Below.drew ?_) | (simp; done) | (simp; omega) | omega))))⟩)
        | infinity s =>
          have h9 : wholeB bk = false := by unfold wholeB; rw [hd]; rfl
          have hcv := fun w => conv_inf hd w
          have hw := fun w => bIsWhole_i (s := s) w
          generalize Ieee.double.word s Ieee.double.infRung = r64 at hcv hw
          have HW := Lib.hid hw
          have HF := Lib.hid (show relErrP feB r = 29 by rw [HQ2.out, HQ3.out (by rw [HE.out, h9]; simp), HE.out, h9]; rfl)
          clear hw hd h9
          go_wp2_with (first | (go_at_call 113; refine (HW.out _).mono ?_; rintro e w' ⟨rfl, hb⟩; obtain ⟨pp, rfl⟩ := later_of_below hb; clear hb))
          (go_ret; exact ⟨ret_int HF.out.symm, HX.out.trans (below_mono_of hsz (by (repeat' (first | with_reducible exact Below.refl _ _ | (with_reducible refine below_later_of ?_ ?_ _) | (with_reducible refine Below.alloc ?_ ?_ _) | (with_reducible refine Below.setCell ?_ ?_ _) | (with_reducible refine Below.drew ?_) | (simp; done) | (simp; omega) | omega))))⟩)
        | nan s t =>
          have h9 : wholeB bk = false := by unfold wholeB; rw [hd]; rfl
          have hcv := fun w => conv_nan hd w
          have hw := fun w0 w => (bIsWhole_n (nanW_nan bk w0).choose_spec.choose_spec w).mono (R' := fun e' w' => e' = .returned (.bool false) ∧ Below w.heap.size w w') fun _ _ ⟨h1, h2⟩ => ⟨h1, h2 ▸ Below.refl _ _⟩
          generalize nanW bk = V at hcv hw
          have HW := Lib.hid (hw wr)
          have HF := Lib.hid (show relErrP feB r = 29 by rw [HQ2.out, HQ3.out (by rw [HE.out, h9]; simp), HE.out, h9]; rfl)
          clear hw hd h9
          go_wp2_with (first | (go_at_call 113; refine (HW.out _).mono ?_; rintro e w' ⟨rfl, hb⟩; obtain ⟨pp, rfl⟩ := later_of_below hb; clear hb))
          (go_ret; exact ⟨ret_int HF.out.symm, HX.out.trans (below_mono_of hsz (by (repeat' (first | with_reducible exact Below.refl _ _ | (with_reducible refine below_later_of ?_ ?_ _) | (with_reducible refine Below.alloc ?_ ?_ _) | (with_reducible refine Below.setCell ?_ ?_ _) | (with_reducible refine Below.drew ?_) | (simp; done) | (simp; omega) | omega))))⟩)
      · have HF := Lib.hid (show relErrP feB r = 0 by rw [HQ2.out]; exact scan_zero r.ds.length 0 (fun j _ hj => HZ.out j (by omega)))
        go_wp2
        (go_ret; exact ⟨ret_int HF.out.symm, HX.out.trans (below_mono_of hsz (by (repeat' (first | with_reducible exact Below.refl _ _ | (with_reducible refine below_later_of ?_ ?_ _) | (with_reducible refine Below.alloc ?_ ?_ _) | (with_reducible refine Below.setCell ?_ ?_ _) | (with_reducible refine Below.drew ?_) | (simp; done) | (simp; omega) | omega))))⟩)
  · have HF := Lib.hid (show relErrP feB r = 10 by rw [HQ.out]; unfold relSizeB; rw [h3, h4, decide_eq_false h5]; rfl)
    have H3 := Lib.hid h3
    have H4 := Lib.hid h4
    have h5' : ((r.ds.length : Int) != r.rows * r.cols) = true := by simpa using h5
    clear h3 h4 HQ h5
    go_enter Try.func43, Try.ntmps43
    go_wp2_with (first | (go_at_call 112; (with_reducible refine (rIsPlace1 r.x _ H0.out).mono ?_); rintro e w' ⟨rfl, rfl⟩) | (go_at_call 112; (with_reducible refine (rIsPlace1 r.y _ H1.out).mono ?_); rintro e w' ⟨rfl, rfl⟩) | (go_at_call 36; (with_reducible refine (bWithin r.cell _ _ _ H2.out).mono ?_); rintro e w' ⟨rfl, rfl⟩) | (go_at_call 36; (with_reducible refine (bWithin r.rows _ _ _ H3.out).mono ?_); rintro e w' ⟨rfl, rfl⟩) | (go_at_call 36; (with_reducible refine (bWithin r.cols _ _ _ H4.out).mono ?_); rintro e w' ⟨rfl, rfl⟩))
    (go_ret; exact ⟨ret_int HF.out.symm, (by (repeat' (first | with_reducible exact Below.refl _ _ | (with_reducible refine below_later_of ?_ ?_ _) | (with_reducible refine Below.alloc ?_ ?_ _) | (with_reducible refine Below.setCell ?_ ?_ _) | (with_reducible refine Below.drew ?_) | (simp; done) | (simp; omega) | omega)))⟩)
end Go.Proofs.Ytokpdmlmlkkekaa

/- Reliefs: cells and heights of places, the program. -/
namespace Go.Proofs.Ytokpdmlmlkkekaa
set_option linter.unusedVariables false
open Go.RowKit
def rowP (r : Rel) (y : Int) : Int := (y - r.y) / r.cell
def colP (r : Rel) (x : Int) : Int := (x - r.x) / r.cell
def hasCellB (r : Rel) (row col : Int) : Bool := inR 0 (r.rows - 1) row && inR 0 (r.cols - 1) col
set_option maxHeartbeats 1000000 in
theorem cell_any (r : Rel) (a : Option Addr) (cap : Nat) (x y : Int) (w : World) (o : r.Ok) (x1 : -100000000 ≤ x) (x2 : x ≤ 100000000) (y1 : -100000000 ≤ y) (y2 : y ≤ 100000000) :
    Calls Try.prog 110 #[.agg #[.int .i64 r.x, .int .i64 r.y, .int .i64 r.cell, .int .i64 r.rows, .int .i64 r.cols, .slice a r.ds.length cap], .int .i64 x, .int .i64 y] w fun e w' => e = .returned (.tuple #[.int .i64 (rowP r y), .int .i64 (colP r x)]) ∧ Below w.heap.size w w' := by
  obtain ⟨rx1, rx2, ry1, ry2, c1, c2, -, -, -, -, -⟩ := o
  unfold rowP colP
  go_enter Try.func110, Try.ntmps110
  go_wp2
  refine wp_region_calm (by kernel_rfl) (by kernel_rfl) ?_
  repeat (go_big_quiet_step (first | (go_at_call 133; exact calm_same (floor_pos _ _ _ (by omega) (by omega) (by omega) (by omega)))))
  refine wpQuiet_nil ?_
  rintro _ ⟨p1, rfl⟩
  go_wp2
  go_ret2
  exact ⟨rfl, (by (repeat' (first | with_reducible exact Below.refl _ _ | (with_reducible refine below_later_of ?_ ?_ _) | (with_reducible refine Below.alloc ?_ ?_ _) | (with_reducible refine Below.setCell ?_ ?_ _) | (with_reducible refine Below.drew ?_) | (simp; done) | (simp; omega) | omega)))⟩
set_option maxHeartbeats 1000000 in
theorem has_cell (r : Rel) (a : Option Addr) (cap : Nat) (row col : Int) (w : World) (r1 : 1 ≤ r.rows) (r2 : r.rows ≤ 64) (l1 : 1 ≤ r.cols) (l2 : r.cols ≤ 64) {c : Bool} (hc : hasCellB r row col = c) :
    Calls Try.prog 104 #[.agg #[.int .i64 r.x, .int .i64 r.y, .int .i64 r.cell, .int .i64 r.rows, .int .i64 r.cols, .slice a r.ds.length cap], .int .i64 row, .int .i64 col] w fun e w' => e = .returned (.bool c) ∧ Below w.heap.size w w' := by
  subst hc
  cases h1 : inR 0 (r.rows - 1) row
  · have HF := Lib.hid (show hasCellB r row col = false by unfold hasCellB; rw [h1]; rfl)
    have H1 := Lib.hid h1
    clear h1
    go_enter Try.func104, Try.ntmps104
    go_wp2_with (first | (go_at_call 91; (with_reducible refine (within_c row 0 (r.rows - 1) _ H1.out).mono ?_); rintro e w' ⟨rfl, rfl⟩))
    go_ret
    exact ⟨ret_bool HF.out.symm, (by (repeat' (first | with_reducible exact Below.refl _ _ | (with_reducible refine below_later_of ?_ ?_ _) | (with_reducible refine Below.alloc ?_ ?_ _) | (with_reducible refine Below.setCell ?_ ?_ _) | (with_reducible refine Below.drew ?_) | (simp; done) | (simp; omega) | omega)))⟩
  · obtain ⟨c, h2⟩ : ∃ c, inR 0 (r.cols - 1) col = c := ⟨_, rfl⟩
    have HF := Lib.hid (show hasCellB r row col = c by unfold hasCellB; rw [h1, h2]; rfl)
    have H1 := Lib.hid h1
    have H2 := Lib.hid h2
    clear h1 h2
    go_enter Try.func104, Try.ntmps104
    go_wp2_with (first | (go_at_call 91; (with_reducible refine (within_c row 0 (r.rows - 1) _ H1.out).mono ?_); rintro e w' ⟨rfl, rfl⟩) | (go_at_call 91; (with_reducible refine (within_c col 0 (r.cols - 1) _ H2.out).mono ?_); rintro e w' ⟨rfl, rfl⟩))
    go_ret
    exact ⟨ret_bool HF.out.symm, (by (repeat' (first | with_reducible exact Below.refl _ _ | (with_reducible refine below_later_of ?_ ?_ _) | (with_reducible refine Below.alloc ?_ ?_ _) | (with_reducible refine Below.setCell ?_ ?_ _) | (with_reducible refine Below.drew ?_) | (simp; done) | (simp; omega) | omega)))⟩
/-- The cell of a place: row, column, error. -/
def cellOfP (r : Rel) (x y z : Int) : Int × Int × Int :=
  if first2 (relErrP feB r) (checkPlaceP x y z) = 0 then (if hasCellB r (rowP r y) (colP r x) then (rowP r y, colP r x, 0) else (0, 0, 12)) else (0, 0, first2 (relErrP feB r) (checkPlaceP x y z))
def heightAtP (r : Rel) (x y z : Int) : Int × Int :=
  if (cellOfP r x y z).2.2 = 0 then (intB (bitAt r.ds (idxP r (cellOfP r x y z).1 (cellOfP r x y z).2.1)), 0) else (0, (cellOfP r x y z).2.2)
theorem SrcAt.below' {w w' : World} {a : Option Addr} {ds : List Nat} (h : SrcAt w a ds) (hw : Below w.heap.size w w') : 0 < ds.length → ∃ b off, a = some ⟨b, off, none⟩ ∧ b < w'.heap.size ∧ FloatsAt w' b off ds := h.below hw
set_option maxRecDepth 20000 in
set_option maxHeartbeats 2000000 in
theorem cellOf_any (r : Rel) (a : Option Addr) (cap : Nat) (x y z : Int) (w : World) (hl : r.ds.length ≤ 1000000000) (ha : SrcAt w a r.ds) {u v e0 : Int} (hr : cellOfP r x y z = (u, v, e0)) :
    Calls Try.prog 41 #[.agg #[.int .i64 r.x, .int .i64 r.y, .int .i64 r.cell, .int .i64 r.rows, .int .i64 r.cols, .slice a r.ds.length cap], .agg #[.int .i64 x, .int .i64 y, .int .i64 z]] w fun e w' => e = .returned (.tuple #[.agg #[.int .i64 u, .int .i64 v], .int .i64 e0]) ∧ Below w.heap.size w w' := by
  have HL := Lib.hid hl
  have HA := Lib.hid ha
  clear hl ha
  unfold cellOfP at hr
  by_cases h0 : first2 (relErrP feB r) (checkPlaceP x y z) = 0
  · rw [if_pos h0] at hr
    have HE := Lib.hid h0
    have h1 : relErrP feB r = 0 ∧ checkPlaceP x y z = 0 := by
      unfold first2 at h0
      split at h0
      · rename_i h1; exact ⟨h1, h0⟩
      · contradiction
    have o := (relErrP_ok h1.1).1
    have O := Lib.hid o
    have hpl : placeB x y z = true := by
      have := h1.2
      unfold checkPlaceP at this
      split at this
      · assumption
      · exact absurd this (by decide)
    obtain ⟨⟨x1, x2⟩, ⟨y1, y2⟩, -⟩ := placeB_iff.1 hpl
    obtain ⟨-, -, -, -, -, -, r1, r2, l1, l2, -⟩ := o
    clear h0 h1 hpl
    rcases (show hasCellB r (rowP r y) (colP r x) = false ∨ hasCellB r (rowP r y) (colP r x) = true by cases hasCellB r (rowP r y) (colP r x) <;> simp) with hh | hh
    · rw [hh] at hr
      simp only [Bool.false_eq_true, if_false, Prod.mk.injEq] at hr
      obtain ⟨rfl, rfl, rfl⟩ := hr
      have HH := Lib.hid hh
      clear hh
      go_enter Try.func41, Try.ntmps41
      go_wp2
      go_region_held3 (fun w' => w'.cell? ⟨w.heap.size, 0, none⟩ = some (.int .i64 r.x) ∧ w'.cell? ⟨w.heap.size, 1, none⟩ = some (.int .i64 r.y) ∧ w'.cell? ⟨w.heap.size, 2, none⟩ = some (.int .i64 r.cell) ∧ w'.cell? ⟨w.heap.size, 3, none⟩ = some (.int .i64 r.rows) ∧ w'.cell? ⟨w.heap.size, 4, none⟩ = some (.int .i64 r.cols) ∧ w'.cell? ⟨w.heap.size, 5, none⟩ = some (.slice a r.ds.length cap) ∧ w'.cell? ⟨w.heap.size + 1, 0, none⟩ = some (.int .i64 x) ∧ w'.cell? ⟨w.heap.size + 1, 1, none⟩ = some (.int .i64 y) ∧ w'.cell? ⟨w.heap.size + 1, 2, none⟩ = some (.int .i64 z)) (first | ((first | (simp [go_sem]; done) | simp [go_sem, ↓IntWalk.iteOmega]); done)) (first | (go_at_call 44; refine (checkRelief_any feB r a cap _ HL.out (fun k _ => flErr_any _) (HA.out.below' (by (repeat' (first | with_reducible exact Below.refl _ _ | (with_reducible refine below_later_of ?_ ?_ _) | (with_reducible refine Below.alloc ?_ ?_ _) | (with_reducible refine Below.setCell ?_ ?_ _) | (with_reducible refine Below.drew ?_) | (simp; done) | (simp; omega) | omega))))).mono ?_; rintro e w' ⟨rfl, hb⟩; obtain ⟨pp, rfl⟩ := later_of_below hb; clear hb) | (go_at_call 95; refine (checkPlace_any x y z _).mono ?_; rintro e w' ⟨rfl, hb⟩; obtain ⟨pp, rfl⟩ := later_of_below hb; clear hb) | (go_at_call 109; refine (first_e _ _ _ _ HE.out (by (first | (simp [go_sem]; done) | simp [go_sem, ↓IntWalk.iteOmega])) (by (first | (simp [go_sem]; done) | simp [go_sem, ↓IntWalk.iteOmega]))).mono ?_; rintro e w' ⟨rfl, rfl⟩))
      go_wp2_with (first | (go_at_call 110; refine (cell_any r a cap x y _ O.out (by omega) (by omega) (by omega) (by omega)).mono ?_; rintro e w' ⟨rfl, hb⟩; obtain ⟨pp, rfl⟩ := later_of_below hb; clear hb) | (go_at_call 104; refine (has_cell r a cap _ _ _ (by omega) (by omega) (by omega) (by omega) HH.out).mono ?_; rintro e w' ⟨rfl, hb⟩; obtain ⟨pp, rfl⟩ := later_of_below hb; clear hb))
      refine bodyPost_ret ?_ rfl ⟨rfl, (by (repeat' (first | with_reducible exact Below.refl _ _ | (with_reducible refine below_later_of ?_ ?_ _) | (with_reducible refine Below.alloc ?_ ?_ _) | (with_reducible refine Below.setCell ?_ ?_ _) | (with_reducible refine Below.drew ?_) | (simp; done) | (simp; omega) | omega)))⟩
      first | (simp [results, Try.results41, go_sem]; done) | simp [results, Try.results41, go_sem, ↓IntWalk.iteOmega]
    · rw [hh] at hr
      simp only [if_true, Prod.mk.injEq] at hr
      obtain ⟨rfl, rfl, rfl⟩ := hr
      have HH := Lib.hid hh
      clear hh
      go_enter Try.func41, Try.ntmps41
      go_wp2
      go_region_held3 (fun w' => w'.cell? ⟨w.heap.size, 0, none⟩ = some (.int .i64 r.x) ∧ w'.cell? ⟨w.heap.size, 1, none⟩ = some (.int .i64 r.y) ∧ w'.cell? ⟨w.heap.size, 2, none⟩ = some (.int .i64 r.cell) ∧ w'.cell? ⟨w.heap.size, 3, none⟩ = some (.int .i64 r.rows) ∧ w'.cell? ⟨w.heap.size, 4, none⟩ = some (.int .i64 r.cols) ∧ w'.cell? ⟨w.heap.size, 5, none⟩ = some (.slice a r.ds.length cap) ∧ w'.cell? ⟨w.heap.size + 1, 0, none⟩ = some (.int .i64 x) ∧ w'.cell? ⟨w.heap.size + 1, 1, none⟩ = some (.int .i64 y) ∧ w'.cell? ⟨w.heap.size + 1, 2, none⟩ = some (.int .i64 z)) (first | ((first | (simp [go_sem]; done) | simp [go_sem, ↓IntWalk.iteOmega]); done)) (first | (go_at_call 44; refine (checkRelief_any feB r a cap _ HL.out (fun k _ => flErr_any _) (HA.out.below' (by (repeat' (first | with_reducible exact Below.refl _ _ | (with_reducible refine below_later_of ?_ ?_ _) | (with_reducible refine Below.alloc ?_ ?_ _) | (with_reducible refine Below.setCell ?_ ?_ _) | (with_reducible refine Below.drew ?_) | (simp; done) | (simp; omega) | omega))))).mono ?_; rintro e w' ⟨rfl, hb⟩; obtain ⟨pp, rfl⟩ := later_of_below hb; clear hb) | (go_at_call 95; refine (checkPlace_any x y z _).mono ?_; rintro e w' ⟨rfl, hb⟩; obtain ⟨pp, rfl⟩ := later_of_below hb; clear hb) | (go_at_call 109; refine (first_e _ _ _ _ HE.out (by (first | (simp [go_sem]; done) | simp [go_sem, ↓IntWalk.iteOmega])) (by (first | (simp [go_sem]; done) | simp [go_sem, ↓IntWalk.iteOmega]))).mono ?_; rintro e w' ⟨rfl, rfl⟩))
      go_wp2_with (first | (go_at_call 110; refine (cell_any r a cap x y _ O.out (by omega) (by omega) (by omega) (by omega)).mono ?_; rintro e w' ⟨rfl, hb⟩; obtain ⟨pp, rfl⟩ := later_of_below hb; clear hb) | (go_at_call 104; refine (has_cell r a cap _ _ _ (by omega) (by omega) (by omega) (by omega) HH.out).mono ?_; rintro e w' ⟨rfl, hb⟩; obtain ⟨pp, rfl⟩ := later_of_below hb; clear hb))
      refine bodyPost_ret ?_ rfl ⟨rfl, (by (repeat' (first | with_reducible exact Below.refl _ _ | (with_reducible refine below_later_of ?_ ?_ _) | (with_reducible refine Below.alloc ?_ ?_ _) | (with_reducible refine Below.setCell ?_ ?_ _) | (with_reducible refine Below.drew ?_) | (simp; done) | (simp; omega) | omega)))⟩
      first | (simp [results, Try.results41, go_sem]; done) | simp [results, Try.results41, go_sem, ↓IntWalk.iteOmega]
  · rw [if_neg h0] at hr
    simp only [Prod.mk.injEq] at hr
    obtain ⟨rfl, rfl, rfl⟩ := hr
    obtain ⟨e1, he⟩ : ∃ e1, first2 (relErrP feB r) (checkPlaceP x y z) = e1 := ⟨_, rfl⟩
    rw [he] at h0 ⊢
    have HE := Lib.hid he
    clear he
    go_enter Try.func41, Try.ntmps41
    go_wp2
    go_region_held3 (fun w' => w'.cell? ⟨w.heap.size, 0, none⟩ = some (.int .i64 r.x) ∧ w'.cell? ⟨w.heap.size, 1, none⟩ = some (.int .i64 r.y) ∧ w'.cell? ⟨w.heap.size, 2, none⟩ = some (.int .i64 r.cell) ∧ w'.cell? ⟨w.heap.size, 3, none⟩ = some (.int .i64 r.rows) ∧ w'.cell? ⟨w.heap.size, 4, none⟩ = some (.int .i64 r.cols) ∧ w'.cell? ⟨w.heap.size, 5, none⟩ = some (.slice a r.ds.length cap) ∧ w'.cell? ⟨w.heap.size + 1, 0, none⟩ = some (.int .i64 x) ∧ w'.cell? ⟨w.heap.size + 1, 1, none⟩ = some (.int .i64 y) ∧ w'.cell? ⟨w.heap.size + 1, 2, none⟩ = some (.int .i64 z)) (first | ((first | (simp [go_sem]; done) | simp [go_sem, ↓IntWalk.iteOmega]); done)) (first | (go_at_call 44; refine (checkRelief_any feB r a cap _ HL.out (fun k _ => flErr_any _) (HA.out.below' (by (repeat' (first | with_reducible exact Below.refl _ _ | (with_reducible refine below_later_of ?_ ?_ _) | (with_reducible refine Below.alloc ?_ ?_ _) | (with_reducible refine Below.setCell ?_ ?_ _) | (with_reducible refine Below.drew ?_) | (simp; done) | (simp; omega) | omega))))).mono ?_; rintro e w' ⟨rfl, hb⟩; obtain ⟨pp, rfl⟩ := later_of_below hb; clear hb) | (go_at_call 95; refine (checkPlace_any x y z _).mono ?_; rintro e w' ⟨rfl, hb⟩; obtain ⟨pp, rfl⟩ := later_of_below hb; clear hb) | (go_at_call 109; refine (first_e _ _ _ _ HE.out (by (first | (simp [go_sem]; done) | simp [go_sem, ↓IntWalk.iteOmega])) (by (first | (simp [go_sem]; done) | simp [go_sem, ↓IntWalk.iteOmega]))).mono ?_; rintro e w' ⟨rfl, rfl⟩))
    go_wp2
    refine bodyPost_ret ?_ rfl ⟨rfl, (by (repeat' (first | with_reducible exact Below.refl _ _ | (with_reducible refine below_later_of ?_ ?_ _) | (with_reducible refine Below.alloc ?_ ?_ _) | (with_reducible refine Below.setCell ?_ ?_ _) | (with_reducible refine Below.drew ?_) | (simp; done) | (simp; omega) | omega)))⟩
    first | (simp [results, Try.results41, go_sem]; done) | simp [results, Try.results41, go_sem, ↓IntWalk.iteOmega]
end Go.Proofs.Ytokpdmlmlkkekaa

/- Reliefs: heights of places; the reference. -/
namespace Go.Proofs.Ytokpdmlmlkkekaa
set_option linter.unusedVariables false
open Go.RowKit
theorem hasCellB_iff {r : Rel} {row col : Int} : hasCellB r row col = true ↔ (0 ≤ row ∧ row ≤ r.rows - 1) ∧ 0 ≤ col ∧ col ≤ r.cols - 1 := by
  unfold hasCellB; rw [Bool.and_eq_true, inR_iff, inR_iff]
theorem cellOfP_ok {r : Rel} {x y z u v : Int} (h : cellOfP r x y z = (u, v, 0)) : relErrP feB r = 0 ∧ placeB x y z = true ∧ hasCellB r u v = true ∧ u = rowP r y ∧ v = colP r x := by
  unfold cellOfP at h
  split at h
  · rename_i h0
    have h1 : relErrP feB r = 0 ∧ checkPlaceP x y z = 0 := by
      unfold first2 at h0
      split at h0
      · rename_i h1; exact ⟨h1, h0⟩
      · contradiction
    have hpl : placeB x y z = true := by
      have := h1.2
      unfold checkPlaceP at this
      split at this
      · assumption
      · exact absurd this (by decide)
    split at h
    · rename_i h2
      simp only [Prod.mk.injEq] at h
      obtain ⟨rfl, rfl, -⟩ := h
      exact ⟨h1.1, hpl, h2, rfl, rfl⟩
    · simp only [Prod.mk.injEq] at h; omega
  · rename_i h0
    simp only [Prod.mk.injEq] at h
    exact absurd h.2.2 h0
/-- The height of a cell, by the program and by the reference. -/
structure HeightOk (r : Rel) (w : World) (b off : Nat) (row col : Int) (k : Nat) : Prop where
  hk : row * r.cols + col = (k : Int)
  p1 : 0 ≤ row * r.cols
  p2 : row * r.cols ≤ 1000000
  q1 : 0 ≤ col
  q2 : col ≤ 1000000
  lt : k < r.ds.length
  cell : w.cell? ⟨b, off + k, none⟩ = some (.float .f32 (bitAt r.ds k))
  int : FlInt (bitAt r.ds k) (intB (bitAt r.ds k))
theorem heightOk {r : Rel} {w : World} {b off : Nat} {row col : Int} (hr : relErrP feB r = 0) (hc : hasCellB r row col = true) (hf : FloatsAt w b off r.ds) : HeightOk r w b off row col (idxP r row col) := by
  obtain ⟨⟨h1, h2⟩, h3, h4⟩ := hasCellB_iff.1 hc
  have o := (relErrP_ok hr).1
  obtain ⟨k1, k2, k3, k4⟩ := idx_lt o h1 (by omega) h3 (by omega)
  exact ⟨k1, k2, by omega, h3, by have := o.l2; omega, k4, hf _ k4, (flInts_any hr _ k4).1⟩
set_option maxHeartbeats 400000 in
theorem rHeightOf (r : Rel) (b off cap : Nat) (row col : Int) (k : Nat) (h : Int) (w : World) (hk : row * r.cols + col = (k : Int)) (p1 : 0 ≤ row * r.cols) (p2 : row * r.cols ≤ 1000000) (q1 : 0 ≤ col) (q2 : col ≤ 1000000)
    (hlt : k < r.ds.length) (hbw : b < w.heap.size) (hc : w.cell? ⟨b, off + k, none⟩ = some (.float .f32 (bitAt r.ds k))) (hi : FlInt (bitAt r.ds k) h) :
    Calls Try.prog 117 #[.agg #[.int .i64 r.x, .int .i64 r.y, .int .i64 r.cell, .int .i64 r.rows, .int .i64 r.cols, .slice (some ⟨b, off, none⟩) r.ds.length cap], .int .i64 row, .int .i64 col] w fun e w' => e = .returned (.int .i64 h) ∧ Below w.heap.size w w' := by
  unfold FlInt at hi
  go_enter Try.func117, Try.ntmps117
  go_wp2
  go_ret
  exact ⟨rfl, (by (repeat' (first | with_reducible exact Below.refl _ _ | (with_reducible refine below_later_of ?_ ?_ _) | (with_reducible refine Below.alloc ?_ ?_ _) | (with_reducible refine Below.setCell ?_ ?_ _) | (with_reducible refine Below.drew ?_) | (simp; done) | (simp; omega) | omega)))⟩
theorem cellOf_e {r : Rel} {a : Option Addr} {cap : Nat} {x y z : Int} (w : World) (hl : r.ds.length ≤ 1000000000) (ha : SrcAt w a r.ds) {u v e0 : Int} (hr : cellOfP r x y z = (u, v, e0)) :
    Calls Try.prog 41 #[.agg #[.int .i64 r.x, .int .i64 r.y, .int .i64 r.cell, .int .i64 r.rows, .int .i64 r.cols, .slice a r.ds.length cap], .agg #[.int .i64 x, .int .i64 y, .int .i64 z]] w fun e w' => e = .returned (.tuple #[.agg #[.int .i64 u, .int .i64 v], .int .i64 e0]) ∧ Below w.heap.size w w' := cellOf_any r a cap x y z w hl ha hr
set_option maxRecDepth 20000 in
set_option maxHeartbeats 1000000 in
theorem heightAt_any (r : Rel) (a : Option Addr) (cap : Nat) (x y z : Int) (w : World) (hl : r.ds.length ≤ 1000000000) (ha : SrcAt w a r.ds) {h0 e0 : Int} (hr : heightAtP r x y z = (h0, e0)) :
    Calls Try.prog 42 #[.agg #[.int .i64 r.x, .int .i64 r.y, .int .i64 r.cell, .int .i64 r.rows, .int .i64 r.cols, .slice a r.ds.length cap], .agg #[.int .i64 x, .int .i64 y, .int .i64 z]] w fun e w' => e = .returned (.tuple #[.int .i64 h0, .int .i64 e0]) ∧ Below w.heap.size w w' := by
  obtain ⟨u, v, ec, hc⟩ : ∃ u v ec, cellOfP r x y z = (u, v, ec) := ⟨_, _, _, rfl⟩
  unfold heightAtP at hr
  rw [hc] at hr
  simp only at hr
  have HL := Lib.hid hl
  have HA := Lib.hid ha
  have HC := Lib.hid hc
  by_cases he : ec = 0
  · subst he
    rw [if_pos rfl] at hr
    simp only [Prod.mk.injEq] at hr
    obtain ⟨rfl, rfl⟩ := hr
    obtain ⟨h1, h2, h3, -, -⟩ := cellOfP_ok hc
    have o := (relErrP_ok h1).1
    have hpos : 0 < r.ds.length := by
      have h1 := o.len
      have : 1 * 1 ≤ r.rows * r.cols := Int.mul_le_mul o.r1 o.l1 (by omega) (by have := o.r1; omega)
      omega
    obtain ⟨b, off, rfl, hbw, hf⟩ := ha hpos
    have hk := heightOk h1 h3 hf
    obtain ⟨k, hkk⟩ : ∃ k, idxP r u v = k := ⟨_, rfl⟩
    rw [hkk] at hk ⊢
    have HK := Lib.hid hk
    obtain ⟨-, p1, p2, q1, q2, lt, -, hi⟩ := hk
    generalize intB (bitAt r.ds k) = hh at hi ⊢
    have HI := Lib.hid hi
    clear hi hl ha hc h1 h2 h3 hf hkk
    go_enter Try.func42, Try.ntmps42
    go_wp2_with (first | (go_at_call 41; refine (cellOf_e _ HL.out (HA.out.below (by (repeat' (first | with_reducible exact Below.refl _ _ | (with_reducible refine below_later_of ?_ ?_ _) | (with_reducible refine Below.alloc ?_ ?_ _) | (with_reducible refine Below.setCell ?_ ?_ _) | (with_reducible refine Below.drew ?_) | (simp; done) | (simp; omega) | omega)))) HC.out).mono ?_; rintro e w' ⟨rfl, hb⟩; obtain ⟨pp, rfl⟩ := later_of_below hb; clear hb) | (go_at_call 111; refine (height_any r b off cap _ _ k hh _ HK.out.hk (by omega) (by omega) (by omega) (by omega) (by omega) (by simp; omega) (by (first | (simp [go_sem]; done) | simp [go_sem, ↓IntWalk.iteOmega]); exact HK.out.cell) HI.out).mono ?_; rintro e w' ⟨rfl, hb⟩; obtain ⟨pp, rfl⟩ := later_of_below hb; clear hb))
    go_ret2
    exact ⟨rfl, (by (repeat' (first | with_reducible exact Below.refl _ _ | (with_reducible refine below_later_of ?_ ?_ _) | (with_reducible refine Below.alloc ?_ ?_ _) | (with_reducible refine Below.setCell ?_ ?_ _) | (with_reducible refine Below.drew ?_) | (simp; done) | (simp; omega) | omega)))⟩
  · rw [if_neg he] at hr
    simp only [Prod.mk.injEq] at hr
    obtain ⟨rfl, rfl⟩ := hr
    clear hl ha hc
    go_enter Try.func42, Try.ntmps42
    go_wp2_with (first | (go_at_call 41; refine (cellOf_e _ HL.out (HA.out.below (by (repeat' (first | with_reducible exact Below.refl _ _ | (with_reducible refine below_later_of ?_ ?_ _) | (with_reducible refine Below.alloc ?_ ?_ _) | (with_reducible refine Below.setCell ?_ ?_ _) | (with_reducible refine Below.drew ?_) | (simp; done) | (simp; omega) | omega)))) HC.out).mono ?_; rintro e w' ⟨rfl, hb⟩; obtain ⟨pp, rfl⟩ := later_of_below hb; clear hb))
    go_ret2
    exact ⟨rfl, (by (repeat' (first | with_reducible exact Below.refl _ _ | (with_reducible refine below_later_of ?_ ?_ _) | (with_reducible refine Below.alloc ?_ ?_ _) | (with_reducible refine Below.setCell ?_ ?_ _) | (with_reducible refine Below.drew ?_) | (simp; done) | (simp; omega) | omega)))⟩
set_option maxHeartbeats 400000 in
theorem rRowOf (r : Rel) (a : Option Addr) (cap : Nat) (y : Int) (w : World) (o : r.Ok) (y1 : -100000000 ≤ y) (y2 : y ≤ 100000000) :
    Calls Try.prog 115 #[.agg #[.int .i64 r.x, .int .i64 r.y, .int .i64 r.cell, .int .i64 r.rows, .int .i64 r.cols, .slice a r.ds.length cap], .int .i64 y] w fun e w' => e = .returned (.int .i64 (rowP r y)) ∧ Below w.heap.size w w' := by
  obtain ⟨rx1, rx2, ry1, ry2, c1, c2, -, -, -, -, -⟩ := o
  unfold rowP
  go_enter Try.func115, Try.ntmps115
  go_wp2_with (first | (go_at_call 57; refine (bFloor _ _ _ (by omega) (by omega) (by omega) (by omega)).mono ?_; rintro e w' ⟨rfl, rfl⟩))
  go_ret
  exact ⟨rfl, (by (repeat' (first | with_reducible exact Below.refl _ _ | (with_reducible refine below_later_of ?_ ?_ _) | (with_reducible refine Below.alloc ?_ ?_ _) | (with_reducible refine Below.setCell ?_ ?_ _) | (with_reducible refine Below.drew ?_) | (simp; done) | (simp; omega) | omega)))⟩
set_option maxHeartbeats 400000 in
theorem rColOf (r : Rel) (a : Option Addr) (cap : Nat) (x : Int) (w : World) (o : r.Ok) (x1 : -100000000 ≤ x) (x2 : x ≤ 100000000) :
    Calls Try.prog 116 #[.agg #[.int .i64 r.x, .int .i64 r.y, .int .i64 r.cell, .int .i64 r.rows, .int .i64 r.cols, .slice a r.ds.length cap], .int .i64 x] w fun e w' => e = .returned (.int .i64 (colP r x)) ∧ Below w.heap.size w w' := by
  obtain ⟨rx1, rx2, ry1, ry2, c1, c2, -, -, -, -, -⟩ := o
  unfold colP
  go_enter Try.func116, Try.ntmps116
  go_wp2_with (first | (go_at_call 57; refine (bFloor _ _ _ (by omega) (by omega) (by omega) (by omega)).mono ?_; rintro e w' ⟨rfl, rfl⟩))
  go_ret
  exact ⟨rfl, (by (repeat' (first | with_reducible exact Below.refl _ _ | (with_reducible refine below_later_of ?_ ?_ _) | (with_reducible refine Below.alloc ?_ ?_ _) | (with_reducible refine Below.setCell ?_ ?_ _) | (with_reducible refine Below.drew ?_) | (simp; done) | (simp; omega) | omega)))⟩
set_option maxHeartbeats 1000000 in
theorem rHasCell (r : Rel) (a : Option Addr) (cap : Nat) (row col : Int) (w : World) (r1 : 1 ≤ r.rows) (r2 : r.rows ≤ 64) (l1 : 1 ≤ r.cols) (l2 : r.cols ≤ 64) {c : Bool} (hc : hasCellB r row col = c) :
    Calls Try.prog 37 #[.agg #[.int .i64 r.x, .int .i64 r.y, .int .i64 r.cell, .int .i64 r.rows, .int .i64 r.cols, .slice a r.ds.length cap], .int .i64 row, .int .i64 col] w fun e w' => e = .returned (.bool c) ∧ Below w.heap.size w w' := by
  subst hc
  cases h1 : inR 0 (r.rows - 1) row
  · have HF := Lib.hid (show hasCellB r row col = false by unfold hasCellB; rw [h1]; rfl)
    have H1 := Lib.hid h1
    clear h1
    go_enter Try.func37, Try.ntmps37
    go_wp2_with (first | (go_at_call 36; (with_reducible refine (bWithin row 0 (r.rows - 1) _ H1.out).mono ?_); rintro e w' ⟨rfl, rfl⟩))
    go_ret
    exact ⟨ret_bool HF.out.symm, (by (repeat' (first | with_reducible exact Below.refl _ _ | (with_reducible refine below_later_of ?_ ?_ _) | (with_reducible refine Below.alloc ?_ ?_ _) | (with_reducible refine Below.setCell ?_ ?_ _) | (with_reducible refine Below.drew ?_) | (simp; done) | (simp; omega) | omega)))⟩
  · obtain ⟨c, h2⟩ : ∃ c, inR 0 (r.cols - 1) col = c := ⟨_, rfl⟩
    have HF := Lib.hid (show hasCellB r row col = c by unfold hasCellB; rw [h1, h2]; rfl)
    have H1 := Lib.hid h1
    have H2 := Lib.hid h2
    clear h1 h2
    go_enter Try.func37, Try.ntmps37
    go_wp2_with (first | (go_at_call 36; (with_reducible refine (bWithin row 0 (r.rows - 1) _ H1.out).mono ?_); rintro e w' ⟨rfl, rfl⟩) | (go_at_call 36; (with_reducible refine (bWithin col 0 (r.cols - 1) _ H2.out).mono ?_); rintro e w' ⟨rfl, rfl⟩))
    go_ret
    exact ⟨ret_bool HF.out.symm, (by (repeat' (first | with_reducible exact Below.refl _ _ | (with_reducible refine below_later_of ?_ ?_ _) | (with_reducible refine Below.alloc ?_ ?_ _) | (with_reducible refine Below.setCell ?_ ?_ _) | (with_reducible refine Below.drew ?_) | (simp; done) | (simp; omega) | omega)))⟩
theorem cellOfP_right {r : Rel} {x y z : Int} (hr : relErrP feB r = 0) (hp : placeB x y z = true) : cellOfP r x y z = if hasCellB r (rowP r y) (colP r x) then (rowP r y, colP r x, 0) else (0, 0, 12) := by
  unfold cellOfP
  rw [if_pos]
  unfold first2 checkPlaceP
  rw [hr, hp]; rfl
set_option maxRecDepth 20000 in
set_option maxHeartbeats 1000000 in
theorem rCellOf (r : Rel) (a : Option Addr) (cap : Nat) (x y z : Int) (w : World) (hr : relErrP feB r = 0) (hp : placeB x y z = true) {u v e0 : Int} (hc : cellOfP r x y z = (u, v, e0)) :
    Calls Try.prog 46 #[.agg #[.int .i64 r.x, .int .i64 r.y, .int .i64 r.cell, .int .i64 r.rows, .int .i64 r.cols, .slice a r.ds.length cap], .agg #[.int .i64 x, .int .i64 y, .int .i64 z]] w fun e w' => e = .returned (.tuple #[.agg #[.int .i64 u, .int .i64 v], .int .i64 e0]) ∧ Below w.heap.size w w' := by
  rw [cellOfP_right hr hp] at hc
  have o := (relErrP_ok hr).1
  have O := Lib.hid o
  obtain ⟨⟨x1, x2⟩, ⟨y1, y2⟩, -⟩ := placeB_iff.1 hp
  obtain ⟨-, -, -, -, -, -, r1, r2, l1, l2, -⟩ := o
  clear hr hp
  rcases (show hasCellB r (rowP r y) (colP r x) = false ∨ hasCellB r (rowP r y) (colP r x) = true by cases hasCellB r (rowP r y) (colP r x) <;> simp) with hh | hh
  · rw [hh] at hc
    simp only [Bool.false_eq_true, if_false, Prod.mk.injEq] at hc
    obtain ⟨rfl, rfl, rfl⟩ := hc
    have HH := Lib.hid hh
    clear hh
    go_enter Try.func46, Try.ntmps46
    go_wp2
    refine wp_region_calm (by kernel_rfl) (by kernel_rfl) ?_
    repeat (go_big_quiet_step (first | (go_at_call 115; exact calm_of (rRowOf r a cap _ _ O.out (by omega) (by omega))) | (go_at_call 116; exact calm_of (rColOf r a cap _ _ O.out (by omega) (by omega)))))
    refine wpQuiet_nil ?_
    rintro _ ⟨p1, rfl⟩
    go_wp2_with (first | (go_at_call 37; refine (rHasCell r a cap _ _ _ (by omega) (by omega) (by omega) (by omega) HH.out).mono ?_; rintro e w' ⟨rfl, hb⟩; obtain ⟨pp, rfl⟩ := later_of_below hb; clear hb))
    refine bodyPost_ret ?_ rfl ⟨rfl, (by (repeat' (first | with_reducible exact Below.refl _ _ | (with_reducible refine below_later_of ?_ ?_ _) | (with_reducible refine Below.alloc ?_ ?_ _) | (with_reducible refine Below.setCell ?_ ?_ _) | (with_reducible refine Below.drew ?_) | (simp; done) | (simp; omega) | omega)))⟩
    first | (simp [results, Try.results46, go_sem]; done) | simp [results, Try.results46, go_sem, ↓IntWalk.iteOmega]
  · rw [hh] at hc
    simp only [if_true, Prod.mk.injEq] at hc
    obtain ⟨rfl, rfl, rfl⟩ := hc
    have HH := Lib.hid hh
    clear hh
    go_enter Try.func46, Try.ntmps46
    go_wp2
    refine wp_region_calm (by kernel_rfl) (by kernel_rfl) ?_
    repeat (go_big_quiet_step (first | (go_at_call 115; exact calm_of (rRowOf r a cap _ _ O.out (by omega) (by omega))) | (go_at_call 116; exact calm_of (rColOf r a cap _ _ O.out (by omega) (by omega)))))
    refine wpQuiet_nil ?_
    rintro _ ⟨p1, rfl⟩
    go_wp2_with (first | (go_at_call 37; refine (rHasCell r a cap _ _ _ (by omega) (by omega) (by omega) (by omega) HH.out).mono ?_; rintro e w' ⟨rfl, hb⟩; obtain ⟨pp, rfl⟩ := later_of_below hb; clear hb))
    refine bodyPost_ret ?_ rfl ⟨rfl, (by (repeat' (first | with_reducible exact Below.refl _ _ | (with_reducible refine below_later_of ?_ ?_ _) | (with_reducible refine Below.alloc ?_ ?_ _) | (with_reducible refine Below.setCell ?_ ?_ _) | (with_reducible refine Below.drew ?_) | (simp; done) | (simp; omega) | omega)))⟩
    first | (simp [results, Try.results46, go_sem]; done) | simp [results, Try.results46, go_sem, ↓IntWalk.iteOmega]
set_option maxRecDepth 20000 in
set_option maxHeartbeats 1000000 in
theorem rHeightAt (r : Rel) (a : Option Addr) (cap : Nat) (x y z : Int) (w : World) (ha : SrcAt w a r.ds) (hrr : relErrP feB r = 0) (hpp : placeB x y z = true) {h0 e0 : Int} (hr : heightAtP r x y z = (h0, e0)) :
    Calls Try.prog 47 #[.agg #[.int .i64 r.x, .int .i64 r.y, .int .i64 r.cell, .int .i64 r.rows, .int .i64 r.cols, .slice a r.ds.length cap], .agg #[.int .i64 x, .int .i64 y, .int .i64 z]] w fun e w' => e = .returned (.tuple #[.int .i64 h0, .int .i64 e0]) ∧ Below w.heap.size w w' := by
  obtain ⟨u, v, ec, hc⟩ : ∃ u v ec, cellOfP r x y z = (u, v, ec) := ⟨_, _, _, rfl⟩
  unfold heightAtP at hr
  rw [hc] at hr
  simp only at hr
  have HR := Lib.hid hrr
  have HP := Lib.hid hpp
  have HC := Lib.hid hc
  by_cases he : ec = 0
  · subst he
    rw [if_pos rfl] at hr
    simp only [Prod.mk.injEq] at hr
    obtain ⟨rfl, rfl⟩ := hr
    obtain ⟨h1, h2, h3, -, -⟩ := cellOfP_ok hc
    have o := (relErrP_ok h1).1
    have hpos : 0 < r.ds.length := by
      have h1 := o.len
      have : 1 * 1 ≤ r.rows * r.cols := Int.mul_le_mul o.r1 o.l1 (by omega) (by have := o.r1; omega)
      omega
    obtain ⟨b, off, rfl, hbw, hf⟩ := ha hpos
    have hk := heightOk h1 h3 hf
    obtain ⟨k, hkk⟩ : ∃ k, idxP r u v = k := ⟨_, rfl⟩
    rw [hkk] at hk ⊢
    have HK := Lib.hid hk
    obtain ⟨-, p1, p2, q1, q2, lt, -, hi⟩ := hk
    generalize intB (bitAt r.ds k) = hh at hi ⊢
    have HI := Lib.hid hi
    clear hi ha hc h1 h2 h3 hf hkk hrr hpp
    go_enter Try.func47, Try.ntmps47
    go_wp2_with (first | (go_at_call 46; refine (rCellOf r _ cap x y z _ HR.out HP.out HC.out).mono ?_; rintro e w' ⟨rfl, hb⟩; obtain ⟨pp, rfl⟩ := later_of_below hb; clear hb) | (go_at_call 117; refine (rHeightOf r b off cap _ _ k hh _ HK.out.hk (by omega) (by omega) (by omega) (by omega) (by omega) (by simp; omega) (by (first | (simp [go_sem]; done) | simp [go_sem, ↓IntWalk.iteOmega]); exact HK.out.cell) HI.out).mono ?_; rintro e w' ⟨rfl, hb⟩; obtain ⟨pp, rfl⟩ := later_of_below hb; clear hb))
    go_ret2
    exact ⟨rfl, (by (repeat' (first | with_reducible exact Below.refl _ _ | (with_reducible refine below_later_of ?_ ?_ _) | (with_reducible refine Below.alloc ?_ ?_ _) | (with_reducible refine Below.setCell ?_ ?_ _) | (with_reducible refine Below.drew ?_) | (simp; done) | (simp; omega) | omega)))⟩
  · rw [if_neg he] at hr
    simp only [Prod.mk.injEq] at hr
    obtain ⟨rfl, rfl⟩ := hr
    clear ha hc hrr hpp
    go_enter Try.func47, Try.ntmps47
    go_wp2_with (first | (go_at_call 46; refine (rCellOf r _ cap x y z _ HR.out HP.out HC.out).mono ?_; rintro e w' ⟨rfl, hb⟩; obtain ⟨pp, rfl⟩ := later_of_below hb; clear hb))
    go_ret2
    exact ⟨rfl, (by (repeat' (first | with_reducible exact Below.refl _ _ | (with_reducible refine below_later_of ?_ ?_ _) | (with_reducible refine Below.alloc ?_ ?_ _) | (with_reducible refine Below.setCell ?_ ?_ _) | (with_reducible refine Below.drew ?_) | (simp; done) | (simp; omega) | omega)))⟩
set_option maxHeartbeats 400000 in
theorem few_any (r : Rel) (a : Option Addr) (cap : Nat) (w : World) {c : Bool} (hc : decide (r.ds.length ≤ 80) = c) :
    Calls Try.prog 31 #[.agg #[.int .i64 r.x, .int .i64 r.y, .int .i64 r.cell, .int .i64 r.rows, .int .i64 r.cols, .slice a r.ds.length cap]] w fun e w' => e = .returned (.bool c) ∧ Below w.heap.size w w' := by
  subst hc
  go_enter Try.func31, Try.ntmps31
  go_wp2
  go_ret
  exact ⟨ret_bool (by rw [decide_eq_decide]; omega), (by (repeat' (first | with_reducible exact Below.refl _ _ | (with_reducible refine below_later_of ?_ ?_ _) | (with_reducible refine Below.alloc ?_ ?_ _) | (with_reducible refine Below.setCell ?_ ?_ _) | (with_reducible refine Below.drew ?_) | (simp; done) | (simp; omega) | omega)))⟩
end Go.Proofs.Ytokpdmlmlkkekaa
