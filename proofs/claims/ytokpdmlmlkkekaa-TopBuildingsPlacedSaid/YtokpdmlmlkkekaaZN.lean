import Derived.Test.YtokpdmlmlkkekaaZS
import Derived.Test.YtokpdmlmlkkekaaM5
/- Reliefs in memory of their own, which may be written. -/
namespace Go.Proofs.Ytokpdmlmlkkekaa
set_option linter.unusedVariables false
open Go.RowKit
/-- The floats of a slice in a block of its own from B on, which may be written. -/
def SrcOwn (w : World) (B : Nat) (a : Option Addr) (ds : List Nat) : Prop := 0 < ds.length → ∃ b, a = some ⟨b, 0, none⟩ ∧ B ≤ b ∧ b < w.heap.size ∧ FloatsAt w b 0 ds ∧ ∀ k, w.frozen? ⟨b, k, none⟩ = false
theorem SrcOwn.mono {w : World} {B C : Nat} {a : Option Addr} {ds : List Nat} (h : SrcOwn w B a ds) (hC : C ≤ B) : SrcOwn w C a ds := fun hp => by
  obtain ⟨b, h1, h2, h3, h4, h5⟩ := h hp
  exact ⟨b, h1, Nat.le_trans hC h2, h3, h4, h5⟩
theorem SrcOwn.below {w w' : World} {B : Nat} {a : Option Addr} {ds : List Nat} (h : SrcOwn w B a ds) (hw : Below w.heap.size w w') : SrcOwn w' B a ds := fun hp => by
  obtain ⟨b, h1, h2, h3, h4, h5⟩ := h hp
  exact ⟨b, h1, h2, Nat.lt_of_lt_of_le h3 hw.size, h4.below h3 hw, fun k => (hw.frozen (p := ⟨b, k, none⟩) h3).trans (h5 k)⟩
theorem SrcOwn.at_ {w : World} {B : Nat} {a : Option Addr} {ds : List Nat} (h : SrcOwn w B a ds) : SrcAt w a ds := fun hp => by
  obtain ⟨b, h1, _, h2, h3, _⟩ := h hp
  exact ⟨b, 0, h1, h2, h3⟩
theorem SrcOwn.set_ {w : World} {B : Nat} {a : Option Addr} {ds : List Nat} (h : SrcOwn w B a ds) {g j : Nat} (hg : g < B) (u : Value) : SrcOwn (w.setCell ⟨g, j, none⟩ u) B a ds := fun hp => by
  obtain ⟨b, h1, h2, h3, h4, h5⟩ := h hp
  refine ⟨b, h1, h2, by simpa using h3, fun k hk => ?_, fun k => ?_⟩
  · rw [World.cell?_setCell_other _ _ _ _ (by intro e; simp at e <;> omega)]
    exact h4 k hk
  · rw [World.frozen?_setCell]; exact h5 k
theorem srcOwn_own {w : World} {base : Nat} {v : Value} {ds : List Nat} (h : w.ownsRow base 75 1 v ds.length (floatVals ds)) : ∃ a cap, v = .slice a ds.length cap ∧ SrcOwn w base a ds ∧ (a = none → cap = 0) := by
  by_cases hp : 0 < ds.length
  · obtain ⟨g, c, rfl, h1, h2, h3, h4⟩ := ownsRow_slice h hp
    refine ⟨_, c, rfl, fun _ => ⟨g, rfl, h1, h2, fun k hk => ?_, fun k => h.frozenAt k⟩, fun h => by cases h⟩
    rw [Nat.zero_add, h.cellAt k (by omega)]
    unfold floatVals bitAt
    simp [hk]
  · have h0 : ds.length = 0 := by omega
    rcases h.2 with ⟨rfl, h2⟩ | ⟨g, cap, cur, rfl, _⟩
    · exact ⟨none, 0, by rw [h0], fun hq => by omega, fun _ => rfl⟩
    · exact ⟨_, cap, rfl, fun hq => by omega, fun h => by cases h⟩
set_option maxRecDepth 20000 in
set_option maxHeartbeats 1000000 in
theorem copyFloats_some' (x y : Int) (r : Rel) (ad : Addr) (cap : Nat) (w : World) (hl : r.ds.length ≤ 1000000000) (hf : ∀ W, Below w.heap.size w W → ∀ j u, (floatVals r.ds)[j]? = some u → W.cell? (ad.add j) = some u) :
    Calls Try.prog 103 #[.agg #[.int .i64 x, .int .i64 y, .slice (some ad) r.ds.length cap]] w fun e w' => ∃ a' cap', e = .returned (.agg #[.int .i64 x, .int .i64 y, .slice a' r.ds.length cap']) ∧ SrcOwn w' w.heap.size a' r.ds ∧ (a' = none → cap' = 0) ∧ Below w.heap.size w w' := by
  obtain ⟨i0, hi, hz0, hz1, hz2⟩ := info_parts info75
  have HF := Lib.hid hf
  clear hf
  go_enter Try.func103, Try.ntmps103
  go_wp2_with (at_builtin; refine wpList_append_own _ rfl _ _ 55 rfl (w.heap.size + 2) 75 i0 (.float .f32 0) 1 4 Try.underlying55 hi hz0 hz1 hz2 rfl (by decide) _ 0 [] rfl (ownsRow_new _ _ _ _ (by simp) (by simp <;> omega)) ad r.ds.length cap (floatVals r.ds) rfl ?c1 ?c2 ?c3 ?c4 ?c5 ?c6 ?_)
  case c1 => unfold floatVals; simp
  case c2 => exact HF.out _ (by (repeat' (first | with_reducible exact Below.refl _ _ | (with_reducible refine below_later_of ?_ ?_ _) | (with_reducible refine Below.alloc ?_ ?_ _) | (with_reducible refine Below.setCell ?_ ?_ _) | (with_reducible refine Below.drew ?_) | (simp; done) | (simp; omega) | omega)))
  case c3 => exact one_cells
  case c4 => unfold maxLen; omega
  case c5 => omega
  case c6 => simp <;> omega
  intro v' w1 hown hgrow _
  have hown2 : w1.ownsRow (w.heap.size + 2) 75 1 v' r.ds.length (floatVals r.ds) := by simpa using hown
  obtain ⟨a', cap', rfl, hs, hn⟩ := srcOwn_own hown2
  have HB := Lib.hid (show Below w.heap.size w w1 from (show Below w.heap.size w _ from (by (repeat' (first | with_reducible exact Below.refl _ _ | (with_reducible refine below_later_of ?_ ?_ _) | (with_reducible refine Below.alloc ?_ ?_ _) | (with_reducible refine Below.setCell ?_ ?_ _) | (with_reducible refine Below.drew ?_) | (simp; done) | (simp; omega) | omega)))).grown hgrow (by simp; omega) (fun g hg => by simp [Value.ownBlock] at hg; omega))
  have hcell : ∀ i j, i < w.heap.size + 1 + 1 → w1.cell? ⟨i, j, none⟩ = _ := fun i j hi => World.cell?_of_block (hgrow.block i (by simp; omega) (fun e => by simp [Value.ownBlock] at e; omega))
  have c0 : w1.cell? ⟨w.heap.size, 0, none⟩ = some (.int .i64 x) := (hcell _ _ (by omega)).trans (by (first | (simp [go_sem]; done) | simp [go_sem, ↓IntWalk.iteOmega]))
  have c1 : w1.cell? ⟨w.heap.size, 1, none⟩ = some (.int .i64 y) := (hcell _ _ (by omega)).trans (by (first | (simp [go_sem]; done) | simp [go_sem, ↓IntWalk.iteOmega]))
  have c2 : w1.cell? ⟨w.heap.size, 2, none⟩ = some (.slice (some ad) r.ds.length cap) := (hcell _ _ (by omega)).trans (by (first | (simp [go_sem]; done) | simp [go_sem, ↓IntWalk.iteOmega]))
  have d0 : w1.cell? ⟨w.heap.size + 1, 0, none⟩ = some (.int .i64 0) := (hcell _ _ (by omega)).trans (by (first | (simp [go_sem]; done) | simp [go_sem, ↓IntWalk.iteOmega]))
  have d1 : w1.cell? ⟨w.heap.size + 1, 1, none⟩ = some (.int .i64 0) := (hcell _ _ (by omega)).trans (by (first | (simp [go_sem]; done) | simp [go_sem, ↓IntWalk.iteOmega]))
  have d2 : w1.cell? ⟨w.heap.size + 1, 2, none⟩ = some (.slice none 0 0) := (hcell _ _ (by omega)).trans (by (first | (simp [go_sem]; done) | simp [go_sem, ↓IntWalk.iteOmega]))
  have hfro : ∀ i j, i < w.heap.size + 1 + 1 → w1.frozen? ⟨i, j, none⟩ = _ := fun i j hi => frozen_of_block (hgrow.block i (by simp; omega) (fun e => by simp [Value.ownBlock] at e; omega))
  have f2 : w1.frozen? ⟨w.heap.size, 2, none⟩ = false := (hfro _ _ (by omega)).trans (by (first | (simp [go_sem]; done) | simp [go_sem, ↓IntWalk.iteOmega]))
  have g0 : w1.frozen? ⟨w.heap.size + 1, 0, none⟩ = false := (hfro _ _ (by omega)).trans (by (first | (simp [go_sem]; done) | simp [go_sem, ↓IntWalk.iteOmega]))
  have g1 : w1.frozen? ⟨w.heap.size + 1, 1, none⟩ = false := (hfro _ _ (by omega)).trans (by (first | (simp [go_sem]; done) | simp [go_sem, ↓IntWalk.iteOmega]))
  have g2 : w1.frozen? ⟨w.heap.size + 1, 2, none⟩ = false := (hfro _ _ (by omega)).trans (by (first | (simp [go_sem]; done) | simp [go_sem, ↓IntWalk.iteOmega]))
  have hsz := hgrow.size
  have HS := Lib.hid hs
  have HN := Lib.hid hn
  simp at hsz
  clear hown hown2 hgrow hcell hfro hs hn
  go_wp2
  refine bodyPost_ret (v := .agg #[.int .i64 x, .int .i64 y, .slice a' r.ds.length cap']) (by (first | (simp [results, Try.results103, go_sem, d0, d1, d2]; done) | simp [results, Try.results103, go_sem, d0, d1, d2, ↓IntWalk.iteOmega])) rfl ⟨_, _, rfl, ((((HS.out.set_ (by omega) _).set_ (by omega) _).set_ (by omega) _).set_ (by omega) _).mono (by omega), HN.out, ?_⟩
  exact (((HB.out.setCell (p := ⟨w.heap.size, 2, none⟩) (Nat.le_refl _) _).setCell (p := ⟨w.heap.size + 1, 0, none⟩) (by simp) _).setCell (p := ⟨w.heap.size + 1, 1, none⟩) (by simp) _).setCell (p := ⟨w.heap.size + 1, 2, none⟩) (by simp) _
theorem copyFloats_any' (x y : Int) (r : Rel) (a : Option Addr) (cap : Nat) (w : World) (hl : r.ds.length ≤ 1000000000) (hs : SrcAt w a r.ds) (hn : a = none → cap = 0) :
    Calls Try.prog 103 #[.agg #[.int .i64 x, .int .i64 y, .slice a r.ds.length cap]] w fun e w' => ∃ a' cap', e = .returned (.agg #[.int .i64 x, .int .i64 y, .slice a' r.ds.length cap']) ∧ SrcOwn w' w.heap.size a' r.ds ∧ (a' = none → cap' = 0) ∧ Below w.heap.size w w' := by
  by_cases hp : 0 < r.ds.length
  · obtain ⟨b, off, rfl, hbw, hf⟩ := hs hp
    exact copyFloats_some' x y r _ cap w hl (fun W hW => add_cell (hf.below hbw hW))
  · have h0 : r.ds = [] := List.length_eq_zero_iff.1 (by omega)
    cases a with
    | none =>
      obtain rfl := hn rfl
      have h1 : r.ds.length = 0 := by omega
      have := copyFloats_none x y w
      rw [h1]
      refine this.mono ?_
      rintro e w' ⟨a', cap', he, hn', hb⟩
      exact ⟨a', cap', he, fun h => by omega, hn', hb⟩
    | some ad =>
      refine copyFloats_some' x y r ad cap w hl (fun W hW j u hu => ?_)
      rw [h0] at hu
      unfold floatVals at hu
      simp at hu
set_option maxRecDepth 20000 in
set_option maxHeartbeats 1000000 in
/-- A relief in memory of its own. -/
theorem copy_own (r : Rel) (a : Option Addr) (cap : Nat) (w : World) (hl : r.ds.length ≤ 1000000000) (hs : SrcAt w a r.ds) (hn : a = none → cap = 0) :
    Calls Try.prog 33 #[.agg #[.int .i64 r.x, .int .i64 r.y, .int .i64 r.cell, .int .i64 r.rows, .int .i64 r.cols, .slice a r.ds.length cap]] w fun e w' => ∃ a' cap', e = .returned (.agg #[.int .i64 r.x, .int .i64 r.y, .int .i64 r.cell, .int .i64 r.rows, .int .i64 r.cols, .slice a' r.ds.length cap']) ∧ SrcOwn w' w.heap.size a' r.ds ∧ (a' = none → cap' = 0) ∧ Below w.heap.size w w' := by
  have HS := Lib.hid hs
  have HN := Lib.hid hn
  clear hs hn
  go_enter Try.func33, Try.ntmps33
  go_wp2_with (go_at_call 103; refine (copyFloats_any' _ _ r a cap _ hl (HS.out.below (by (repeat' (first | with_reducible exact Below.refl _ _ | (with_reducible refine below_later_of ?_ ?_ _) | (with_reducible refine Below.alloc ?_ ?_ _) | (with_reducible refine Below.setCell ?_ ?_ _) | (with_reducible refine Below.drew ?_) | (simp; done) | (simp; omega) | omega)))) HN.out).mono ?_; rintro e w2 ⟨a', cap', rfl, hs2, hn2, hb2⟩; have HS2 := Lib.hid hs2; have HN2 := Lib.hid hn2; clear hs2 hn2; obtain ⟨p2, rfl⟩ := later_of_below hb2; clear hb2)
  refine bodyPost_ret (v := .agg #[.int .i64 r.x, .int .i64 r.y, .int .i64 r.cell, .int .i64 r.rows, .int .i64 r.cols, .slice a' r.ds.length cap']) (by (first | (simp [results, Try.results33, go_sem]; done) | simp [results, Try.results33, go_sem, ↓IntWalk.iteOmega])) rfl ⟨_, _, rfl, ?_, HN2.out, (by (repeat' (first | with_reducible exact Below.refl _ _ | (with_reducible refine below_later_of ?_ ?_ _) | (with_reducible refine Below.alloc ?_ ?_ _) | (with_reducible refine Below.setCell ?_ ?_ _) | (with_reducible refine Below.drew ?_) | (simp; done) | (simp; omega) | omega)))⟩
  have h1 := HS2.out
  exact (((((((((h1.set_ (by simp <;> omega) _).set_ (by simp <;> omega) _).set_ (by simp <;> omega) _).set_ (by simp <;> omega) _).set_ (by simp <;> omega) _).set_ (by simp <;> omega) _).set_ (by simp <;> omega) _).set_ (by simp <;> omega) _).set_ (by simp <;> omega) _).mono (by simp <;> omega)
end Go.Proofs.Ytokpdmlmlkkekaa

/- Shadows, in plain Lean: what the nearest cell that hides another one is; what a raised cell does. -/
namespace Go.Proofs.Ytokpdmlmlkkekaa
set_option linter.unusedVariables false
open Go.RowKit
theorem hides_iff {a b c d : Int} : hidesP a b c d = true ↔ a < c ∧ c * b ≤ a * d := by unfold hidesP; simp
theorem hides_raise {a b c d b' : Int} (h : hidesP a b c d = true) (hb : b' ≤ b) (hc : 0 ≤ c) : hidesP a b' c d = true := by
  obtain ⟨h1, h2⟩ := hides_iff.1 h
  exact hides_iff.2 ⟨h1, Int.le_trans (Int.mul_le_mul_of_nonneg_left hb hc) h2⟩
theorem best_hides {t : Trk} {r : Rel} {fi : Nat → Int} {row k : Int} : ∀ {n : Nat}, 0 ≤ bestP t r fi row k n → ∃ j : Nat, bestP t r fi row k n = j ∧ j < n ∧ hidesP (soP t r j) (sdP t r fi row j) (soP t r k) (sdP t r fi row k) = true
  | 0, h => by unfold bestP at h; omega
  | n + 1, h => by
    unfold bestP at h ⊢
    split at h
    · rename_i h1
      exact ⟨n, by rw [if_pos h1], by omega, h1.1⟩
    · rename_i h1
      obtain ⟨j, h2, h3, h4⟩ := best_hides h
      exact ⟨j, by rw [if_neg h1]; exact h2, by omega, h4⟩
theorem best_none {t : Trk} {r : Rel} {fi : Nat → Int} {row k : Int} : ∀ {n : Nat}, bestP t r fi row k n < 0 → ∀ j : Nat, j < n → hidesP (soP t r j) (sdP t r fi row j) (soP t r k) (sdP t r fi row k) = false
  | 0, _, j, hj => by omega
  | n + 1, h, j, hj => by
    by_cases h1 : hidesP (soP t r n) (sdP t r fi row n) (soP t r k) (sdP t r fi row k) = true ∧ (bestP t r fi row k n < 0 ∨ soP t r n < soP t r (bestP t r fi row k n))
    · rw [bestP, if_pos h1] at h; omega
    · rw [bestP, if_neg h1] at h
      by_cases e : j = n
      · subst e
        cases hh : hidesP (soP t r j) (sdP t r fi row j) (soP t r k) (sdP t r fi row k)
        · rfl
        · exact absurd ⟨hh, Or.inl h⟩ h1
      · exact best_none h j (by omega)
theorem anyShadow_iff {t : Trk} {r : Rel} {fi : Nat → Int} {row : Int} {k n : Nat} : anyShadow t r fi row k n = true ↔ ∃ j : Nat, j < n ∧ hidesP (soP t r j) (sdP t r fi row j) (soP t r k) (sdP t r fi row k) = true := by
  unfold anyShadow
  simp [List.any_eq_true]
theorem best_shadow {t : Trk} {r : Rel} {fi : Nat → Int} {row : Int} {k n : Nat} : 0 ≤ bestP t r fi row k n ↔ anyShadow t r fi row k n = true := by
  rw [anyShadow_iff]
  constructor
  · intro h
    obtain ⟨j, -, h2, h3⟩ := best_hides h
    exact ⟨j, h2, h3⟩
  · rintro ⟨j, h2, h3⟩
    by_cases h : 0 ≤ bestP t r fi row k n
    · exact h
    · have := best_none (Int.lt_of_not_ge h) j h2
      rw [this] at h3
      cases h3
theorem px_mono {r : Rel} (o : r.Ok) {j k : Int} (h : j ≤ k) : pxP r j ≤ pxP r k := by
  have := Int.mul_le_mul_of_nonneg_right h (show 0 ≤ r.cell by have := o.c1; omega)
  unfold pxP; omega
theorem so_east {t : Trk} {r : Rel} (o : r.Ok) (he : t.east = true) {j k : Int} (h : soP t r j < soP t r k) : j < k := by
  refine Int.lt_of_not_ge fun hk => ?_
  have := px_mono o hk
  unfold soP offP at h
  rw [if_pos he, if_pos he] at h
  omega
theorem so_west {t : Trk} {r : Rel} (o : r.Ok) (he : t.east = false) {j k : Int} (h : soP t r j < soP t r k) : k < j := by
  refine Int.lt_of_not_ge fun hk => ?_
  have := px_mono o hk
  unfold soP offP at h
  rw [if_neg (by rw [he]; simp), if_neg (by rw [he]; simp)] at h
  omega
theorem kindB_two (o s : Bool) : (2 ≤ kindB o s) = (s = true) := by cases o <;> cases s <;> simp [kindB]
theorem kindB_shadow (o s : Bool) : (kindB o s == 2 || kindB o s == 3) = s := by cases o <;> cases s <;> rfl
theorem kindB_bd (o s : Bool) : 0 ≤ kindB o s ∧ kindB o s ≤ 3 := by cases o <;> cases s <;> decide
/-- A relief with other floats. -/
def reData (r : Rel) (ds : List Nat) : Rel := { r with ds := ds }
theorem idx_ne {r : Rel} (o : r.Ok) {row j k : Int} (a1 : 0 ≤ row) (a2 : row < r.rows) (b1 : 0 ≤ j) (b2 : j < r.cols) (c1 : 0 ≤ k) (c2 : k < r.cols) (h : j ≠ k) : idxP r row j ≠ idxP r row k := by
  obtain ⟨h1, -, -, -⟩ := idx_lt o a1 a2 b1 b2
  obtain ⟨h2, -, -, -⟩ := idx_lt o a1 a2 c1 c2
  intro e
  rw [e] at h1
  omega
theorem bitAt_set {ds : List Nat} {i j v : Nat} (hi : i < ds.length) : bitAt (ds.set i v) j = if j = i then v else bitAt ds j := by
  unfold bitAt
  by_cases e : j = i
  · subst e; rw [if_pos rfl, List.getElem?_set_self hi]; rfl
  · rw [if_neg e, List.getElem?_set_ne (Ne.symm e)]
theorem sd_raise {t : Trk} {r : Rel} {fi : Nat → Int} (o : r.Ok) {row c j : Int} {v : Nat} (a1 : 0 ≤ row) (a2 : row < r.rows) (b1 : 0 ≤ c) (b2 : c < r.cols) (c1 : 0 ≤ j) (c2 : j < r.cols) (hv : fi (bitAt r.ds (idxP r row c)) ≤ fi v) :
    sdP t (reData r (r.ds.set (idxP r row c) v)) fi row j ≤ sdP t r fi row j ∧ (j ≠ c → sdP t (reData r (r.ds.set (idxP r row c) v)) fi row j = sdP t r fi row j) := by
  obtain ⟨-, -, -, hl⟩ := idx_lt o a1 a2 b1 b2
  have he : sdP t (reData r (r.ds.set (idxP r row c) v)) fi row j = depthP t (fi (if idxP r row j = idxP r row c then v else bitAt r.ds (idxP r row j))) := by
    unfold sdP
    rw [← bitAt_set hl]
    rfl
  by_cases e : j = c
  · subst e
    refine ⟨?_, fun h => absurd rfl h⟩
    rw [he, if_pos rfl]
    unfold sdP depthP
    omega
  · rw [he, if_neg (idx_ne o a1 a2 c1 c2 b1 b2 e)]
    exact ⟨Int.le_refl _, fun _ => rfl⟩
/-- A cell behind a raised one does not come out of shadow. -/
theorem shadow_raise {t : Trk} {r : Rel} {fi : Nat → Int} (o : r.Ok) {row c : Int} {v k n : Nat} (a1 : 0 ≤ row) (a2 : row < r.rows) (b1 : 0 ≤ c) (b2 : c < r.cols) (hk : (k : Int) < r.cols) (hn : (n : Int) ≤ r.cols) (hkc : (k : Int) ≠ c) (hv : fi (bitAt r.ds (idxP r row c)) ≤ fi v)
    (ho : 0 ≤ soP t r k) (h : anyShadow t r fi row k n = true) : anyShadow t (reData r (r.ds.set (idxP r row c) v)) fi row k n = true := by
  obtain ⟨j, hj, hh⟩ := anyShadow_iff.1 h
  refine anyShadow_iff.2 ⟨j, hj, ?_⟩
  have h1 := (sd_raise (t := t) (j := j) o a1 a2 b1 b2 (Int.natCast_nonneg j) (by omega) hv).1
  have h2 := (sd_raise (t := t) (j := k) o a1 a2 b1 b2 (Int.natCast_nonneg k) hk hv).2 hkc
  rw [h2]
  exact hides_raise hh h1 ho
end Go.Proofs.Ytokpdmlmlkkekaa
