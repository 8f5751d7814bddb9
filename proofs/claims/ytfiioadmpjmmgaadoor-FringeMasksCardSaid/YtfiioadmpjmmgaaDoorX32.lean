/- Chapter 4: float maps copied; integers copied to be written. -/
import Derived.Test.YtfiioadmpjmmgaaDoorX31
import Derived.Test.YtfiioadmpjmmgaaDoorZG
import Derived.Lib.SlFresh
import Derived.Deep.Upon
namespace Go.Proofs.YtfiioadmpjmmgaaDoor
set_option linter.unusedVariables false
set_option linter.unusedSimpArgs false
open Go.RowKit Ntt
set_option maxHeartbeats 1000000 in
theorem floatErr_any (R C : Int) (ds : List Nat) (v : Value) (w : World) (hv : FlV w v ds) {e0 : Int} (he : (fmE R C ds).2 = e0) :
    Calls Tryd.prog 66 #[.agg #[.int .i64 R, .int .i64 C, v]] w fun e w' => e = .returned (.int .i64 e0) ∧ Below w.heap.size w w' := by
  have HI := Lib.hid (show ∀ W, Below w.heap.size w W → _ from fun W hW => checkFl_any R C ds v W (hv.below hW) (i0 := (fmE R C ds).1) (e0 := e0) (by rw [← he]))
  obtain ⟨-, a, cap, rfl, -⟩ := hv
  clear he
  generalize (fmE R C ds).1 = i0 at HI
  go_enter Tryd.func66, Tryd.ntmps66
  go_wp2_with (first | (go_at_call 32; (with_reducible refine (HI.out _ (by (repeat' (first | with_reducible exact Below.refl _ _ | (with_reducible refine below_later_of ?_ ?_ _) | (with_reducible refine Below.alloc ?_ ?_ _) | (with_reducible refine Below.setCell ?_ ?_ _) | (with_reducible refine Below.drew ?_) | (simp; done) | (simp; omega) | omega)))).mono ?_); rintro e w' ⟨rfl, hb⟩; obtain ⟨pp, rfl⟩ := later_of_below hb; clear hb))
  go_ret
  exact ⟨rfl, (by (repeat' (first | with_reducible exact Below.refl _ _ | (with_reducible refine below_later_of ?_ ?_ _) | (with_reducible refine Below.alloc ?_ ?_ _) | (with_reducible refine Below.setCell ?_ ?_ _) | (with_reducible refine Below.drew ?_) | (simp; done) | (simp; omega) | omega)))⟩
/-- A slice of floats in memory from some block on. -/
def OwnFV (B : Nat) (w : World) (v : Value) (ds : List Nat) : Prop :=
  ds.length ≤ 1000000000 ∧ ∃ a cap, v = .slice a ds.length cap ∧ (0 < ds.length → ∃ b off, a = some ⟨b, off, none⟩ ∧ B ≤ b ∧ b < w.heap.size ∧ ∀ k, k < ds.length → w.cell? ⟨b, off + k, none⟩ = some (.float .f32 (flAt ds k)))
theorem OwnFV.fl {B : Nat} {w : World} {v : Value} {ds : List Nat} (h : OwnFV B w v ds) : FlV w v ds := by
  obtain ⟨h1, a, cap, h2, h3⟩ := h
  refine ⟨h1, a, cap, h2, fun h0 => ?_⟩
  obtain ⟨b, off, h4, -, h5, h6⟩ := h3 h0
  exact ⟨b, off, h4, h5, h6⟩
theorem OwnFV.mono {B B' : Nat} {w : World} {v : Value} {ds : List Nat} (h : OwnFV B w v ds) (hB : B' ≤ B) : OwnFV B' w v ds := by
  obtain ⟨h1, a, cap, h2, h3⟩ := h
  refine ⟨h1, a, cap, h2, fun h0 => ?_⟩
  obtain ⟨b, off, h4, h7, h5, h6⟩ := h3 h0
  exact ⟨b, off, h4, by omega, h5, h6⟩
theorem OwnFV.set {B : Nat} {w : World} {v : Value} {ds : List Nat} (h : OwnFV B w v ds) {p : Addr} (hp : p.block < B) (u : Value) : OwnFV B (w.setCell p u) v ds := by
  obtain ⟨h1, a, cap, h2, h3⟩ := h
  refine ⟨h1, a, cap, h2, fun h0 => ?_⟩
  obtain ⟨b, off, h4, h7, h5, h6⟩ := h3 h0
  refine ⟨b, off, h4, h7, by simpa using h5, fun k hk => ?_⟩
  rw [World.cell?_setCell_other _ _ _ _ (by intro e; rw [e] at hp; simp at hp; omega)]
  exact h6 k hk
theorem infoF87 : (Tryd.prog.info? 87).map (fun i => (i.zero, i.size, i.bytes)) = some (some (.float .f32 0), 1, 4) := by kernel_rfl
theorem flVals_at (ds : List Nat) {j : Nat} {u : Value} (h : (ds.map (Value.float .f32))[j]? = some u) : j < ds.length ∧ u = .float .f32 (flAt ds j) := by
  rw [List.getElem?_map] at h
  cases hz : ds[j]? with
  | none => rw [hz] at h; cases h
  | some z =>
    rw [hz] at h
    refine ⟨(List.getElem?_eq_some_iff.1 hz).1, ?_⟩
    unfold flAt
    rw [hz]
    cases h
    rfl
theorem ownFV_own {w : World} {base n cap g : Nat} {ds : List Nat} (h : w.ownsRow base 87 1 (.slice (some ⟨g, 0, none⟩) n cap) n (ds.map (.float .f32))) (hm : n ≤ 1000000000) : OwnFV base w (.slice (some ⟨g, 0, none⟩) n cap) ds := by
  have hl : ds.length = n := by have := h.1; simpa using this
  subst hl
  refine ⟨hm, _, _, rfl, fun hp => ⟨g, 0, rfl, (h.lt g rfl).1, (h.lt g rfl).2, fun k hk => ?_⟩⟩
  rw [Nat.zero_add, h.cellAt k (by omega)]
  unfold flAt
  simp [hk]
def FlPost (R C : Int) (ds : List Nat) (w : World) (e : Ending) (w' : World) : Prop :=
  ∃ a c, e = .returned (.agg #[.int .i64 R, .int .i64 C, .slice a ds.length c]) ∧ OwnFV w.heap.size w' (.slice a ds.length c) ds ∧ Below w.heap.size w w'
theorem frozenF_of_block {w w' : World} {i j : Nat} (h : w'.heap[i]? = w.heap[i]?) : w'.frozen? ⟨i, j, none⟩ = w.frozen? ⟨i, j, none⟩ := by
  unfold World.frozen?
  simp only [h]
set_option maxRecDepth 20000 in
set_option maxHeartbeats 2000000 in
theorem copyFl_some (R C : Int) (ds : List Nat) (b off cap : Nat) (w : World) (hl : ds.length ≤ 1000000000) (hp : 0 < ds.length) (hbw : b < w.heap.size) (hc : ∀ k, k < ds.length → w.cell? ⟨b, off + k, none⟩ = some (.float .f32 (flAt ds k))) :
    Calls Tryd.prog 33 #[.agg #[.int .i64 R, .int .i64 C, .slice (some ⟨b, off, none⟩) ds.length cap]] w (FlPost R C ds w) := by
  obtain ⟨i0, hi, hz0, hz1, hz2⟩ := info_parts infoF87
  have HC := Lib.hid (show ∀ W, Below w.heap.size w W → ∀ j u, (ds.map (Value.float .f32))[j]? = some u → W.cell? ((⟨b, off, none⟩ : Addr).add j) = some u from fun W hW j u hu => by
    obtain ⟨h1, rfl⟩ := flVals_at ds hu
    have e : (⟨b, off, none⟩ : Addr).add j = ⟨b, off + j, none⟩ := by simp [Addr.add] <;> omega
    rw [e]
    exact (hW.cell (p := ⟨b, off + j, none⟩) hbw).trans (hc j h1))
  clear hc
  go_enter Tryd.func33, Tryd.ntmps33
  go_wp2_with (at_builtin; refine wpList_append_own _ rfl _ _ 22 rfl (w.heap.size + 2) 87 i0 (.float .f32 0) 1 4 Tryd.underlying22 hi hz0 hz1 hz2 rfl (by decide) _ 0 [] rfl (ownsRow_new1 _ _ _ _ (by simp) (by simp <;> omega)) ⟨b, off, none⟩ ds.length cap (ds.map (.float .f32)) rfl ?c1 ?c2 ?c3 ?c4 ?c5 ?c6 ?_)
  case c1 => simp
  case c2 => exact HC.out _ (by (repeat' (first | with_reducible exact Below.refl _ _ | (with_reducible refine below_later_of ?_ ?_ _) | (with_reducible refine Below.alloc ?_ ?_ _) | (with_reducible refine Below.setCell ?_ ?_ _) | (with_reducible refine Below.drew ?_) | (simp; done) | (simp; omega) | omega)))
  case c3 => intro u hu; simp at hu; obtain ⟨z, _, rfl⟩ := hu; rfl
  case c4 => unfold maxLen; omega
  case c5 => omega
  case c6 => simp <;> omega
  intro v' w1 hown hgrow _
  have hown2 : w1.ownsRow (w.heap.size + 2) 87 1 v' ds.length (ds.map (.float .f32)) := by simpa using hown
  obtain ⟨g, c, rfl⟩ := row_slice hown2 hp
  have HPV := Lib.hid (ownFV_own hown2 hl)
  have HB := Lib.hid (show Below w.heap.size w w1 from (show Below w.heap.size w _ from (by (repeat' (first | with_reducible exact Below.refl _ _ | (with_reducible refine below_later_of ?_ ?_ _) | (with_reducible refine Below.alloc ?_ ?_ _) | (with_reducible refine Below.setCell ?_ ?_ _) | (with_reducible refine Below.drew ?_) | (simp; done) | (simp; omega) | omega)))).grown hgrow (by simp; omega) (fun g hg => by simp [Value.ownBlock] at hg; omega))
  have hcell : ∀ i j, i < w.heap.size + 1 + 1 → w1.cell? ⟨i, j, none⟩ = _ := fun i j hi => World.cell?_of_block (hgrow.block i (by simp; omega) (fun e => by simp [Value.ownBlock] at e; omega))
  have c0 : w1.cell? ⟨w.heap.size, 0, none⟩ = some (.int .i64 R) := (hcell _ _ (by omega)).trans (by (first | (simp [go_sem]; done) | simp [go_sem, ↓IntWalk.iteOmega]))
  have c1 : w1.cell? ⟨w.heap.size, 1, none⟩ = some (.int .i64 C) := (hcell _ _ (by omega)).trans (by (first | (simp [go_sem]; done) | simp [go_sem, ↓IntWalk.iteOmega]))
  have c2 : w1.cell? ⟨w.heap.size, 2, none⟩ = some (.slice (some ⟨b, off, none⟩) ds.length cap) := (hcell _ _ (by omega)).trans (by (first | (simp [go_sem]; done) | simp [go_sem, ↓IntWalk.iteOmega]))
  have d0 : w1.cell? ⟨w.heap.size + 1, 0, none⟩ = some (.int .i64 0) := (hcell _ _ (by omega)).trans (by (first | (simp [go_sem]; done) | simp [go_sem, ↓IntWalk.iteOmega]))
  have d1 : w1.cell? ⟨w.heap.size + 1, 1, none⟩ = some (.int .i64 0) := (hcell _ _ (by omega)).trans (by (first | (simp [go_sem]; done) | simp [go_sem, ↓IntWalk.iteOmega]))
  have d2 : w1.cell? ⟨w.heap.size + 1, 2, none⟩ = some (.slice none 0 0) := (hcell _ _ (by omega)).trans (by (first | (simp [go_sem]; done) | simp [go_sem, ↓IntWalk.iteOmega]))
  have hfro : ∀ i j, i < w.heap.size + 1 + 1 → w1.frozen? ⟨i, j, none⟩ = _ := fun i j hi => frozenF_of_block (hgrow.block i (by simp; omega) (fun e => by simp [Value.ownBlock] at e; omega))
  have f2 : w1.frozen? ⟨w.heap.size, 2, none⟩ = false := (hfro _ _ (by omega)).trans (by (first | (simp [go_sem]; done) | simp [go_sem, ↓IntWalk.iteOmega]))
  have g0 : w1.frozen? ⟨w.heap.size + 1, 0, none⟩ = false := (hfro _ _ (by omega)).trans (by (first | (simp [go_sem]; done) | simp [go_sem, ↓IntWalk.iteOmega]))
  have g1 : w1.frozen? ⟨w.heap.size + 1, 1, none⟩ = false := (hfro _ _ (by omega)).trans (by (first | (simp [go_sem]; done) | simp [go_sem, ↓IntWalk.iteOmega]))
  have g2 : w1.frozen? ⟨w.heap.size + 1, 2, none⟩ = false := (hfro _ _ (by omega)).trans (by (first | (simp [go_sem]; done) | simp [go_sem, ↓IntWalk.iteOmega]))
  have hsz := hgrow.size
  simp at hsz
  clear hown hown2 hgrow hcell hfro
  go_wp2
  refine bodyPost_ret (v := .agg #[.int .i64 R, .int .i64 C, .slice (some ⟨g, 0, none⟩) ds.length c]) (by (first | (simp [results, Tryd.results33, go_sem, d0, d1, d2]; done) | simp [results, Tryd.results33, go_sem, d0, d1, d2, ↓IntWalk.iteOmega])) rfl ⟨_, _, rfl, ((((HPV.out.set (by simp <;> omega) _).set (by simp <;> omega) _).set (by simp <;> omega) _).set (by simp <;> omega) _).mono (by omega), ?_⟩
  exact (((HB.out.setCell (p := ⟨w.heap.size, 2, none⟩) (Nat.le_refl _) _).setCell (p := ⟨w.heap.size + 1, 0, none⟩) (by simp) _).setCell (p := ⟨w.heap.size + 1, 1, none⟩) (by simp) _).setCell (p := ⟨w.heap.size + 1, 2, none⟩) (by simp) _
set_option maxRecDepth 20000 in
set_option maxHeartbeats 1000000 in
theorem copyFl_none (R C : Int) (a : Option Addr) (cap : Nat) (w : World) :
    Calls Tryd.prog 33 #[.agg #[.int .i64 R, .int .i64 C, .slice a 0 cap]] w (FlPost R C [] w) := by
  obtain ⟨i0, hi, hz0, hz1, hz2⟩ := info_parts infoF87
  have HS := Lib.hid (show ∀ w : World, Src Tryd.prog i0.size 22 (.slice a 0 cap) 0 [] w from fun w => by
    refine ⟨.inl ⟨_, Tryd.underlying22⟩, fun _ => rfl, ?_, ?_, by simp, fun u hu => by simp at hu⟩ <;> cases a <;> simp [Builtin.firstCells, loadCells, loadCellsFrom])
  go_enter Tryd.func33, Tryd.ntmps33
  go_wp2_with (at_builtin; refine Lib.wpList_append_run_sl _ rfl _ _ 22 rfl _ _ rfl rfl (run_append_nothing _ _ _ _ 87 i0 Tryd.underlying22 hi _ 0 0 (Nat.le_refl _) _ (HS.out _)) ?_)
  go_wp2
  refine bodyPost_ret (v := .agg #[.int .i64 R, .int .i64 C, .slice (some ⟨w.heap.size + 1 + 1, 0, none⟩) 0 0]) (by (first | (simp [results, Tryd.results33, go_sem]; done) | simp [results, Tryd.results33, go_sem, ↓IntWalk.iteOmega])) rfl ⟨_, _, rfl, ⟨by simp, _, 0, rfl, fun h => absurd h (by decide)⟩, ?_⟩
  exact (by (repeat' (first | with_reducible exact Below.refl _ _ | (with_reducible refine below_later_of ?_ ?_ _) | (with_reducible refine Below.alloc ?_ ?_ _) | (with_reducible refine Below.setCell ?_ ?_ _) | (with_reducible refine Below.drew ?_) | (simp; done) | (simp; omega) | omega)))
theorem copyFl_any (R C : Int) (ds : List Nat) (v : Value) (w : World) (hv : FlV w v ds) : Calls Tryd.prog 33 #[.agg #[.int .i64 R, .int .i64 C, v]] w (FlPost R C ds w) := by
  obtain ⟨hl, a, cap, rfl, h4⟩ := hv
  by_cases h0 : 0 < ds.length
  · obtain ⟨b, off, rfl, hbw, hc⟩ := h4 h0
    exact copyFl_some R C ds b off cap w hl h0 hbw hc
  · obtain rfl : ds = [] := List.length_eq_zero_iff.1 (by omega)
    exact copyFl_none R C a cap w
/-- A list in a block of its own that may be written. -/
def WrPost (zs : List Int) (w : World) (e : Ending) (w' : World) : Prop :=
  ∃ g c, e = .returned (.slice (some ⟨g, 0, none⟩) zs.length c) ∧ w.heap.size ≤ g ∧ OwnF w' g zs.length (intAt zs) ∧ Below w.heap.size w w'
theorem ownF_map {W : World} {base g c : Nat} {zs : List Int} (h : W.ownsRow base 3 1 (.slice (some ⟨g, 0, none⟩) zs.length c) zs.length (zs.map (.int .i64))) : base ≤ g ∧ OwnF W g zs.length (intAt zs) :=
  ⟨(h.lt g rfl).1, ⟨(h.lt g rfl).2, fun k hk => by
    rw [h.cellAt k (by omega)]
    unfold intAt
    simp [hk]⟩, fun k _ => h.frozenAt k⟩
set_option maxHeartbeats 1000000 in
theorem copyI_own (zs : List Int) (b off cap : Nat) (w : World) (hl : zs.length ≤ 1000000000) (hp : 0 < zs.length) (hbw : b < w.heap.size) (hc : ∀ k, k < zs.length → w.cell? ⟨b, off + k, none⟩ = some (.int .i64 (intAt zs k))) :
    Calls Tryd.prog 56 #[.slice (some ⟨b, off, none⟩) zs.length cap] w (WrPost zs w) := by
  obtain ⟨i0, hi, hz0, hz1, hz2⟩ := info_parts info3
  have HC := Lib.hid (show ∀ W, Below w.heap.size w W → ∀ j u, (zs.map (Value.int .i64))[j]? = some u → W.cell? ((⟨b, off, none⟩ : Addr).add j) = some u from fun W hW j u hu => by obtain ⟨h1, rfl⟩ := intVals_at zs hu; exact (show W.cell? ((⟨b, off, none⟩ : Addr).add j) = some _ from by rw [show (⟨b, off, none⟩ : Addr).add j = ⟨b, off + j, none⟩ by simp [Addr.add] <;> omega]; exact (hW.cell (p := ⟨b, off + j, none⟩) hbw).trans (hc j h1)))
  clear hc
  go_enter Tryd.func56, Tryd.ntmps56
  go_wp2_with (at_builtin; refine wpList_append_own _ rfl _ _ 49 rfl w.heap.size 3 i0 (.int .i64 0) 1 8 Tryd.underlying49 hi hz0 hz1 hz2 rfl (by decide) _ 0 [] rfl (ownsRow_new1 _ _ _ _ (by simp) (by simp)) ⟨b, off, none⟩ zs.length cap (zs.map (.int .i64)) rfl ?c1 ?c2 ?c3 ?c4 ?c5 ?c6 ?_)
  case c1 => simp
  case c2 => exact HC.out _ (by (repeat' (first | with_reducible exact Below.refl _ _ | (with_reducible refine below_later_of ?_ ?_ _) | (with_reducible refine Below.alloc ?_ ?_ _) | (with_reducible refine Below.setCell ?_ ?_ _) | (with_reducible refine Below.drew ?_) | (simp; done) | (simp; omega) | omega)))
  case c3 => intro u hu; simp at hu; obtain ⟨z, _, rfl⟩ := hu; rfl
  case c4 => unfold maxLen; omega
  case c5 => omega
  case c6 => simp
  intro v' w1 hown hgrow _
  have hown2 : w1.ownsRow w.heap.size 3 1 v' zs.length (zs.map (.int .i64)) := by simpa using hown
  obtain ⟨g, c, rfl⟩ := row_slice hown2 hp
  have HPV := Lib.hid (ownF_map hown2)
  have HB := Lib.hid (show Below w.heap.size w w1 from (show Below w.heap.size w _ from (by (repeat' (first | with_reducible exact Below.refl _ _ | (with_reducible refine below_later_of ?_ ?_ _) | (with_reducible refine Below.alloc ?_ ?_ _) | (with_reducible refine Below.setCell ?_ ?_ _) | (with_reducible refine Below.drew ?_) | (simp; done) | (simp; omega) | omega)))).grown hgrow (by simp) (fun g hg => by simp [Value.ownBlock] at hg; omega))
  clear hown hown2 hgrow
  go_wp2
  go_ret
  exact ⟨_, _, rfl, HPV.out.1, HPV.out.2, HB.out⟩
set_option maxRecDepth 20000 in
set_option maxHeartbeats 1000000 in
theorem clone_own (zs : List Int) (b off cap : Nat) (w : World) (hl : zs.length ≤ 1000000000) (hp : 0 < zs.length) (hbw : b < w.heap.size) (hc : ∀ k, k < zs.length → w.cell? ⟨b, off + k, none⟩ = some (.int .i64 (intAt zs k))) :
    Calls Tryd.prog 67 #[.slice (some ⟨b, off, none⟩) zs.length cap] w (WrPost zs w) := by
  obtain ⟨i0, hi, hz0, hz1, hz2⟩ := info_parts info3
  have HC := Lib.hid (show ∀ W, Below w.heap.size w W → ∀ j u, (zs.map (Value.int .i64))[j]? = some u → W.cell? ((⟨b, off, none⟩ : Addr).add j) = some u from fun W hW j u hu => by obtain ⟨h1, rfl⟩ := intVals_at zs hu; exact (show W.cell? ((⟨b, off, none⟩ : Addr).add j) = some _ from by rw [show (⟨b, off, none⟩ : Addr).add j = ⟨b, off + j, none⟩ by simp [Addr.add] <;> omega]; exact (hW.cell (p := ⟨b, off + j, none⟩) hbw).trans (hc j h1)))
  clear hc
  have hnil : ∀ w, (binOp .eql 49 (.slice (some ⟨b, off, none⟩) zs.length cap) (.slice none 0 0)).run Tryd.prog w = .ok (.bool false) w := fun w => by first | kernel_rfl | rfl
  go_enter Tryd.func67, Tryd.ntmps67
  go_wp2_with (at_builtin; refine wpList_append_own _ rfl _ _ 49 rfl w.heap.size 3 i0 (.int .i64 0) 1 8 Tryd.underlying49 hi hz0 hz1 hz2 rfl (by decide) _ 0 [] rfl (ownsRow_new1 _ _ _ _ (by simp) (by simp)) ⟨b, off, none⟩ zs.length cap (zs.map (.int .i64)) rfl ?c1 ?c2 ?c3 ?c4 ?c5 ?c6 ?_)
  case c1 => simp
  case c2 => exact HC.out _ (by (repeat' (first | with_reducible exact Below.refl _ _ | (with_reducible refine below_later_of ?_ ?_ _) | (with_reducible refine Below.alloc ?_ ?_ _) | (with_reducible refine Below.setCell ?_ ?_ _) | (with_reducible refine Below.drew ?_) | (simp; done) | (simp; omega) | omega)))
  case c3 => intro u hu; simp at hu; obtain ⟨z, _, rfl⟩ := hu; rfl
  case c4 => unfold maxLen; omega
  case c5 => omega
  case c6 => simp
  intro v' w1 hown hgrow _
  have hown2 : w1.ownsRow w.heap.size 3 1 v' zs.length (zs.map (.int .i64)) := by simpa using hown
  obtain ⟨g, c, rfl⟩ := row_slice hown2 hp
  have HPV := Lib.hid (ownF_map hown2)
  have HB := Lib.hid (show Below w.heap.size w w1 from (show Below w.heap.size w _ from (by (repeat' (first | with_reducible exact Below.refl _ _ | (with_reducible refine below_later_of ?_ ?_ _) | (with_reducible refine Below.alloc ?_ ?_ _) | (with_reducible refine Below.setCell ?_ ?_ _) | (with_reducible refine Below.drew ?_) | (simp; done) | (simp; omega) | omega)))).grown hgrow (by simp) (fun g hg => by simp [Value.ownBlock] at hg; omega))
  clear hown hown2 hgrow
  go_wp2
  go_ret
  exact ⟨_, _, rfl, HPV.out.1, HPV.out.2, HB.out⟩
theorem OwnF.off4 {W : World} {g n : Nat} {f : Nat → Int} (o : OwnF W g n f) {p : Addr} (hp : p.block ≠ g) (v : Value) : OwnF (W.setCell p v) g n f := by
  obtain ⟨⟨h1, h2⟩, h3⟩ := o
  refine ⟨⟨by simpa using h1, fun k hk => ?_⟩, fun k hk => ?_⟩
  · rw [World.cell?_setCell_other _ _ _ _ (by intro e; rw [e] at hp; simp at hp)]
    exact h2 k hk
  · simpa using h3 k hk
/-- A map in memory that may be written. -/
def WmPost (R C : Int) (zs : List Int) (w : World) (e : Ending) (w' : World) : Prop :=
  ∃ g c, e = .returned (.agg #[.int .i64 R, .int .i64 C, .slice (some ⟨g, 0, none⟩) zs.length c]) ∧ w.heap.size ≤ g ∧ OwnF w' g zs.length (intAt zs) ∧ Below w.heap.size w w'
set_option maxHeartbeats 1000000 in
theorem copyPhases_own (R C : Int) (zs : List Int) (b off cap : Nat) (w : World) (hl : zs.length ≤ 1000000000) (hp : 0 < zs.length) (hbw : b < w.heap.size) (hc : ∀ k, k < zs.length → w.cell? ⟨b, off + k, none⟩ = some (.int .i64 (intAt zs k))) :
    Calls Tryd.prog 21 #[.agg #[.int .i64 R, .int .i64 C, .slice (some ⟨b, off, none⟩) zs.length cap]] w (WmPost R C zs w) := by
  have HCI := Lib.hid (show ∀ W, Below w.heap.size w W → _ from fun W hW => copyI_own zs b off cap W hl hp (by have := hW.size; omega) (fun k hk => (hW.cell (p := ⟨b, off + k, none⟩) hbw).trans (hc k hk)))
  clear hc
  go_enter Tryd.func21, Tryd.ntmps21
  go_wp2_with (first | (go_at_call 56; (with_reducible refine (HCI.out _ (by (repeat' (first | with_reducible exact Below.refl _ _ | (with_reducible refine below_later_of ?_ ?_ _) | (with_reducible refine Below.alloc ?_ ?_ _) | (with_reducible refine Below.setCell ?_ ?_ _) | (with_reducible refine Below.drew ?_) | (simp; done) | (simp; omega) | omega)))).mono ?_); rintro e w' ⟨g, c', rfl, hgb, hv', hb⟩; have HV' := Lib.hid hv'; clear hv'; obtain ⟨p1, rfl⟩ := later_of_below hb; clear hb))
  refine bodyPost_ret ?_ rfl ⟨g, c', rfl, ?_, ?_, (by (repeat' (first | with_reducible exact Below.refl _ _ | (with_reducible refine below_later_of ?_ ?_ _) | (with_reducible refine Below.alloc ?_ ?_ _) | (with_reducible refine Below.setCell ?_ ?_ _) | (with_reducible refine Below.drew ?_) | (simp; done) | (simp; omega) | omega)))⟩
  · first | (simp [results, Tryd.results21, go_sem]; done) | simp [results, Tryd.results21, go_sem, ↓IntWalk.iteOmega]
  · simp at hgb; omega
  · refine OwnF.off4 (OwnF.off4 (OwnF.off4 (OwnF.off4 HV'.out ?_ _) ?_ _) ?_ _) ?_ _ <;> simp at hgb ⊢ <;> omega
end Go.Proofs.YtfiioadmpjmmgaaDoor
