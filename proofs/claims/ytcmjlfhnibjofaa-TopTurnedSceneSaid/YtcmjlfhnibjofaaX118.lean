/- base.CopyImage. -/
import Derived.Test.YtcmjlfhnibjofaaXS
import Derived.Test.YtcmjlfhnibjofaaU80
namespace Go.Proofs.Ytcmjlfhnibjofaa
set_option linter.unusedVariables false
set_option linter.unusedSimpArgs false
open Go.RowKit Ieee Ntt
/-- An image that is copied. -/
def IcPost (L S : Int) (n : Nat) (f : Nat → Nat × Nat) (w : World) (e : Ending) (w' : World) : Prop :=
  ∃ a c, e = .returned (.agg #[.int .i64 L, .int .i64 S, .slice a n c]) ∧ OwnC w' w.heap.size n f a ∧ Below w.heap.size w w'
theorem csF_at {f : Nat → Nat × Nat} {n j : Nat} {u : Value} (h : (csF f n)[j]? = some u) : j < n ∧ u = .complex .f32 (f j).1 (f j).2 := by
  unfold csF at h
  rw [List.getElem?_map] at h
  rcases (show j < n ∨ n ≤ j by omega) with hj | hj
  · rw [List.getElem?_range hj] at h
    exact ⟨hj, (Option.some.inj h).symm⟩
  · rw [List.getElem?_eq_none (by simpa using hj)] at h
    cases h
set_option maxRecDepth 20000 in
set_option maxHeartbeats 2000000 in
theorem copyIm_some (R C : Int) (n : Nat) (f : Nat → Nat × Nat) (b off cap : Nat) (w : World) (hl : n ≤ 1000000000) (hp : 0 < n) (hbw : b < w.heap.size) (hc : SamplesAt w b off n f) :
    Calls Try.prog 38 #[.agg #[.int .i64 R, .int .i64 C, .slice (some ⟨b, off, none⟩) n cap]] w (IcPost R C n f w) := by
  obtain ⟨i0, hi, hz0, hz1, hz2⟩ := info_parts infoC32
  have HC := Lib.hid (show ∀ W, Below w.heap.size w W → ∀ j u, (csF f n)[j]? = some u → W.cell? ((⟨b, off, none⟩ : Addr).add j) = some u from fun W hW j u hu => by
    obtain ⟨h1, rfl⟩ := csF_at hu
    have e : (⟨b, off, none⟩ : Addr).add j = ⟨b, off + j, none⟩ := by simp [Addr.add] <;> omega
    rw [e]
    exact (hW.cell (p := ⟨b, off + j, none⟩) hbw).trans (hc j h1))
  clear hc
  go_enter Try.func38, Try.ntmps38
  go_wp2_with (at_builtin; refine wpList_append_own _ rfl _ _ 31 rfl (w.heap.size + 2) 90 i0 (.complex .f32 0 0) 1 8 Try.underlying31 hi hz0 hz1 hz2 rfl (by decide) _ 0 [] rfl (ownsRow_new1 _ _ _ _ (by simp) (by simp <;> omega)) ⟨b, off, none⟩ n cap (csF f n) rfl ?c1 ?c2 ?c3 ?c4 ?c5 ?c6 ?_)
  case c1 => first | rfl | (simp [csF])
  case c2 => exact HC.out _ (by (repeat' (first | with_reducible exact Below.refl _ _ | (with_reducible refine below_later_of ?_ ?_ _) | (with_reducible refine Below.alloc ?_ ?_ _) | (with_reducible refine Below.setCell ?_ ?_ _) | (with_reducible refine Below.drew ?_) | (simp; done) | (simp; omega) | omega)))
  case c3 => intro u hu; unfold csF at hu; simp at hu; obtain ⟨z, _, rfl⟩ := hu; rfl
  case c4 => unfold maxLen; omega
  case c5 => omega
  case c6 => simp <;> omega
  intro v' w1 hown hgrow _
  have hown2 : w1.ownsRow (w.heap.size + 2) 90 1 v' n (csF f n) := by simpa using hown
  obtain ⟨g, c, rfl⟩ := row_slice hown2 hp
  have HPV := Lib.hid (ownC_row hown2)
  have HB := Lib.hid (show Below w.heap.size w w1 from (show Below w.heap.size w _ from (by (repeat' (first | with_reducible exact Below.refl _ _ | (with_reducible refine below_later_of ?_ ?_ _) | (with_reducible refine Below.alloc ?_ ?_ _) | (with_reducible refine Below.setCell ?_ ?_ _) | (with_reducible refine Below.drew ?_) | (simp; done) | (simp; omega) | omega)))).grown hgrow (by simp; omega) (fun g hg => by simp [Value.ownBlock] at hg; omega))
  have hcell : ∀ i j, i < w.heap.size + 1 + 1 → w1.cell? ⟨i, j, none⟩ = _ := fun i j hi => World.cell?_of_block (hgrow.block i (by simp; omega) (fun e => by simp [Value.ownBlock] at e; omega))
  have c0 : w1.cell? ⟨w.heap.size, 0, none⟩ = some (.int .i64 R) := (hcell _ _ (by omega)).trans (by (first | (simp [go_sem]; done) | simp [go_sem, ↓IntWalk.iteOmega]))
  have c1 : w1.cell? ⟨w.heap.size, 1, none⟩ = some (.int .i64 C) := (hcell _ _ (by omega)).trans (by (first | (simp [go_sem]; done) | simp [go_sem, ↓IntWalk.iteOmega]))
  have c2 : w1.cell? ⟨w.heap.size, 2, none⟩ = some (.slice (some ⟨b, off, none⟩) n cap) := (hcell _ _ (by omega)).trans (by (first | (simp [go_sem]; done) | simp [go_sem, ↓IntWalk.iteOmega]))
  have d0 : w1.cell? ⟨w.heap.size + 1, 0, none⟩ = some (.int .i64 0) := (hcell _ _ (by omega)).trans (by (first | (simp [go_sem]; done) | simp [go_sem, ↓IntWalk.iteOmega]))
  have d1 : w1.cell? ⟨w.heap.size + 1, 1, none⟩ = some (.int .i64 0) := (hcell _ _ (by omega)).trans (by (first | (simp [go_sem]; done) | simp [go_sem, ↓IntWalk.iteOmega]))
  have d2 : w1.cell? ⟨w.heap.size + 1, 2, none⟩ = some (.slice none 0 0) := (hcell _ _ (by omega)).trans (by (first | (simp [go_sem]; done) | simp [go_sem, ↓IntWalk.iteOmega]))
  have hfro : ∀ i j, i < w.heap.size + 1 + 1 → w1.frozen? ⟨i, j, none⟩ = _ := fun i j hi => frozenF_of_block (hgrow.block i (by simp; omega) (fun e => by simp [Value.ownBlock] at e; omega))
  have f2 : w1.frozen? ⟨w.heap.size, 2, none⟩ = false := (hfro _ _ (by omega)).trans (by (first | (simp [go_sem]; done) | simp [go_sem, ↓IntWalk.iteOmega]))
  have g0 : w1.frozen? ⟨w.heap.size + 1, 0, none⟩ = false := (hfro _ _ (by omega)).trans (by (first | (simp [go_sem]; done) | simp [go_sem, ↓IntWalk.iteOmega]))
  have g1 : w1.frozen? ⟨w.heap.size + 1, 1, none⟩ = false := (hfro _ _ (by omega)).trans (by (first | (simp [go_sem]; done) | simp [go_sem, ↓IntWalk.iteOmega]))
  have g2 : w1.frozen? ⟨w.heap.size + 1, 2, none⟩ = false := (hfro _ _ (by omega)).trans (by (first | (simp [go_sem]; done) | simp [go_sem, ↓IntWalk.iteOmega]))
  have hsz := hgrow.size
  simp at hsz
  clear hown hown2 hgrow hcell hfro
  go_wp2
  refine bodyPost_ret (v := .agg #[.int .i64 R, .int .i64 C, .slice (some ⟨g, 0, none⟩) n c]) (by (first | (simp [results, Try.results38, go_sem, d0, d1, d2]; done) | simp [results, Try.results38, go_sem, d0, d1, d2, ↓IntWalk.iteOmega])) rfl ⟨_, _, rfl, OwnC.mono (OwnC.set (OwnC.set (OwnC.set (OwnC.set HPV.out (by simp <;> omega) _) (by simp <;> omega) _) (by simp <;> omega) _) (by simp <;> omega) _) (by omega), ?_⟩
  exact (((HB.out.setCell (p := ⟨w.heap.size, 2, none⟩) (Nat.le_refl _) _).setCell (p := ⟨w.heap.size + 1, 0, none⟩) (by simp) _).setCell (p := ⟨w.heap.size + 1, 1, none⟩) (by simp) _).setCell (p := ⟨w.heap.size + 1, 2, none⟩) (by simp) _
end Go.Proofs.Ytcmjlfhnibjofaa
