/- Chapter 4: Coherence's closure: what its rounds meet. -/
import Derived.Test.YtkoiknmijjiicaaGreatDoorXO
import Derived.Test.YtkoiknmijjiicaaGreatDoorX99
namespace Go.Proofs.YtkoiknmijjiicaaGreatDoor
set_option linter.unusedVariables false
set_option linter.unusedSimpArgs false
open Go.RowKit Ieee Ntt
theorem eg_bd {x : Int} (h : -1000000000 ≤ x ∧ x ≤ 1000000000) : 0 ≤ x * x ∧ x * x ≤ 1000000000000000000 := by
  have h1 := Int.mul_nonneg (show 0 ≤ 1000000000 - x by omega) (show 0 ≤ 1000000000 + x by omega)
  have h2 : (1000000000 - x) * (1000000000 + x) = 1000000000000000000 - x * x := by grind
  rcases Int.lt_or_le x 0 with c | c
  · have := Int.mul_nonneg (show 0 ≤ -x by omega) (show 0 ≤ -x by omega)
    have e : -x * -x = x * x := by grind
    omega
  · have := Int.mul_nonneg c c
    omega
set_option maxHeartbeats 1000000 in
theorem fEnergy (x y : Int) (w : World) (h1 : -1000000000 ≤ x ∧ x ≤ 1000000000) (h2 : -1000000000 ≤ y ∧ y ≤ 1000000000) {t : Int} (ht : x * x + y * y = t) :
    Calls Tryz.prog 43 #[.agg #[.int .i64 x, .int .i64 y]] w fun e w' => e = .returned (.int .i64 t) ∧ Below w.heap.size w w' := by
  obtain ⟨a1, a2⟩ := eg_bd h1
  obtain ⟨b1, b2⟩ := eg_bd h2
  obtain ⟨p, hp⟩ : ∃ p, x * x = p := ⟨_, rfl⟩
  obtain ⟨q, hq⟩ : ∃ q, y * y = q := ⟨_, rfl⟩
  rw [hp] at a1 a2 ht
  rw [hq] at b1 b2 ht
  have hw1 : IntKind.i64.wrap p = p := IntWalk.i64_in _ (by omega)
  have hw2 : IntKind.i64.wrap q = q := IntWalk.i64_in _ (by omega)
  have hw3 : IntKind.i64.wrap t = t := IntWalk.i64_in _ (by omega)
  go_enter Tryz.func43, Tryz.ntmps43
  go_wp2
  go_ret
  exact ⟨ret_intE (by omega), (by (repeat' (first | with_reducible exact Below.refl _ _ | (with_reducible refine below_later_of ?_ ?_ _) | (with_reducible refine Below.alloc ?_ ?_ _) | (with_reducible refine Below.setCell ?_ ?_ _) | (with_reducible refine Below.drew ?_) | (simp; done) | (simp; omega) | omega)))⟩
/-- The energies of pairs. -/
def enF (G : Nat → Int × Int) (i : Nat) : Int := (G i).1 * (G i).1 + (G i).2 * (G i).2
theorem cntW_9 {l half L : Nat} (hh : half ≤ 4) : cntW l half L ≤ 9 := by unfold cntW hiW loW; omega
/-- What a round of Coherence's closure meets. -/
structure CoSt (w w5 : World) (B L S g n cap l s half : Nat) (F : Nat → Int × Int) (a b p q : Int) (W : World) : Prop where
  aro : AroS B L S g n cap l s half F W
  r0 : W.cell? ⟨w.heap.size, 0, none⟩ = some (.int .i64 a)
  r1 : W.cell? ⟨w.heap.size, 1, none⟩ = some (.int .i64 b)
  rp : W.cell? ⟨w.heap.size + 1, 0, none⟩ = some (.int .i64 p)
  rq : W.cell? ⟨w.heap.size + 2, 0, none⟩ = some (.int .i64 q)
  f0 : W.frozen? ⟨w.heap.size, 0, none⟩ = false
  f1 : W.frozen? ⟨w.heap.size, 1, none⟩ = false
  fp : W.frozen? ⟨w.heap.size + 1, 0, none⟩ = false
  fq : W.frozen? ⟨w.heap.size + 2, 0, none⟩ = false
  bel : Below w.heap.size w W
  sz : w5.heap.size ≤ W.heap.size
theorem CoSt.below {w w5 W W' : World} {B L S g n cap l s half : Nat} {F : Nat → Int × Int} {a b p q : Int} (h : CoSt w w5 B L S g n cap l s half F a b p q W) (hR : w.heap.size + 2 < w5.heap.size) (hB : B + 3 < w5.heap.size) (hg : g < w5.heap.size) (hb : Below w5.heap.size W W') : CoSt w w5 B L S g n cap l s half F a b p q W' := by
  obtain ⟨⟨h1, h2, h3, h4⟩, r0, r1, rp, rq, f0, f1, fp, fq, bel, sz⟩ := h
  have hs := hb.size
  have k : ∀ i j, i ≤ w.heap.size + 2 → W'.cell? ⟨i, j, none⟩ = W.cell? ⟨i, j, none⟩ := fun i j hi => hb.cell (p := ⟨i, j, none⟩) (show i < w5.heap.size by omega)
  have kf : ∀ i j, i ≤ w.heap.size + 2 → W'.frozen? ⟨i, j, none⟩ = W.frozen? ⟨i, j, none⟩ := fun i j hi => hb.frozen (p := ⟨i, j, none⟩) (show i < w5.heap.size by omega)
  exact ⟨⟨h1.below hb hB, fun k hk => by
    obtain ⟨q1, q2⟩ := h2 k hk
    exact ⟨(hb.cell (p := ⟨g, k * 2, none⟩) hg).trans q1, (hb.cell (p := ⟨g, k * 2 + 1, none⟩) hg).trans q2⟩, by omega, by omega⟩,
    (k _ _ (by omega)).trans r0, (k _ _ (by omega)).trans r1, (k _ _ (by omega)).trans rp, (k _ _ (by omega)).trans rq, (kf _ _ (by omega)).trans f0, (kf _ _ (by omega)).trans f1, (kf _ _ (by omega)).trans fp, (kf _ _ (by omega)).trans fq, bel.trans (hb.mono (by omega)), by omega⟩
theorem AroS.set {B L S g n cap l s half : Nat} {F : Nat → Int × Int} {W : World} (h : AroS B L S g n cap l s half F W) {R j : Nat} (hR : R < B) (hg : g ≠ R) (v : Value) : AroS B L S g n cap l s half F (W.setCell ⟨R, j, none⟩ v) := by
  obtain ⟨⟨c0, c1, c2, cl, cs, ch⟩, h2, h3, h4⟩ := h
  have q : ∀ x i, x ≠ R → (W.setCell ⟨R, j, none⟩ v).cell? ⟨x, i, none⟩ = W.cell? ⟨x, i, none⟩ := fun x i hx => World.cell?_setCell_other _ _ _ _ (fun e => hx (congrArg Addr.block e).symm)
  refine ⟨⟨?_, ?_, ?_, ?_, ?_, ?_⟩, fun k hk => ?_, by simpa using h3, by simpa using h4⟩
  · rw [q _ _ (by omega)]; exact c0
  · rw [q _ _ (by omega)]; exact c1
  · rw [q _ _ (by omega)]; exact c2
  · rw [q _ _ (by omega)]; exact cl
  · rw [q _ _ (by omega)]; exact cs
  · rw [q _ _ (by omega)]; exact ch
  · rw [q _ _ hg, q _ _ hg]; exact h2 k hk
theorem CoSt.put {w w5 W : World} {B L S g n cap l s half : Nat} {F : Nat → Int × Int} {a b p q : Int} (h : CoSt w w5 B L S g n cap l s half F a b p q W) (hR : w.heap.size + 2 < B) (hg : g < w.heap.size) (a' b' : Int) : CoSt w w5 B L S g n cap l s half F a' b' p q ((W.setCell ⟨w.heap.size, 0, none⟩ (.int .i64 a')).setCell ⟨w.heap.size, 1, none⟩ (.int .i64 b')) := by
  obtain ⟨aro, r0, r1, rp, rq, f0, f1, fp, fq, bel, sz⟩ := h
  exact ⟨(aro.set (by omega) (by omega) _).set (by omega) (by omega) _, by simp [go_sem, r0], by simp [go_sem, r1], by simp [go_sem, rp], by simp [go_sem, rq], by simp [go_sem, f0], by simp [go_sem, f1], by simp [go_sem, fp], by simp [go_sem, fq],
    (bel.setCell (p := ⟨w.heap.size, 0, none⟩) (Nat.le_refl _) _).setCell (p := ⟨w.heap.size, 1, none⟩) (Nat.le_refl _) _, by simpa using sz⟩
theorem CoSt.putP {w w5 W : World} {B L S g n cap l s half : Nat} {F : Nat → Int × Int} {a b p q : Int} (h : CoSt w w5 B L S g n cap l s half F a b p q W) (hR : w.heap.size + 2 < B) (hg : g < w.heap.size) (p' : Int) : CoSt w w5 B L S g n cap l s half F a b p' q (W.setCell ⟨w.heap.size + 1, 0, none⟩ (.int .i64 p')) := by
  obtain ⟨aro, r0, r1, rp, rq, f0, f1, fp, fq, bel, sz⟩ := h
  exact ⟨aro.set (by omega) (by omega) _, by simp [go_sem, r0], by simp [go_sem, r1], by simp [go_sem, rp], by simp [go_sem, rq], by simp [go_sem, f0], by simp [go_sem, f1], by simp [go_sem, fp], by simp [go_sem, fq],
    bel.setCell (p := ⟨w.heap.size + 1, 0, none⟩) (Nat.le_succ _) _, by simpa using sz⟩
theorem CoSt.putQ {w w5 W : World} {B L S g n cap l s half : Nat} {F : Nat → Int × Int} {a b p q : Int} (h : CoSt w w5 B L S g n cap l s half F a b p q W) (hR : w.heap.size + 2 < B) (hg : g < w.heap.size) (q' : Int) : CoSt w w5 B L S g n cap l s half F a b p q' (W.setCell ⟨w.heap.size + 2, 0, none⟩ (.int .i64 q')) := by
  obtain ⟨aro, r0, r1, rp, rq, f0, f1, fp, fq, bel, sz⟩ := h
  exact ⟨aro.set (by omega) (by omega) _, by simp [go_sem, r0], by simp [go_sem, r1], by simp [go_sem, rp], by simp [go_sem, rq], by simp [go_sem, f0], by simp [go_sem, f1], by simp [go_sem, fp], by simp [go_sem, fq],
    bel.setCell (p := ⟨w.heap.size + 2, 0, none⟩) (by simp) _, by simpa using sz⟩
end Go.Proofs.YtkoiknmijjiicaaGreatDoor
