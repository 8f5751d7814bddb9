/- Chapter 4: what the reference's Coherence needs: bounds of windows, energies, a result that grows beside fields. -/
import Derived.Test.YtkoiknmijjiicaaGreatDoorX101
import Derived.Test.YtkoiknmijjiicaaGreatDoorX103
import Derived.Test.YtkoiknmijjiicaaGreatDoorX98
import Derived.Test.YtkoiknmijjiicaaGreatDoorXP
import Derived.Test.YtkoiknmijjiicaaGreatDoorX19
namespace Go.Proofs.YtkoiknmijjiicaaGreatDoor
set_option linter.unusedVariables false
set_option linter.unusedSimpArgs false
open Go.RowKit Ieee Ntt
theorem winP_bd9 {F : Nat → Int} {L S half l s : Nat} {B : Int} (h : ∀ i, i < L * S → -B ≤ F i ∧ F i ≤ B) (hB : 0 ≤ B) (hh : half ≤ 4) (hl : l < L) (hs : s < S) : -(81 * B) ≤ winP F L S half l s ∧ winP F L S half l s ≤ 81 * B := by
  have t1 := cntW_9 (l := l) (L := L) hh
  have t2 := cntW_9 (l := s) (L := S) hh
  obtain ⟨u1, -⟩ := cntW_le (half := half) hl
  obtain ⟨u2, -⟩ := cntW_le (half := half) hs
  have h1 : ∀ j, j < cntW l half L → -(9 * B) ≤ rowW F S (loW l half + j) (loW s half) (cntW s half S) ∧ rowW F S (loW l half + j) (loW s half) (cntW s half S) ≤ 9 * B := fun j hj => mul_le3 (n := 9) (rowW_bd (L := L) h (by omega) u2) t2 hB
  have h2 := sumN_bd (f := fun l => rowW F S l (loW s half) (cntW s half S)) (a := loW l half) (k := cntW l half L) h1
  have h3 := mul_le3 (n := 9) h2 t1 (by omega)
  unfold winP winW
  omega
theorem winW_nn {F : Nat → Int} {L S a k b m : Nat} (h : ∀ i, i < L * S → 0 ≤ F i) (hm : b + m ≤ L) (hk : a + k ≤ S) : 0 ≤ winW F S a k b m :=
  sumN_nn fun j hj => sumN_nn fun i hi => h _ (by
    have h1 : (b + j + 1) * S ≤ L * S := Nat.mul_le_mul_right _ (by omega)
    rw [Nat.add_mul, Nat.one_mul] at h1
    omega)
theorem winP_nn {F : Nat → Int} {L S half l s : Nat} (h : ∀ i, i < L * S → 0 ≤ F i) (hl : l < L) (hs : s < S) : 0 ≤ winP F L S half l s := winW_nn h (cntW_le hl).1 (cntW_le hs).1
theorem sumN_neg {f g : Nat → Int} {a : Nat} : ∀ {k : Nat}, (∀ j, j < k → g (a + j) = -f (a + j)) → sumN g a k = -sumN f a k
  | 0, _ => rfl
  | k + 1, h => by rw [sumN, sumN, sumN_neg (k := k) (fun j hj => h j (by omega)), h k (Nat.lt_succ_self k)]; omega
theorem winP_neg {F G : Nat → Int} (h : ∀ i, G i = -F i) (L S half l s : Nat) : winP G L S half l s = -winP F L S half l s :=
  sumN_neg fun j _ => sumN_neg fun i _ => h _
/-- The numbers of a field of pairs. -/
theorem nmF_small {n : Nat} {G : Nat → Int × Int} {B : Int} (h : SmallP n G B) (hB : B ≤ 1000000000) : SmallD n (nmF G) (fun i => (G i).1) (fun i => (G i).2) B := fun k hk => by
  obtain ⟨⟨a1, a2⟩, b1, b2⟩ := h k hk
  exact ⟨⟨f64I_num (by omega), f64I_num (by omega), f64I_lt _, f64I_lt _⟩, ⟨a1, a2⟩, b1, b2⟩
/-- A value of three cells that grows beside what lies below a world. -/
structure TriM (w : World) (O : Nat) (L S : Int) (e : TypeId) (sz : Nat) (v : Value) (n : Nat) (xs : List Value) (wr : World) : Prop where
  c0 : wr.cell? ⟨O, 0, none⟩ = some (.int .i64 L)
  c1 : wr.cell? ⟨O, 1, none⟩ = some (.int .i64 S)
  c2 : wr.cell? ⟨O, 2, none⟩ = some v
  f2 : wr.frozen? ⟨O, 2, none⟩ = false
  own : wr.ownsRow w.heap.size e sz v n xs
  bel : Below O w wr
  keep : ∀ k, k < w.heap.size → k ≠ O → wr.heap[k]? = w.heap[k]?
  lt : O < w.heap.size
section
variable {w wr W : World} {O : Nat} {L S : Int} {e : TypeId} {sz n : Nat} {xs : List Value} {v : Value}
theorem TriM.below (h : TriM w O L S e sz v n xs wr) (hb : Below wr.heap.size wr W) : TriM w O L S e sz v n xs W := by
  have hlt := h.lt
  have hs := hb.size
  have hz := h.bel.size
  have q : ∀ j, W.cell? ⟨O, j, none⟩ = wr.cell? ⟨O, j, none⟩ := fun j => hb.cell (p := ⟨O, j, none⟩) (show O < wr.heap.size by omega)
  have q2 : ∀ j, W.frozen? ⟨O, j, none⟩ = wr.frozen? ⟨O, j, none⟩ := fun j => hb.frozen (p := ⟨O, j, none⟩) (show O < wr.heap.size by omega)
  exact ⟨(q 0).trans h.c0, (q 1).trans h.c1, (q 2).trans h.c2, (q2 2).trans h.f2,
    h.own.kept (row := none) ⟨hb.os, hb.tape, hb.output, hb.size, fun k hk _ => hb.block k hk⟩ (Classical.em _), h.bel.trans (hb.mono (by omega)), fun k hk hn => (hb.block k (by omega)).trans (h.keep k hk hn), hlt⟩
theorem TriM.still {w1 : World} {o : Obj} (h : TriM w O L S e sz v n xs wr) (hg : (wr.alloc o).grownBy w1 v.ownBlock) :
    w1.cell? ⟨O, 2, none⟩ = some v ∧ w1.frozen? ⟨O, 2, none⟩ = false := by
  have hlt := h.lt
  have hz := h.bel.size
  have hb1 : Below w.heap.size wr w1 := (((Below.refl w.heap.size wr).alloc (by omega) o)).grown hg (by simp; omega) (fun g hg => (h.own.lt g hg).1)
  exact ⟨(hb1.cell (p := ⟨O, 2, none⟩) hlt).trans h.c2, (hb1.frozen (p := ⟨O, 2, none⟩) hlt).trans h.f2⟩
theorem TriM.put {w1 : World} {v' : Value} {ys : List Value} {o : Obj} (h : TriM w O L S e sz v n xs wr)
    (ho : w1.ownsRow w.heap.size e sz v' (n + 1) (xs ++ ys)) (hg : (wr.alloc o).grownBy w1 v.ownBlock) : TriM w O L S e sz v' (n + 1) (xs ++ ys) (w1.setCell ⟨O, 2, none⟩ v') := by
  have hlt := h.lt
  have hz := h.bel.size
  have hb1 : Below w.heap.size wr w1 := (((Below.refl w.heap.size wr).alloc (by omega) o)).grown hg (by simp; omega) (fun g hg => (h.own.lt g hg).1)
  have hsz := hb1.size
  have q : ∀ j, w1.cell? ⟨O, j, none⟩ = wr.cell? ⟨O, j, none⟩ := fun j => hb1.cell (p := ⟨O, j, none⟩) hlt
  have q2 : ∀ j, w1.frozen? ⟨O, j, none⟩ = wr.frozen? ⟨O, j, none⟩ := fun j => hb1.frozen (p := ⟨O, j, none⟩) hlt
  refine ⟨by simp [go_sem, q, h.c0], by simp [go_sem, q, h.c1], by simp [go_sem, q, h.c2], by simp [go_sem, q2, h.f2], ?_, ?_, fun k hk hn => ?_, hlt⟩
  · exact ownsRow_setCell_below ho hlt _
  · exact (h.bel.trans (hb1.mono (by omega))).setCell (p := ⟨O, 2, none⟩) (Nat.le_refl _) _
  · rw [Below.heap_setCell _ _ _ _ (show k ≠ O from hn)]
    exact (hb1.block k hk).trans (h.keep k hk hn)
/-- The cells of another block. -/
theorem TriM.cell (h : TriM w O L S e sz v n xs wr) {b j : Nat} {u : Value} (hb : b < w.heap.size) (hn : b ≠ O) (hc : w.cell? ⟨b, j, none⟩ = some u) : wr.cell? ⟨b, j, none⟩ = some u := by
  rw [← hc]
  unfold World.cell?
  rw [h.keep b hb hn]
end
theorem rEnergies (L S : Nat) (n cap b off : Nat) (f : Nat → Nat × Nat) (w : World) (hn : n ≤ 5000) (hbw : b < w.heap.size) (hf : SamplesAt w b off n f) (hX : SmallS n f (xB f) (yB f) 2047) :
    Calls Tryz.prog 49 #[.agg #[.int .i64 L, .int .i64 S, .slice (some ⟨b, off, none⟩) n cap]] w (RfPost L S n (nmF (intfF (xB f) (yB f) (xB f) (yB f))) w) := by
  have HRI := Lib.hid (show ∀ W, Below w.heap.size w W → _ from fun W hW => rInterfere L S n cap cap b off b off f f W L S hn (by have := hW.size; omega) (by have := hW.size; omega) (hf.below hbw hW) (hf.below hbw hW) hX hX)
  clear hf hX
  go_enter Tryz.func49, Tryz.ntmps49
  go_wp2_with (first | (go_at_call 48; (with_reducible refine (HRI.out _ (by (repeat' (first | with_reducible exact Below.refl _ _ | (with_reducible refine below_later_of ?_ ?_ _) | (with_reducible refine Below.alloc ?_ ?_ _) | (with_reducible refine Below.setCell ?_ ?_ _) | (with_reducible refine Below.drew ?_) | (simp; done) | (simp; omega) | omega)))).mono ?_); rintro e w' ⟨a1, c1, rfl, ho, hc, hb⟩; have HO1 := Lib.hid ho; have HC1 := Lib.hid hc; clear ho hc; obtain ⟨p1, rfl⟩ := later_of_below hb; clear hb))
  refine bodyPost_ret (v := .agg #[.int .i64 L, .int .i64 S, .slice a1 n c1]) ?_ rfl ⟨a1, c1, rfl, ?_, HC1.out, (by (repeat' (first | with_reducible exact Below.refl _ _ | (with_reducible refine below_later_of ?_ ?_ _) | (with_reducible refine Below.alloc ?_ ?_ _) | (with_reducible refine Below.setCell ?_ ?_ _) | (with_reducible refine Below.drew ?_) | (simp; done) | (simp; omega) | omega)))⟩
  · first | (simp [results, Tryz.results49, go_sem]; done) | simp [results, Tryz.results49, go_sem, ↓IntWalk.iteOmega]
  · exact OwnS.mono (OwnS.set (OwnS.set (OwnS.set HO1.out (by simp <;> omega) _) (by simp <;> omega) _) (by simp <;> omega) _) (by simp <;> omega)
end Go.Proofs.YtkoiknmijjiicaaGreatDoor
