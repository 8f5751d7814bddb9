/- Chapter 1: what EchoByTransforms builds: two rows that are filled, an image and a code that grow. No function in sight. -/
import Derived.Test.YtakohhlmomgegaaDoorU90
import Derived.Test.YtakohhlmomgegaaDoorU91
namespace Go.Proofs.YtakohhlmomgegaaDoor
set_option linter.unusedVariables false
set_option linter.unusedSimpArgs false
open Go.RowKit Ntt
structure LinSt (w : World) (g h O : Nat) (n : Int) (fa fb : Nat → Int) (v : Value) (xs : List Value) (wr : World) : Prop where
  c0 : wr.cell? ⟨O, 0, none⟩ = some (.int .i64 1)
  c1 : wr.cell? ⟨O, 1, none⟩ = some (.int .i64 n)
  c2 : wr.cell? ⟨O, 2, none⟩ = some v
  f2 : wr.frozen? ⟨O, 2, none⟩ = false
  oa : OwnF wr g 64 fa
  ob : OwnF wr h 64 fb
  own : wr.ownsRow (O + 1) 63 1 v xs.length xs
  bel : Below w.heap.size w wr
  lt : O < wr.heap.size
  ao : g < O
  bo : h < O
  ab : g ≠ h
  wa : w.heap.size ≤ g
  wb : w.heap.size ≤ h
theorem LinSt.below {w wr W : World} {g h O : Nat} {n : Int} {fa fb : Nat → Int} {xs : List Value} {v : Value} (s : LinSt w g h O n fa fb v xs wr) (hb : Below wr.heap.size wr W) : LinSt w g h O n fa fb v xs W := by
  have hlt := s.lt
  have hs := hb.size
  have hw := s.bel.size
  have q : ∀ j, W.cell? ⟨O, j, none⟩ = wr.cell? ⟨O, j, none⟩ := fun j => hb.cell (p := ⟨O, j, none⟩) hlt
  have q2 : ∀ j, W.frozen? ⟨O, j, none⟩ = wr.frozen? ⟨O, j, none⟩ := fun j => hb.frozen (p := ⟨O, j, none⟩) hlt
  exact ⟨(q 0).trans s.c0, (q 1).trans s.c1, (q 2).trans s.c2, (q2 2).trans s.f2, s.oa.below hb, s.ob.below hb,
    s.own.kept (row := none) ⟨hb.os, hb.tape, hb.output, hb.size, fun k hk _ => hb.block k hk⟩ (Classical.em _), s.bel.trans (hb.mono hw), by omega, s.ao, s.bo, s.ab, s.wa, s.wb⟩
theorem OwnF.far {W : World} {g n : Nat} {f : Nat → Int} (o : OwnF W g n f) {p : Addr} (hp : p.block ≠ g) (v : Value) : OwnF (W.setCell p v) g n f := by
  obtain ⟨⟨h1, h2⟩, h3⟩ := o
  refine ⟨⟨by simpa using h1, fun j hj => ?_⟩, fun j hj => ?_⟩
  · rw [World.cell?_setCell_other _ _ _ _ (by intro e; rw [e] at hp; exact hp rfl)]
    exact h2 j hj
  · have := h3 j hj
    simpa [go_sem] using this
theorem LinSt.seta {w wr : World} {g h O : Nat} {n : Int} {fa fb fc : Nat → Int} {xs : List Value} {v : Value} {i : Nat} {z : Int} (s : LinSt w g h O n fa fb v xs wr) (hi : i < 64) (hh : ∀ j, j < 64 → fc j = if j = i then z else fa j) :
    LinSt w g h O n fc fb v xs (wr.setCell ⟨g, i, none⟩ (.int .i64 z)) := by
  have hlt := s.lt
  have hao := s.ao
  have hab := s.ab
  have hne : ∀ j, (⟨g, i, none⟩ : Addr) ≠ ⟨O, j, none⟩ := fun j e => absurd (congrArg Addr.block e) (show ¬ g = O by omega)
  have q : ∀ j, (wr.setCell ⟨g, i, none⟩ (.int .i64 z)).cell? ⟨O, j, none⟩ = wr.cell? ⟨O, j, none⟩ := fun j => World.cell?_setCell_other _ _ _ _ (hne j)
  refine ⟨by rw [q, s.c0], by rw [q, s.c1], by rw [q, s.c2], by have := s.f2; simpa [go_sem] using this, s.oa.set hi hh, s.ob.far (by exact hab) _,
    ownsRow_setCell_below s.own (show g < O + 1 by omega) _, s.bel.setCell (p := ⟨g, i, none⟩) s.wa _, by simpa using hlt, hao, s.bo, hab, s.wa, s.wb⟩
theorem LinSt.still {w wr w1 : World} {g h O : Nat} {n : Int} {fa fb : Nat → Int} {xs : List Value} {v : Value} {o : Obj} (s : LinSt w g h O n fa fb v xs wr) (hg : (wr.alloc o).grownBy w1 v.ownBlock) :
    w1.cell? ⟨O, 2, none⟩ = some v ∧ w1.frozen? ⟨O, 2, none⟩ = false := by
  have hlt := s.lt
  have hb1 : Below (O + 1) wr w1 := (((Below.refl (O + 1) wr).alloc (by omega) o)).grown hg (by simp; omega) (fun g hg => (s.own.lt g hg).1)
  exact ⟨(hb1.cell (p := ⟨O, 2, none⟩) (Nat.lt_succ_self _)).trans s.c2, (hb1.frozen (p := ⟨O, 2, none⟩) (Nat.lt_succ_self _)).trans s.f2⟩
theorem OwnF.lower {W W' : World} {B g n : Nat} {f : Nat → Int} (h : OwnF W g n f) (hb : Below B W W') (hg : g < B) : OwnF W' g n f := by
  obtain ⟨⟨h1, h2⟩, h3⟩ := h
  exact ⟨⟨by have := hb.size; omega, fun k hk => (hb.cell (p := ⟨g, k, none⟩) hg).trans (h2 k hk)⟩, fun k hk => (hb.frozen (p := ⟨g, k, none⟩) hg).trans (h3 k hk)⟩
theorem LinSt.put {w wr w1 : World} {g h O : Nat} {n : Int} {fa fb : Nat → Int} {xs : List Value} {v v' x : Value} {o : Obj} (s : LinSt w g h O n fa fb v xs wr)
    (ho : w1.ownsRow (O + 1) 63 1 v' (xs.length + 1) (xs ++ [x])) (hg : (wr.alloc o).grownBy w1 v.ownBlock) : LinSt w g h O n fa fb v' (xs ++ [x]) (w1.setCell ⟨O, 2, none⟩ v') := by
  have hlt := s.lt
  have hao := s.ao
  have hbo := s.bo
  have hwa := s.wa
  have hb1 : Below (O + 1) wr w1 := (((Below.refl (O + 1) wr).alloc (by omega) o)).grown hg (by simp; omega) (fun g hg => (s.own.lt g hg).1)
  have hsz := hb1.size
  have q : ∀ j, w1.cell? ⟨O, j, none⟩ = wr.cell? ⟨O, j, none⟩ := fun j => hb1.cell (p := ⟨O, j, none⟩) (Nat.lt_succ_self _)
  have q2 : ∀ j, w1.frozen? ⟨O, j, none⟩ = wr.frozen? ⟨O, j, none⟩ := fun j => hb1.frozen (p := ⟨O, j, none⟩) (Nat.lt_succ_self _)
  refine ⟨by simp [go_sem, q, s.c0], by simp [go_sem, q, s.c1], by simp [go_sem, q, s.c2], by simp [go_sem, q2, s.f2], (s.oa.lower hb1 (by omega)).far (by show O ≠ g; omega) _, (s.ob.lower hb1 (by omega)).far (by show O ≠ h; omega) _, ?_, ?_, by simp; omega, hao, hbo, s.ab, hwa, s.wb⟩
  · rw [show (xs ++ [x]).length = xs.length + 1 by simp]
    exact ownsRow_setCell_below ho (Nat.lt_succ_self _) _
  · exact (s.bel.trans (hb1.mono (by omega))).setCell (p := ⟨O, 2, none⟩) (show w.heap.size ≤ O by omega) _
structure CodSt (w W1 : World) (h : Nat) (fb : Nat → Int) (v : Value) (xs : List Value) (wr : World) : Prop where
  ob : OwnF wr h 64 fb
  own : wr.ownsRow W1.heap.size 63 1 v xs.length xs
  kept : ∀ p : Addr, p.block < W1.heap.size → p.block ≠ h → wr.cell? p = W1.cell? p
  bel : Below w.heap.size w wr
  siz : W1.heap.size ≤ wr.heap.size
  lt : h < W1.heap.size
  wb : w.heap.size ≤ h
theorem CodSt.below {w W1 wr W : World} {h : Nat} {fb : Nat → Int} {xs : List Value} {v : Value} (s : CodSt w W1 h fb v xs wr) (hb : Below wr.heap.size wr W) : CodSt w W1 h fb v xs W := by
  have hs := hb.size
  have hz := s.siz
  have hw := s.bel.size
  exact ⟨s.ob.below hb, s.own.kept (row := none) ⟨hb.os, hb.tape, hb.output, hb.size, fun k hk _ => hb.block k hk⟩ (Classical.em _), fun p hp hne => (hb.cell (by omega)).trans (s.kept p hp hne), s.bel.trans (hb.mono hw), by omega, s.lt, s.wb⟩
theorem CodSt.setb {w W1 wr : World} {h : Nat} {fb fc : Nat → Int} {xs : List Value} {v : Value} {i : Nat} {z : Int} (s : CodSt w W1 h fb v xs wr) (hi : i < 64) (hh : ∀ j, j < 64 → fc j = if j = i then z else fb j) :
    CodSt w W1 h fc v xs (wr.setCell ⟨h, i, none⟩ (.int .i64 z)) := by
  have hlt := s.lt
  have hz := s.siz
  refine ⟨s.ob.set hi hh, ownsRow_setCell_below s.own (show h < _ from hlt) _, fun p hp hne => ?_, s.bel.setCell (p := ⟨h, i, none⟩) s.wb _, by simpa using hz, hlt, s.wb⟩
  rw [World.cell?_setCell_other _ _ _ _ (by intro e; rw [← e] at hne; exact hne rfl)]
  exact s.kept p hp hne
theorem CodSt.put {w W1 wr w1 : World} {h : Nat} {fb : Nat → Int} {xs : List Value} {v v' x : Value} {o : Obj} (s : CodSt w W1 h fb v xs wr)
    (ho : w1.ownsRow W1.heap.size 63 1 v' (xs.length + 1) (xs ++ [x])) (hg : (wr.alloc o).grownBy w1 v.ownBlock) : CodSt w W1 h fb v' (xs ++ [x]) w1 := by
  have hlt := s.lt
  have hz := s.siz
  have hwb := s.wb
  have hb1 : Below W1.heap.size wr w1 := (((Below.refl W1.heap.size wr).alloc (by omega) o)).grown hg (by simp; omega) (fun g hg => (s.own.lt g hg).1)
  have hsz := hb1.size
  refine ⟨s.ob.lower hb1 hlt, ?_, fun p hp hne => (hb1.cell hp).trans (s.kept p hp hne), s.bel.trans (hb1.mono (by omega)), by omega, hlt, hwb⟩
  rw [show (xs ++ [x]).length = xs.length + 1 by simp]
  exact ho
/-- The first k parts, and then 0. -/
def fillP (X : Nat → Int) (k j : Nat) : Int := if j < k then X j % 998244353 else 0
theorem fillP_succ (X : Nat → Int) (k : Nat) {z : Int} (hz : z = X k % 998244353) : ∀ j, j < 64 → fillP X (k + 1) j = if j = k then z else fillP X k j := fun j _ => by
  unfold fillP
  by_cases e : j = k
  · subst e; rw [if_pos (by omega), if_pos rfl, hz]
  · rw [if_neg e]
    by_cases d : j < k
    · rw [if_pos d, if_pos (by omega)]
    · rw [if_neg d, if_neg (by omega)]
theorem fillP_pad (X : Nat → Int) (n : Nat) : fillP X n = padP X n := rfl
end Go.Proofs.YtakohhlmomgegaaDoor
