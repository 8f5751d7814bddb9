import Derived.Test.YtkoiknmijjiicaaGreatDoorXU
import Derived.OwnWalk
import Derived.Test.YtkoiknmijjiicaaGreatDoorU80
import Derived.Test.YtkoiknmijjiicaaGreatDoorZN
import Derived.Test.YtkoiknmijjiicaaGreatDoorXV
import Derived.Test.YtkoiknmijjiicaaGreatDoorXA
import Derived.Deep.AppendLies
import Derived.Deep.RegionLaw
/- Chapter 1: the reference's numbers. -/
namespace Go.Proofs.YtkoiknmijjiicaaGreatDoor
set_option linter.unusedVariables false
set_option linter.unusedSimpArgs false
open Go.RowKit Go
/-- The number of a word of at most 7 digits. -/
def wordN (B : ByteArray) : Option Int := numF (byteAt B) B.size 7
/-- The numbers of the first words. -/
def numsP (ws : Nat → ByteArray) : Nat → Option (List Int)
  | 0 => some []
  | k + 1 => match numsP ws k with
    | none => none
    | some l => match wordN (ws k) with
      | none => none
      | some v => some (l ++ [v])
theorem numsP_none (ws : Nat → ByteArray) (k : Nat) (h : numsP ws k = none) : ∀ m, numsP ws (k + m) = none
  | 0 => h
  | m + 1 => by rw [← Nat.add_assoc, numsP, numsP_none ws k h m]
def intC (l : List Int) : List Value := l.map (.int .i64)
theorem infoInt : (Tryz.prog.info? 3).map (fun i => (i.zero, i.size, i.bytes)) = some (some (.int .i64 0), 1, 8) := by kernel_rfl
/-- A row of numbers of one's own. -/
def IntR (O : Nat) (w : World) (l : List Int) (v : Value) (wr : World) : Prop := wr.ownsRow O 3 1 v l.length (intC l) ∧ Below O w wr
theorem cells_int1 (w : World) (x : Value) (T : TypeId) (j : Nat) (u : Value) (h : [x][j]? = some u) : (w.alloc (.cells #[x] T)).cell? ((⟨w.heap.size, 0, none⟩ : Addr).add j) = some u := by
  have : (⟨w.heap.size, 0, none⟩ : Addr).add j = ⟨w.heap.size, j, none⟩ := by simp [Addr.add]; omega
  rw [this, World.cell?_alloc_new]
  simpa using h
theorem intR_put {O : Nat} {w wr w1 : World} {l : List Int} {v v' : Value} {x : Int} {o : Obj} (h : IntR O w l v wr) (hB : O ≤ wr.heap.size) {m : Nat} (hm : l.length = m) (ho : w1.ownsRow O 3 1 v' (m + 1) (intC l ++ [.int .i64 x])) (hg : (wr.alloc o).grownBy w1 v.ownBlock) : IntR O w (l ++ [x]) v' w1 := by
  subst hm
  refine ⟨?_, h.2.trans ((((Below.refl O wr).alloc hB o)).grown hg (by simp; omega) (fun g hg => (h.1.lt g hg).1))⟩
  rw [show intC (l ++ [x]) = intC l ++ [.int .i64 x] by unfold intC; rw [List.map_append]; rfl, List.length_append]
  exact ho
theorem intR_slice {O : Nat} {w wr : World} {l : List Int} {v : Value} (h : IntR O w l v wr) : ∃ a c, v = .slice a l.length c := by
  obtain ⟨-, ⟨rfl, h1⟩ | ⟨g, cap, cur, rfl, h2, h3, -⟩⟩ := h.1
  · exact ⟨none, 0, by rw [h1]⟩
  · exact ⟨_, cap, rfl⟩
/-- What numbers answers. -/
def NumP (w : World) (o : Option (List Int)) (e : Ending) (w' : World) : Prop := match o with
  | none => e = .returned (.tuple #[.slice none 0 0, .bool false])
  | some l => ∃ v, e = .returned (.tuple #[v, .bool true]) ∧ IntR w.heap.size w l v w'
end Go.Proofs.YtkoiknmijjiicaaGreatDoor

/- Chapter 1: base.Sample; a value of three cells that is built up in a variable alone. -/
namespace Go.Proofs.YtkoiknmijjiicaaGreatDoor
set_option linter.unusedVariables false
set_option linter.unusedSimpArgs false
open Go.RowKit
structure BldSt (w : World) (O : Nat) (L S : Int) (e : TypeId) (v : Value) (xs : List Value) (wr : World) : Prop where
  c0 : wr.cell? ⟨O, 0, none⟩ = some (.int .i64 L)
  c1 : wr.cell? ⟨O, 1, none⟩ = some (.int .i64 S)
  c2 : wr.cell? ⟨O, 2, none⟩ = some v
  f2 : wr.frozen? ⟨O, 2, none⟩ = false
  own : wr.ownsRow (O + 1) e 1 v xs.length xs
  bel : Below O w wr
  lt : O < wr.heap.size
theorem BldSt.below {w wr W : World} {O : Nat} {L S : Int} {e : TypeId} {xs : List Value} {v : Value} (h : BldSt w O L S e v xs wr) (hb : Below wr.heap.size wr W) : BldSt w O L S e v xs W := by
  have hlt := h.lt
  have hs := hb.size
  have q : ∀ j, W.cell? ⟨O, j, none⟩ = wr.cell? ⟨O, j, none⟩ := fun j => hb.cell (p := ⟨O, j, none⟩) hlt
  have q2 : ∀ j, W.frozen? ⟨O, j, none⟩ = wr.frozen? ⟨O, j, none⟩ := fun j => hb.frozen (p := ⟨O, j, none⟩) hlt
  exact ⟨(q 0).trans h.c0, (q 1).trans h.c1, (q 2).trans h.c2, (q2 2).trans h.f2,
    h.own.kept (row := none) ⟨hb.os, hb.tape, hb.output, hb.size, fun k hk _ => hb.block k hk⟩ (Classical.em _), h.bel.trans (hb.mono (by omega)), by omega⟩
theorem BldSt.still {w wr w1 : World} {O : Nat} {L S : Int} {e : TypeId} {xs : List Value} {v : Value} {o : Obj} (h : BldSt w O L S e v xs wr) (hg : (wr.alloc o).grownBy w1 v.ownBlock) :
    w1.cell? ⟨O, 2, none⟩ = some v ∧ w1.frozen? ⟨O, 2, none⟩ = false := by
  have hlt := h.lt
  have hb1 : Below (O + 1) wr w1 := (((Below.refl (O + 1) wr).alloc (by omega) o)).grown hg (by simp; omega) (fun g hg => (h.own.lt g hg).1)
  exact ⟨(hb1.cell (p := ⟨O, 2, none⟩) (Nat.lt_succ_self _)).trans h.c2, (hb1.frozen (p := ⟨O, 2, none⟩) (Nat.lt_succ_self _)).trans h.f2⟩
theorem BldSt.put {w wr w1 : World} {O : Nat} {L S : Int} {e : TypeId} {xs : List Value} {v v' x : Value} {o : Obj} (h : BldSt w O L S e v xs wr)
    (ho : w1.ownsRow (O + 1) e 1 v' (xs.length + 1) (xs ++ [x])) (hg : (wr.alloc o).grownBy w1 v.ownBlock) : BldSt w O L S e v' (xs ++ [x]) (w1.setCell ⟨O, 2, none⟩ v') := by
  have hlt := h.lt
  have hb1 : Below (O + 1) wr w1 := (((Below.refl (O + 1) wr).alloc (by omega) o)).grown hg (by simp; omega) (fun g hg => (h.own.lt g hg).1)
  have hsz := hb1.size
  have q : ∀ j, w1.cell? ⟨O, j, none⟩ = wr.cell? ⟨O, j, none⟩ := fun j => hb1.cell (p := ⟨O, j, none⟩) (Nat.lt_succ_self _)
  have q2 : ∀ j, w1.frozen? ⟨O, j, none⟩ = wr.frozen? ⟨O, j, none⟩ := fun j => hb1.frozen (p := ⟨O, j, none⟩) (Nat.lt_succ_self _)
  refine ⟨by simp [go_sem, q, h.c0], by simp [go_sem, q, h.c1], by simp [go_sem, q, h.c2], by simp [go_sem, q2, h.f2], ?_, ?_, by simp; omega⟩
  · rw [show (xs ++ [x]).length = xs.length + 1 by simp]
    exact ownsRow_setCell_below ho (Nat.lt_succ_self _) _
  · exact (h.bel.trans (hb1.mono (by omega))).setCell (p := ⟨O, 2, none⟩) (Nat.le_refl _) _
end Go.Proofs.YtkoiknmijjiicaaGreatDoor

/- Chapter 4: a map in memory that is being read; the words of a line in memory. -/
namespace Go.Proofs.YtkoiknmijjiicaaGreatDoor
set_option linter.unusedVariables false
set_option linter.unusedSimpArgs false
open Go.RowKit Go
theorem strR_cells {O : Nat} {w wr : World} {ws : List ByteArray} {v : Value} (h : StrR O w ws v wr) (hp : 0 < ws.length) : ∃ g c, v = .slice (some ⟨g, 0, none⟩) ws.length c ∧ O ≤ g ∧ g < wr.heap.size ∧ ∀ j, j < ws.length → wr.cell? ⟨g, j, none⟩ = some (.string (textAt ws j)) := by
  obtain ⟨ho, -⟩ := h
  obtain ⟨h1, ⟨rfl, h2⟩ | ⟨g, cap, cur, rfl, h3⟩⟩ := id ho
  · rw [h2] at hp; omega
  · refine ⟨g, cap, rfl, (ho.lt g rfl).1, (ho.lt g rfl).2, fun j hj => ?_⟩
    rw [ho.cellAt j (by omega)]
    unfold textAt strC
    simp [hj]
/-- A map that is being read: its cells lie in block G; below G all is as it was. -/
structure MpSt (w : World) (G : Nat) (R C : Int) (v : Value) (zs : List Int) (wr : World) : Prop where
  c0 : wr.cell? ⟨G, 0, none⟩ = some (.int .i64 R)
  c1 : wr.cell? ⟨G, 1, none⟩ = some (.int .i64 C)
  c2 : wr.cell? ⟨G, 2, none⟩ = some v
  f0 : wr.frozen? ⟨G, 0, none⟩ = false
  f1 : wr.frozen? ⟨G, 1, none⟩ = false
  f2 : wr.frozen? ⟨G, 2, none⟩ = false
  own : wr.ownsRow (G + 1) 3 1 v zs.length (intC zs)
  bel : Below G w wr
  lt : G < wr.heap.size
theorem MpSt.below {w wr W : World} {G : Nat} {R C : Int} {v : Value} {zs : List Int} (h : MpSt w G R C v zs wr) (hb : Below wr.heap.size wr W) : MpSt w G R C v zs W := by
  have hlt := h.lt
  have hs := hb.size
  have q : ∀ j, W.cell? ⟨G, j, none⟩ = wr.cell? ⟨G, j, none⟩ := fun j => hb.cell (p := ⟨G, j, none⟩) hlt
  have q2 : ∀ j, W.frozen? ⟨G, j, none⟩ = wr.frozen? ⟨G, j, none⟩ := fun j => hb.frozen (p := ⟨G, j, none⟩) hlt
  exact ⟨(q 0).trans h.c0, (q 1).trans h.c1, (q 2).trans h.c2, (q2 0).trans h.f0, (q2 1).trans h.f1, (q2 2).trans h.f2,
    h.own.kept (row := none) ⟨hb.os, hb.tape, hb.output, hb.size, fun k hk _ => hb.block k hk⟩ (Classical.em _), h.bel.trans (hb.mono (by omega)), by omega⟩
/-- Rows and columns are set. -/
theorem MpSt.dims {w wr : World} {G : Nat} {R C : Int} {v : Value} {zs : List Int} (h : MpSt w G R C v zs wr) (R' C' : Int) : MpSt w G R' C' v zs ((wr.setCell ⟨G, 0, none⟩ (.int .i64 R')).setCell ⟨G, 1, none⟩ (.int .i64 C')) := by
  have hlt := h.lt
  refine ⟨?_, ?_, ?_, by simpa using h.f0, by simpa using h.f1, by simpa using h.f2, ?_, ?_, by simpa using hlt⟩
  · rw [World.cell?_setCell_other _ _ _ _ (by simp)]
    exact World.cell?_setCell_same _ _ _ h.c0
  · refine World.cell?_setCell_same (u := .int .i64 C) _ _ _ ?_
    rw [World.cell?_setCell_other _ _ _ _ (by simp)]
    exact h.c1
  · rw [World.cell?_setCell_other _ _ _ _ (by simp), World.cell?_setCell_other _ _ _ _ (by simp)]
    exact h.c2
  · have e1 := h.own
    have hb : ∀ (X : World) (p : Addr) (u : Value), p.block = G → X.ownsRow (G + 1) 3 1 v zs.length (intC zs) → (X.setCell p u).ownsRow (G + 1) 3 1 v zs.length (intC zs) := by
      intro X p u hp ho
      obtain ⟨h1, h2 | ⟨g, cap, cur, k1, k2, k3, k4⟩⟩ := ho
      · exact ⟨h1, .inl h2⟩
      · exact ⟨h1, .inr ⟨g, cap, cur, k1, k2, (Below.heap_setCell _ _ _ _ (by omega)).trans k3, k4⟩⟩
    exact hb _ _ _ rfl (hb _ _ _ rfl e1)
  · exact (h.bel.setCell (p := ⟨G, 0, none⟩) (Nat.le_refl _) _).setCell (p := ⟨G, 1, none⟩) (Nat.le_refl _) _
/-- What is read is an IntsV. -/
theorem MpSt.ints {w wr : World} {G : Nat} {R C : Int} {v : Value} {zs : List Int} (h : MpSt w G R C v zs wr) (hl : zs.length ≤ 1000000000) : IntsV wr v zs := by
  obtain ⟨h1, ⟨rfl, h2⟩ | ⟨g, cap, cur, rfl, h3⟩⟩ := id h.own
  · exact ⟨hl, none, 0, by rw [h2], fun hp => by omega⟩
  · exact intsV_own h.own hl
end Go.Proofs.YtkoiknmijjiicaaGreatDoor

/- Chapter 4: the reference's Parse. -/
namespace Go.Proofs.YtkoiknmijjiicaaGreatDoor
set_option linter.unusedVariables false
set_option linter.unusedSimpArgs false
open Go.RowKit Go
theorem MpSt.put {w wr w1 : World} {G : Nat} {R C : Int} {v v' : Value} {zs ns : List Int} (h : MpSt w G R C v zs wr) {m : Nat} (hm : zs.length + ns.length = m)
    (ho : w1.ownsRow (G + 1) 3 1 v' m (intC zs ++ intC ns)) (hg : wr.grownBy w1 v.ownBlock) : MpSt w G R C v' (zs ++ ns) (w1.setCell ⟨G, 2, none⟩ v') := by
  have hlt := h.lt
  have hb1 : Below (G + 1) wr w1 := (Below.refl (G + 1) wr).grown hg (by omega) (fun g hg => (h.own.lt g hg).1)
  have hsz := hb1.size
  have q : ∀ j, w1.cell? ⟨G, j, none⟩ = wr.cell? ⟨G, j, none⟩ := fun j => hb1.cell (p := ⟨G, j, none⟩) (Nat.lt_succ_self _)
  have q2 : ∀ j, w1.frozen? ⟨G, j, none⟩ = wr.frozen? ⟨G, j, none⟩ := fun j => hb1.frozen (p := ⟨G, j, none⟩) (Nat.lt_succ_self _)
  refine ⟨by simp [go_sem, q, h.c0], by simp [go_sem, q, h.c1], by simp [go_sem, q, h.c2], by simp [go_sem, q2, h.f0], by simp [go_sem, q2, h.f1], by simp [go_sem, q2, h.f2], ?_, ?_, by simp; omega⟩
  · subst hm
    rw [show intC (zs ++ ns) = intC zs ++ intC ns by unfold intC; rw [List.map_append], List.length_append]
    exact ownsRow_setCell_below ho (Nat.lt_succ_self _) _
  · exact (h.bel.trans (hb1.mono (by omega))).setCell (p := ⟨G, 2, none⟩) (Nat.le_refl _) _
theorem MpSt.still {w wr w1 : World} {G : Nat} {R C : Int} {v : Value} {zs : List Int} (h : MpSt w G R C v zs wr) (hg : wr.grownBy w1 v.ownBlock) : w1.cell? ⟨G, 2, none⟩ = some v ∧ w1.frozen? ⟨G, 2, none⟩ = false := by
  have hlt := h.lt
  have hb1 : Below (G + 1) wr w1 := (Below.refl (G + 1) wr).grown hg (by omega) (fun g hg => (h.own.lt g hg).1)
  exact ⟨(hb1.cell (p := ⟨G, 2, none⟩) (Nat.lt_succ_self _)).trans h.c2, (hb1.frozen (p := ⟨G, 2, none⟩) (Nat.lt_succ_self _)).trans h.f2⟩
theorem strR_cellsN {O : Nat} {w wr : World} {ws : List ByteArray} {v : Value} {n : Nat} (h : StrR O w ws v wr) (hn : ws.length = n) (hp : 0 < n) : ∃ g c, v = .slice (some ⟨g, 0, none⟩) n c ∧ O ≤ g ∧ g < wr.heap.size ∧ ∀ j, j < n → wr.cell? ⟨g, j, none⟩ = some (.string (textAt ws j)) := by
  subst hn
  exact strR_cells h hp
theorem ends_le (s : ByteArray) : endsN s ≤ s.size := by
  have h1 := wsum_len (pieces s)
  have h2 : wsum (pieces s) = s.data.toList.length + 1 := cutL_sum 10 _
  rw [pieces_pos, h2, ← Lib.size_eq] at h1
  omega
theorem intR_cells {O : Nat} {w wr : World} {ns : List Int} {v : Value} (h : IntR O w ns v wr) (hp : 0 < ns.length) : ∃ g c, v = .slice (some ⟨g, 0, none⟩) ns.length c ∧ O ≤ g ∧ g < wr.heap.size ∧ (∀ (j : Nat) (u : Value), (intC ns)[j]? = some u → wr.cell? ((⟨g, 0, none⟩ : Addr).add j) = some u) ∧ ∀ j, j < ns.length → wr.cell? ⟨g, j, none⟩ = some (.int .i64 (intAt ns j)) := by
  obtain ⟨ho, -⟩ := h
  obtain ⟨h1, ⟨rfl, h2⟩ | ⟨g, cap, cur, rfl, h3⟩⟩ := id ho
  · rw [h2] at hp; omega
  · have hc : ∀ j, j < ns.length → wr.cell? ⟨g, j, none⟩ = some (.int .i64 (intAt ns j)) := fun j hj => by
      rw [ho.cellAt j (by omega)]
      unfold intAt intC
      simp [hj]
    refine ⟨g, cap, rfl, (ho.lt g rfl).1, (ho.lt g rfl).2, fun j u hu => ?_, hc⟩
    have hj : j < ns.length := by
      have := (List.getElem?_eq_some_iff.1 hu).1
      unfold intC at this
      simpa using this
    have e : ((⟨g, 0, none⟩ : Addr).add j) = ⟨g, j, none⟩ := by simp [Addr.add]; omega
    rw [e, hc j hj, ← hu]
    unfold intAt intC
    simp [hj]
theorem nums_full {k : Nat} {ws : List ByteArray} {ns : List Int} (hk : k ≠ 0) (h : numsK k ws ws.length = some ns) : ns.length = ws.length := by
  have h1 := allO_len _ _ h
  rw [List.length_map] at h1
  unfold lookW at h1
  rw [if_neg hk, List.take_length] at h1
  exact h1
def snocO (ns : List Int) : Option Int → Option (List Int)
  | none => none
  | some v => some (ns ++ [v])
/-- What a Parse returns. -/
def RpPost (s : ByteArray) (w : World) (e : Ending) (w' : World) : Prop :=
  ∃ v, e = .returned (.tuple #[.agg #[.int .i64 (ansP s).rows, .int .i64 (ansP s).cols, v], .int .i64 (ansP s).line, .int .i64 (ansP s).err]) ∧ IntsV w' v (ansP s).zs ∧ Below w.heap.size w w'
theorem ints_row {w : World} {B : Nat} {v : Value} {zs : List Int} (h : w.ownsRow B 3 1 v zs.length (intC zs)) (hl : zs.length ≤ 1000000000) : IntsV w v zs := by
  obtain ⟨h1, ⟨rfl, h2⟩ | ⟨g, cap, cur, rfl, h3⟩⟩ := id h
  · exact ⟨hl, none, 0, by rw [h2], fun hp => by omega⟩
  · exact intsV_own h hl
theorem ints_nil (w : World) : IntsV w (.slice none 0 0) [] := ⟨by decide, none, 0, rfl, fun h => by simp at h⟩
set_option maxRecDepth 20000 in
set_option maxHeartbeats 1000000 in
theorem rParse_big (s : ByteArray) (w : World) (hs : 60000 < s.size) : Calls Tryz.prog 16 #[.string s] w (RpPost s w) := by
  have hA : ansP s = ⟨0, 0, [], 0, 8⟩ := by unfold ansP; rw [if_pos hs]
  have hd : decide ((60000 : Int) < (s.size : Int)) = true := by simp; omega
  unfold RpPost
  rw [hA]
  clear hA
  go_enter Tryz.func16, Tryz.ntmps16
  go_wp2
  refine bodyPost_ret (v := .tuple #[.agg #[.int .i64 0, .int .i64 0, .slice none 0 0], .int .i64 0, .int .i64 8]) ?_ rfl ⟨_, rfl, ints_nil _, (by (repeat' (first | with_reducible exact Below.refl _ _ | (with_reducible refine below_later_of ?_ ?_ _) | (with_reducible refine Below.alloc ?_ ?_ _) | (with_reducible refine Below.setCell ?_ ?_ _) | (with_reducible refine Below.drew ?_) | (simp; done) | (simp; omega) | omega)))⟩
  first | (simp [results, Tryz.results16, go_sem]; done) | simp [results, Tryz.results16, go_sem, ↓IntWalk.iteOmega]
/-- What lies below the lines' loop: the result's cells, the empty map's. -/
structure RpBase (w : World) (O : Nat) (lb n : Nat) (L : List ByteArray) (W : World) : Prop where
  bel : Below O w W
  r0 : W.cell? ⟨O, 0, none⟩ = some (.int .i64 0)
  r1 : W.cell? ⟨O, 1, none⟩ = some (.int .i64 0)
  r2 : W.cell? ⟨O, 2, none⟩ = some (.slice none 0 0)
  g0 : W.frozen? ⟨O, 0, none⟩ = false
  g1 : W.frozen? ⟨O, 1, none⟩ = false
  g2 : W.frozen? ⟨O, 2, none⟩ = false
  n0 : W.cell? ⟨O + 1, 0, none⟩ = some (.int .i64 0)
  n1 : W.cell? ⟨O + 1, 1, none⟩ = some (.int .i64 0)
  n2 : W.cell? ⟨O + 1, 2, none⟩ = some (.slice none 0 0)
  ls : ∀ j, j < n → W.cell? ⟨lb, j, none⟩ = some (.string (textAt L j))
  lt : O + 1 < W.heap.size
  ll : lb < W.heap.size
  ob : O + 1 < lb
theorem RpBase.below {w W W' : World} {O lb n : Nat} {L : List ByteArray} (h : RpBase w O lb n L W) (hb : Below W.heap.size W W') : RpBase w O lb n L W' := by
  have h1 := h.lt
  have h2 := h.ll
  have h3 := hb.size
  have q : ∀ i j, i < W.heap.size → W'.cell? ⟨i, j, none⟩ = W.cell? ⟨i, j, none⟩ := fun i j hi => hb.cell (p := ⟨i, j, none⟩) hi
  have q2 : ∀ i j, i < W.heap.size → W'.frozen? ⟨i, j, none⟩ = W.frozen? ⟨i, j, none⟩ := fun i j hi => hb.frozen (p := ⟨i, j, none⟩) hi
  exact ⟨h.bel.trans (hb.mono (by omega)), (q _ _ (by omega)).trans h.r0, (q _ _ (by omega)).trans h.r1, (q _ _ (by omega)).trans h.r2, (q2 _ _ (by omega)).trans h.g0, (q2 _ _ (by omega)).trans h.g1, (q2 _ _ (by omega)).trans h.g2,
    (q _ _ (by omega)).trans h.n0, (q _ _ (by omega)).trans h.n1, (q _ _ (by omega)).trans h.n2, fun j hj => (q _ _ h2).trans (h.ls j hj), by omega, by omega, h.ob⟩
set_option maxRecDepth 20000 in
set_option maxHeartbeats 4000000 in
theorem rParse (s : ByteArray) (w : World) (hs : s.size ≤ 60000) : Calls Tryz.prog 16 #[.string s] w (RpPost s w) := by
  obtain ⟨i0, hi0, hz0, hz1, hz2⟩ := info_parts infoInt
  obtain ⟨n1, hn1⟩ : ∃ n1, endsN s = n1 := ⟨_, rfl⟩
  have HLE := Lib.hid (show (cutW s 10).length = n1 + 1 by rw [cutW_len, hn1])
  have hd : decide ((60000 : Int) < (s.size : Int)) = false := by simp; omega
  have hn2 : n1 ≤ 60000 := by have := ends_le s; omega
  go_enter Tryz.func16, Tryz.ntmps16
  go_wp2_with (first | (go_at_call 59; refine (cut_any s 10 _ (by omega)).mono ?_; rintro e w3 ⟨v3, rfl, hsr⟩; obtain ⟨lb, lc, rfl, hlb, hll, hlc⟩ := strR_cellsN hsr HLE.out (by omega)))
  have hb3 := hsr.2
  have HBA := Lib.hid (show RpBase w w.heap.size lb (n1 + 1) (cutW s 10) w3 from by
    have q : ∀ i j, i < w.heap.size + 2 → w3.cell? ⟨i, j, none⟩ = _ := fun i j hi => hb3.cell (p := ⟨i, j, none⟩) (by simp; omega)
    have q2 : ∀ i j, i < w.heap.size + 2 → w3.frozen? ⟨i, j, none⟩ = _ := fun i j hi => hb3.frozen (p := ⟨i, j, none⟩) (by simp; omega)
    have hz := hb3.size
    simp at hz hlb
    refine ⟨(show Below w.heap.size w _ from (by (repeat' (first | with_reducible exact Below.refl _ _ | (with_reducible refine below_later_of ?_ ?_ _) | (with_reducible refine Below.alloc ?_ ?_ _) | (with_reducible refine Below.setCell ?_ ?_ _) | (with_reducible refine Below.drew ?_) | (simp; done) | (simp; omega) | omega)))).trans (hb3.mono (by simp; omega)), (q _ _ (by omega)).trans ?_, (q _ _ (by omega)).trans ?_, (q _ _ (by omega)).trans ?_, (q2 _ _ (by omega)).trans ?_, (q2 _ _ (by omega)).trans ?_, (q2 _ _ (by omega)).trans ?_, (q _ _ (by omega)).trans ?_, (q _ _ (by omega)).trans ?_, (q _ _ (by omega)).trans ?_, hlc, by omega, hll, by omega⟩
    all_goals first | (simp [go_sem]; done) | simp [go_sem, ↓IntWalk.iteOmega])
  clear hb3 hsr hlc hlb
  obtain ⟨G, hG⟩ : ∃ G, w3.heap.size = G := ⟨_, rfl⟩
  have HMP := Lib.hid (show MpSt w3 G 0 0 (.slice none 0 0) [] (w3.alloc (.cells #[.int .i64 0, .int .i64 0, .slice none 0 0] 44)) from by
    subst hG
    exact ⟨by simp [go_sem], by simp [go_sem], by simp [go_sem], by simp [go_sem], by simp [go_sem], by simp [go_sem], World.ownsRow_nil _ _ _ _, (by (repeat' (first | with_reducible exact Below.refl _ _ | (with_reducible refine below_later_of ?_ ?_ _) | (with_reducible refine Below.alloc ?_ ?_ _) | (with_reducible refine Below.setCell ?_ ?_ _) | (with_reducible refine Below.drew ?_) | (simp; done) | (simp; omega) | omega))), by simp⟩)
  rw [hG]
  obtain ⟨L, hL⟩ : ∃ L, cutW s 10 = L := ⟨_, rfl⟩
  rw [hL] at HBA HLE
  go_loopw [8, 9] (fun f i wr => ∃ (k : Nat) (st : PSt) (v : Value), k ≤ n1 ∧ i = .int .i64 k ∧ f = .bool st.fits ∧ runL L k = some st ∧ MpSt w3 G st.rows st.cols v st.zs wr) (fun _ i _ => n1 - (intOf i).toNat)
  case atStart => exact ⟨0, _, _, Nat.zero_le _, rfl, rfl, rfl, HMP.out⟩
  case round =>
    obtain ⟨k, st, v, hk, rfl, rfl, hrun, hmp⟩ := hrel
    have HBR := Lib.hid (HBA.out.below (by rw [hG]; exact hmp.bel))
    have HMR := Lib.hid hmp
    by_cases hlt : k < n1
    · have hd1 : decide ((k : Int) < (n1 : Int)) = true := by simp; omega
      obtain ⟨T, hT⟩ : ∃ T, textAt L k = T := ⟨_, rfl⟩
      have ck := HBR.out.ls k (by omega)
      rw [hT] at ck
      have hTz : T.size ≤ 60000 := by have := piece_size s k; rw [hL, hT] at this; omega
      obtain ⟨ws, hws⟩ : ∃ ws, wordsT T = ws := ⟨_, rfl⟩
      obtain ⟨m, hm⟩ : ∃ m, ws.length = m := ⟨_, rfl⟩
      have hm1 : 0 < m := by rw [← hm, ← hws]; exact wordsT_pos T
      have hm2 : m ≤ 60001 := by have := words_le T; rw [hws, hm] at this; omega
      have HC2 := Lib.hid (show ∀ W, Calls Tryz.prog 59 #[.string T, .int .u8 32] W fun e w' => ∃ v, e = .returned v ∧ StrR W.heap.size W ws v w' from fun W => by rw [← hws]; exact cut_any T 32 W (by omega))
      have HM := Lib.hid hm
      have HWZ := Lib.hid (show ∀ j, (textAt ws j).size ≤ 60000 from fun j => by have := word_size T j; rw [hws] at this; omega)
      have HNT := Lib.hid (show numsT k T = numsK k ws m by unfold numsT; rw [hws, hm])
      have HNN := Lib.hid (show ∀ j, numsK k ws j = none → numsT k T = none from fun j h => numsT_none k T j (by rw [hws]; exact h))
      have HRN := Lib.hid (show runL L (k + 1) = stepL k T st by rw [runL, hrun, hT])
      have HST := Lib.hid (show ∀ st', st' = st → runL L k = some st' from fun st' h => by rw [h]; exact hrun)
      have HWS := Lib.hid hws
      clear hrun hmp hT hws hm
      go_wp2_with (first | (go_at_call 59; refine (HC2.out _).mono ?_; rintro e w4 ⟨v4, rfl, hs4⟩; obtain ⟨wb, wc, rfl, hwb, hwl, hwc⟩ := strR_cellsN hs4 HM.out hm1))
      have hb4 := hs4.2
      have HB4 := Lib.hid (HBR.out.below hb4)
      have HM4 := Lib.hid (HMR.out.below hb4)
      have hz4 := hb4.size
      have HWC := Lib.hid hwc
      clear hs4 hb4 hwc ck
      go_loopw [11, 12] (fun v i wr => ∃ (j : Nat) (ns : List Int), j ≤ m ∧ i = .int .i64 j ∧ numsK k ws j = some ns ∧ IntR w4.heap.size w4 ns v wr) (fun _ i _ => m - (intOf i).toNat)
      case atStart => exact ⟨0, [], Nat.zero_le _, rfl, numsK_zero _ _, World.ownsRow_nil _ _ _ _, Below.refl _ _⟩
      case round =>
        obtain ⟨j, ns, hj, rfl, hnk, hir⟩ := hrel
        have HIR := Lib.hid hir
        have hzr := hir.2.size
        by_cases hjm : j < m
        · have hd2 : decide ((j : Int) < (m : Int)) = true := by simp; omega
          by_cases hk0 : k = 0
          · have hke : ((k : Int) == 0) = true := by simp; omega
            have hkp : decide ((0 : Int) < (k : Int)) = false := by simp; omega
            by_cases hj0 : j = 0
            · have hje : ((j : Int) == 0) = true := by simp; omega
              have hnx : numsK k ws (j + 1) = some ns := by
                rw [hj0, numsK_zero] at hnk
                rw [hj0, hk0, ← hnk]
                unfold numsK
                rw [lookW_skip]
                rfl
              have HNX := Lib.hid hnx
              clear hir hnx hnk
              go_wp2
              go_roundw
              case rel => exact ⟨j + 1, ns, by omega, by go_num, HNX.out, HIR.out⟩
              case measure => simp [intOf]; omega
            · have hne : ¬ (k = 0 ∧ j = 0) := fun h => hj0 h.2
              have hje : ((j : Int) == 0) = false := by simp; omega
              have hkn : decide (0 < k) = false := decide_eq_false (by omega)
              have HK0 := Lib.hid hk0
              obtain ⟨x, hx⟩ : ∃ x, textAt ws j = x := ⟨_, rfl⟩
              have cx := (HIR.out.2.cell (p := ⟨wb, j, none⟩) hwl).trans (HWC.out j hjm)
              have hxz := HWZ.out j
              rw [hx] at cx hxz
              obtain ⟨r, hr⟩ : ∃ r, wordP k x = r := ⟨_, rfl⟩
              have hns : numsK k ws (j + 1) = snocO ns r := by
                rw [numsK_succ k ws j (by rw [HM.out]; exact hjm) hne, hnk, hx, hr]
                cases r <;> rfl
              have hnl := nums_len hnk
              have HNU := Lib.hid (show ∀ W, Calls Tryz.prog 60 #[.string x, .int .i64 9] W fun e w' => e = .returned (numR r) ∧ W = w' from fun W => number_any x 9 W (by decide) (by omega) (by rw [← hr]; unfold wordP; rw [phW_of (fun h => by simp [hk0] at h)]; rfl))
              clear hk0
              cases r with
              | none =>
                simp only [numR] at HNU
                have HANS := Lib.hid (show ansP s = ⟨0, 0, [], k + 1, 7⟩ from by
                  have h1 : runL L (k + 1) = none := by rw [HRN.out]; unfold stepL; rw [HNN.out (j + 1) hns]
                  have h2 := badL_stop L k (HST.out st rfl) h1 n1 hlt
                  unfold ansP
                  rw [if_neg (by omega), hn1, hL, h2])
                have HB5 := Lib.hid (HB4.out.below HIR.out.2).bel
                obtain ⟨-, r0, r1, r2, g0, g1, g2, z0, z1, z2, -, lt5, -, -⟩ := HB4.out.below HIR.out.2
                clear hir hns hr hnk
                go_wp2_with (first | (go_at_call 60; (with_reducible refine (HNU.out _).mono ?_); rintro e w' ⟨rfl, rfl⟩))
                refine bodyPost_ret (v := .tuple #[.agg #[.int .i64 0, .int .i64 0, .slice none 0 0], .int .i64 ((k + 1 : Nat) : Int), .int .i64 7]) ?_ rfl ?_
                · first | (simp [results, Tryz.results16, go_sem, r0, r1, r2]; done) | ((first | (simp [results, Tryz.results16, go_sem, r0, r1, r2]; done) | simp [results, Tryz.results16, go_sem, r0, r1, r2, ↓IntWalk.iteOmega]); done) | (simp [results, Tryz.results16, go_sem, r0, r1, r2]; omega) | ((first | (simp [results, Tryz.results16, go_sem, r0, r1, r2]; done) | simp [results, Tryz.results16, go_sem, r0, r1, r2, ↓IntWalk.iteOmega]); omega)
                unfold RpPost
                rw [HANS.out]
                exact ⟨_, rfl, ints_nil _, HB5.out.trans (by (repeat' (first | with_reducible exact Below.refl _ _ | (with_reducible refine below_later_of ?_ ?_ _) | (with_reducible refine Below.alloc ?_ ?_ _) | (with_reducible refine Below.setCell ?_ ?_ _) | (with_reducible refine Below.drew ?_) | (simp; done) | (simp; omega) | omega)))⟩
              | some z =>
                simp only [numR] at HNU
                obtain ⟨a, cc, rfl⟩ := intR_slice hir
                have HK := Lib.hid (show ns.length = ns.length from rfl)
                have HG := Lib.hid hir
                have HNS := Lib.hid hns
                have hnl1 := hnl.2
                rw [HM.out] at hnl1
                clear hir hns hr hnk hnl
                go_wp2_with (first | (go_at_call 60; (with_reducible refine (HNU.out _).mono ?_); rintro e w' ⟨rfl, rfl⟩) | (at_builtin; refine wpList_append_own _ rfl _ _ 42 rfl w4.heap.size 3 i0 (.int .i64 0) 1 8 Tryz.underlying42 hi0 hz0 hz1 hz2 rfl (by decide) _ _ _ rfl (HG.out.1.alloc _) ⟨wr.heap.size, 0, none⟩ 1 1 [.int .i64 z] rfl rfl ?d1 ?d2 ?d3 ?d4 ?d5 ?_))
                case d1 => exact cells_int1 _ _ _
                case d2 => first | rfl | (intro u hu; simp at hu; subst hu; rfl)
                case d3 => unfold maxLen; omega
                case d4 => omega
                case d5 => first | omega | (simp; omega)
                intro v' w1 hown' hgrow _
                have HN := Lib.hid (intR_put HG.out (by omega) rfl hown' hgrow)
                clear hown' hgrow
                go_wp2
                go_roundw
                case rel => exact ⟨j + 1, ns ++ [z], by omega, by go_num, HNS.out, HN.out⟩
                case measure => simp [intOf]; omega
          · have hne : ¬ (k = 0 ∧ j = 0) := fun h => hk0 h.1
            have hkn : 0 < k := by omega
            have hkp : decide ((0 : Int) < (k : Int)) = true := by simp; omega
            have hke : ((k : Int) == 0) = false := by simp; omega
            obtain ⟨x, hx⟩ : ∃ x, textAt ws j = x := ⟨_, rfl⟩
            have cx := (HIR.out.2.cell (p := ⟨wb, j, none⟩) hwl).trans (HWC.out j hjm)
            have hxz := HWZ.out j
            rw [hx] at cx hxz
            obtain ⟨r, hr⟩ : ∃ r, wordP k x = r := ⟨_, rfl⟩
            have hns : numsK k ws (j + 1) = snocO ns r := by
              rw [numsK_succ k ws j (by rw [HM.out]; exact hjm) hne, hnk, hx, hr]
              cases r <;> rfl
            have hnl := nums_len hnk
            by_cases hst : x = ⟨#[42]⟩
            · have hq : (x.toList == [42]) = true := by rw [hst, Go.ByteArray.toList_eq]; rfl
              obtain rfl : r = some 1000000000000 := by rw [← hr]; unfold wordP phW; rw [if_pos ⟨hst, by simp; omega⟩]
              obtain ⟨q, hqn⟩ : ∃ q, numF (byteAt x) x.size 9 = q := ⟨_, rfl⟩
              have HNU := Lib.hid (show ∀ W, Calls Tryz.prog 60 #[.string x, .int .i64 9] W fun e w' => e = .returned (numR q) ∧ W = w' from fun W => number_any x 9 W (by decide) (by omega) hqn)
              clear hqn hst
              cases q with
              | none =>
                simp only [numR] at HNU
                obtain ⟨a, cc, rfl⟩ := intR_slice hir
                have HK := Lib.hid (show ns.length = ns.length from rfl)
                have HG := Lib.hid hir
                have HNS := Lib.hid hns
                have hnl1 := hnl.2
                rw [HM.out] at hnl1
                clear hir hns hr hnk hnl
                go_wp2_with (first | (go_at_call 60; (with_reducible refine (HNU.out _).mono ?_); rintro e w' ⟨rfl, rfl⟩) | (at_builtin; refine wpList_append_own _ rfl _ _ 42 rfl w4.heap.size 3 i0 (.int .i64 0) 1 8 Tryz.underlying42 hi0 hz0 hz1 hz2 rfl (by decide) _ _ _ rfl (HG.out.1.alloc _) ⟨wr.heap.size, 0, none⟩ 1 1 [.int .i64 1000000000000] rfl rfl ?d1 ?d2 ?d3 ?d4 ?d5 ?_))
                case d1 => exact cells_int1 _ _ _
                case d2 => first | rfl | (intro u hu; simp at hu; subst hu; rfl)
                case d3 => unfold maxLen; omega
                case d4 => omega
                case d5 => first | omega | (simp; omega)
                intro v' w1 hown' hgrow _
                have HN := Lib.hid (intR_put HG.out (by omega) rfl hown' hgrow)
                clear hown' hgrow
                go_wp2
                go_roundw
                case rel => exact ⟨j + 1, ns ++ [1000000000000], by omega, by go_num, HNS.out, HN.out⟩
                case measure => simp [intOf]; omega
              | some z =>
                simp only [numR] at HNU
                obtain ⟨a, cc, rfl⟩ := intR_slice hir
                have HK := Lib.hid (show ns.length = ns.length from rfl)
                have HG := Lib.hid hir
                have HNS := Lib.hid hns
                have hnl1 := hnl.2
                rw [HM.out] at hnl1
                clear hir hns hr hnk hnl
                go_wp2_with (first | (go_at_call 60; (with_reducible refine (HNU.out _).mono ?_); rintro e w' ⟨rfl, rfl⟩) | (at_builtin; refine wpList_append_own _ rfl _ _ 42 rfl w4.heap.size 3 i0 (.int .i64 0) 1 8 Tryz.underlying42 hi0 hz0 hz1 hz2 rfl (by decide) _ _ _ rfl (HG.out.1.alloc _) ⟨wr.heap.size, 0, none⟩ 1 1 [.int .i64 1000000000000] rfl rfl ?d1 ?d2 ?d3 ?d4 ?d5 ?_))
                case d1 => exact cells_int1 _ _ _
                case d2 => first | rfl | (intro u hu; simp at hu; subst hu; rfl)
                case d3 => unfold maxLen; omega
                case d4 => omega
                case d5 => first | omega | (simp; omega)
                intro v' w1 hown' hgrow _
                have HN := Lib.hid (intR_put HG.out (by omega) rfl hown' hgrow)
                clear hown' hgrow
                go_wp2
                go_roundw
                case rel => exact ⟨j + 1, ns ++ [1000000000000], by omega, by go_num, HNS.out, HN.out⟩
                case measure => simp [intOf]; omega
            · have hq : (x.toList == [42]) = false := beq_false_of_ne fun e => hst (by apply ByteArray.ext; apply Array.toList_inj.1; rw [← Go.ByteArray.toList_eq, e])
              have HNU := Lib.hid (show ∀ W, Calls Tryz.prog 60 #[.string x, .int .i64 9] W fun e w' => e = .returned (numR r) ∧ W = w' from fun W => number_any x 9 W (by decide) (by omega) (by rw [← hr]; unfold wordP; rw [phW_of (fun h => hst h.1)]; rfl))
              cases r with
              | none =>
                simp only [numR] at HNU
                have HANS := Lib.hid (show ansP s = ⟨0, 0, [], k + 1, 7⟩ from by
                  have h1 : runL L (k + 1) = none := by rw [HRN.out]; unfold stepL; rw [HNN.out (j + 1) hns]
                  have h2 := badL_stop L k (HST.out st rfl) h1 n1 hlt
                  unfold ansP
                  rw [if_neg (by omega), hn1, hL, h2])
                have HB5 := Lib.hid (HB4.out.below HIR.out.2).bel
                obtain ⟨-, r0, r1, r2, g0, g1, g2, z0, z1, z2, -, lt5, -, -⟩ := HB4.out.below HIR.out.2
                clear hir hns hr hnk
                go_wp2_with (first | (go_at_call 60; (with_reducible refine (HNU.out _).mono ?_); rintro e w' ⟨rfl, rfl⟩))
                refine bodyPost_ret (v := .tuple #[.agg #[.int .i64 0, .int .i64 0, .slice none 0 0], .int .i64 ((k + 1 : Nat) : Int), .int .i64 7]) ?_ rfl ?_
                · first | (simp [results, Tryz.results16, go_sem, r0, r1, r2]; done) | ((first | (simp [results, Tryz.results16, go_sem, r0, r1, r2]; done) | simp [results, Tryz.results16, go_sem, r0, r1, r2, ↓IntWalk.iteOmega]); done) | (simp [results, Tryz.results16, go_sem, r0, r1, r2]; omega) | ((first | (simp [results, Tryz.results16, go_sem, r0, r1, r2]; done) | simp [results, Tryz.results16, go_sem, r0, r1, r2, ↓IntWalk.iteOmega]); omega)
                unfold RpPost
                rw [HANS.out]
                exact ⟨_, rfl, ints_nil _, HB5.out.trans (by (repeat' (first | with_reducible exact Below.refl _ _ | (with_reducible refine below_later_of ?_ ?_ _) | (with_reducible refine Below.alloc ?_ ?_ _) | (with_reducible refine Below.setCell ?_ ?_ _) | (with_reducible refine Below.drew ?_) | (simp; done) | (simp; omega) | omega)))⟩
              | some z =>
                simp only [numR] at HNU
                obtain ⟨a, cc, rfl⟩ := intR_slice hir
                have HK := Lib.hid (show ns.length = ns.length from rfl)
                have HG := Lib.hid hir
                have HNS := Lib.hid hns
                have hnl1 := hnl.2
                rw [HM.out] at hnl1
                clear hir hns hr hnk hnl
                go_wp2_with (first | (go_at_call 60; (with_reducible refine (HNU.out _).mono ?_); rintro e w' ⟨rfl, rfl⟩) | (at_builtin; refine wpList_append_own _ rfl _ _ 42 rfl w4.heap.size 3 i0 (.int .i64 0) 1 8 Tryz.underlying42 hi0 hz0 hz1 hz2 rfl (by decide) _ _ _ rfl (HG.out.1.alloc _) ⟨wr.heap.size, 0, none⟩ 1 1 [.int .i64 z] rfl rfl ?d1 ?d2 ?d3 ?d4 ?d5 ?_))
                case d1 => exact cells_int1 _ _ _
                case d2 => first | rfl | (intro u hu; simp at hu; subst hu; rfl)
                case d3 => unfold maxLen; omega
                case d4 => omega
                case d5 => first | omega | (simp; omega)
                intro v' w1 hown' hgrow _
                have HN := Lib.hid (intR_put HG.out (by omega) rfl hown' hgrow)
                clear hown' hgrow
                go_wp2
                go_roundw
                case rel => exact ⟨j + 1, ns ++ [z], by omega, by go_num, HNS.out, HN.out⟩
                case measure => simp [intOf]; omega
        · have hd2 : decide ((j : Int) < (m : Int)) = false := by simp; omega
          have hjm2 : ¬ j < m := hjm
          have hnt : numsT k T = some ns := by rw [HNT.out, ← hnk, show j = m by omega]
          have hm4 := HM4.out.below HIR.out.2
          by_cases hk0 : k = 0
          · have hke : ((k : Int) == 0) = true := by simp; omega
            obtain ⟨x0, hx0⟩ : ∃ x0, textAt ws 0 = x0 := ⟨_, rfl⟩
            have cx := (HIR.out.2.cell (p := ⟨wb, 0, none⟩) hwl).trans (HWC.out 0 hm1)
            rw [hx0] at cx
            have HX0 := Lib.hid (show textAt (wordsT T) 0 = x0 by rw [HWS.out, hx0])
            have HST0 := Lib.hid (show st = ⟨0, 0, [], true⟩ by have := HST.out st rfl; rw [hk0] at this; simpa [runL] using this.symm)
            have HK0 := Lib.hid hk0
            have HNTT := Lib.hid hnt
            have hnl := (nums_len hnk).1
            have hnz : ns.length ≤ 60001 := by omega
            by_cases hx : x0 = phases
            · have hq : (x0.toList == [112, 104, 97, 115, 101, 115]) = true := by rw [hx, Go.ByteArray.toList_eq]; rfl
              by_cases hn : ns.length = 2
              · have HRK := Lib.hid (show runL L (k + 1) = some ⟨intAt ns 0, intAt ns 1, [], true⟩ by rw [HRN.out]; unfold stepL; rw [HNTT.out]; simp only; rw [if_pos HK0.out, if_pos ⟨by rw [HX0.out, hx], hn⟩])
                obtain ⟨gn, cn, rfl, hgn1, hgn2, -, hgn4⟩ := intR_cells hir (by omega)
                have y0 := hgn4 0 (by omega)
                have y1 := hgn4 1 (by omega)
                have HMP4 := Lib.hid hm4
                obtain ⟨c0, c1, c2, f0, f1, f2, -, -, hltG⟩ := hm4
                have hd3 : st.fits = true := by rw [HST0.out]
                have hzs : st.zs = [] := by rw [HST0.out]
                have HD := Lib.hid (show MpSt w3 G (intAt ns 0) (intAt ns 1) v [] ((wr.setCell ⟨G, 0, none⟩ (.int .i64 (intAt ns 0))).setCell ⟨G, 1, none⟩ (.int .i64 (intAt ns 1))) by have := HMP4.out.dims (intAt ns 0) (intAt ns 1); rw [hzs] at this; exact this)
                rw [hn]
                clear hgn4 hir hnk hnt hk0 hx hn hzs hnl hnz
                rw [hd3]
                go_wp2
                go_region
                all_goals
                  go_wp2
                  go_roundw
                  case rel => exact ⟨k + 1, ⟨_, _, _, true⟩, _, by omega, by go_num, rfl, HRK.out, HD.out.below (Below.refl _ _).drew⟩
                  case measure => simp [intOf]; omega
              · have hl2 : ((ns.length : Int) == 2) = false := by simp; omega
                have HNO := Lib.hid (show ¬ (textAt (wordsT T) 0 = phases ∧ ns.length = 2) from fun h => hn h.2)
                clear hx
                have HANS := Lib.hid (show ansP s = ⟨0, 0, [], 1, 7⟩ from by
                  have h1 : runL L (k + 1) = none := by rw [HRN.out]; unfold stepL; rw [HNTT.out]; simp only; rw [if_pos HK0.out, if_neg HNO.out]
                  have h2 := badL_stop L k (HST.out st rfl) h1 n1 hlt
                  unfold ansP
                  rw [if_neg (by omega), hn1, hL, h2, HK0.out])
                have HB5 := Lib.hid (HB4.out.below HIR.out.2).bel
                obtain ⟨-, r0, r1, r2, g0, g1, g2, z0, z1, z2, -, lt5, -, -⟩ := HB4.out.below HIR.out.2
                obtain ⟨a, cc, rfl⟩ := intR_slice hir
                clear hir hnk hnt hk0
                go_wp2
                refine bodyPost_ret (v := .tuple #[.agg #[.int .i64 0, .int .i64 0, .slice none 0 0], .int .i64 1, .int .i64 7]) ?_ rfl ?_
                · first | (simp [results, Tryz.results16, go_sem, r0, r1, r2]; done) | ((first | (simp [results, Tryz.results16, go_sem, r0, r1, r2]; done) | simp [results, Tryz.results16, go_sem, r0, r1, r2, ↓IntWalk.iteOmega]); done)
                unfold RpPost
                rw [HANS.out]
                exact ⟨_, rfl, ints_nil _, HB5.out.trans (by (repeat' (first | with_reducible exact Below.refl _ _ | (with_reducible refine below_later_of ?_ ?_ _) | (with_reducible refine Below.alloc ?_ ?_ _) | (with_reducible refine Below.setCell ?_ ?_ _) | (with_reducible refine Below.drew ?_) | (simp; done) | (simp; omega) | omega)))⟩
            · have hq : (x0.toList == [112, 104, 97, 115, 101, 115]) = false := beq_false_of_ne fun e => hx (by apply ByteArray.ext; apply Array.toList_inj.1; rw [← Go.ByteArray.toList_eq, e]; rfl)
              have HNO := Lib.hid (show ¬ (textAt (wordsT T) 0 = phases ∧ ns.length = 2) from fun h => hx (by rw [← h.1, HX0.out]))
              have HANS := Lib.hid (show ansP s = ⟨0, 0, [], 1, 7⟩ from by
                have h1 : runL L (k + 1) = none := by rw [HRN.out]; unfold stepL; rw [HNTT.out]; simp only; rw [if_pos HK0.out, if_neg HNO.out]
                have h2 := badL_stop L k (HST.out st rfl) h1 n1 hlt
                unfold ansP
                rw [if_neg (by omega), hn1, hL, h2, HK0.out])
              have HB5 := Lib.hid (HB4.out.below HIR.out.2).bel
              obtain ⟨-, r0, r1, r2, g0, g1, g2, z0, z1, z2, -, lt5, -, -⟩ := HB4.out.below HIR.out.2
              obtain ⟨a, cc, rfl⟩ := intR_slice hir
              clear hir hnk hnt hk0
              go_wp2
              refine bodyPost_ret (v := .tuple #[.agg #[.int .i64 0, .int .i64 0, .slice none 0 0], .int .i64 1, .int .i64 7]) ?_ rfl ?_
              · first | (simp [results, Tryz.results16, go_sem, r0, r1, r2]; done) | ((first | (simp [results, Tryz.results16, go_sem, r0, r1, r2]; done) | simp [results, Tryz.results16, go_sem, r0, r1, r2, ↓IntWalk.iteOmega]); done)
              unfold RpPost
              rw [HANS.out]
              exact ⟨_, rfl, ints_nil _, HB5.out.trans (by (repeat' (first | with_reducible exact Below.refl _ _ | (with_reducible refine below_later_of ?_ ?_ _) | (with_reducible refine Below.alloc ?_ ?_ _) | (with_reducible refine Below.setCell ?_ ?_ _) | (with_reducible refine Below.drew ?_) | (simp; done) | (simp; omega) | omega)))⟩
          · have hke : ((k : Int) == 0) = false := by simp; omega
            have hnl : ns.length = m := by
              rw [show j = m by omega, ← HM.out] at hnk
              rw [nums_full hk0 hnk, HM.out]
            obtain ⟨gn, cn, rfl, hgn1, hgn2, hgn3, -⟩ := intR_cells hir (by omega)
            have HMP4 := Lib.hid hm4
            obtain ⟨c0, c1, c2, f0, f1, f2, how, -, hltG⟩ := hm4
            have HOW := Lib.hid how
            have HNL := Lib.hid hnl
            have HG3 := Lib.hid hgn3
            have hnm : ns.length ≤ 60001 := by omega
            have hzl : st.zs.length ≤ 60001 := by have := run_bound s k st (by omega) (by rw [hL]; exact HST.out st rfl); omega
            have HRK := Lib.hid (show runL L (k + 1) = some ⟨st.rows, st.cols, st.zs ++ ns, st.fits && decide ((ns.length : Int) = st.cols)⟩ by rw [HRN.out]; unfold stepL; rw [hnt]; simp only; rw [if_neg hk0])
            clear hnl how hgn3 hir hnt hnk
            go_wp2_with (first | (at_builtin; refine wpList_append_own _ rfl _ _ 42 rfl (G + 1) 3 i0 (.int .i64 0) 1 8 Tryz.underlying42 hi0 hz0 hz1 hz2 rfl (by decide) _ _ _ rfl (HOW.out) ⟨gn, 0, none⟩ ns.length cn (intC ns) rfl (by simp [intC]) ?d1 ?d2 ?d3 ?d4 ?d5 ?_))
            case d1 => exact HG3.out
            case d2 => intro u hu; unfold intC at hu; rw [List.mem_map] at hu; obtain ⟨y, -, rfl⟩ := hu; rfl
            case d3 => unfold maxLen; omega
            case d4 => omega
            case d5 => omega
            intro v' w1 hown' hgrow _
            obtain ⟨ga, gc, rfl⟩ := row_slice hown' (by have := HNL.out; omega)
            have HN := Lib.hid (HMP4.out.put rfl hown' hgrow)
            obtain ⟨s1, s2⟩ := HMP4.out.still hgrow
            have q1 := HN.out.c1
            have hHN := HN.out.lt
            clear hown' hgrow
            obtain ⟨ft, hft⟩ : ∃ ft, st.fits = ft := ⟨_, rfl⟩
            rw [hft] at HRK ⊢
            cases ft
            · go_wp2
              go_roundw
              case rel => exact ⟨k + 1, _, _, by omega, by go_num, rfl, HRK.out, HN.out⟩
              case measure => simp [intOf]; omega
            · by_cases hcc : (ns.length : Int) = st.cols
              · have hce : ((ns.length : Int) == st.cols) = true := by simpa using hcc
                rw [decide_eq_true hcc] at HRK
                clear hcc
                go_wp2
                go_roundw
                case rel => exact ⟨k + 1, _, _, by omega, by go_num, rfl, HRK.out, HN.out⟩
                case measure => simp [intOf]; omega
              · have hce : ((ns.length : Int) == st.cols) = false := by simpa using hcc
                rw [decide_eq_false hcc] at HRK
                clear hcc
                go_wp2
                go_roundw
                case rel => exact ⟨k + 1, _, _, by omega, by go_num, rfl, HRK.out, HN.out⟩
                case measure => simp [intOf]; omega
    · have hd1 : decide ((k : Int) < (n1 : Int)) = false := by simp; omega
      have hke : k = n1 := by omega
      have hmp2 := HMR.out
      have hbr := HBR.out
      have HRU := Lib.hid (show runL L n1 = some st by rw [← hke]; exact hrun)
      have HBL := Lib.hid (badL_run L n1 st HRU.out)
      have HKE := Lib.hid hke
      have hzl : st.zs.length ≤ 60001 := by have := run_bound s k st (by omega) (by rw [hL]; exact hrun); omega
      have HIN := Lib.hid (HMR.out.ints (by omega))
      obtain ⟨-, a9, c9, rfl, -⟩ := id HIN.out
      obtain ⟨xl, hxl⟩ : ∃ xl, textAt L n1 = xl := ⟨_, rfl⟩
      have cl := HBR.out.ls n1 (by omega)
      rw [hxl] at cl
      obtain ⟨c0, c1, c2, f0, f1, f2, -, hbG, hltG⟩ := hmp2
      obtain ⟨hbW, r0, r1, r2, g0, g1, g2, z0, z1, z2, -, lt5, -, -⟩ := hbr
      have HBW := Lib.hid hbW
      have hOG := HBA.out.ob
      have HANS := Lib.hid (show ansP s = if xl ≠ ⟨#[]⟩ ∨ n1 = 0 then ⟨0, 0, [], n1 + 1, 7⟩
          else if st.fits = false ∨ (n1 : Int) - 1 ≠ st.rows then ⟨0, 0, [], 0, 10⟩
          else if (mapE st.rows st.cols st.zs).2 ≠ 0 then ⟨0, 0, [], 0, (mapE st.rows st.cols st.zs).2⟩
          else ⟨st.rows, st.cols, st.zs, 0, 0⟩ from by
        unfold ansP
        rw [if_neg (by omega), hn1, hL, HBL.out, HRU.out, ← hxl])
      clear hrun hmp hbW hbG hke
      by_cases hx : xl = ⟨#[]⟩
      · have hq : (xl.toList == []) = true := by rw [hx, Go.ByteArray.toList_eq]; rfl
        have HX := Lib.hid hx
        clear hx
        by_cases hn0 : n1 = 0
        · have HN0 := Lib.hid hn0
          have hne : ((n1 : Int) + 1 == 1) = true := by simp; omega
          have HA := Lib.hid (show ansP s = ⟨0, 0, [], n1 + 1, 7⟩ by rw [HANS.out, if_pos (.inr HN0.out)])
          clear hn0
          go_wp2
          refine bodyPost_ret (v := .tuple #[.agg #[.int .i64 0, .int .i64 0, .slice none 0 0], .int .i64 ((n1 + 1 : Nat) : Int), .int .i64 7]) ?_ rfl ?_
          · first | (simp [results, Tryz.results16, go_sem, r0, r1, r2, g0, g1, g2]; done) | ((first | (simp [results, Tryz.results16, go_sem, r0, r1, r2, g0, g1, g2]; done) | simp [results, Tryz.results16, go_sem, r0, r1, r2, g0, g1, g2, ↓IntWalk.iteOmega]); done) | (simp [results, Tryz.results16, go_sem, r0, r1, r2, g0, g1, g2]; omega) | ((first | (simp [results, Tryz.results16, go_sem, r0, r1, r2, g0, g1, g2]; done) | simp [results, Tryz.results16, go_sem, r0, r1, r2, g0, g1, g2, ↓IntWalk.iteOmega]); omega)
          unfold RpPost
          rw [HA.out]
          exact ⟨_, rfl, ints_nil _, HBW.out.trans (by (repeat' (first | with_reducible exact Below.refl _ _ | (with_reducible refine below_later_of ?_ ?_ _) | (with_reducible refine Below.alloc ?_ ?_ _) | (with_reducible refine Below.setCell ?_ ?_ _) | (with_reducible refine Below.drew ?_) | (simp; done) | (simp; omega) | omega)))⟩
        · have HN0 := Lib.hid hn0
          have hne : ((n1 : Int) + 1 == 1) = false := by simp; omega
          obtain ⟨ft, hft⟩ : ∃ ft, st.fits = ft := ⟨_, rfl⟩
          have HA1 := Lib.hid (show ansP s = if ft = false ∨ (n1 : Int) - 1 ≠ st.rows then ⟨0, 0, [], 0, 10⟩
              else if (mapE st.rows st.cols st.zs).2 ≠ 0 then ⟨0, 0, [], 0, (mapE st.rows st.cols st.zs).2⟩
              else ⟨st.rows, st.cols, st.zs, 0, 0⟩ by rw [HANS.out, if_neg (fun h => h.elim (fun h => h HX.out) HN0.out), hft])
          rw [hft]
          clear hn0
          by_cases hfr : ft = true ∧ (n1 : Int) - 1 = st.rows
          · obtain ⟨rfl, hr⟩ := hfr
            have HR := Lib.hid hr
            have hrn : ((n1 : Int) - 1 != st.rows) = false := by simp; omega
            have hrn2 : ((n1 : Int) + 1 - 2 != st.rows) = false := by simp; omega
            clear hr
            obtain ⟨e0, he0⟩ : ∃ e0, (mapE st.rows st.cols st.zs).2 = e0 := ⟨_, rfl⟩
            have HCM := Lib.hid (show Calls Tryz.prog 23 #[.agg #[.int .i64 st.rows, .int .i64 st.cols, .slice a9 st.zs.length c9]] wr fun e w' => e = .returned (.tuple #[.int .i64 (mapE st.rows st.cols st.zs).1, .int .i64 e0]) ∧ Below wr.heap.size wr w' from rCheckMap _ _ _ _ _ (by omega) HIN.out (by rw [← he0]))
            have HA2 := Lib.hid (show ansP s = if e0 ≠ 0 then ⟨0, 0, [], 0, e0⟩ else ⟨st.rows, st.cols, st.zs, 0, 0⟩ by rw [HA1.out, if_neg (fun h => h.elim (by simp) (fun h => h HR.out)), he0])
            generalize (mapE st.rows st.cols st.zs).1 = i9 at HCM
            clear he0
            by_cases h0 : e0 = 0
            · subst h0
              have HA := Lib.hid (show ansP s = ⟨st.rows, st.cols, st.zs, 0, 0⟩ by rw [HA2.out]; rfl)
              go_wp2_with (first | (go_at_call 23; (with_reducible refine HCM.out.mono ?_); rintro e w' ⟨rfl, hbc⟩; obtain ⟨pq, rfl⟩ := later_of_below hbc; clear hbc))
              refine bodyPost_ret (v := .tuple #[.agg #[.int .i64 st.rows, .int .i64 st.cols, .slice a9 st.zs.length c9], .int .i64 0, .int .i64 0]) ?_ rfl ?_
              · first | (simp [results, Tryz.results16, go_sem, r0, r1, r2, g0, g1, g2]; done) | ((first | (simp [results, Tryz.results16, go_sem, r0, r1, r2, g0, g1, g2]; done) | simp [results, Tryz.results16, go_sem, r0, r1, r2, g0, g1, g2, ↓IntWalk.iteOmega]); done) | (simp [results, Tryz.results16, go_sem, r0, r1, r2, g0, g1, g2]; omega) | ((first | (simp [results, Tryz.results16, go_sem, r0, r1, r2, g0, g1, g2]; done) | simp [results, Tryz.results16, go_sem, r0, r1, r2, g0, g1, g2, ↓IntWalk.iteOmega]); omega)
              unfold RpPost
              rw [HA.out]
              exact ⟨_, rfl, ints_row (ownsRow_setCell_below (ownsRow_setCell_below (ownsRow_setCell_below (HMR.out.below (below_later wr pq)).own (by show w.heap.size < G + 1; omega) _) (by show w.heap.size < G + 1; omega) _) (by show w.heap.size < G + 1; omega) _) (by show st.zs.length ≤ 1000000000; omega), HBW.out.trans (by (repeat' (first | with_reducible exact Below.refl _ _ | (with_reducible refine below_later_of ?_ ?_ _) | (with_reducible refine Below.alloc ?_ ?_ _) | (with_reducible refine Below.setCell ?_ ?_ _) | (with_reducible refine Below.drew ?_) | (simp; done) | (simp; omega) | omega)))⟩
            · have hne0 : (e0 != 0) = true := by simpa using h0
              have HA := Lib.hid (show ansP s = ⟨0, 0, [], 0, e0⟩ by rw [HA2.out, if_pos h0])
              go_wp2_with (first | (go_at_call 23; (with_reducible refine HCM.out.mono ?_); rintro e w' ⟨rfl, hbc⟩; obtain ⟨pq, rfl⟩ := later_of_below hbc; clear hbc))
              refine bodyPost_ret (v := .tuple #[.agg #[.int .i64 0, .int .i64 0, .slice none 0 0], .int .i64 0, .int .i64 e0]) ?_ rfl ?_
              · first | (simp [results, Tryz.results16, go_sem, r0, r1, r2, g0, g1, g2]; done) | ((first | (simp [results, Tryz.results16, go_sem, r0, r1, r2, g0, g1, g2]; done) | simp [results, Tryz.results16, go_sem, r0, r1, r2, g0, g1, g2, ↓IntWalk.iteOmega]); done) | (simp [results, Tryz.results16, go_sem, r0, r1, r2, g0, g1, g2]; omega) | ((first | (simp [results, Tryz.results16, go_sem, r0, r1, r2, g0, g1, g2]; done) | simp [results, Tryz.results16, go_sem, r0, r1, r2, g0, g1, g2, ↓IntWalk.iteOmega]); omega)
              unfold RpPost
              rw [HA.out]
              exact ⟨_, rfl, ints_nil _, HBW.out.trans (by (repeat' (first | with_reducible exact Below.refl _ _ | (with_reducible refine below_later_of ?_ ?_ _) | (with_reducible refine Below.alloc ?_ ?_ _) | (with_reducible refine Below.setCell ?_ ?_ _) | (with_reducible refine Below.drew ?_) | (simp; done) | (simp; omega) | omega)))⟩
          · have HA := Lib.hid (show ansP s = ⟨0, 0, [], 0, 10⟩ by rw [HA1.out, if_pos]; cases ft; exact .inl rfl; exact .inr fun h => hfr ⟨rfl, h⟩)
            cases ft
            · clear hfr
              go_wp2
              refine bodyPost_ret (v := .tuple #[.agg #[.int .i64 0, .int .i64 0, .slice none 0 0], .int .i64 0, .int .i64 10]) ?_ rfl ?_
              · first | (simp [results, Tryz.results16, go_sem, r0, r1, r2, g0, g1, g2]; done) | ((first | (simp [results, Tryz.results16, go_sem, r0, r1, r2, g0, g1, g2]; done) | simp [results, Tryz.results16, go_sem, r0, r1, r2, g0, g1, g2, ↓IntWalk.iteOmega]); done) | (simp [results, Tryz.results16, go_sem, r0, r1, r2, g0, g1, g2]; omega) | ((first | (simp [results, Tryz.results16, go_sem, r0, r1, r2, g0, g1, g2]; done) | simp [results, Tryz.results16, go_sem, r0, r1, r2, g0, g1, g2, ↓IntWalk.iteOmega]); omega)
              unfold RpPost
              rw [HA.out]
              exact ⟨_, rfl, ints_nil _, HBW.out.trans (by (repeat' (first | with_reducible exact Below.refl _ _ | (with_reducible refine below_later_of ?_ ?_ _) | (with_reducible refine Below.alloc ?_ ?_ _) | (with_reducible refine Below.setCell ?_ ?_ _) | (with_reducible refine Below.drew ?_) | (simp; done) | (simp; omega) | omega)))⟩
            · have hrn : ((n1 : Int) - 1 != st.rows) = true := bne_iff_ne.2 fun h => hfr ⟨rfl, h⟩
              have hrn2 : ((n1 : Int) + 1 - 2 != st.rows) = true := bne_iff_ne.2 fun h => hfr ⟨rfl, by omega⟩
              clear hfr
              go_wp2
              refine bodyPost_ret (v := .tuple #[.agg #[.int .i64 0, .int .i64 0, .slice none 0 0], .int .i64 0, .int .i64 10]) ?_ rfl ?_
              · first | (simp [results, Tryz.results16, go_sem, r0, r1, r2, g0, g1, g2]; done) | ((first | (simp [results, Tryz.results16, go_sem, r0, r1, r2, g0, g1, g2]; done) | simp [results, Tryz.results16, go_sem, r0, r1, r2, g0, g1, g2, ↓IntWalk.iteOmega]); done) | (simp [results, Tryz.results16, go_sem, r0, r1, r2, g0, g1, g2]; omega) | ((first | (simp [results, Tryz.results16, go_sem, r0, r1, r2, g0, g1, g2]; done) | simp [results, Tryz.results16, go_sem, r0, r1, r2, g0, g1, g2, ↓IntWalk.iteOmega]); omega)
              unfold RpPost
              rw [HA.out]
              exact ⟨_, rfl, ints_nil _, HBW.out.trans (by (repeat' (first | with_reducible exact Below.refl _ _ | (with_reducible refine below_later_of ?_ ?_ _) | (with_reducible refine Below.alloc ?_ ?_ _) | (with_reducible refine Below.setCell ?_ ?_ _) | (with_reducible refine Below.drew ?_) | (simp; done) | (simp; omega) | omega)))⟩
      · have hq : (xl.toList == []) = false := beq_false_of_ne fun e => hx (by apply ByteArray.ext; apply Array.toList_inj.1; rw [← Go.ByteArray.toList_eq, e])
        have HA := Lib.hid (show ansP s = ⟨0, 0, [], n1 + 1, 7⟩ by rw [HANS.out, if_pos (.inl hx)])
        clear hx
        go_wp2
        refine bodyPost_ret (v := .tuple #[.agg #[.int .i64 0, .int .i64 0, .slice none 0 0], .int .i64 ((n1 + 1 : Nat) : Int), .int .i64 7]) ?_ rfl ?_
        · first | (simp [results, Tryz.results16, go_sem, r0, r1, r2, g0, g1, g2]; done) | ((first | (simp [results, Tryz.results16, go_sem, r0, r1, r2, g0, g1, g2]; done) | simp [results, Tryz.results16, go_sem, r0, r1, r2, g0, g1, g2, ↓IntWalk.iteOmega]); done) | (simp [results, Tryz.results16, go_sem, r0, r1, r2, g0, g1, g2]; omega) | ((first | (simp [results, Tryz.results16, go_sem, r0, r1, r2, g0, g1, g2]; done) | simp [results, Tryz.results16, go_sem, r0, r1, r2, g0, g1, g2, ↓IntWalk.iteOmega]); omega)
        unfold RpPost
        rw [HA.out]
        exact ⟨_, rfl, ints_nil _, HBW.out.trans (by (repeat' (first | with_reducible exact Below.refl _ _ | (with_reducible refine below_later_of ?_ ?_ _) | (with_reducible refine Below.alloc ?_ ?_ _) | (with_reducible refine Below.setCell ?_ ?_ _) | (with_reducible refine Below.drew ?_) | (simp; done) | (simp; omega) | omega)))⟩
end Go.Proofs.YtkoiknmijjiicaaGreatDoor
