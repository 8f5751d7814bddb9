/- Chapter 4: grids of pairs; mapped, with whatever function that lays its blocks behind what lies. -/
import Derived.Test.YtfiioadmpjmmgaaDoorZK
import Derived.Shelf.Abstract
import Derived.Deep.AppendLies
import Derived.Deep.RegionLaw
namespace Go.Proofs.YtfiioadmpjmmgaaDoor
set_option linter.unusedVariables false
set_option linter.unusedSimpArgs false
open Go.RowKit Ieee Ntt
/-- A value of three cells (two sizes, and a row of n elements of so many cells), as a function builds it: result cell R, variable O. -/
structure TriN (w : World) (R O : Nat) (L S : Int) (e : TypeId) (sz : Nat) (v : Value) (n : Nat) (xs : List Value) (wr : World) : Prop where
  c0 : wr.cell? ⟨O, 0, none⟩ = some (.int .i64 L)
  c1 : wr.cell? ⟨O, 1, none⟩ = some (.int .i64 S)
  c2 : wr.cell? ⟨O, 2, none⟩ = some v
  f2 : wr.frozen? ⟨O, 2, none⟩ = false
  r0 : wr.cell? ⟨R, 0, none⟩ = some (.int .i64 0)
  r1 : wr.cell? ⟨R, 1, none⟩ = some (.int .i64 0)
  r2 : wr.cell? ⟨R, 2, none⟩ = some (.slice none 0 0)
  g0 : wr.frozen? ⟨R, 0, none⟩ = false
  g1 : wr.frozen? ⟨R, 1, none⟩ = false
  g2 : wr.frozen? ⟨R, 2, none⟩ = false
  own : wr.ownsRow (O + 1) e sz v n xs
  bel : Below R w wr
  lt : O < wr.heap.size
  ro : R < O
section
variable {w wr W : World} {R O : Nat} {L S : Int} {e : TypeId} {sz n : Nat} {xs : List Value} {v : Value}
theorem TriN.below (h : TriN w R O L S e sz v n xs wr) (hb : Below wr.heap.size wr W) : TriN w R O L S e sz v n xs W := by
  have hlt := h.lt
  have hro := h.ro
  have hs := hb.size
  have q : ∀ j, W.cell? ⟨O, j, none⟩ = wr.cell? ⟨O, j, none⟩ := fun j => hb.cell (p := ⟨O, j, none⟩) hlt
  have q2 : ∀ j, W.frozen? ⟨O, j, none⟩ = wr.frozen? ⟨O, j, none⟩ := fun j => hb.frozen (p := ⟨O, j, none⟩) hlt
  have r : ∀ j, W.cell? ⟨R, j, none⟩ = wr.cell? ⟨R, j, none⟩ := fun j => hb.cell (p := ⟨R, j, none⟩) (show R < wr.heap.size by omega)
  have r2 : ∀ j, W.frozen? ⟨R, j, none⟩ = wr.frozen? ⟨R, j, none⟩ := fun j => hb.frozen (p := ⟨R, j, none⟩) (show R < wr.heap.size by omega)
  exact ⟨(q 0).trans h.c0, (q 1).trans h.c1, (q 2).trans h.c2, (q2 2).trans h.f2, (r 0).trans h.r0, (r 1).trans h.r1, (r 2).trans h.r2, (r2 0).trans h.g0, (r2 1).trans h.g1, (r2 2).trans h.g2,
    h.own.kept (row := none) ⟨hb.os, hb.tape, hb.output, hb.size, fun k hk _ => hb.block k hk⟩ (Classical.em _), h.bel.trans (hb.mono (by omega)), by omega, hro⟩
theorem TriN.still {w1 : World} {o : Obj} (h : TriN w R O L S e sz v n xs wr) (hg : (wr.alloc o).grownBy w1 v.ownBlock) :
    w1.cell? ⟨O, 2, none⟩ = some v ∧ w1.frozen? ⟨O, 2, none⟩ = false := by
  have hlt := h.lt
  have hb1 : Below (O + 1) wr w1 := (((Below.refl (O + 1) wr).alloc (by omega) o)).grown hg (by simp; omega) (fun g hg => (h.own.lt g hg).1)
  exact ⟨(hb1.cell (p := ⟨O, 2, none⟩) (Nat.lt_succ_self _)).trans h.c2, (hb1.frozen (p := ⟨O, 2, none⟩) (Nat.lt_succ_self _)).trans h.f2⟩
theorem TriN.put {w1 : World} {v' : Value} {ys : List Value} {o : Obj} (h : TriN w R O L S e sz v n xs wr)
    (ho : w1.ownsRow (O + 1) e sz v' (n + 1) (xs ++ ys)) (hg : (wr.alloc o).grownBy w1 v.ownBlock) : TriN w R O L S e sz v' (n + 1) (xs ++ ys) (w1.setCell ⟨O, 2, none⟩ v') := by
  have hlt := h.lt
  have hro := h.ro
  have hb1 : Below (O + 1) wr w1 := (((Below.refl (O + 1) wr).alloc (by omega) o)).grown hg (by simp; omega) (fun g hg => (h.own.lt g hg).1)
  have hsz := hb1.size
  have q : ∀ j, w1.cell? ⟨O, j, none⟩ = wr.cell? ⟨O, j, none⟩ := fun j => hb1.cell (p := ⟨O, j, none⟩) (Nat.lt_succ_self _)
  have q2 : ∀ j, w1.frozen? ⟨O, j, none⟩ = wr.frozen? ⟨O, j, none⟩ := fun j => hb1.frozen (p := ⟨O, j, none⟩) (Nat.lt_succ_self _)
  have r : ∀ j, w1.cell? ⟨R, j, none⟩ = wr.cell? ⟨R, j, none⟩ := fun j => hb1.cell (p := ⟨R, j, none⟩) (show R < O + 1 by omega)
  have r2 : ∀ j, w1.frozen? ⟨R, j, none⟩ = wr.frozen? ⟨R, j, none⟩ := fun j => hb1.frozen (p := ⟨R, j, none⟩) (show R < O + 1 by omega)
  have hne : ∀ i j, (⟨O, j, none⟩ : Addr) ≠ ⟨R, i, none⟩ := fun i j e => absurd (congrArg Addr.block e) (show ¬ O = R by omega)
  have hr : ∀ i, (w1.setCell ⟨O, 2, none⟩ v').cell? ⟨R, i, none⟩ = w1.cell? ⟨R, i, none⟩ := fun i => World.cell?_setCell_other _ _ _ _ (hne i 2)
  refine ⟨by simp [go_sem, q, h.c0], by simp [go_sem, q, h.c1], by simp [go_sem, q, h.c2], by simp [go_sem, q2, h.f2], by rw [hr, r, h.r0], by rw [hr, r, h.r1], by rw [hr, r, h.r2], by simp [go_sem, r2, h.g0], by simp [go_sem, r2, h.g1], by simp [go_sem, r2, h.g2], ?_, ?_, by simp; omega, hro⟩
  · exact ownsRow_setCell_below ho (Nat.lt_succ_self _) _
  · exact (h.bel.trans (hb1.mono (by omega))).setCell (p := ⟨O, 2, none⟩) (show R ≤ O by omega) _
end
/-- The cells of pairs. -/
def prC (F : Nat → Int × Int) : Nat → List Value
  | 0 => []
  | k + 1 => prC F k ++ [.int .i64 (F k).1, .int .i64 (F k).2]
theorem prC_len (F : Nat → Int × Int) : ∀ k, (prC F k).length = k * 2
  | 0 => rfl
  | k + 1 => by rw [prC, List.length_append, prC_len F k]; simp; omega
theorem prC_at (F : Nat → Int × Int) {k : Nat} : ∀ {n : Nat}, k < n → (prC F n)[k * 2]? = some (.int .i64 (F k).1) ∧ (prC F n)[k * 2 + 1]? = some (.int .i64 (F k).2)
  | 0, h => by omega
  | n + 1, h => by
    have hl := prC_len F n
    rw [prC]
    by_cases e : k = n
    · subst e
      rw [List.getElem?_append_right (by omega), List.getElem?_append_right (by omega), hl]
      simp
    · have := prC_at F (n := n) (show k < n by omega)
      rw [List.getElem?_append_left (by omega), List.getElem?_append_left (by omega)]
      exact this
def PairsAt (W : World) (g n : Nat) (F : Nat → Int × Int) : Prop := ∀ k, k < n → W.cell? ⟨g, k * 2, none⟩ = some (.int .i64 (F k).1) ∧ W.cell? ⟨g, k * 2 + 1, none⟩ = some (.int .i64 (F k).2)
theorem PairsAt.below {W W' : World} {g n : Nat} {F : Nat → Int × Int} (h : PairsAt W g n F) (hg : g < W.heap.size) (hb : Below W.heap.size W W') : PairsAt W' g n F := fun k hk => by
  obtain ⟨h1, h2⟩ := h k hk
  exact ⟨(hb.cell (p := ⟨g, k * 2, none⟩) hg).trans h1, (hb.cell (p := ⟨g, k * 2 + 1, none⟩) hg).trans h2⟩
/-- Pairs of one's own. -/
def OwnPr (B : Nat) (W : World) (n : Nat) (F : Nat → Int × Int) (a : Option Addr) : Prop := 0 < n → ∃ g, a = some ⟨g, 0, none⟩ ∧ B ≤ g ∧ g < W.heap.size ∧ PairsAt W g n F
theorem OwnPr.below {B : Nat} {W W' : World} {n : Nat} {F : Nat → Int × Int} {a : Option Addr} (h : OwnPr B W n F a) (hb : Below W.heap.size W W') : OwnPr B W' n F a := fun h0 => by
  obtain ⟨g, h1, h2, h3, h4⟩ := h h0
  exact ⟨g, h1, h2, by have := hb.size; omega, h4.below h3 hb⟩
theorem OwnPr.mono {B B' : Nat} {W : World} {n : Nat} {F : Nat → Int × Int} {a : Option Addr} (h : OwnPr B W n F a) (hB : B' ≤ B) : OwnPr B' W n F a := fun h0 => by
  obtain ⟨g, h1, h2, h3, h4⟩ := h h0
  exact ⟨g, h1, by omega, h3, h4⟩
theorem OwnPr.set {B : Nat} {W : World} {n : Nat} {F : Nat → Int × Int} {a : Option Addr} (h : OwnPr B W n F a) {p : Addr} (hp : p.block < B) (u : Value) : OwnPr B (W.setCell p u) n F a := fun h0 => by
  obtain ⟨g, h1, h2, h3, h4⟩ := h h0
  refine ⟨g, h1, h2, by simpa using h3, fun k hk => ?_⟩
  rw [World.cell?_setCell_other _ _ _ _ (by intro e; rw [e] at hp; simp at hp; omega), World.cell?_setCell_other _ _ _ _ (by intro e; rw [e] at hp; simp at hp; omega)]
  exact h4 k hk
theorem ownPr_row {W : World} {base n c : Nat} {a : Option Addr} {e : TypeId} {F : Nat → Int × Int} (h : W.ownsRow base e 2 (.slice a n c) n (prC F n)) : OwnPr base W n F a := fun hp => by
  have h0 := h
  obtain ⟨-, ⟨-, h1⟩ | ⟨g, cap, cur, h1, h2, h3, -⟩⟩ := h0
  · omega
  · simp only [Value.slice.injEq, true_and] at h1
    obtain ⟨rfl, rfl⟩ := h1
    refine ⟨g, rfl, h2, (Array.getElem?_eq_some_iff.1 h3).1, fun k hk => ?_⟩
    rw [h.cellAt (k * 2) (by omega), h.cellAt (k * 2 + 1) (by omega)]
    exact prC_at F hk
theorem own_slice2 {W : World} {base e n : Nat} {v : Value} {xs : List Value} {sz : Nat} (h : W.ownsRow base e sz v n xs) : ∃ a c, v = .slice a n c := by
  obtain ⟨-, ⟨rfl, rfl⟩ | ⟨g, cap, cur, rfl, -⟩⟩ := h
  · exact ⟨none, 0, rfl⟩
  · exact ⟨_, cap, rfl⟩
/-- A grid that is returned. -/
def GrPost (L S n : Nat) (F : Nat → Int × Int) (w : World) (e : Ending) (w' : World) : Prop :=
  ∃ a c, e = .returned (.agg #[.int .i64 L, .int .i64 S, .slice a n c]) ∧ OwnPr w.heap.size w' n F a ∧ n ≤ c ∧ Below w.heap.size w w'
theorem own_cap2 {W : World} {base e n c : Nat} {a : Option Addr} {xs : List Value} {sz : Nat} (h : W.ownsRow base e sz (.slice a n c) n xs) : n ≤ c := by
  obtain ⟨-, ⟨-, h1⟩ | ⟨g, cap, cur, h1, h2, h3, h4, -⟩⟩ := h
  · omega
  · simp only [Value.slice.injEq, true_and] at h1
    obtain ⟨rfl, rfl⟩ := h1
    exact h4
theorem infoPr : (Tryd.prog.info? 139).map (fun i => (i.zero, i.size, i.bytes)) = some (some (.agg #[.int .i64 0, .int .i64 0]), 2, 16) := by kernel_rfl
theorem wp_worldG {P : Program} {c : Code} {Q : Exit → Act → World → Prop} {a : Act} {w : World} (F : World → Prop) (hf : F w) (h : ∀ W, F W → Code.wp P c Q a W) : Code.wp P c Q a w := h w hf
set_option maxRecDepth 20000 in
set_option maxHeartbeats 4000000 in
theorem mapped_pr (L S : Nat) (gf : FuncId) (cap : Array Value) (F : Nat → Int × Int) (w : World) (hL : L ≤ 64) (hS : S ≤ 64) (eg : ∀ args w, (callFunc gf args).run Tryd.prog w = .ok (.enter gf args) w)
    (hc : ∀ W, Below w.heap.size w W → ∀ l s : Nat, l < L → s < S → Calls Tryd.prog gf (#[.int .i64 l, .int .i64 s] ++ cap) W fun e w' => e = .returned (.agg #[.int .i64 (F (l * S + s)).1, .int .i64 (F (l * S + s)).2]) ∧ Below W.heap.size W w') :
    Calls Tryd.prog 79 #[.int .i64 L, .int .i64 S, .func (.func gf) #[] cap] w (GrPost L S (L * S) F w) := by
  obtain ⟨i0, hi0, hz0, hz1, hz2⟩ := info_parts infoPr
  have HC := Lib.hid hc
  clear hc
  go_enter Tryd.func79, Tryd.ntmps79
  go_wp2
  refine wp_worldG (fun W => TriN w w.heap.size (w.heap.size + 1) L S 139 2 (.slice none 0 0) 0 (prC F 0) W)
    ⟨by simp [go_sem], by simp [go_sem], by simp [go_sem], by simp [go_sem], by simp [go_sem], by simp [go_sem], by simp [go_sem], by simp [go_sem], by simp [go_sem], by simp [go_sem], World.ownsRow_nil _ _ _ _, (by (repeat' (first | with_reducible exact Below.refl _ _ | (with_reducible refine below_later_of ?_ ?_ _) | (with_reducible refine Below.alloc ?_ ?_ _) | (with_reducible refine Below.setCell ?_ ?_ _) | (with_reducible refine Below.drew ?_) | (simp; done) | (simp; omega) | omega))), by simp, by omega⟩ ?_
  rintro W2 hst
  have HST := Lib.hid hst
  clear hst
  go_loopw [14] (fun i wr => ∃ (l : Nat) (v : Value), l ≤ L ∧ i = .int .i64 l ∧ TriN w w.heap.size (w.heap.size + 1) L S 139 2 v (l * S) (prC F (l * S)) wr) (fun i _ => L - (intOf i).toNat)
  case atStart => exact ⟨0, _, Nat.zero_le _, rfl, by rw [Nat.zero_mul]; exact HST.out⟩
  case round =>
    obtain ⟨l, v, hl, rfl, hst⟩ := hrel
    have HS1 := Lib.hid hst
    by_cases hlt : l < L
    · have hdl : decide ((l : Int) < (L : Int)) = true := by simp; omega
      clear hst
      go_wp2
      go_loopw [18] (fun i wr => ∃ (s : Nat) (v : Value), s ≤ S ∧ i = .int .i64 s ∧ TriN w w.heap.size (w.heap.size + 1) L S 139 2 v (l * S + s) (prC F (l * S + s)) wr) (fun i _ => S - (intOf i).toNat)
      case atStart => exact ⟨0, v, Nat.zero_le _, rfl, HS1.out⟩
      case round =>
        obtain ⟨s, v, hs, rfl, hst⟩ := hrel
        by_cases hst2 : s < S
        · have hds : decide ((s : Int) < (S : Int)) = true := by simp; omega
          have HCL := Lib.hid (show ∀ W, Below wr.heap.size wr W → _ from fun W hW => HC.out W (hst.bel.trans (hW.mono hst.bel.size)) l s hlt hst2)
          obtain ⟨i, hi⟩ : ∃ i, l * S + s = i := ⟨_, rfl⟩
          have hin : i ≤ 5000 := by
            have h1 : l * S ≤ 64 * 64 := Nat.mul_le_mul (by omega) hS
            omega
          have HI := Lib.hid hi
          rw [hi] at hst HCL
          have HS2 := Lib.hid hst
          have HPN := Lib.hid (show prC F (i + 1) = prC F i ++ [.int .i64 (F i).1, .int .i64 (F i).2] from rfl)
          obtain ⟨x, hx⟩ : ∃ x, (F i).1 = x := ⟨_, rfl⟩
          obtain ⟨y, hy⟩ : ∃ y, (F i).2 = y := ⟨_, rfl⟩
          rw [hx, hy] at HCL HPN
          have c2 := hst.c2
          have f2 := hst.f2
          have hltO := hst.lt
          clear hst hi hx hy
          go_wp2_with fail
          go_region_law (first | (refine step_append_lies _ rfl (.tmp 22) (.tmp 27) 92 rfl (w.heap.size + 1 + 1) 139 i0 (.agg #[.int .i64 0, .int .i64 0]) 2 16 Tryd.underlying92 hi0 hz0 hz1 hz2 rfl (by decide) v i (prC F i) (by simp [Act.eval, Act.put]) (HSW.out.own.alloc _) ⟨wc.heap.size, 0, none⟩ 1 1 [.int .i64 x, .int .i64 y] (by simp [Act.eval, Act.put]) rfl (by intro j u hj; rcases j with _ | j; (focus (simp at hj; subst hj; (first | (simp [Addr.add, go_sem]; done) | simp [Addr.add, go_sem, ↓IntWalk.iteOmega]))); rcases j with _ | j; (focus (simp at hj; subst hj; (first | (simp [Addr.add, go_sem]; done) | simp [Addr.add, go_sem, ↓IntWalk.iteOmega]))); (focus (simp at hj))) (by intro u hu; simp at hu; rcases hu with rfl | rfl <;> rfl) (by decide) (by unfold maxLen; omega) (by omega) (by first | omega | (simp; omega)) _ rfl ?_; intro g' cc' w1 hown' hgrow _ _; have HN2 := Lib.hid (HSW.out.put hown' hgrow); obtain ⟨hcb, hfb⟩ := HSW.out.still hgrow; clear hown' hgrow) | (go_simp; (go_at_fn gf; (with_reducible refine (HCL.out _ (by (repeat' (first | with_reducible exact Below.refl _ _ | (with_reducible refine below_later_of ?_ ?_ _) | (with_reducible refine Below.alloc ?_ ?_ _) | (with_reducible refine Below.setCell ?_ ?_ _) | (with_reducible refine Below.drew ?_) | (simp; done) | (simp; omega) | omega)))).mono ?_); rintro e wc ⟨rfl, hb⟩; have HSW := Lib.hid ((HS2.out.below (Below.refl _ _).drew).below hb); have c2w := HSW.out.c2; have f2w := HSW.out.f2; have hltw := HSW.out.lt; clear hb)))
          all_goals
            go_wp2
            go_roundw
            case rel => exact ⟨s + 1, _, by omega, by go_num, by rw [← Nat.add_assoc, HI.out, HPN.out]; exact HN2.out⟩
            case measure => simp [intOf]; omega
        · obtain rfl : s = S := by omega
          have hds : decide ((s : Int) < (s : Int)) = false := by simp
          have HSE := Lib.hid hst
          clear hst
          go_wp2
          go_roundw
          case rel => exact ⟨l + 1, v, by omega, by go_num, by rw [Nat.add_mul, Nat.one_mul]; exact HSE.out⟩
          case measure => simp [intOf]; omega
    · obtain rfl : l = L := by omega
      have hdl : decide ((l : Int) < (l : Int)) = false := by simp
      obtain ⟨a', c', rfl⟩ := own_slice2 hst.own
      obtain ⟨e0, e1, e2, -, r0, r1, r2, g0, g1, g2, hown, hbel, -, -⟩ := hst
      have HOW := Lib.hid hown
      have HBE := Lib.hid hbel
      clear hown hbel
      go_wp2
      refine bodyPost_ret ?_ rfl ⟨a', c', rfl, OwnPr.mono (OwnPr.set (OwnPr.set (OwnPr.set (ownPr_row HOW.out) ?_ _) ?_ _) ?_ _) ?_, own_cap2 HOW.out, HBE.out.trans (by (repeat' (first | with_reducible exact Below.refl _ _ | (with_reducible refine below_later_of ?_ ?_ _) | (with_reducible refine Below.alloc ?_ ?_ _) | (with_reducible refine Below.setCell ?_ ?_ _) | (with_reducible refine Below.drew ?_) | (simp; done) | (simp; omega) | omega)))⟩
      · first | (simp [results, Tryd.results79, go_sem, r0, r1, r2]; done) | simp [results, Tryd.results79, go_sem, r0, r1, r2, ↓IntWalk.iteOmega]
      all_goals first | omega | (simp <;> omega)
end Go.Proofs.YtfiioadmpjmmgaaDoor
