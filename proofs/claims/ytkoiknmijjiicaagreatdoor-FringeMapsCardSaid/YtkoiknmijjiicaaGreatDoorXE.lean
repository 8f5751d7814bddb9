import Derived.Test.YtkoiknmijjiicaaGreatDoorZK
import Derived.Shelf.Abstract
import Derived.Deep.AppendLies
import Derived.Deep.RegionLaw
import Derived.Deep.CutRange
import Derived.Test.YtkoiknmijjiicaaGreatDoorXA
import Derived.Test.YtkoiknmijjiicaaGreatDoorZM
import Derived.Test.YtkoiknmijjiicaaGreatDoorU80
import Derived.Test.YtkoiknmijjiicaaGreatDoorZJ
import Derived.Deep.RegionHeld3
/- Chapter 4: grids of pairs; mapped, with whatever function that lays its blocks behind what lies. -/
namespace Go.Proofs.YtkoiknmijjiicaaGreatDoor
set_option linter.unusedVariables false
set_option linter.unusedSimpArgs false
open Go.RowKit Ieee Ntt
/-- A value of three cells (two sizes, and a row of n elements of so many cells), as a function builds it: result cell R, variable O. -/
structure TriN (w : World) (R O : Nat) (L S : Int) (e : TypeId) (sz : Nat) (v : Value) (n : Nat) (xs : List Value) (wr : World) : Prop where
  c0 : wr.cell? ⟨O, 0, none⟩ = some (.int .i64 L)
  c1 : wr.cell? ⟨O, 1, none⟩ = some (.int .i64 S)
  c2 : wr.cell? ⟨O, 2, none⟩ = some v
  f2 : wr.frozen? ⟨O, 2, none⟩ = false
  r0 : wr.cell? ⟨R, 0, none⟩ = some (.int .i64 0)
  r1 : wr.cell? ⟨R, 1, none⟩ = some (.int .i64 0)
  r2 : wr.cell? ⟨R, 2, none⟩ = some (.slice none 0 0)
  g0 : wr.frozen? ⟨R, 0, none⟩ = false
  g1 : wr.frozen? ⟨R, 1, none⟩ = false
  g2 : wr.frozen? ⟨R, 2, none⟩ = false
  own : wr.ownsRow (O + 1) e sz v n xs
  bel : Below R w wr
  lt : O < wr.heap.size
  ro : R < O
section
variable {w wr W : World} {R O : Nat} {L S : Int} {e : TypeId} {sz n : Nat} {xs : List Value} {v : Value}
theorem TriN.below (h : TriN w R O L S e sz v n xs wr) (hb : Below wr.heap.size wr W) : TriN w R O L S e sz v n xs W := by
  have hlt := h.lt
  have hro := h.ro
  have hs := hb.size
  have q : ∀ j, W.cell? ⟨O, j, none⟩ = wr.cell? ⟨O, j, none⟩ := fun j => hb.cell (p := ⟨O, j, none⟩) hlt
  have q2 : ∀ j, W.frozen? ⟨O, j, none⟩ = wr.frozen? ⟨O, j, none⟩ := fun j => hb.frozen (p := ⟨O, j, none⟩) hlt
  have r : ∀ j, W.cell? ⟨R, j, none⟩ = wr.cell? ⟨R, j, none⟩ := fun j => hb.cell (p := ⟨R, j, none⟩) (show R < wr.heap.size by omega)
  have r2 : ∀ j, W.frozen? ⟨R, j, none⟩ = wr.frozen? ⟨R, j, none⟩ := fun j => hb.frozen (p := ⟨R, j, none⟩) (show R < wr.heap.size by omega)
  exact ⟨(q 0).trans h.c0, (q 1).trans h.c1, (q 2).trans h.c2, (q2 2).trans h.f2, (r 0).trans h.r0, (r 1).trans h.r1, (r 2).trans h.r2, (r2 0).trans h.g0, (r2 1).trans h.g1, (r2 2).trans h.g2,
    h.own.kept (row := none) ⟨hb.os, hb.tape, hb.output, hb.size, fun k hk _ => hb.block k hk⟩ (Classical.em _), h.bel.trans (hb.mono (by omega)), by omega, hro⟩
theorem TriN.still {w1 : World} {o : Obj} (h : TriN w R O L S e sz v n xs wr) (hg : (wr.alloc o).grownBy w1 v.ownBlock) :
    w1.cell? ⟨O, 2, none⟩ = some v ∧ w1.frozen? ⟨O, 2, none⟩ = false := by
  have hlt := h.lt
  have hb1 : Below (O + 1) wr w1 := (((Below.refl (O + 1) wr).alloc (by omega) o)).grown hg (by simp; omega) (fun g hg => (h.own.lt g hg).1)
  exact ⟨(hb1.cell (p := ⟨O, 2, none⟩) (Nat.lt_succ_self _)).trans h.c2, (hb1.frozen (p := ⟨O, 2, none⟩) (Nat.lt_succ_self _)).trans h.f2⟩
theorem TriN.put {w1 : World} {v' : Value} {ys : List Value} {o : Obj} (h : TriN w R O L S e sz v n xs wr)
    (ho : w1.ownsRow (O + 1) e sz v' (n + 1) (xs ++ ys)) (hg : (wr.alloc o).grownBy w1 v.ownBlock) : TriN w R O L S e sz v' (n + 1) (xs ++ ys) (w1.setCell ⟨O, 2, none⟩ v') := by
  have hlt := h.lt
  have hro := h.ro
  have hb1 : Below (O + 1) wr w1 := (((Below.refl (O + 1) wr).alloc (by omega) o)).grown hg (by simp; omega) (fun g hg => (h.own.lt g hg).1)
  have hsz := hb1.size
  have q : ∀ j, w1.cell? ⟨O, j, none⟩ = wr.cell? ⟨O, j, none⟩ := fun j => hb1.cell (p := ⟨O, j, none⟩) (Nat.lt_succ_self _)
  have q2 : ∀ j, w1.frozen? ⟨O, j, none⟩ = wr.frozen? ⟨O, j, none⟩ := fun j => hb1.frozen (p := ⟨O, j, none⟩) (Nat.lt_succ_self _)
  have r : ∀ j, w1.cell? ⟨R, j, none⟩ = wr.cell? ⟨R, j, none⟩ := fun j => hb1.cell (p := ⟨R, j, none⟩) (show R < O + 1 by omega)
  have r2 : ∀ j, w1.frozen? ⟨R, j, none⟩ = wr.frozen? ⟨R, j, none⟩ := fun j => hb1.frozen (p := ⟨R, j, none⟩) (show R < O + 1 by omega)
  have hne : ∀ i j, (⟨O, j, none⟩ : Addr) ≠ ⟨R, i, none⟩ := fun i j e => absurd (congrArg Addr.block e) (show ¬ O = R by omega)
  have hr : ∀ i, (w1.setCell ⟨O, 2, none⟩ v').cell? ⟨R, i, none⟩ = w1.cell? ⟨R, i, none⟩ := fun i => World.cell?_setCell_other _ _ _ _ (hne i 2)
  refine ⟨by simp [go_sem, q, h.c0], by simp [go_sem, q, h.c1], by simp [go_sem, q, h.c2], by simp [go_sem, q2, h.f2], by rw [hr, r, h.r0], by rw [hr, r, h.r1], by rw [hr, r, h.r2], by simp [go_sem, r2, h.g0], by simp [go_sem, r2, h.g1], by simp [go_sem, r2, h.g2], ?_, ?_, by simp; omega, hro⟩
  · exact ownsRow_setCell_below ho (Nat.lt_succ_self _) _
  · exact (h.bel.trans (hb1.mono (by omega))).setCell (p := ⟨O, 2, none⟩) (show R ≤ O by omega) _
end
/-- The cells of pairs. -/
def prC (F : Nat → Int × Int) : Nat → List Value
  | 0 => []
  | k + 1 => prC F k ++ [.int .i64 (F k).1, .int .i64 (F k).2]
theorem prC_len (F : Nat → Int × Int) : ∀ k, (prC F k).length = k * 2
  | 0 => rfl
  | k + 1 => by rw [prC, List.length_append, prC_len F k]; simp; omega
theorem prC_at (F : Nat → Int × Int) {k : Nat} : ∀ {n : Nat}, k < n → (prC F n)[k * 2]? = some (.int .i64 (F k).1) ∧ (prC F n)[k * 2 + 1]? = some (.int .i64 (F k).2)
  | 0, h => by omega
  | n + 1, h => by
    have hl := prC_len F n
    rw [prC]
    by_cases e : k = n
    · subst e
      rw [List.getElem?_append_right (by omega), List.getElem?_append_right (by omega), hl]
      simp
    · have := prC_at F (n := n) (show k < n by omega)
      rw [List.getElem?_append_left (by omega), List.getElem?_append_left (by omega)]
      exact this
def PairsAt (W : World) (g n : Nat) (F : Nat → Int × Int) : Prop := ∀ k, k < n → W.cell? ⟨g, k * 2, none⟩ = some (.int .i64 (F k).1) ∧ W.cell? ⟨g, k * 2 + 1, none⟩ = some (.int .i64 (F k).2)
theorem PairsAt.below {W W' : World} {g n : Nat} {F : Nat → Int × Int} (h : PairsAt W g n F) (hg : g < W.heap.size) (hb : Below W.heap.size W W') : PairsAt W' g n F := fun k hk => by
  obtain ⟨h1, h2⟩ := h k hk
  exact ⟨(hb.cell (p := ⟨g, k * 2, none⟩) hg).trans h1, (hb.cell (p := ⟨g, k * 2 + 1, none⟩) hg).trans h2⟩
/-- Pairs of one's own. -/
def OwnPr (B : Nat) (W : World) (n : Nat) (F : Nat → Int × Int) (a : Option Addr) : Prop := 0 < n → ∃ g, a = some ⟨g, 0, none⟩ ∧ B ≤ g ∧ g < W.heap.size ∧ PairsAt W g n F
theorem OwnPr.below {B : Nat} {W W' : World} {n : Nat} {F : Nat → Int × Int} {a : Option Addr} (h : OwnPr B W n F a) (hb : Below W.heap.size W W') : OwnPr B W' n F a := fun h0 => by
  obtain ⟨g, h1, h2, h3, h4⟩ := h h0
  exact ⟨g, h1, h2, by have := hb.size; omega, h4.below h3 hb⟩
theorem OwnPr.mono {B B' : Nat} {W : World} {n : Nat} {F : Nat → Int × Int} {a : Option Addr} (h : OwnPr B W n F a) (hB : B' ≤ B) : OwnPr B' W n F a := fun h0 => by
  obtain ⟨g, h1, h2, h3, h4⟩ := h h0
  exact ⟨g, h1, by omega, h3, h4⟩
theorem OwnPr.set {B : Nat} {W : World} {n : Nat} {F : Nat → Int × Int} {a : Option Addr} (h : OwnPr B W n F a) {p : Addr} (hp : p.block < B) (u : Value) : OwnPr B (W.setCell p u) n F a := fun h0 => by
  obtain ⟨g, h1, h2, h3, h4⟩ := h h0
  refine ⟨g, h1, h2, by simpa using h3, fun k hk => ?_⟩
  rw [World.cell?_setCell_other _ _ _ _ (by intro e; rw [e] at hp; simp at hp; omega), World.cell?_setCell_other _ _ _ _ (by intro e; rw [e] at hp; simp at hp; omega)]
  exact h4 k hk
theorem ownPr_row {W : World} {base n c : Nat} {a : Option Addr} {e : TypeId} {F : Nat → Int × Int} (h : W.ownsRow base e 2 (.slice a n c) n (prC F n)) : OwnPr base W n F a := fun hp => by
  have h0 := h
  obtain ⟨-, ⟨-, h1⟩ | ⟨g, cap, cur, h1, h2, h3, -⟩⟩ := h0
  · omega
  · simp only [Value.slice.injEq, true_and] at h1
    obtain ⟨rfl, rfl⟩ := h1
    refine ⟨g, rfl, h2, (Array.getElem?_eq_some_iff.1 h3).1, fun k hk => ?_⟩
    rw [h.cellAt (k * 2) (by omega), h.cellAt (k * 2 + 1) (by omega)]
    exact prC_at F hk
theorem own_slice2 {W : World} {base e n : Nat} {v : Value} {xs : List Value} {sz : Nat} (h : W.ownsRow base e sz v n xs) : ∃ a c, v = .slice a n c := by
  obtain ⟨-, ⟨rfl, rfl⟩ | ⟨g, cap, cur, rfl, -⟩⟩ := h
  · exact ⟨none, 0, rfl⟩
  · exact ⟨_, cap, rfl⟩
/-- A grid that is returned. -/
def GrPost (L S n : Nat) (F : Nat → Int × Int) (w : World) (e : Ending) (w' : World) : Prop :=
  ∃ a c, e = .returned (.agg #[.int .i64 L, .int .i64 S, .slice a n c]) ∧ OwnPr w.heap.size w' n F a ∧ n ≤ c ∧ Below w.heap.size w w'
theorem own_cap2 {W : World} {base e n c : Nat} {a : Option Addr} {xs : List Value} {sz : Nat} (h : W.ownsRow base e sz (.slice a n c) n xs) : n ≤ c := by
  obtain ⟨-, ⟨-, h1⟩ | ⟨g, cap, cur, h1, h2, h3, h4, -⟩⟩ := h
  · omega
  · simp only [Value.slice.injEq, true_and] at h1
    obtain ⟨rfl, rfl⟩ := h1
    exact h4
theorem infoPr : (Tryz.prog.info? 91).map (fun i => (i.zero, i.size, i.bytes)) = some (some (.agg #[.int .i64 0, .int .i64 0]), 2, 16) := by kernel_rfl
theorem wp_worldG {P : Program} {c : Code} {Q : Exit → Act → World → Prop} {a : Act} {w : World} (F : World → Prop) (hf : F w) (h : ∀ W, F W → Code.wp P c Q a W) : Code.wp P c Q a w := h w hf
set_option maxRecDepth 20000 in
set_option maxHeartbeats 4000000 in
theorem mapped_pr (L S : Nat) (gf : FuncId) (cap : Array Value) (F : Nat → Int × Int) (w : World) (hL : L ≤ 64) (hS : S ≤ 64) (eg : ∀ args w, (callFunc gf args).run Tryz.prog w = .ok (.enter gf args) w)
    (hc : ∀ W, Below w.heap.size w W → ∀ l s : Nat, l < L → s < S → Calls Tryz.prog gf (#[.int .i64 l, .int .i64 s] ++ cap) W fun e w' => e = .returned (.agg #[.int .i64 (F (l * S + s)).1, .int .i64 (F (l * S + s)).2]) ∧ Below W.heap.size W w') :
    Calls Tryz.prog 83 #[.int .i64 L, .int .i64 S, .func (.func gf) #[] cap] w (GrPost L S (L * S) F w) := by
  obtain ⟨i0, hi0, hz0, hz1, hz2⟩ := info_parts infoPr
  have HC := Lib.hid hc
  clear hc
  go_enter Tryz.func83, Tryz.ntmps83
  go_wp2
  refine wp_worldG (fun W => TriN w w.heap.size (w.heap.size + 1) L S 91 2 (.slice none 0 0) 0 (prC F 0) W)
    ⟨by simp [go_sem], by simp [go_sem], by simp [go_sem], by simp [go_sem], by simp [go_sem], by simp [go_sem], by simp [go_sem], by simp [go_sem], by simp [go_sem], by simp [go_sem], World.ownsRow_nil _ _ _ _, (by (repeat' (first | with_reducible exact Below.refl _ _ | (with_reducible refine below_later_of ?_ ?_ _) | (with_reducible refine Below.alloc ?_ ?_ _) | (with_reducible refine Below.setCell ?_ ?_ _) | (with_reducible refine Below.drew ?_) | (simp; done) | (simp; omega) | omega))), by simp, by omega⟩ ?_
  rintro W2 hst
  have HST := Lib.hid hst
  clear hst
  go_loopw [14] (fun i wr => ∃ (l : Nat) (v : Value), l ≤ L ∧ i = .int .i64 l ∧ TriN w w.heap.size (w.heap.size + 1) L S 91 2 v (l * S) (prC F (l * S)) wr) (fun i _ => L - (intOf i).toNat)
  case atStart => exact ⟨0, _, Nat.zero_le _, rfl, by rw [Nat.zero_mul]; exact HST.out⟩
  case round =>
    obtain ⟨l, v, hl, rfl, hst⟩ := hrel
    have HS1 := Lib.hid hst
    by_cases hlt : l < L
    · have hdl : decide ((l : Int) < (L : Int)) = true := by simp; omega
      clear hst
      go_wp2
      go_loopw [18] (fun i wr => ∃ (s : Nat) (v : Value), s ≤ S ∧ i = .int .i64 s ∧ TriN w w.heap.size (w.heap.size + 1) L S 91 2 v (l * S + s) (prC F (l * S + s)) wr) (fun i _ => S - (intOf i).toNat)
      case atStart => exact ⟨0, v, Nat.zero_le _, rfl, HS1.out⟩
      case round =>
        obtain ⟨s, v, hs, rfl, hst⟩ := hrel
        by_cases hst2 : s < S
        · have hds : decide ((s : Int) < (S : Int)) = true := by simp; omega
          have HCL := Lib.hid (show ∀ W, Below wr.heap.size wr W → _ from fun W hW => HC.out W (hst.bel.trans (hW.mono hst.bel.size)) l s hlt hst2)
          obtain ⟨i, hi⟩ : ∃ i, l * S + s = i := ⟨_, rfl⟩
          have hin : i ≤ 5000 := by
            have h1 : l * S ≤ 64 * 64 := Nat.mul_le_mul (by omega) hS
            omega
          have HI := Lib.hid hi
          rw [hi] at hst HCL
          have HS2 := Lib.hid hst
          have HPN := Lib.hid (show prC F (i + 1) = prC F i ++ [.int .i64 (F i).1, .int .i64 (F i).2] from rfl)
          obtain ⟨x, hx⟩ : ∃ x, (F i).1 = x := ⟨_, rfl⟩
          obtain ⟨y, hy⟩ : ∃ y, (F i).2 = y := ⟨_, rfl⟩
          rw [hx, hy] at HCL HPN
          have c2 := hst.c2
          have f2 := hst.f2
          have hltO := hst.lt
          clear hst hi hx hy
          go_wp2_with fail
          go_region_law (first | (refine step_append_lies _ rfl (.tmp 22) (.tmp 27) 82 rfl (w.heap.size + 1 + 1) 91 i0 (.agg #[.int .i64 0, .int .i64 0]) 2 16 Tryz.underlying82 hi0 hz0 hz1 hz2 rfl (by decide) v i (prC F i) (by simp [Act.eval, Act.put]) (HSW.out.own.alloc _) ⟨wc.heap.size, 0, none⟩ 1 1 [.int .i64 x, .int .i64 y] (by simp [Act.eval, Act.put]) rfl (by intro j u hj; rcases j with _ | j; (focus (simp at hj; subst hj; (first | (simp [Addr.add, go_sem]; done) | simp [Addr.add, go_sem, ↓IntWalk.iteOmega]))); rcases j with _ | j; (focus (simp at hj; subst hj; (first | (simp [Addr.add, go_sem]; done) | simp [Addr.add, go_sem, ↓IntWalk.iteOmega]))); (focus (simp at hj))) (by intro u hu; simp at hu; rcases hu with rfl | rfl <;> rfl) (by decide) (by unfold maxLen; omega) (by omega) (by first | omega | (simp; omega)) _ rfl ?_; intro g' cc' w1 hown' hgrow _ _; have HN2 := Lib.hid (HSW.out.put hown' hgrow); obtain ⟨hcb, hfb⟩ := HSW.out.still hgrow; clear hown' hgrow) | (go_simp; (go_at_fn gf; (with_reducible refine (HCL.out _ (by (repeat' (first | with_reducible exact Below.refl _ _ | (with_reducible refine below_later_of ?_ ?_ _) | (with_reducible refine Below.alloc ?_ ?_ _) | (with_reducible refine Below.setCell ?_ ?_ _) | (with_reducible refine Below.drew ?_) | (simp; done) | (simp; omega) | omega)))).mono ?_); rintro e wc ⟨rfl, hb⟩; have HSW := Lib.hid ((HS2.out.below (Below.refl _ _).drew).below hb); have c2w := HSW.out.c2; have f2w := HSW.out.f2; have hltw := HSW.out.lt; clear hb)))
          all_goals
            go_wp2
            go_roundw
            case rel => exact ⟨s + 1, _, by omega, by go_num, by rw [← Nat.add_assoc, HI.out, HPN.out]; exact HN2.out⟩
            case measure => simp [intOf]; omega
        · obtain rfl : s = S := by omega
          have hds : decide ((s : Int) < (s : Int)) = false := by simp
          have HSE := Lib.hid hst
          clear hst
          go_wp2
          go_roundw
          case rel => exact ⟨l + 1, v, by omega, by go_num, by rw [Nat.add_mul, Nat.one_mul]; exact HSE.out⟩
          case measure => simp [intOf]; omega
    · obtain rfl : l = L := by omega
      have hdl : decide ((l : Int) < (l : Int)) = false := by simp
      obtain ⟨a', c', rfl⟩ := own_slice2 hst.own
      obtain ⟨e0, e1, e2, -, r0, r1, r2, g0, g1, g2, hown, hbel, -, -⟩ := hst
      have HOW := Lib.hid hown
      have HBE := Lib.hid hbel
      clear hown hbel
      go_wp2
      refine bodyPost_ret ?_ rfl ⟨a', c', rfl, OwnPr.mono (OwnPr.set (OwnPr.set (OwnPr.set (ownPr_row HOW.out) ?_ _) ?_ _) ?_ _) ?_, own_cap2 HOW.out, HBE.out.trans (by (repeat' (first | with_reducible exact Below.refl _ _ | (with_reducible refine below_later_of ?_ ?_ _) | (with_reducible refine Below.alloc ?_ ?_ _) | (with_reducible refine Below.setCell ?_ ?_ _) | (with_reducible refine Below.drew ?_) | (simp; done) | (simp; omega) | omega)))⟩
      · first | (simp [results, Tryz.results83, go_sem, r0, r1, r2]; done) | simp [results, Tryz.results83, go_sem, r0, r1, r2, ↓IntWalk.iteOmega]
      all_goals first | omega | (simp <;> omega)
end Go.Proofs.YtkoiknmijjiicaaGreatDoor

/- Chapter 4: pairs of an image, and their products. -/
namespace Go.Proofs.YtkoiknmijjiicaaGreatDoor
set_option linter.unusedVariables false
set_option linter.unusedSimpArgs false
open Go.RowKit Ieee Ntt
theorem idx_cast4 {r C c i : Nat} (h : r * C + c = i) : (r : Int) * (C : Int) + (c : Int) = (i : Int) := by rw [← h, Int.natCast_add, Int.natCast_mul]
theorem flD {b : Nat} {n : Int} (h : FNum Ieee.double b n) (h1 : -9000000000000000000 ≤ n) (h2 : n ≤ 9000000000000000000) : FlI .f64 178 b n := fun w => by
  refine run_convert_float_int (P := Tryz.prog) w 178 3 .f64 .i64 b n (by kernel_rfl) Tryz.underlying3 ?_
  have : (FloatKind.f64.decode b).toInt .zero = some n := fnum_toInt h
  unfold floatToIntVal
  rw [this]
  dsimp only
  rw [if_pos]
  show (-9223372036854775808 : Int) ≤ _ ∧ _ ≤ (9223372036854775807 : Int)
  omega
set_option maxHeartbeats 1000000 in
theorem fPairOf (a b : Nat) (x y : Int) (w : World) (hx : FlI .f64 178 a x) (hy : FlI .f64 178 b y) :
    Calls Tryz.prog 85 #[.complex .f64 a b] w fun e w' => e = .returned (.agg #[.int .i64 x, .int .i64 y]) ∧ Below w.heap.size w w' := by
  unfold FlI at hx hy
  go_enter Tryz.func85, Tryz.ntmps85
  go_wp2
  refine bodyPost_ret ?_ rfl ⟨rfl, (by (repeat' (first | with_reducible exact Below.refl _ _ | (with_reducible refine below_later_of ?_ ?_ _) | (with_reducible refine Below.alloc ?_ ?_ _) | (with_reducible refine Below.setCell ?_ ?_ _) | (with_reducible refine Below.drew ?_) | (simp; done) | (simp; omega) | omega)))⟩
  first | (simp [results, Tryz.results85, go_sem]; done) | simp [results, Tryz.results85, go_sem, ↓IntWalk.iteOmega]
set_option maxHeartbeats 1000000 in
theorem fTimes (x y u v : Int) (w : World) (hx : -1000000000 ≤ x ∧ x ≤ 1000000000) (hy : -1000000000 ≤ y ∧ y ≤ 1000000000) (hu : -1000000000 ≤ u ∧ u ≤ 1000000000) (hv : -1000000000 ≤ v ∧ v ≤ 1000000000) :
    Calls Tryz.prog 87 #[.agg #[.int .i64 x, .int .i64 y], .agg #[.int .i64 u, .int .i64 v]] w fun e w' => e = .returned (.agg #[.int .i64 (x * u + y * v), .int .i64 (y * u - x * v)]) ∧ Below w.heap.size w w' := by
  have m1 := mul_bd2 (x := x) (y := u) (A := 1000000000) (B := 1000000000) hx hu
  have m2 := mul_bd2 (x := y) (y := v) (A := 1000000000) (B := 1000000000) hy hv
  have m3 := mul_bd2 (x := y) (y := u) (A := 1000000000) (B := 1000000000) hy hu
  have m4 := mul_bd2 (x := x) (y := v) (A := 1000000000) (B := 1000000000) hx hv
  simp only [Int.reduceMul] at m1 m2 m3 m4
  obtain ⟨p1, p2⟩ := m1
  obtain ⟨p3, p4⟩ := m2
  obtain ⟨p5, p6⟩ := m3
  obtain ⟨p7, p8⟩ := m4
  go_enter Tryz.func87, Tryz.ntmps87
  go_wp2
  refine bodyPost_ret ?_ rfl ⟨rfl, (by (repeat' (first | with_reducible exact Below.refl _ _ | (with_reducible refine below_later_of ?_ ?_ _) | (with_reducible refine Below.alloc ?_ ?_ _) | (with_reducible refine Below.setCell ?_ ?_ _) | (with_reducible refine Below.drew ?_) | (simp; done) | (simp; omega) | omega)))⟩
  first | (simp [results, Tryz.results87, go_sem]; done) | simp [results, Tryz.results87, go_sem, ↓IntWalk.iteOmega]
set_option maxHeartbeats 2000000 in
theorem samples1 (A b off n cap : Nat) (lines samples : Int) (f : Nat → Nat × Nat) (X Y : Nat → Int) (l s i : Nat) (w : World) (hA : ImgBlk w A lines samples (some ⟨b, off, none⟩) n cap) (hf : SamplesAt w b off n f)
    (h1 : 1 ≤ samples) (h2 : samples ≤ 64) (hl : l ≤ 64) (hs : s ≤ 64) (hx : (l : Int) * samples + s = (i : Int)) (hn : i < n) (hAw : A < w.heap.size) (hbw : b < w.heap.size) (hX : SmallS n f X Y 2047) :
    Calls Tryz.prog 84 #[.int .i64 l, .int .i64 s, .pointer (some ⟨A, 0, none⟩)] w fun e w' => e = .returned (.agg #[.int .i64 (X i), .int .i64 (Y i)]) ∧ Below w.heap.size w w' := by
  obtain ⟨a0, a1, a2⟩ := hA
  have ci := hf i hn
  obtain ⟨sn, ⟨p5, p6⟩, p7, p8⟩ := hX i hn
  obtain ⟨za, zb, hcv, hcn⟩ := wide_c sn
  have cw := fun w => run_wide hcv w
  have HPO := Lib.hid (fun w => fPairOf za zb (X i) (Y i) w (flD hcn.re (by omega) (by omega)) (flD hcn.im (by omega) (by omega)))
  have hp : 0 ≤ (l : Int) * samples ∧ (l : Int) * samples ≤ 4096 := by
    refine ⟨Int.mul_nonneg (Int.natCast_nonneg l) (by omega), ?_⟩
    have := Int.mul_le_mul (show (l : Int) ≤ 64 by omega) h2 (by omega) (by decide)
    omega
  obtain ⟨r1, r2⟩ := hp
  generalize X i = x at *
  generalize Y i = y at *
  have hi0 : (0 : Int) ≤ (i : Int) := by omega
  have hi1 : (i : Int) < (n : Int) := by omega
  clear hf hX sn hcv hcn
  go_enter Tryz.func84, Tryz.ntmps84
  go_wp2_with (first | (go_at_call 85; (with_reducible refine (HPO.out _).mono ?_); rintro e w' ⟨rfl, hb⟩; obtain ⟨p1, rfl⟩ := later_of_below hb; clear hb))
  refine bodyPost_ret ?_ rfl ⟨rfl, (by (repeat' (first | with_reducible exact Below.refl _ _ | (with_reducible refine below_later_of ?_ ?_ _) | (with_reducible refine Below.alloc ?_ ?_ _) | (with_reducible refine Below.setCell ?_ ?_ _) | (with_reducible refine Below.drew ?_) | (simp; done) | (simp; omega) | omega)))⟩
  first | (simp [results, Tryz.results84, go_sem]; done) | simp [results, Tryz.results84, go_sem, ↓IntWalk.iteOmega]
def partsF (X Y : Nat → Int) (i : Nat) : Int × Int := (X i, Y i)
set_option maxHeartbeats 2000000 in
theorem fSamplesOf (L S n cap : Nat) (b off : Nat) (f : Nat → Nat × Nat) (X Y : Nat → Int) (w : World) (hn : n = L * S) (hL1 : 1 ≤ L) (hL : L ≤ 64) (hS1 : 1 ≤ S) (hS : S ≤ 64) (hbw : b < w.heap.size) (hf : SamplesAt w b off n f) (hX : SmallS n f X Y 2047) :
    Calls Tryz.prog 37 #[.agg #[.int .i64 L, .int .i64 S, .slice (some ⟨b, off, none⟩) n cap]] w (GrPost L S n (partsF X Y) w) := by
  have HMA := Lib.hid (show ∀ W, Below w.heap.size w W → W.cell? ⟨w.heap.size, 0, none⟩ = some (.int .i64 L) → W.cell? ⟨w.heap.size, 1, none⟩ = some (.int .i64 S) → W.cell? ⟨w.heap.size, 2, none⟩ = some (.slice (some ⟨b, off, none⟩) n cap) → Calls Tryz.prog 83 #[.int .i64 L, .int .i64 S, .func (.func 84) #[] #[.pointer (some ⟨w.heap.size, 0, none⟩)]] W (GrPost L S n (partsF X Y) W) from fun W hW c0 c1 c2 => by
    have hlt : w.heap.size < W.heap.size := World.block_lt_of_cell? _ _ c0
    have := mapped_pr L S 84 #[.pointer (some ⟨w.heap.size, 0, none⟩)] (partsF X Y) W hL hS (enters_of Tryz.func84 (by kernel_rfl) rfl) (fun W2 hW2 l s hl hs => by
      have hs2 := hW2.size
      have hin : l * S + s < n := by
        have h1 : (l + 1) * S ≤ L * S := Nat.mul_le_mul_right _ hl
        rw [Nat.add_mul, Nat.one_mul] at h1
        omega
      exact samples1 w.heap.size b off n cap L S f X Y l s (l * S + s) W2 ⟨(hW2.cell hlt).trans c0, (hW2.cell hlt).trans c1, (hW2.cell hlt).trans c2⟩ ((hf.below hbw hW).below (by have := hW.size; omega) hW2) (by omega) (by omega) (by omega) (by omega) (by rw [Int.natCast_add, Int.natCast_mul]) hin (by omega) (by have := hW.size; omega) hX)
    rwa [← hn] at this)
  clear hf hX hn
  go_enter Tryz.func37, Tryz.ntmps37
  go_wp2_with (first | (go_at_call 83; (with_reducible refine (HMA.out _ (by (repeat' (first | with_reducible exact Below.refl _ _ | (with_reducible refine below_later_of ?_ ?_ _) | (with_reducible refine Below.alloc ?_ ?_ _) | (with_reducible refine Below.setCell ?_ ?_ _) | (with_reducible refine Below.drew ?_) | (simp; done) | (simp; omega) | omega))) (by (first | (simp [go_sem]; done) | simp [go_sem, ↓IntWalk.iteOmega])) (by (first | (simp [go_sem]; done) | simp [go_sem, ↓IntWalk.iteOmega])) (by (first | (simp [go_sem]; done) | simp [go_sem, ↓IntWalk.iteOmega]))).mono ?_); rintro e w' ⟨a', c', rfl, how, hcap, hb⟩; have HOW := Lib.hid how; have HCP := Lib.hid hcap; clear how hcap; have HB9 := Lib.hid hb; have hz9 := hb.size; obtain ⟨p1, rfl⟩ := later_of_below hb; clear hb))
  refine bodyPost_ret ?_ rfl ⟨a', c', rfl, OwnPr.mono (OwnPr.set (OwnPr.set (OwnPr.set HOW.out ?_ _) ?_ _) ?_ _) ?_, HCP.out, (by (repeat' (first | with_reducible exact Below.refl _ _ | (with_reducible refine below_later_of ?_ ?_ _) | (with_reducible refine Below.alloc ?_ ?_ _) | (with_reducible refine Below.setCell ?_ ?_ _) | (with_reducible refine Below.drew ?_) | (simp; done) | (simp; omega) | omega)))⟩
  · first | (simp [results, Tryz.results37, go_sem]; done) | simp [results, Tryz.results37, go_sem, ↓IntWalk.iteOmega]
  all_goals first | omega | (simp <;> omega)
/-- The product of a pair with the conjugate of another one. -/
def tmP (p q : Int × Int) : Int × Int := (p.1 * q.1 + p.2 * q.2, p.2 * q.1 - p.1 * q.2)
def prodF (F G : Nat → Int × Int) (i : Nat) : Int × Int := tmP (F i) (G i)
def SmallP (n : Nat) (F : Nat → Int × Int) (B : Int) : Prop := ∀ k, k < n → (-B ≤ (F k).1 ∧ (F k).1 ≤ B) ∧ -B ≤ (F k).2 ∧ (F k).2 ≤ B
set_option maxRecDepth 20000 in
set_option maxHeartbeats 2000000 in
theorem products1 (A B g h n ca cb : Nat) (lines lines' samples' : Int) (S : Nat) (F G : Nat → Int × Int) (l s i : Nat) (w : World) (hA : ImgBlk w A lines S (some ⟨g, 0, none⟩) n ca) (hB : ImgBlk w B lines' samples' (some ⟨h, 0, none⟩) n cb) (hg : g < w.heap.size) (hh : h < w.heap.size) (hAw : A < w.heap.size) (hBw : B < w.heap.size) (hF : PairsAt w g n F) (hG : PairsAt w h n G)
    (h1 : 1 ≤ S) (h2 : S ≤ 64) (hl : l ≤ 64) (hs : s ≤ 64) (hx : l * S + s = i) (hn : i < n) (sF : SmallP n F 1000000000) (sG : SmallP n G 1000000000) :
    Calls Tryz.prog 86 #[.int .i64 l, .int .i64 s, .pointer (some ⟨A, 0, none⟩), .pointer (some ⟨B, 0, none⟩)] w fun e w' => e = .returned (.agg #[.int .i64 (prodF F G i).1, .int .i64 (prodF F G i).2]) ∧ Below w.heap.size w w' := by
  obtain ⟨a0, a1, a2⟩ := hA
  obtain ⟨b0, b1, b2⟩ := hB
  obtain ⟨c1, c2⟩ := hF i hn
  obtain ⟨d1, d2⟩ := hG i hn
  obtain ⟨f1, f2⟩ := sF i hn
  obtain ⟨k1, k2⟩ := sG i hn
  have HTI := Lib.hid (fun w => fTimes (F i).1 (F i).2 (G i).1 (G i).2 w f1 f2 k1 k2)
  have HP1 := Lib.hid (show (prodF F G i).1 = (F i).1 * (G i).1 + (F i).2 * (G i).2 from rfl)
  have HP2 := Lib.hid (show (prodF F G i).2 = (F i).2 * (G i).1 - (F i).1 * (G i).2 from rfl)
  rw [HP1.out, HP2.out]
  generalize (F i).1 * (G i).1 + (F i).2 * (G i).2 = m1 at *
  generalize (F i).2 * (G i).1 - (F i).1 * (G i).2 = m2 at *
  generalize (F i).1 = x at *
  generalize (F i).2 = y at *
  generalize (G i).1 = u at *
  generalize (G i).2 = v at *
  have hidx := idx_cast4 hx
  have hp : 0 ≤ (l : Int) * (S : Int) ∧ (l : Int) * (S : Int) ≤ 4096 := by
    refine ⟨Int.mul_nonneg (Int.natCast_nonneg l) (by omega), ?_⟩
    have := Int.mul_le_mul (show (l : Int) ≤ 64 by omega) (show (S : Int) ≤ 64 by omega) (by omega) (by decide)
    omega
  obtain ⟨r1, r2⟩ := hp
  have hi0 : (0 : Int) ≤ (i : Int) := by omega
  have hi1 : (i : Int) < (n : Int) := by omega
  clear hF hG sF sG hx f1 f2 k1 k2 HP1 HP2
  go_enter Tryz.func86, Tryz.ntmps86
  go_wp2
  refine wp_region_calm_tail 21 (by kernel_rfl) (by kernel_rfl) ?_
  simp only [List.take_succ_cons, List.take_zero, List.drop_succ_cons, List.drop_zero]
  repeat (go_big_quiet_step ((go_at_call 87; exact calm_of (HTI.out _))))
  refine wpQuiet_nil ?_
  rintro _ ⟨pz, rfl⟩
  go_wp2
  refine bodyPost_ret ?_ rfl ⟨rfl, (by (repeat' (first | with_reducible exact Below.refl _ _ | (with_reducible refine below_later_of ?_ ?_ _) | (with_reducible refine Below.alloc ?_ ?_ _) | (with_reducible refine Below.setCell ?_ ?_ _) | (with_reducible refine Below.drew ?_) | (simp; done) | (simp; omega) | omega)))⟩
  first | (simp [results, Tryz.results86, go_sem]; done) | simp [results, Tryz.results86, go_sem, ↓IntWalk.iteOmega]
set_option maxHeartbeats 2000000 in
theorem fProducts (L S n ca cb : Nat) (g h : Nat) (F G : Nat → Int × Int) (w : World) (hn : n = L * S) (hL1 : 1 ≤ L) (hL : L ≤ 64) (hS1 : 1 ≤ S) (hS : S ≤ 64) (hg : g < w.heap.size) (hh : h < w.heap.size) (hF : PairsAt w g n F) (hG : PairsAt w h n G) (sF : SmallP n F 1000000000) (sG : SmallP n G 1000000000) :
    Calls Tryz.prog 38 #[.agg #[.int .i64 L, .int .i64 S, .slice (some ⟨g, 0, none⟩) n ca], .agg #[.int .i64 L, .int .i64 S, .slice (some ⟨h, 0, none⟩) n cb]] w (GrPost L S n (prodF F G) w) := by
  have HMA := Lib.hid (show ∀ W, Below w.heap.size w W → W.cell? ⟨w.heap.size, 0, none⟩ = some (.int .i64 L) → W.cell? ⟨w.heap.size, 1, none⟩ = some (.int .i64 S) → W.cell? ⟨w.heap.size, 2, none⟩ = some (.slice (some ⟨g, 0, none⟩) n ca) → W.cell? ⟨w.heap.size + 1, 0, none⟩ = some (.int .i64 L) → W.cell? ⟨w.heap.size + 1, 1, none⟩ = some (.int .i64 S) → W.cell? ⟨w.heap.size + 1, 2, none⟩ = some (.slice (some ⟨h, 0, none⟩) n cb) → Calls Tryz.prog 83 #[.int .i64 L, .int .i64 S, .func (.func 86) #[] #[.pointer (some ⟨w.heap.size, 0, none⟩), .pointer (some ⟨w.heap.size + 1, 0, none⟩)]] W (GrPost L S n (prodF F G) W) from fun W hW c0 c1 c2 d0 d1 d2 => by
    have hlt : w.heap.size < W.heap.size := World.block_lt_of_cell? _ _ c0
    have hlt2 : w.heap.size + 1 < W.heap.size := World.block_lt_of_cell? _ _ d0
    have := mapped_pr L S 86 #[.pointer (some ⟨w.heap.size, 0, none⟩), .pointer (some ⟨w.heap.size + 1, 0, none⟩)] (prodF F G) W hL hS (enters_of Tryz.func86 (by kernel_rfl) rfl) (fun W2 hW2 l s hl hs => by
      have hs2 := hW2.size
      have hs1 := hW.size
      have hin : l * S + s < n := by
        have h1 : (l + 1) * S ≤ L * S := Nat.mul_le_mul_right _ hl
        rw [Nat.add_mul, Nat.one_mul] at h1
        omega
      exact products1 w.heap.size (w.heap.size + 1) g h n ca cb L L S S F G l s (l * S + s) W2 ⟨(hW2.cell hlt).trans c0, (hW2.cell hlt).trans c1, (hW2.cell hlt).trans c2⟩ ⟨(hW2.cell hlt2).trans d0, (hW2.cell hlt2).trans d1, (hW2.cell hlt2).trans d2⟩ (by omega) (by omega) (by omega) (by omega) ((hF.below hg hW).below (by omega) hW2) ((hG.below hh hW).below (by omega) hW2) (by omega) (by omega) (by omega) (by omega) rfl hin sF sG)
    rwa [← hn] at this)
  clear hF hG hn sF sG
  go_enter Tryz.func38, Tryz.ntmps38
  go_wp2_with (first | (go_at_call 83; (with_reducible refine (HMA.out _ (by (repeat' (first | with_reducible exact Below.refl _ _ | (with_reducible refine below_later_of ?_ ?_ _) | (with_reducible refine Below.alloc ?_ ?_ _) | (with_reducible refine Below.setCell ?_ ?_ _) | (with_reducible refine Below.drew ?_) | (simp; done) | (simp; omega) | omega))) (by (first | (simp [go_sem]; done) | simp [go_sem, ↓IntWalk.iteOmega])) (by (first | (simp [go_sem]; done) | simp [go_sem, ↓IntWalk.iteOmega])) (by (first | (simp [go_sem]; done) | simp [go_sem, ↓IntWalk.iteOmega])) (by (first | (simp [go_sem]; done) | simp [go_sem, ↓IntWalk.iteOmega])) (by (first | (simp [go_sem]; done) | simp [go_sem, ↓IntWalk.iteOmega])) (by (first | (simp [go_sem]; done) | simp [go_sem, ↓IntWalk.iteOmega]))).mono ?_); rintro e w' ⟨a', c', rfl, how, hcap, hb⟩; have HOW := Lib.hid how; have HCP := Lib.hid hcap; clear how hcap; obtain ⟨p1, rfl⟩ := later_of_below hb; clear hb))
  refine bodyPost_ret ?_ rfl ⟨a', c', rfl, OwnPr.mono (OwnPr.set (OwnPr.set (OwnPr.set HOW.out ?_ _) ?_ _) ?_ _) ?_, HCP.out, (by (repeat' (first | with_reducible exact Below.refl _ _ | (with_reducible refine below_later_of ?_ ?_ _) | (with_reducible refine Below.alloc ?_ ?_ _) | (with_reducible refine Below.setCell ?_ ?_ _) | (with_reducible refine Below.drew ?_) | (simp; done) | (simp; omega) | omega)))⟩
  · first | (simp [results, Tryz.results38, go_sem]; done) | simp [results, Tryz.results38, go_sem, ↓IntWalk.iteOmega]
  all_goals first | omega | (simp <;> omega)
end Go.Proofs.YtkoiknmijjiicaaGreatDoor

/- Chapter 4: a field of pairs. -/
namespace Go.Proofs.YtkoiknmijjiicaaGreatDoor
set_option linter.unusedVariables false
set_option linter.unusedSimpArgs false
open Go.RowKit Ieee Ntt
theorem any_worldF {G : World → Prop} {w : World} (F : World → Prop) (hf : F w) (h : ∀ W, F W → G W) : G w := h w hf
/-- A part is too large for a field. -/
def largeB (p : Int × Int) : Bool := !(inE (-1000000000) 1000000000 p.1 && inE (-1000000000) 1000000000 p.2)
set_option maxHeartbeats 1000000 in
theorem fLarge (x y : Int) (w : World) {c : Bool} (hc : largeB (x, y) = c) : Calls Tryz.prog 117 #[.agg #[.int .i64 x, .int .i64 y]] w fun e w' => e = .returned (.bool c) ∧ Below w.heap.size w w' := by
  unfold largeB at hc
  dsimp only at hc
  obtain ⟨q1, hq1⟩ : ∃ q1, inE (-1000000000) 1000000000 x = q1 := ⟨_, rfl⟩
  obtain ⟨q2, hq2⟩ : ∃ q2, inE (-1000000000) 1000000000 y = q2 := ⟨_, rfl⟩
  rw [hq1, hq2] at hc
  have H1 := Lib.hid hq1
  have H2 := Lib.hid hq2
  subst hc
  clear hq1 hq2
  cases q1
  · go_enter Tryz.func117, Tryz.ntmps117
    go_wp2_with (first | (go_at_call 64; (with_reducible refine (fWithin _ _ _ _ H1.out).mono ?_); rintro e w' ⟨rfl, rfl⟩))
    go_ret
    exact ⟨rfl, (by (repeat' (first | with_reducible exact Below.refl _ _ | (with_reducible refine below_later_of ?_ ?_ _) | (with_reducible refine Below.alloc ?_ ?_ _) | (with_reducible refine Below.setCell ?_ ?_ _) | (with_reducible refine Below.drew ?_) | (simp; done) | (simp; omega) | omega)))⟩
  · go_enter Tryz.func117, Tryz.ntmps117
    go_wp2_with (first | (go_at_call 64; (with_reducible refine (fWithin _ _ _ _ H1.out).mono ?_); rintro e w' ⟨rfl, rfl⟩) | (go_at_call 64; (with_reducible refine (fWithin _ _ _ _ H2.out).mono ?_); rintro e w' ⟨rfl, rfl⟩))
    go_ret
    exact ⟨by simp, (by (repeat' (first | with_reducible exact Below.refl _ _ | (with_reducible refine below_later_of ?_ ?_ _) | (with_reducible refine Below.alloc ?_ ?_ _) | (with_reducible refine Below.setCell ?_ ?_ _) | (with_reducible refine Below.drew ?_) | (simp; done) | (simp; omega) | omega)))⟩
def anyL (n : Nat) (F : Nat → Int × Int) : Bool := (List.range n).any fun k => largeB (F k)
theorem anyL_hit {n k : Nat} {F : Nat → Int × Int} (hk : k < n) (h : largeB (F k) = true) : anyL n F = true := by
  unfold anyL
  rw [List.any_eq_true]
  exact ⟨k, List.mem_range.2 hk, h⟩
theorem anyL_no {n : Nat} {F : Nat → Int × Int} (h : ∀ j, j < n → largeB (F j) = false) : anyL n F = false := by
  unfold anyL
  rw [List.any_eq_false]
  intro j hj
  rw [h j (List.mem_range.1 hj)]
  decide
theorem anyL_off {n : Nat} {F : Nat → Int × Int} (h : anyL n F = false) : SmallP n F 1000000000 := fun k hk => by
  unfold anyL at h
  rw [List.any_eq_false] at h
  have := h k (List.mem_range.2 hk)
  unfold largeB at this
  simp only [Bool.not_eq_true, Bool.not_eq_false', Bool.and_eq_true] at this
  exact ⟨inE_iff.1 this.1, inE_iff.1 this.2⟩
theorem small_anyL {n : Nat} {F : Nat → Int × Int} (h : SmallP n F 1000000000) : anyL n F = false := anyL_no fun j hj => by
  obtain ⟨h1, h2⟩ := h j hj
  unfold largeB
  rw [inE_iff.2 h1, inE_iff.2 h2]
  rfl
set_option maxHeartbeats 1000000 in
theorem indexFunc_pr (n g cap : Nat) (F : Nat → Int × Int) (w : World) (hl : n ≤ 100000) (hg : g < w.heap.size) (hf : PairsAt w g n F) :
    Calls Tryz.prog 138 #[.slice (some ⟨g, 0, none⟩) n cap, .func (.func 117) #[] #[]] w fun e w' => ∃ i : Int, e = .returned (.int .i64 i) ∧ decide (0 ≤ i) = anyL n F ∧ (-1 ≤ i ∧ i ≤ 100000) ∧ Below w.heap.size w w' := by
  have HF := Lib.hid hf
  clear hf
  go_enter Tryz.func138, Tryz.ntmps138
  go_wp2
  go_loopw [8] (fun i wr => ∃ k : Nat, k ≤ n ∧ i = .int .i64 k ∧ Below w.heap.size w wr ∧ ∀ j, j < k → largeB (F j) = false) (fun i _ => n - (intOf i).toNat)
  case atStart => exact ⟨0, Nat.zero_le _, rfl, Below.refl _ _, fun j hj => absurd hj (Nat.not_lt_zero _)⟩
  case round =>
    obtain ⟨k, hk, rfl, hbe, hz⟩ := hrel
    have HZ := Lib.hid hz
    have HB := Lib.hid hbe
    have hsz := hbe.size
    by_cases hlt : k < n
    · have hdk : decide ((k : Int) < (n : Int)) = true := by simp; omega
      have hk0 : (0 : Int) ≤ (k : Int) := by omega
      have hk1 : (k : Int) < (n : Int) := by omega
      have c1 := (hbe.cell (p := ⟨g, k * 2, none⟩) hg).trans (HF.out k hlt).1
      have c2 := (hbe.cell (p := ⟨g, k * 2 + 1, none⟩) hg).trans (HF.out k hlt).2
      have hgr : g < wr.heap.size := by omega
      clear hz hbe
      rcases (show largeB (F k) = false ∨ largeB (F k) = true by cases largeB (F k) <;> simp) with h0 | h0
      · have HP := Lib.hid (fun W => fLarge (F k).1 (F k).2 W h0)
        have H0 := Lib.hid h0
        clear h0
        generalize (F k).1 = x at *
        generalize (F k).2 = y at *
        go_wp2_with (first | (go_at_call 117; (with_reducible refine (HP.out _).mono ?_); rintro e w' ⟨rfl, hb⟩; obtain ⟨p1, rfl⟩ := later_of_below hb; clear hb))
        go_roundw
        case rel => exact ⟨k + 1, by omega, by go_num, HB.out.trans (below_mono_of hsz (by (repeat' (first | with_reducible exact Below.refl _ _ | (with_reducible refine below_later_of ?_ ?_ _) | (with_reducible refine Below.alloc ?_ ?_ _) | (with_reducible refine Below.setCell ?_ ?_ _) | (with_reducible refine Below.drew ?_) | (simp; done) | (simp; omega) | omega)))), fun j hj => by rcases Nat.lt_succ_iff_lt_or_eq.1 hj with h | rfl; exact HZ.out j h; exact H0.out⟩
        case measure => simp [intOf]; omega
      · have HP := Lib.hid (fun W => fLarge (F k).1 (F k).2 W h0)
        have H0 := Lib.hid (anyL_hit hlt h0)
        clear h0
        generalize (F k).1 = x at *
        generalize (F k).2 = y at *
        go_wp2_with (first | (go_at_call 117; (with_reducible refine (HP.out _).mono ?_); rintro e w' ⟨rfl, hb⟩; obtain ⟨p1, rfl⟩ := later_of_below hb; clear hb))
        go_ret
        exact ⟨k, rfl, by rw [H0.out]; simp, by omega, HB.out.trans (below_mono_of hsz (by (repeat' (first | with_reducible exact Below.refl _ _ | (with_reducible refine below_later_of ?_ ?_ _) | (with_reducible refine Below.alloc ?_ ?_ _) | (with_reducible refine Below.setCell ?_ ?_ _) | (with_reducible refine Below.drew ?_) | (simp; done) | (simp; omega) | omega))))⟩
    · obtain rfl : k = n := by omega
      have hdk : decide ((k : Int) < (k : Int)) = false := by simp
      have H0 := Lib.hid (anyL_no hz)
      clear hz hbe
      go_wp2
      go_ret
      exact ⟨-1, rfl, by rw [H0.out]; decide, by omega, HB.out⟩
set_option maxHeartbeats 1000000 in
theorem containsFunc_pr (n g cap : Nat) (F : Nat → Int × Int) (w : World) (hl : n ≤ 100000) (hg : g < w.heap.size) (hf : PairsAt w g n F) {c : Bool} (hc : anyL n F = c) :
    Calls Tryz.prog 116 #[.slice (some ⟨g, 0, none⟩) n cap, .func (.func 117) #[] #[]] w fun e w' => e = .returned (.bool c) ∧ Below w.heap.size w w' := by
  have HI := Lib.hid (indexFunc_pr n g cap F w hl hg hf)
  rw [hc] at HI
  clear hf hc
  go_enter Tryz.func116, Tryz.ntmps116
  go_wp2_with (first | (go_at_call 138; (with_reducible refine (HI.out).mono ?_); rintro e w' ⟨i, rfl, hc, ⟨hi1, hi2⟩, hb⟩; have HC := Lib.hid hc; clear hc; obtain ⟨p1, rfl⟩ := later_of_below hb; clear hb))
  go_ret
  exact ⟨ret_bool HC.out, (by (repeat' (first | with_reducible exact Below.refl _ _ | (with_reducible refine below_later_of ?_ ?_ _) | (with_reducible refine Below.alloc ?_ ?_ _) | (with_reducible refine Below.setCell ?_ ?_ _) | (with_reducible refine Below.drew ?_) | (simp; done) | (simp; omega) | omega)))⟩
set_option maxHeartbeats 1000000 in
theorem fNumber (x y : Int) (w : World) : Calls Tryz.prog 118 #[.agg #[.int .i64 x, .int .i64 y]] w fun e w' => e = .returned (.complex .f64 (f64I x) (f64I y)) ∧ Below w.heap.size w w' := by
  have h1 := fun w => conv_f64 x w
  have h2 := fun w => conv_f64 y w
  generalize f64I x = a at *
  generalize f64I y = b at *
  go_enter Tryz.func118, Tryz.ntmps118
  go_wp2
  go_ret
  exact ⟨rfl, (by (repeat' (first | with_reducible exact Below.refl _ _ | (with_reducible refine below_later_of ?_ ?_ _) | (with_reducible refine Below.alloc ?_ ?_ _) | (with_reducible refine Below.setCell ?_ ?_ _) | (with_reducible refine Below.drew ?_) | (simp; done) | (simp; omega) | omega)))⟩
/-- The numbers of pairs. -/
def nmF (F : Nat → Int × Int) (i : Nat) : Nat × Nat := (f64I (F i).1, f64I (F i).2)
/-- A field that is returned without an error. -/
def FdPost4 (L S n : Nat) (f : Nat → Nat × Nat) (w : World) (e : Ending) (w' : World) : Prop :=
  ∃ a c, e = .returned (.tuple #[.agg #[.int .i64 L, .int .i64 S, .slice a n c], .int .i64 0]) ∧ OwnS w' w.heap.size n f a ∧ n ≤ c ∧ Below w.heap.size w w'
set_option maxHeartbeats 1000000 in
theorem fieldOf_large (L S n cap g : Nat) (F : Nat → Int × Int) (w : World) (hl : n ≤ 100000) (hg : g < w.heap.size) (hf : PairsAt w g n F) (hc : anyL n F = true) :
    Calls Tryz.prog 79 #[.agg #[.int .i64 L, .int .i64 S, .slice (some ⟨g, 0, none⟩) n cap]] w fun e w' => e = .returned (.tuple #[.agg #[.int .i64 0, .int .i64 0, .slice none 0 0], .int .i64 8]) ∧ Below w.heap.size w w' := by
  have HCF := Lib.hid (show ∀ W, Below w.heap.size w W → _ from fun W hW => containsFunc_pr n g cap F W hl (by have := hW.size; omega) (hf.below hg hW) hc)
  clear hf hc
  go_enter Tryz.func79, Tryz.ntmps79
  go_wp2_with (first | (go_at_call 116; (with_reducible refine (HCF.out _ (by (repeat' (first | with_reducible exact Below.refl _ _ | (with_reducible refine below_later_of ?_ ?_ _) | (with_reducible refine Below.alloc ?_ ?_ _) | (with_reducible refine Below.setCell ?_ ?_ _) | (with_reducible refine Below.drew ?_) | (simp; done) | (simp; omega) | omega)))).mono ?_); rintro e w' ⟨rfl, hb⟩; obtain ⟨p1, rfl⟩ := later_of_below hb; clear hb))
  refine bodyPost_ret ?_ rfl ⟨rfl, (by (repeat' (first | with_reducible exact Below.refl _ _ | (with_reducible refine below_later_of ?_ ?_ _) | (with_reducible refine Below.alloc ?_ ?_ _) | (with_reducible refine Below.setCell ?_ ?_ _) | (with_reducible refine Below.drew ?_) | (simp; done) | (simp; omega) | omega)))⟩
  first | (simp [results, Tryz.results79, go_sem]; done) | simp [results, Tryz.results79, go_sem, ↓IntWalk.iteOmega]
set_option maxRecDepth 20000 in
set_option maxHeartbeats 4000000 in
theorem fieldOf_ok (L S n cap g : Nat) (F : Nat → Int × Int) (w : World) (hl : n ≤ 5000) (hg : g < w.heap.size) (hf : PairsAt w g n F) (hc : anyL n F = false) :
    Calls Tryz.prog 79 #[.agg #[.int .i64 L, .int .i64 S, .slice (some ⟨g, 0, none⟩) n cap]] w (FdPost4 L S n (nmF F) w) := by
  obtain ⟨i0, hi0, hz0, hz1, hz2⟩ := info_parts infoC
  have HCF := Lib.hid (show ∀ W, Below w.heap.size w W → _ from fun W hW => containsFunc_pr n g cap F W (by omega) (by have := hW.size; omega) (hf.below hg hW) hc)
  have HF := Lib.hid hf
  clear hf hc
  go_enter Tryz.func79, Tryz.ntmps79
  go_wp2_with (first | (go_at_call 116; (with_reducible refine (HCF.out _ (by (repeat' (first | with_reducible exact Below.refl _ _ | (with_reducible refine below_later_of ?_ ?_ _) | (with_reducible refine Below.alloc ?_ ?_ _) | (with_reducible refine Below.setCell ?_ ?_ _) | (with_reducible refine Below.drew ?_) | (simp; done) | (simp; omega) | omega)))).mono ?_); rintro e w' ⟨rfl, hb⟩; obtain ⟨p1, rfl⟩ := later_of_below hb; clear hb))
  obtain ⟨O, hO⟩ : ∃ O, O = w.heap.size + 1 + 1 + p1.os.size := ⟨_, rfl⟩
  refine any_worldF (fun W => ∃ W1, Below w.heap.size w W1 ∧ W1.heap.size = w.heap.size + 1 ∧ W1.cell? ⟨w.heap.size, 2, none⟩ = some (.slice (some ⟨g, 0, none⟩) n cap) ∧ TriN W1 (w.heap.size + 1) O L S 78 1 (.slice none 0 0) 0 (cvF (nmF F) 0) W)
    ⟨w.alloc (.cells #[.int .i64 L, .int .i64 S, .slice (some ⟨g, 0, none⟩) n cap] 84), (by (repeat' (first | with_reducible exact Below.refl _ _ | (with_reducible refine below_later_of ?_ ?_ _) | (with_reducible refine Below.alloc ?_ ?_ _) | (with_reducible refine Below.setCell ?_ ?_ _) | (with_reducible refine Below.drew ?_) | (simp; done) | (simp; omega) | omega))), by simp, by simp [go_sem], by rw [hO]; simp [go_sem], by rw [hO]; simp [go_sem], by rw [hO]; simp [go_sem], by rw [hO]; simp [go_sem], by (first | (simp [go_sem]; done) | simp [go_sem, ↓IntWalk.iteOmega]), by (first | (simp [go_sem]; done) | simp [go_sem, ↓IntWalk.iteOmega]), by (first | (simp [go_sem]; done) | simp [go_sem, ↓IntWalk.iteOmega]), by (first | (simp [go_sem]; done) | simp [go_sem, ↓IntWalk.iteOmega]), by (first | (simp [go_sem]; done) | simp [go_sem, ↓IntWalk.iteOmega]), by (first | (simp [go_sem]; done) | simp [go_sem, ↓IntWalk.iteOmega]), World.ownsRow_nil _ _ _ _, (by (repeat' (first | with_reducible exact Below.refl _ _ | (with_reducible refine below_later_of ?_ ?_ _) | (with_reducible refine Below.alloc ?_ ?_ _) | (with_reducible refine Below.setCell ?_ ?_ _) | (with_reducible refine Below.drew ?_) | (simp; done) | (simp; omega) | omega))), by rw [hO]; simp, by omega⟩ ?_
  rintro W2 ⟨W1, hb1, hsz1, q2, hst⟩
  simp only [← hO]
  have HST := Lib.hid hst
  have HB1 := Lib.hid hb1
  have Q2 := Lib.hid q2
  have k2 := (hst.bel.cell (p := ⟨w.heap.size, 2, none⟩) (Nat.lt_succ_self _)).trans q2
  clear hst hb1 q2 hO
  go_wp2
  go_loopw [19] (fun i wr => ∃ (k : Nat) (v : Value), k ≤ n ∧ i = .int .i64 k ∧ TriN W1 (w.heap.size + 1) O L S 78 1 v k (cvF (nmF F) k) wr) (fun i _ => n - (intOf i).toNat)
  case atStart => exact ⟨0, _, Nat.zero_le _, rfl, HST.out⟩
  case round =>
    clear k2
    obtain ⟨k, v, hk, rfl, hst⟩ := hrel
    have HS2 := Lib.hid hst
    by_cases hlt : k < n
    · have hdk : decide ((k : Int) < (n : Int)) = true := by simp; omega
      have hk0 : (0 : Int) ≤ (k : Int) := by omega
      have hk1 : (k : Int) < (n : Int) := by omega
      have x1 := (hst.bel.cell (p := ⟨g, k * 2, none⟩) (show g < w.heap.size + 1 by omega)).trans ((HB1.out.cell (p := ⟨g, k * 2, none⟩) hg).trans (HF.out k hlt).1)
      have x2 := (hst.bel.cell (p := ⟨g, k * 2 + 1, none⟩) (show g < w.heap.size + 1 by omega)).trans ((HB1.out.cell (p := ⟨g, k * 2 + 1, none⟩) hg).trans (HF.out k hlt).2)
      have HPN := Lib.hid (cvF_snoc (nmF F) k)
      have HNU := Lib.hid (fun W => fNumber (F k).1 (F k).2 W)
      have HFE := Lib.hid (show nmF F k = (f64I (F k).1, f64I (F k).2) from rfl)
      generalize (F k).1 = x at *
      generalize (F k).2 = y at *
      rw [HFE.out] at HPN
      generalize f64I x = re at *
      generalize f64I y = im at *
      have hltO := hst.lt
      have hgr : g < wr.heap.size := by have := hst.bel.size; omega
      have c2 := hst.c2
      have f2 := hst.f2
      clear hst
      go_wp2_with fail
      refine any_worldF (fun W => TriN W1 (w.heap.size + 1) O L S 78 1 v k (cvF (nmF F) k) W ∧ W.cell? ⟨wr.heap.size, 0, none⟩ = some (.int .i64 x) ∧ W.cell? ⟨wr.heap.size, 1, none⟩ = some (.int .i64 y) ∧ wr.heap.size < W.heap.size) ⟨HS2.out.below (by (repeat' (first | with_reducible exact Below.refl _ _ | (with_reducible refine below_later_of ?_ ?_ _) | (with_reducible refine Below.alloc ?_ ?_ _) | (with_reducible refine Below.setCell ?_ ?_ _) | (with_reducible refine Below.drew ?_) | (simp; done) | (simp; omega) | omega))), by simp [go_sem], by simp [go_sem], by simp⟩ ?_
      rintro W5 ⟨hst5, y1, y2, hl5⟩
      have HSX := Lib.hid hst5
      have c2 := hst5.c2
      have f2 := hst5.f2
      have hlt5 := hst5.lt
      clear hst5 x1 x2
      go_wp2_with fail
      go_region_law (first | (refine step_append_lies _ rfl (.tmp 24) (.tmp 27) 66 rfl (O + 1) 78 i0 (.complex .f64 0 0) 1 16 Tryz.underlying66 hi0 hz0 hz1 hz2 rfl (by decide) v k (cvF (nmF F) k) (by simp [Act.eval, Act.put]) (HSW.out.own.alloc _) ⟨wc.heap.size, 0, none⟩ 1 1 [.complex .f64 re im] (by simp [Act.eval, Act.put]) rfl (by intro j u hj; rcases j with _ | j; (focus (simp at hj; subst hj; (first | (simp [Addr.add, go_sem]; done) | simp [Addr.add, go_sem, ↓IntWalk.iteOmega]))); (focus (simp at hj))) (by intro u hu; simp at hu; subst hu; rfl) (by decide) (by unfold maxLen; omega) (by omega) (by first | omega | (simp; omega)) _ rfl ?_; intro g' cc' w1 hown' hgrow _ _; have HN2 := Lib.hid (HSW.out.put hown' hgrow); obtain ⟨hcb, hfb⟩ := HSW.out.still hgrow; clear hown' hgrow) | (go_simp; (go_at_call 118; (with_reducible refine (HNU.out _).mono ?_); rintro e wc ⟨rfl, hb⟩; have HSW := Lib.hid ((HSX.out.below (Below.refl _ _).drew).below hb); have c2w := HSW.out.c2; have f2w := HSW.out.f2; have hltw := HSW.out.lt; clear hb)))
      all_goals
        go_wp2
        go_roundw
        case rel => exact ⟨k + 1, _, by omega, by go_num, by rw [HPN.out]; exact HN2.out⟩
        case measure => simp [intOf]; omega
    · obtain rfl : k = n := by omega
      have hdk : decide ((k : Int) < (k : Int)) = false := by simp
      obtain ⟨a', c', rfl⟩ := own_slice2 hst.own
      obtain ⟨e0, e1, e2, -, r0, r1, r2, g0, g1, g2, hown, hbel, -, hro⟩ := hst
      have HOW := Lib.hid hown
      have HBE := Lib.hid (HB1.out.trans (hbel.mono (by omega)))
      clear hown hbel
      go_wp2
      refine bodyPost_ret ?_ rfl ⟨a', c', rfl, OwnS.mono (OwnS.set (OwnS.set (OwnS.set (ownS_row HOW.out) ?_ _) ?_ _) ?_ _) ?_, own_cap2 HOW.out, HBE.out.trans (by (repeat' (first | with_reducible exact Below.refl _ _ | (with_reducible refine below_later_of ?_ ?_ _) | (with_reducible refine Below.alloc ?_ ?_ _) | (with_reducible refine Below.setCell ?_ ?_ _) | (with_reducible refine Below.drew ?_) | (simp; done) | (simp; omega) | omega)))⟩
      · first | (simp [results, Tryz.results79, go_sem, r0, r1, r2]; done) | simp [results, Tryz.results79, go_sem, r0, r1, r2, ↓IntWalk.iteOmega]
      all_goals first | omega | (simp <;> omega)
end Go.Proofs.YtkoiknmijjiicaaGreatDoor

/- Chapter 4: the errors of images; Interfere. -/
namespace Go.Proofs.YtkoiknmijjiicaaGreatDoor
set_option linter.unusedVariables false
set_option linter.unusedSimpArgs false
open Go.RowKit Ieee Ntt
set_option maxHeartbeats 1000000 in
theorem fFirst2 (x y : Int) (b : Nat) (w : World) {e0 : Int} (he : first2 x y = e0) (h0 : w.cell? ⟨b, 0, none⟩ = some (.int .i64 x)) (h1 : w.cell? ⟨b, 1, none⟩ = some (.int .i64 y)) :
    Calls Tryz.prog 34 #[.slice (some ⟨b, 0, none⟩) 2 2] w fun e w' => e = .returned (.int .i64 e0) ∧ w = w' := by
  subst he
  by_cases hx : x = 0
  · have dx : (x != 0) = false := by simpa using hx
    by_cases hy : y = 0
    · have dy : (y != 0) = false := by simpa using hy
      have HF := Lib.hid (show first2 x y = 0 by unfold first2; rw [if_pos hx]; exact hy)
      clear hx hy
      go_enter Tryz.func34, Tryz.ntmps34
      go_wp2
      refine wp_loop_rounds 3 ?_
      rw [rounds_succ]
      go_wp2
      rw [rounds_succ]
      go_wp2
      rw [rounds_succ]
      go_wp2
      go_ret
      exact ⟨by rw [HF.out]; rfl, rfl⟩
    · have dy : (y != 0) = true := by simpa using hy
      have HF := Lib.hid (show first2 x y = y by unfold first2; rw [if_pos hx])
      clear hx hy
      go_enter Tryz.func34, Tryz.ntmps34
      go_wp2
      refine wp_loop_rounds 3 ?_
      rw [rounds_succ]
      go_wp2
      rw [rounds_succ]
      go_wp2
      go_ret
      exact ⟨by rw [HF.out]; rfl, rfl⟩
  · have dx : (x != 0) = true := by simpa using hx
    have HF := Lib.hid (show first2 x y = x by unfold first2; rw [if_neg hx])
    clear hx
    go_enter Tryz.func34, Tryz.ntmps34
    go_wp2
    refine wp_loop_rounds 3 ?_
    rw [rounds_succ]
    go_wp2
    go_ret
    exact ⟨by rw [HF.out]; rfl, rfl⟩
set_option maxHeartbeats 1000000 in
theorem fImageErr (L S : Int) (n cap : Nat) (f : Nat → Nat × Nat) (a : Option Addr) (w : World) (hl : n ≤ 100000) (hd : DataAt w L S n f a) {e0 : Int} (he : (imgE L S n f).2 = e0) :
    Calls Tryz.prog 82 #[.agg #[.int .i64 L, .int .i64 S, .slice a n cap]] w fun e w' => e = .returned (.int .i64 e0) ∧ Below w.heap.size w w' := by
  have HI := Lib.hid (show ∀ W, Below w.heap.size w W → _ from fun W hW => checkImage_any L S n cap f a W hl (hd.below hW) (i0 := (imgE L S n f).1) (e0 := e0) (by rw [← he]))
  clear hd he
  generalize (imgE L S n f).1 = i0 at HI
  go_enter Tryz.func82, Tryz.ntmps82
  go_wp2_with (first | (go_at_call 120; (with_reducible refine (HI.out _ (by (repeat' (first | with_reducible exact Below.refl _ _ | (with_reducible refine below_later_of ?_ ?_ _) | (with_reducible refine Below.alloc ?_ ?_ _) | (with_reducible refine Below.setCell ?_ ?_ _) | (with_reducible refine Below.drew ?_) | (simp; done) | (simp; omega) | omega)))).mono ?_); rintro e w' ⟨rfl, hb⟩; obtain ⟨pp, rfl⟩ := later_of_below hb; clear hb))
  go_ret
  exact ⟨rfl, (by (repeat' (first | with_reducible exact Below.refl _ _ | (with_reducible refine below_later_of ?_ ?_ _) | (with_reducible refine Below.alloc ?_ ?_ _) | (with_reducible refine Below.setCell ?_ ?_ _) | (with_reducible refine Below.drew ?_) | (simp; done) | (simp; omega) | omega)))⟩
/-- The error of two images together. -/
def pairE (L S : Int) (n : Nat) (f : Nat → Nat × Nat) (L' S' : Int) (n' : Nat) (f' : Nat → Nat × Nat) : Int :=
  if first2 (imgE L S n f).2 (imgE L' S' n' f').2 = 0 then (if L = L' ∧ S = S' then 0 else 13) else first2 (imgE L S n f).2 (imgE L' S' n' f').2
set_option maxRecDepth 20000 in
set_option maxHeartbeats 2000000 in
theorem fImagesErr (L S : Int) (n cap : Nat) (f : Nat → Nat × Nat) (a : Option Addr) (L' S' : Int) (n' cap' : Nat) (f' : Nat → Nat × Nat) (a' : Option Addr) (w : World) (hl : n ≤ 100000) (hl' : n' ≤ 100000) (hd : DataAt w L S n f a) (hd' : DataAt w L' S' n' f' a') {e0 : Int} (he : pairE L S n f L' S' n' f' = e0) :
    Calls Tryz.prog 35 #[.agg #[.int .i64 L, .int .i64 S, .slice a n cap], .agg #[.int .i64 L', .int .i64 S', .slice a' n' cap']] w fun e w' => e = .returned (.int .i64 e0) ∧ Below w.heap.size w w' := by
  have HE1 := Lib.hid (show ∀ W, Below w.heap.size w W → _ from fun W hW => fImageErr L S n cap f a W hl (hd.below hW) rfl)
  have HE2 := Lib.hid (show ∀ W, Below w.heap.size w W → _ from fun W hW => fImageErr L' S' n' cap' f' a' W hl' (hd'.below hW) rfl)
  unfold pairE at he
  generalize (imgE L S n f).2 = z1 at *
  generalize (imgE L' S' n' f').2 = z2 at *
  obtain ⟨z, hz⟩ : ∃ z, first2 z1 z2 = z := ⟨_, rfl⟩
  have HF := Lib.hid hz
  rw [hz] at he
  clear hd hd' hz
  by_cases h0 : z = 0
  · subst h0
    rw [if_pos rfl] at he
    by_cases h1 : L = L'
    · have d1 : (L != L') = false := by simpa using h1
      by_cases h2 : S = S'
      · have d2 : (S != S') = false := by simpa using h2
        rw [if_pos ⟨h1, h2⟩] at he
        subst he
        clear h1 h2
        go_enter Tryz.func35, Tryz.ntmps35
        go_wp2
        refine wp_region_calm_tail 4 (by kernel_rfl) (by kernel_rfl) ?_
        simp only [List.take_succ_cons, List.take_zero, List.drop_succ_cons, List.drop_zero]
        repeat (go_big_quiet_step (first | (go_at_call 82; with_reducible exact calm_of (HE1.out _ (by (repeat' (first | with_reducible exact Below.refl _ _ | (with_reducible refine below_later_of ?_ ?_ _) | (with_reducible refine Below.alloc ?_ ?_ _) | (with_reducible refine Below.setCell ?_ ?_ _) | (with_reducible refine Below.drew ?_) | (simp; done) | (simp; omega) | omega))))) | (go_at_call 82; with_reducible exact calm_of (HE2.out _ (by (repeat' (first | with_reducible exact Below.refl _ _ | (with_reducible refine below_later_of ?_ ?_ _) | (with_reducible refine Below.alloc ?_ ?_ _) | (with_reducible refine Below.setCell ?_ ?_ _) | (with_reducible refine Below.drew ?_) | (simp; done) | (simp; omega) | omega)))))))
        refine wpQuiet_nil ?_
        rintro _ ⟨pz, rfl⟩
        go_wp2_with (first | (go_at_call 34; refine (fFirst2 _ _ _ _ HF.out (by (first | (simp [go_sem]; done) | simp [go_sem, ↓IntWalk.iteOmega])) (by (first | (simp [go_sem]; done) | simp [go_sem, ↓IntWalk.iteOmega]))).mono ?_; rintro e w' ⟨rfl, rfl⟩))
        go_ret
        exact ⟨rfl, (by (repeat' (first | with_reducible exact Below.refl _ _ | (with_reducible refine below_later_of ?_ ?_ _) | (with_reducible refine Below.alloc ?_ ?_ _) | (with_reducible refine Below.setCell ?_ ?_ _) | (with_reducible refine Below.drew ?_) | (simp; done) | (simp; omega) | omega)))⟩
      · have d2 : (S != S') = true := by simpa using h2
        rw [if_neg (fun h => h2 h.2)] at he
        subst he
        clear h1 h2
        go_enter Tryz.func35, Tryz.ntmps35
        go_wp2
        refine wp_region_calm_tail 4 (by kernel_rfl) (by kernel_rfl) ?_
        simp only [List.take_succ_cons, List.take_zero, List.drop_succ_cons, List.drop_zero]
        repeat (go_big_quiet_step (first | (go_at_call 82; with_reducible exact calm_of (HE1.out _ (by (repeat' (first | with_reducible exact Below.refl _ _ | (with_reducible refine below_later_of ?_ ?_ _) | (with_reducible refine Below.alloc ?_ ?_ _) | (with_reducible refine Below.setCell ?_ ?_ _) | (with_reducible refine Below.drew ?_) | (simp; done) | (simp; omega) | omega))))) | (go_at_call 82; with_reducible exact calm_of (HE2.out _ (by (repeat' (first | with_reducible exact Below.refl _ _ | (with_reducible refine below_later_of ?_ ?_ _) | (with_reducible refine Below.alloc ?_ ?_ _) | (with_reducible refine Below.setCell ?_ ?_ _) | (with_reducible refine Below.drew ?_) | (simp; done) | (simp; omega) | omega)))))))
        refine wpQuiet_nil ?_
        rintro _ ⟨pz, rfl⟩
        go_wp2_with (first | (go_at_call 34; refine (fFirst2 _ _ _ _ HF.out (by (first | (simp [go_sem]; done) | simp [go_sem, ↓IntWalk.iteOmega])) (by (first | (simp [go_sem]; done) | simp [go_sem, ↓IntWalk.iteOmega]))).mono ?_; rintro e w' ⟨rfl, rfl⟩))
        go_ret
        exact ⟨rfl, (by (repeat' (first | with_reducible exact Below.refl _ _ | (with_reducible refine below_later_of ?_ ?_ _) | (with_reducible refine Below.alloc ?_ ?_ _) | (with_reducible refine Below.setCell ?_ ?_ _) | (with_reducible refine Below.drew ?_) | (simp; done) | (simp; omega) | omega)))⟩
    · have d1 : (L != L') = true := by simpa using h1
      rw [if_neg (fun h => h1 h.1)] at he
      subst he
      clear h1
      go_enter Tryz.func35, Tryz.ntmps35
      go_wp2
      refine wp_region_calm_tail 4 (by kernel_rfl) (by kernel_rfl) ?_
      simp only [List.take_succ_cons, List.take_zero, List.drop_succ_cons, List.drop_zero]
      repeat (go_big_quiet_step (first | (go_at_call 82; with_reducible exact calm_of (HE1.out _ (by (repeat' (first | with_reducible exact Below.refl _ _ | (with_reducible refine below_later_of ?_ ?_ _) | (with_reducible refine Below.alloc ?_ ?_ _) | (with_reducible refine Below.setCell ?_ ?_ _) | (with_reducible refine Below.drew ?_) | (simp; done) | (simp; omega) | omega))))) | (go_at_call 82; with_reducible exact calm_of (HE2.out _ (by (repeat' (first | with_reducible exact Below.refl _ _ | (with_reducible refine below_later_of ?_ ?_ _) | (with_reducible refine Below.alloc ?_ ?_ _) | (with_reducible refine Below.setCell ?_ ?_ _) | (with_reducible refine Below.drew ?_) | (simp; done) | (simp; omega) | omega)))))))
      refine wpQuiet_nil ?_
      rintro _ ⟨pz, rfl⟩
      go_wp2_with (first | (go_at_call 34; refine (fFirst2 _ _ _ _ HF.out (by (first | (simp [go_sem]; done) | simp [go_sem, ↓IntWalk.iteOmega])) (by (first | (simp [go_sem]; done) | simp [go_sem, ↓IntWalk.iteOmega]))).mono ?_; rintro e w' ⟨rfl, rfl⟩))
      go_ret
      exact ⟨rfl, (by (repeat' (first | with_reducible exact Below.refl _ _ | (with_reducible refine below_later_of ?_ ?_ _) | (with_reducible refine Below.alloc ?_ ?_ _) | (with_reducible refine Below.setCell ?_ ?_ _) | (with_reducible refine Below.drew ?_) | (simp; done) | (simp; omega) | omega)))⟩
  · rw [if_neg h0] at he
    subst he
    have hne : (z != 0) = true := by simpa using h0
    clear h0
    go_enter Tryz.func35, Tryz.ntmps35
    go_wp2
    refine wp_region_calm_tail 4 (by kernel_rfl) (by kernel_rfl) ?_
    simp only [List.take_succ_cons, List.take_zero, List.drop_succ_cons, List.drop_zero]
    repeat (go_big_quiet_step (first | (go_at_call 82; with_reducible exact calm_of (HE1.out _ (by (repeat' (first | with_reducible exact Below.refl _ _ | (with_reducible refine below_later_of ?_ ?_ _) | (with_reducible refine Below.alloc ?_ ?_ _) | (with_reducible refine Below.setCell ?_ ?_ _) | (with_reducible refine Below.drew ?_) | (simp; done) | (simp; omega) | omega))))) | (go_at_call 82; with_reducible exact calm_of (HE2.out _ (by (repeat' (first | with_reducible exact Below.refl _ _ | (with_reducible refine below_later_of ?_ ?_ _) | (with_reducible refine Below.alloc ?_ ?_ _) | (with_reducible refine Below.setCell ?_ ?_ _) | (with_reducible refine Below.drew ?_) | (simp; done) | (simp; omega) | omega)))))))
    refine wpQuiet_nil ?_
    rintro _ ⟨pz, rfl⟩
    go_wp2_with (first | (go_at_call 34; refine (fFirst2 _ _ _ _ HF.out (by (first | (simp [go_sem]; done) | simp [go_sem, ↓IntWalk.iteOmega])) (by (first | (simp [go_sem]; done) | simp [go_sem, ↓IntWalk.iteOmega]))).mono ?_; rintro e w' ⟨rfl, rfl⟩))
    go_ret
    exact ⟨rfl, (by (repeat' (first | with_reducible exact Below.refl _ _ | (with_reducible refine below_later_of ?_ ?_ _) | (with_reducible refine Below.alloc ?_ ?_ _) | (with_reducible refine Below.setCell ?_ ?_ _) | (with_reducible refine Below.drew ?_) | (simp; done) | (simp; omega) | omega)))⟩
set_option maxHeartbeats 1000000 in
theorem interfere_bad (L S : Int) (n cap : Nat) (f : Nat → Nat × Nat) (a : Option Addr) (L' S' : Int) (n' cap' : Nat) (f' : Nat → Nat × Nat) (a' : Option Addr) (w : World) (hl : n ≤ 100000) (hl' : n' ≤ 100000) (hd : DataAt w L S n f a) (hd' : DataAt w L' S' n' f' a') {e0 : Int} (he : pairE L S n f L' S' n' f' = e0) (h0 : e0 ≠ 0) :
    Calls Tryz.prog 29 #[.agg #[.int .i64 L, .int .i64 S, .slice a n cap], .agg #[.int .i64 L', .int .i64 S', .slice a' n' cap']] w fun e w' => e = .returned (.tuple #[.agg #[.int .i64 0, .int .i64 0, .slice none 0 0], .int .i64 e0]) ∧ Below w.heap.size w w' := by
  have HIE := Lib.hid (show ∀ W, Below w.heap.size w W → _ from fun W hW => fImagesErr L S n cap f a L' S' n' cap' f' a' W hl hl' (hd.below hW) (hd'.below hW) he)
  have hne : (e0 != 0) = true := by simpa using h0
  clear hd hd' he h0
  go_enter Tryz.func29, Tryz.ntmps29
  go_wp2_with (first | (go_at_call 35; (with_reducible refine (HIE.out _ (by (repeat' (first | with_reducible exact Below.refl _ _ | (with_reducible refine below_later_of ?_ ?_ _) | (with_reducible refine Below.alloc ?_ ?_ _) | (with_reducible refine Below.setCell ?_ ?_ _) | (with_reducible refine Below.drew ?_) | (simp; done) | (simp; omega) | omega)))).mono ?_); rintro e w' ⟨rfl, hb⟩; obtain ⟨pe, rfl⟩ := later_of_below hb; clear hb))
  refine bodyPost_ret ?_ rfl ⟨rfl, (by (repeat' (first | with_reducible exact Below.refl _ _ | (with_reducible refine below_later_of ?_ ?_ _) | (with_reducible refine Below.alloc ?_ ?_ _) | (with_reducible refine Below.setCell ?_ ?_ _) | (with_reducible refine Below.drew ?_) | (simp; done) | (simp; omega) | omega)))⟩
  first | (simp [results, Tryz.results29, go_sem]; done) | simp [results, Tryz.results29, go_sem, ↓IntWalk.iteOmega]
theorem sizeE_okU {l s n : Int} (h : sizeE l s n = 0) : (1 ≤ l ∧ l ≤ 64) ∧ (1 ≤ s ∧ s ≤ 64) ∧ n = l * s := by
  unfold sizeE at h
  split at h
  · rename_i h1
    simp only [Bool.and_eq_true] at h1
    split at h
    · rename_i h2
      exact ⟨inE_iff.1 h1.1, inE_iff.1 h1.2, h2⟩
    · exact absurd h (by decide)
  · exact absurd h (by decide)
theorem first2_z {x y : Int} (h : first2 x y = 0) : x = 0 ∧ y = 0 := by
  unfold first2 at h
  split at h
  · exact ⟨‹_›, h⟩
  · exact absurd h ‹_›
/-- Two images of one size without errors. -/
theorem pairE_zero {L S : Int} {n : Nat} {f : Nat → Nat × Nat} {L' S' : Int} {n' : Nat} {f' : Nat → Nat × Nat} (h : pairE L S n f L' S' n' f' = 0) : (imgE L S n f).2 = 0 ∧ (imgE L' S' n' f').2 = 0 ∧ L = L' ∧ S = S' := by
  unfold pairE at h
  split at h
  · rename_i h1
    obtain ⟨h2, h3⟩ := first2_z h1
    split at h
    · rename_i h4
      exact ⟨h2, h3, h4⟩
    · exact absurd h (by decide)
  · exact absurd h ‹_›
/-- The numbers of an interferogram. -/
def intfF (X Y U V : Nat → Int) : Nat → Int × Int := prodF (partsF X Y) (partsF U V)
theorem intfF_bd {X Y U V : Nat → Int} {k : Nat} (hx : (-2047 ≤ X k ∧ X k ≤ 2047) ∧ -2047 ≤ Y k ∧ Y k ≤ 2047) (hu : (-2047 ≤ U k ∧ U k ≤ 2047) ∧ -2047 ≤ V k ∧ V k ≤ 2047) : (-8380418 ≤ (intfF X Y U V k).1 ∧ (intfF X Y U V k).1 ≤ 8380418) ∧ -8380418 ≤ (intfF X Y U V k).2 ∧ (intfF X Y U V k).2 ≤ 8380418 := by
  obtain ⟨x1, y1⟩ := hx
  obtain ⟨u1, v1⟩ := hu
  have m1 := mul_bd2 x1 u1
  have m2 := mul_bd2 y1 v1
  have m3 := mul_bd2 y1 u1
  have m4 := mul_bd2 x1 v1
  simp only [Int.reduceMul] at m1 m2 m3 m4
  show (-8380418 ≤ X k * U k + Y k * V k ∧ X k * U k + Y k * V k ≤ 8380418) ∧ -8380418 ≤ Y k * U k - X k * V k ∧ Y k * U k - X k * V k ≤ 8380418
  omega
theorem ownPr_at {B n : Nat} {W W' : World} {F : Nat → Int × Int} {a : Option Addr} (h : OwnPr B W n F a) (h0 : 0 < n) (hb : Below W.heap.size W W') : ∃ g, a = some ⟨g, 0, none⟩ ∧ g < W'.heap.size ∧ PairsAt W' g n F := by
  obtain ⟨g, h1, -, h3, h4⟩ := h h0
  exact ⟨g, h1, by have := hb.size; omega, h4.below h3 hb⟩
theorem products_of {L S n : Nat} {F G : Nat → Int × Int} (hn : n = L * S) (h0 : 0 < n) (hL1 : 1 ≤ L) (hL : L ≤ 64) (hS1 : 1 ≤ S) (hS : S ≤ 64) (sF : SmallP n F 1000000000) (sG : SmallP n G 1000000000) (W : World) (a1 a2 : Option Addr) (c1 c2 : Nat) {B1 B2 : Nat} {Wa Wb : World} (h1 : OwnPr B1 Wa n F a1) (b1 : Below Wa.heap.size Wa W) (h2 : OwnPr B2 Wb n G a2) (b2 : Below Wb.heap.size Wb W) :
    Calls Tryz.prog 38 #[.agg #[.int .i64 L, .int .i64 S, .slice a1 n c1], .agg #[.int .i64 L, .int .i64 S, .slice a2 n c2]] W (GrPost L S n (prodF F G) W) := by
  obtain ⟨g1, rfl, hg1, hp1⟩ := ownPr_at h1 h0 b1
  obtain ⟨g2, rfl, hg2, hp2⟩ := ownPr_at h2 h0 b2
  exact fProducts L S n c1 c2 g1 g2 F G W hn hL1 hL hS1 hS hg1 hg2 hp1 hp2 sF sG
theorem field_of {L S n : Nat} {F : Nat → Int × Int} (h0 : 0 < n) (hn : n ≤ 5000) (hc : anyL n F = false) (W : World) (a : Option Addr) (c : Nat) {B : Nat} {Wa : World} (h1 : OwnPr B Wa n F a) (b1 : Below Wa.heap.size Wa W) :
    Calls Tryz.prog 79 #[.agg #[.int .i64 L, .int .i64 S, .slice a n c]] W (FdPost4 L S n (nmF F) W) := by
  obtain ⟨g1, rfl, hg1, hp1⟩ := ownPr_at h1 h0 b1
  exact fieldOf_ok L S n c g1 F W hn hg1 hp1 hc
set_option maxRecDepth 20000 in
set_option maxHeartbeats 8000000 in
theorem interfere_ok (L S : Nat) (n cap : Nat) (f : Nat → Nat × Nat) (a : Option Addr) (n' cap' : Nat) (f' : Nat → Nat × Nat) (a' : Option Addr) (w : World) (hl : n ≤ 100000) (hl' : n' ≤ 100000) (hd : DataAt w L S n f a) (hd' : DataAt w L S n' f' a') (he : pairE L S n f L S n' f' = 0) :
    Calls Tryz.prog 29 #[.agg #[.int .i64 L, .int .i64 S, .slice a n cap], .agg #[.int .i64 L, .int .i64 S, .slice a' n' cap']] w (FdPost4 L S n (nmF (intfF (xB f) (yB f) (xB f') (yB f'))) w) := by
  have HIE := Lib.hid (show ∀ W, Below w.heap.size w W → _ from fun W hW => fImagesErr L S n cap f a L S n' cap' f' a' W hl hl' (hd.below hW) (hd'.below hW) he)
  obtain ⟨e1, e2, -, -⟩ := pairE_zero he
  obtain ⟨s1, g1⟩ := imgE_zero e1
  obtain ⟨s2, g2⟩ := imgE_zero e2
  obtain ⟨⟨hL1, hL⟩, ⟨hS1, hS⟩, hn⟩ := sizeE_okU s1
  obtain ⟨-, -, hn'⟩ := sizeE_okU s2
  obtain rfl : n' = n := by omega
  have hnn : n' = L * S := by exact_mod_cast hn
  obtain ⟨b, off, rfl, hbw, hf⟩ := hd s1
  obtain ⟨b', off', rfl, hbw', hf'⟩ := hd' s2
  have hX : SmallS n' f (xB f) (yB f) 2047 := smallS_of (by decide) g1
  have hU : SmallS n' f' (xB f') (yB f') 2047 := smallS_of (by decide) g2
  have HLS := Lib.hid hnn
  have hL1 : 1 ≤ L := by omega
  have hL : L ≤ 64 := by omega
  have hS1 : 1 ≤ S := by omega
  have hS : S ≤ 64 := by omega
  have HN0 := Lib.hid (show 0 < n' by rw [hnn]; exact Nat.mul_pos (by omega) (by omega))
  have hn5 : n' ≤ 5000 := by have := Nat.mul_le_mul hL hS; omega
  have HM1 := Lib.hid (show SmallP n' (partsF (xB f) (yB f)) 1000000000 from fun k hk => by
    obtain ⟨-, h1, h2⟩ := hX k hk
    unfold partsF
    dsimp only
    omega)
  have HM2 := Lib.hid (show SmallP n' (partsF (xB f') (yB f')) 1000000000 from fun k hk => by
    obtain ⟨-, h1, h2⟩ := hU k hk
    unfold partsF
    dsimp only
    omega)
  have HAL := Lib.hid (show anyL n' (intfF (xB f) (yB f) (xB f') (yB f')) = false from small_anyL fun k hk => by
    have := intfF_bd (hX k hk).2 (hU k hk).2
    omega)
  have HSA := Lib.hid (show ∀ W, Below w.heap.size w W → _ from fun W hW => fSamplesOf L S n' cap b off f (xB f) (yB f) W hnn hL1 hL hS1 hS (by have := hW.size; omega) (hf.below hbw hW) hX)
  have HSB := Lib.hid (show ∀ W, Below w.heap.size w W → _ from fun W hW => fSamplesOf L S n' cap' b' off' f' (xB f') (yB f') W hnn hL1 hL hS1 hS (by have := hW.size; omega) (hf'.below hbw' hW) hU)
  have HPR := Lib.hid (products_of (L := L) (S := S) hnn HN0.out hL1 hL hS1 hS HM1.out HM2.out)
  have HFO := Lib.hid (field_of (L := L) (S := S) HN0.out hn5 HAL.out)
  rw [show prodF (partsF (xB f) (yB f)) (partsF (xB f') (yB f')) = intfF (xB f) (yB f) (xB f') (yB f') from rfl] at HPR
  generalize xB f = X at *
  generalize yB f = Y at *
  generalize xB f' = U at *
  generalize yB f' = V at *
  clear hd hd' he e1 e2 s1 s2 g1 g2 hn hn' hnn hf hf' hX hU
  generalize n' = n at *
  go_enter Tryz.func29, Tryz.ntmps29
  go_wp2_with (first | (go_at_call 35; (with_reducible refine (HIE.out _ (by (repeat' (first | with_reducible exact Below.refl _ _ | (with_reducible refine below_later_of ?_ ?_ _) | (with_reducible refine Below.alloc ?_ ?_ _) | (with_reducible refine Below.setCell ?_ ?_ _) | (with_reducible refine Below.drew ?_) | (simp; done) | (simp; omega) | omega)))).mono ?_); rintro e w' ⟨rfl, hb⟩; obtain ⟨pe, rfl⟩ := later_of_below hb; clear hb))
  refine any_worldF (fun w' => (w'.cell? ⟨w.heap.size, 0, none⟩ = some (.int .i64 L) ∧ w'.cell? ⟨w.heap.size, 1, none⟩ = some (.int .i64 S) ∧ w'.cell? ⟨w.heap.size, 2, none⟩ = some (.slice (some ⟨b, off, none⟩) n cap) ∧ w'.cell? ⟨w.heap.size + 1, 0, none⟩ = some (.int .i64 L) ∧ w'.cell? ⟨w.heap.size + 1, 1, none⟩ = some (.int .i64 S) ∧ w'.cell? ⟨w.heap.size + 1, 2, none⟩ = some (.slice (some ⟨b', off', none⟩) n cap')) ∧ Below w.heap.size w w' ∧ (w'.cell? ⟨w.heap.size + 2, 0, none⟩ = some (.int .i64 0) ∧ w'.cell? ⟨w.heap.size + 2, 1, none⟩ = some (.int .i64 0) ∧ w'.cell? ⟨w.heap.size + 2, 2, none⟩ = some (.slice none 0 0) ∧ w'.frozen? ⟨w.heap.size + 2, 0, none⟩ = false ∧ w'.frozen? ⟨w.heap.size + 2, 1, none⟩ = false ∧ w'.frozen? ⟨w.heap.size + 2, 2, none⟩ = false) ∧ w.heap.size + 2 < w'.heap.size) ⟨⟨(by (first | (simp [go_sem]; done) | simp [go_sem, ↓IntWalk.iteOmega])), (by (first | (simp [go_sem]; done) | simp [go_sem, ↓IntWalk.iteOmega])), (by (first | (simp [go_sem]; done) | simp [go_sem, ↓IntWalk.iteOmega])), (by (first | (simp [go_sem]; done) | simp [go_sem, ↓IntWalk.iteOmega])), (by (first | (simp [go_sem]; done) | simp [go_sem, ↓IntWalk.iteOmega])), (by (first | (simp [go_sem]; done) | simp [go_sem, ↓IntWalk.iteOmega]))⟩, (by (repeat' (first | with_reducible exact Below.refl _ _ | (with_reducible refine below_later_of ?_ ?_ _) | (with_reducible refine Below.alloc ?_ ?_ _) | (with_reducible refine Below.setCell ?_ ?_ _) | (with_reducible refine Below.drew ?_) | (simp; done) | (simp; omega) | omega))), ⟨(by (first | (simp [go_sem]; done) | simp [go_sem, ↓IntWalk.iteOmega])), (by (first | (simp [go_sem]; done) | simp [go_sem, ↓IntWalk.iteOmega])), (by (first | (simp [go_sem]; done) | simp [go_sem, ↓IntWalk.iteOmega])), (by (first | (simp [go_sem]; done) | simp [go_sem, ↓IntWalk.iteOmega])), (by (first | (simp [go_sem]; done) | simp [go_sem, ↓IntWalk.iteOmega])), (by (first | (simp [go_sem]; done) | simp [go_sem, ↓IntWalk.iteOmega]))⟩, by simp; omega⟩ ?_
  rintro W1 ⟨⟨k0, k1, k2, k3, k4, k5⟩, hb1, ⟨r0, r1, r2, f0, f1, f2⟩, hlt1⟩
  have HB1 := Lib.hid hb1
  have hs1 := hb1.size
  have HSA := Lib.hid (show ∀ W, Below W1.heap.size W1 W → _ from fun W hW => HSA.out W (HB1.out.trans (hW.mono hs1)))
  have HSB := Lib.hid (show ∀ W, Below W1.heap.size W1 W → _ from fun W hW => HSB.out W (HB1.out.trans (hW.mono hs1)))
  clear hb1
  go_wp2_with fail
  go_region_held3 (fun w' => w'.cell? ⟨w.heap.size, 0, none⟩ = some (.int .i64 L) ∧ w'.cell? ⟨w.heap.size, 1, none⟩ = some (.int .i64 S) ∧ w'.cell? ⟨w.heap.size, 2, none⟩ = some (.slice (some ⟨b, off, none⟩) n cap) ∧ w'.cell? ⟨w.heap.size + 1, 0, none⟩ = some (.int .i64 L) ∧ w'.cell? ⟨w.heap.size + 1, 1, none⟩ = some (.int .i64 S) ∧ w'.cell? ⟨w.heap.size + 1, 2, none⟩ = some (.slice (some ⟨b', off', none⟩) n cap')) (first | exact ⟨k0, k1, k2, k3, k4, k5⟩ | ((first | (simp [go_sem, k0, k1, k2, k3, k4, k5]; done) | simp [go_sem, k0, k1, k2, k3, k4, k5, ↓IntWalk.iteOmega]); done)) (first | (go_at_call 37; (with_reducible refine (HSA.out _ (by (repeat' (first | with_reducible exact Below.refl _ _ | (with_reducible refine below_later_of ?_ ?_ _) | (with_reducible refine Below.alloc ?_ ?_ _) | (with_reducible refine Below.setCell ?_ ?_ _) | (with_reducible refine Below.drew ?_) | (simp; done) | (simp; omega) | omega)))).mono ?_); rintro e w' ⟨a1, c1, rfl, ho, -, hb⟩; have HO1 := Lib.hid ho; clear ho; obtain ⟨p1, rfl⟩ := later_of_below hb; clear hb) | (go_at_call 37; (with_reducible refine (HSB.out _ (by (repeat' (first | with_reducible exact Below.refl _ _ | (with_reducible refine below_later_of ?_ ?_ _) | (with_reducible refine Below.alloc ?_ ?_ _) | (with_reducible refine Below.setCell ?_ ?_ _) | (with_reducible refine Below.drew ?_) | (simp; done) | (simp; omega) | omega)))).mono ?_); rintro e w' ⟨a2, c2, rfl, ho, -, hb⟩; have HO2 := Lib.hid ho; clear ho; obtain ⟨p2, rfl⟩ := later_of_below hb; clear hb) | (go_at_call 38; (with_reducible refine (HPR.out _ _ _ _ _ HO1.out (by (repeat' (first | with_reducible exact Below.refl _ _ | (with_reducible refine below_later_of ?_ ?_ _) | (with_reducible refine Below.alloc ?_ ?_ _) | (with_reducible refine Below.setCell ?_ ?_ _) | (with_reducible refine Below.drew ?_) | (simp; done) | (simp; omega) | omega))) HO2.out (by (repeat' (first | with_reducible exact Below.refl _ _ | (with_reducible refine below_later_of ?_ ?_ _) | (with_reducible refine Below.alloc ?_ ?_ _) | (with_reducible refine Below.setCell ?_ ?_ _) | (with_reducible refine Below.drew ?_) | (simp; done) | (simp; omega) | omega)))).mono ?_); rintro e w' ⟨a3, c3, rfl, ho, -, hb⟩; have HO3 := Lib.hid ho; clear ho; obtain ⟨p3, rfl⟩ := later_of_below hb; clear hb) | (go_at_call 79; (with_reducible refine (HFO.out _ _ _ HO3.out (by (repeat' (first | with_reducible exact Below.refl _ _ | (with_reducible refine below_later_of ?_ ?_ _) | (with_reducible refine Below.alloc ?_ ?_ _) | (with_reducible refine Below.setCell ?_ ?_ _) | (with_reducible refine Below.drew ?_) | (simp; done) | (simp; omega) | omega)))).mono ?_); rintro e w' ⟨a4, c4, rfl, ho, hcp, hb⟩; have HO4 := Lib.hid ho; have HC4 := Lib.hid hcp; clear ho hcp; obtain ⟨p4, rfl⟩ := later_of_below hb; clear hb))
  all_goals
    rename_i hheld
    clear hheld
    go_wp2
    refine bodyPost_ret ?_ rfl ⟨a4, c4, rfl, ?_, HC4.out, (by (repeat' (first | exact HB1.out | with_reducible exact Below.refl _ _ | (with_reducible refine below_later_of ?_ ?_ _) | (with_reducible refine Below.alloc ?_ ?_ _) | (with_reducible refine Below.setCell ?_ ?_ _) | (with_reducible refine Below.drew ?_) | (simp; done) | (simp; omega) | omega)))⟩
    · first | (simp [results, Tryz.results29, go_sem, r0, r1, r2]; done) | simp [results, Tryz.results29, go_sem, r0, r1, r2, ↓IntWalk.iteOmega]
    · refine OwnS.mono (OwnS.set (OwnS.set (OwnS.set HO4.out ?_ _) ?_ _) ?_ _) ?_ <;> simp <;> omega
end Go.Proofs.YtkoiknmijjiicaaGreatDoor
