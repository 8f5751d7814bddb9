/- Chapter 4: the law's fields of parts. -/
import Derived.Test.YtfiioadmpjmmgaaGreatDoorX67
import Derived.Test.YtfiioadmpjmmgaaGreatDoorX5
import Derived.Test.YtfiioadmpjmmgaaGreatDoorX20
import Derived.Test.YtfiioadmpjmmgaaGreatDoorU78
namespace Go.Proofs.YtfiioadmpjmmgaaGreatDoor
set_option linter.unusedVariables false
set_option linter.unusedSimpArgs false
open Go.ChangeShapes Go.WideShapes Go.RowKit Ieee Ntt
theorem cells_fd4 : Tryz.prog.cellsOf 24 = 3 := by kernel_rfl
theorem leafs_fd4 : leafs Tryz.prog 8 24 = some [3, 3, 22] := by kernel_rfl
set_option maxRecDepth 100000 in
theorem open_fd4 {H : Type} {enc : TypeId × Value → H} {w : World} {base : Nat} {spare : Nat → Bool} {held : Bool} {r : Reach} {b0 : Nat} {v : Value} {d : DataW H} {p : List MemPlace} (hv : Value.okWide Tryz.prog w r b0 24 v) (h : DataW.Trod enc Tryz.prog w base spare held 24 v d p) :
    ∃ (R C : Int) (u : Value) (zs : List Int), v = .agg #[.int .i64 R, .int .i64 C, u] ∧ IntsX w u zs := by
  obtain ⟨cs, hn, rfl, ok⟩ := cells_of Tryz.underlying24 cells_fd4 leafs_fd4 hv h
  match cs, hn with
  | [c0, c1, c2], _ =>
    obtain ⟨a0, rfl, _⟩ := (ok 0 _ _ rfl rfl).int Tryz.underlying3
    obtain ⟨a1, rfl, _⟩ := (ok 1 _ _ rfl rfl).int Tryz.underlying3
    obtain ⟨zs, hx⟩ := CellOk.il (ok 2 _ _ rfl rfl)
    exact ⟨a0, a1, c2, zs, rfl, hx⟩
/-- The numbers of parts. -/
def prtF (zs : List Int) (k : Nat) : Nat × Nat := (f64I (intAt zs (2 * k)), f64I (intAt zs (2 * k + 1)))
theorem prt_wide (zs : List Int) (n : Nat) : Wide64 n (prtF zs) := fun k _ => ⟨f64I_lt _, f64I_lt _⟩
theorem ownS_fld {W : World} {B n : Nat} {L S : Int} {f : Nat → Nat × Nat} {a : Option Addr} (h : OwnS W B n f a) : FldAt W L S n f a := fun hs => by
  obtain ⟨⟨h1, h2⟩, ⟨h3, h4⟩, h5⟩ := sizeE_okU hs
  have : 0 < n := by
    have := Int.mul_le_mul h1 h3 (by decide) (by omega)
    omega
  obtain ⟨g, e, -, hg, hs⟩ := h this
  exact ⟨g, 0, e, hg, hs⟩
def SmPost (L S : Int) (n : Nat) (f : Nat → Nat × Nat) (w : World) (e : Ending) (w' : World) : Prop :=
  ∃ a c, e = .returned (.agg #[.int .i64 L, .int .i64 S, .slice a n c]) ∧ OwnS w' w.heap.size n f a ∧ Below w.heap.size w w'
set_option maxRecDepth 20000 in
set_option maxHeartbeats 4000000 in
theorem lSums (L S : Int) (zs : List Int) (v : Value) (w : World) (hl : zs.length ≤ 300) (hv : IntsV w v zs) :
    Calls Tryz.prog 15 #[.agg #[.int .i64 L, .int .i64 S, v]] w (SmPost L S (zs.length / 2) (prtF zs) w) := by
  obtain ⟨i0, hi0, hz0, hz1, hz2⟩ := info_parts infoC
  obtain ⟨-, a, cap, rfl, h4⟩ := hv
  have HH := Lib.hid h4
  obtain ⟨m, hm⟩ : ∃ m, zs.length = m := ⟨_, rfl⟩
  rw [hm] at hl HH ⊢
  clear h4 hm
  go_enter Tryz.func15, Tryz.ntmps15
  go_wp2
  refine any_worldF (fun W => ∃ W1, Below w.heap.size w W1 ∧ W1.heap.size = w.heap.size + 1 ∧ W1.cell? ⟨w.heap.size, 2, none⟩ = some (.slice a m cap) ∧ TriN W1 (w.heap.size + 1) (w.heap.size + 2) L S 120 1 (.slice none 0 0) 0 (cvF (prtF zs) 0) W)
    ⟨w.alloc (.cells #[.int .i64 L, .int .i64 S, .slice a m cap] 24), (by (repeat' (first | with_reducible exact Below.refl _ _ | (with_reducible refine below_later_of ?_ ?_ _) | (with_reducible refine Below.alloc ?_ ?_ _) | (with_reducible refine Below.setCell ?_ ?_ _) | (with_reducible refine Below.drew ?_) | (simp; done) | (simp; omega) | omega))), by simp, by simp [go_sem], by simp [go_sem], by simp [go_sem], by simp [go_sem], by simp [go_sem], by simp [go_sem], by simp [go_sem], by simp [go_sem], by simp [go_sem], by simp [go_sem], by simp [go_sem], World.ownsRow_nil _ _ _ _, (by (repeat' (first | with_reducible exact Below.refl _ _ | (with_reducible refine below_later_of ?_ ?_ _) | (with_reducible refine Below.alloc ?_ ?_ _) | (with_reducible refine Below.setCell ?_ ?_ _) | (with_reducible refine Below.drew ?_) | (simp; done) | (simp; omega) | omega))), by simp, by omega⟩ ?_
  rintro W2 ⟨W1, hb1, hsz1, q2, hst⟩
  have HST := Lib.hid hst
  have HB1 := Lib.hid hb1
  have Q2 := Lib.hid q2
  clear hst hb1 q2
  go_wp2
  go_loopw [4] (fun ii wr => ∃ (k : Nat) (v : Value), k ≤ m / 2 ∧ ii = .int .i64 ((2 * k : Nat) : Int) ∧ TriN W1 (w.heap.size + 1) (w.heap.size + 2) L S 120 1 v k (cvF (prtF zs) k) wr) (fun ii _ => m - (intOf ii).toNat)
  case atStart => exact ⟨0, _, Nat.zero_le _, rfl, HST.out⟩
  case round =>
    obtain ⟨k, v, hk, hii, hst⟩ := hrel
    obtain ⟨j, hj⟩ : ∃ j, 2 * k = j := ⟨_, rfl⟩
    rw [hj] at hii
    subst hii
    have HJ := Lib.hid hj
    have HS2 := Lib.hid hst
    have k2 := (hst.bel.cell (p := ⟨w.heap.size, 2, none⟩) (Nat.lt_succ_self _)).trans Q2.out
    by_cases hlt : k < m / 2
    · have hd1 : decide ((j : Int) + 1 < (m : Int)) = true := by simp; omega
      obtain ⟨b, off, rfl, hbw, hc⟩ := HH.out (by omega)
      have hbw2 := HB1.out.trans (hst.bel.mono (Nat.le_succ _))
      have x1 := (hbw2.cell (p := ⟨b, off + j, none⟩) hbw).trans (hc j (by omega))
      have x2 := (hbw2.cell (p := ⟨b, off + (j + 1), none⟩) hbw).trans (hc (j + 1) (by omega))
      have hj0 : (0 : Int) ≤ (j : Int) := by omega
      have hj1 : (j : Int) < (m : Int) := by omega
      have hj2 : (j : Int) + 1 < (m : Int) := by omega
      have hj3 : (0 : Int) ≤ (j : Int) + 1 := by omega
      have hjN : j < m := by omega
      have hjN1 : j + 1 < m := by omega
      have hbr : b < wr.heap.size := by have := hbw2.size; omega
      have hnu : prtF zs k = (f64I (intAt zs j), f64I (intAt zs (j + 1))) := by unfold prtF; rw [hj]
      have HSM := Lib.hid (fun w => bSum (intAt zs j) (intAt zs (j + 1)) w)
      obtain ⟨re, hre⟩ : ∃ re, f64I (intAt zs j) = re := ⟨_, rfl⟩
      obtain ⟨im, him⟩ : ∃ im, f64I (intAt zs (j + 1)) = im := ⟨_, rfl⟩
      rw [hre, him] at hnu HSM
      have HPN := Lib.hid (show cvF (prtF zs) (k + 1) = cvF (prtF zs) k ++ [.complex .f64 re im] by rw [cvF_snoc, hnu])
      have HOW2 := Lib.hid hst.own
      have HSN := Lib.hid (show ∀ (g' cc' : Nat) (w1 : World) (o : Obj), w1.ownsRow (w.heap.size + 2 + 1) 120 1 (.slice (some ⟨g', 0, none⟩) (k + 1) cc') (k + 1) (cvF (prtF zs) k ++ [.complex .f64 re im]) → (wr.drew.alloc o).grownBy w1 v.ownBlock → TriN W1 (w.heap.size + 1) (w.heap.size + 2) L S 120 1 (.slice (some ⟨g', 0, none⟩) (k + 1) cc') (k + 1) (cvF (prtF zs) (k + 1)) (w1.setCell ⟨w.heap.size + 2, 2, none⟩ (.slice (some ⟨g', 0, none⟩) (k + 1) cc')) from fun g' cc' w1 o h1 h2 => by
        rw [HPN.out]
        exact (HS2.out.below (Below.refl _ _).drew).put h1 h2)
      have HSL := Lib.hid (show ∀ (w1 : World) (o : Obj), (wr.drew.alloc o).grownBy w1 v.ownBlock → w1.cell? ⟨w.heap.size + 2, 2, none⟩ = some v ∧ w1.frozen? ⟨w.heap.size + 2, 2, none⟩ = false from fun w1 o h => (HS2.out.below (Below.refl _ _).drew).still h)
      have c2 := hst.c2
      have f2 := hst.f2
      have hltO := hst.lt
      generalize intAt zs j = x at *
      generalize intAt zs (j + 1) = y at *
      clear hst hbw2 hc hre him hnu hj
      have hjw : IntKind.i64.wrap ((j : Int) + 1) = ((j + 1 : Nat) : Int) := by rw [IntWalk.i64_in _ (by omega)]; rfl
      go_wp2
      go_region_law (first | (refine step_append_lies _ rfl (.tmp 19) (.tmp 32) 26 rfl (w.heap.size + 2 + 1) 120 i0 (.complex .f64 0 0) 1 16 Tryz.underlying26 hi0 hz0 hz1 hz2 rfl (by decide) v k (cvF (prtF zs) k) (by simp [Act.eval, Act.put]) (by first | exact (HOW2.out.alloc _).drew | exact HOW2.out.drew.alloc _) ⟨wr.heap.size, 0, none⟩ 1 1 [.complex .f64 re im] (by simp [Act.eval, Act.put]) rfl (by intro j u hj; rcases j with _ | j; (focus (simp at hj; subst hj; (first | (simp [Addr.add, go_sem]; done) | simp [Addr.add, go_sem, ↓IntWalk.iteOmega]))); (focus (simp at hj))) (by intro u hu; simp at hu; subst hu; rfl) (by decide) (by unfold maxLen; omega) (by omega) (by first | omega | (simp; omega)) _ rfl ?_; intro g' cc' w1 hown' hgrow _ _; have HN2 := Lib.hid (HSN.out _ _ _ _ hown' hgrow); obtain ⟨hcb, hfb⟩ := HSL.out _ _ hgrow; clear hown' hgrow) | (go_simp; (go_at_call 76; (with_reducible refine (HSM.out _).mono ?_); rintro e w' ⟨rfl, rfl⟩)))
      all_goals
        go_wp2
        go_roundw
        case rel => exact ⟨k + 1, _, by omega, by have := HJ.out; go_num, HN2.out⟩
        case measure => simp [intOf]; omega
    · obtain rfl : k = m / 2 := by omega
      have hd1 : decide ((j : Int) + 1 < (m : Int)) = false := by simp; omega
      obtain ⟨a', c', rfl⟩ := own_slice2 hst.own
      obtain ⟨e0, e1, e2, -, r0, r1, r2, g0, g1, g2, hown, hbel, -, hro⟩ := hst
      have HOW := Lib.hid hown
      have HBE := Lib.hid (HB1.out.trans (hbel.mono (by omega)))
      have hjb : (j : Int) ≤ 300 := by omega
      clear hown hbel hj
      go_wp2
      refine bodyPost_ret (v := .agg #[.int .i64 L, .int .i64 S, .slice a' (m / 2) c']) ?_ rfl ⟨a', c', rfl, OwnS.mono (OwnS.set (OwnS.set (OwnS.set (ownS_row HOW.out) ?_ _) ?_ _) ?_ _) ?_, HBE.out.trans (by (repeat' (first | with_reducible exact Below.refl _ _ | (with_reducible refine below_later_of ?_ ?_ _) | (with_reducible refine Below.alloc ?_ ?_ _) | (with_reducible refine Below.setCell ?_ ?_ _) | (with_reducible refine Below.drew ?_) | (simp; done) | (simp; omega) | omega)))⟩
      · first | (simp [results, Tryz.results15, go_sem, r0, r1, r2]; done) | simp [results, Tryz.results15, go_sem, r0, r1, r2, ↓IntWalk.iteOmega]
      all_goals first | omega | (simp <;> omega)
end Go.Proofs.YtfiioadmpjmmgaaGreatDoor
