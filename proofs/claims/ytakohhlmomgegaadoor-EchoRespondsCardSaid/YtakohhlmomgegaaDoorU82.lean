/- Chapter 1: fields by raw parts: their numbers, their codes, whether they are slight. -/
import Derived.Test.YtakohhlmomgegaaDoorU79
import Derived.Test.YtakohhlmomgegaaDoorU80
import Derived.Deep.AppendLies
import Derived.Deep.RegionLaw
namespace Go.Proofs.YtakohhlmomgegaaDoor
set_option linter.unusedVariables false
set_option linter.unusedSimpArgs false
open Go.RowKit Ieee Ntt
/-- Doubles of raw parts in memory. -/
def DblAt (W : World) (b off m : Nat) (p : Nat → Nat) : Prop := ∀ k, k < m → W.cell? ⟨b, off + k, none⟩ = some (.float .f64 (p k))
theorem DblAt.below {W W' : World} {b off m : Nat} {p : Nat → Nat} (h : DblAt W b off m p) (hb : b < W.heap.size) (hw : Below W.heap.size W W') : DblAt W' b off m p := fun k hk => (hw.cell (p := ⟨b, off + k, none⟩) hb).trans (h k hk)
def SrcD (W : World) (a : Option Addr) (m : Nat) (p : Nat → Nat) : Prop := 0 < m → ∃ b off, a = some ⟨b, off, none⟩ ∧ b < W.heap.size ∧ DblAt W b off m p
theorem SrcD.below {W W' : World} {a : Option Addr} {m : Nat} {p : Nat → Nat} (h : SrcD W a m p) (hb : Below W.heap.size W W') : SrcD W' a m p := fun h0 => by
  obtain ⟨b, off, h1, h2, h3⟩ := h h0
  exact ⟨b, off, h1, by have := hb.size; omega, h3.below h2 hb⟩
/-- A field's raw parts and its code's, as they lie. -/
def Scn.FAt (W : World) (x : Scn) : Prop := SrcD W x.pa x.m x.p ∧ SrcP W x.ca x.mc x.q
theorem Scn.FAt.below {W W' : World} {x : Scn} (h : x.FAt W) (hb : Below W.heap.size W W') : x.FAt W' := ⟨h.1.below hb, h.2.below hb⟩
def Scn.Wide (x : Scn) : Prop := ∀ k, k < x.m → x.p k < 2 ^ 64
theorem Scn.Wide.smp {x : Scn} (h : x.Wide) : Wide64 (x.m / 2) (smp x.p) := fun k hk => ⟨h _ (by omega), h _ (by omega)⟩
def slightB (x : Scn) : Bool := decide (x.m ≤ 400) && decide (x.mc ≤ 70)
theorem slightB_ok {x : Scn} (h : slightB x = true) : x.m ≤ 400 ∧ x.mc ≤ 70 := by unfold slightB at h; simpa using h
set_option maxHeartbeats 1000000 in
theorem lSlight (x : Scn) (w : World) {c : Bool} (hc : slightB x = c) : Calls Tryd.prog 46 #[.agg #[.int .i64 x.L, .int .i64 x.S, .slice x.pa x.m x.pc, .slice x.ca x.mc x.cc]] w fun e w' => e = .returned (.bool c) ∧ Below w.heap.size w w' := by
  subst hc
  by_cases c1 : x.m ≤ 400
  · have d1 : decide ((x.m : Int) ≤ 400) = true := by simp; omega
    have HF := Lib.hid (show decide ((x.mc : Int) ≤ 70) = slightB x by unfold slightB; rw [Bool.eq_iff_iff]; simp; omega)
    go_enter Tryd.func46, Tryd.ntmps46
    go_wp2
    go_ret
    exact ⟨ret_boolE HF.out, (by (repeat' (first | with_reducible exact Below.refl _ _ | (with_reducible refine below_later_of ?_ ?_ _) | (with_reducible refine Below.alloc ?_ ?_ _) | (with_reducible refine Below.setCell ?_ ?_ _) | (with_reducible refine Below.drew ?_) | (simp; done) | (simp; omega) | omega)))⟩
  · have d1 : decide ((x.m : Int) ≤ 400) = false := by simp; omega
    have HF := Lib.hid (show false = slightB x by unfold slightB; rw [Bool.eq_iff_iff]; simp; omega)
    go_enter Tryd.func46, Tryd.ntmps46
    go_wp2
    go_ret
    exact ⟨ret_boolE HF.out, (by (repeat' (first | with_reducible exact Below.refl _ _ | (with_reducible refine below_later_of ?_ ?_ _) | (with_reducible refine Below.alloc ?_ ?_ _) | (with_reducible refine Below.setCell ?_ ?_ _) | (with_reducible refine Below.drew ?_) | (simp; done) | (simp; omega) | omega)))⟩
set_option maxHeartbeats 1000000 in
theorem lFCode (x : Scn) (w : World) (hm : x.mc ≤ 100000) (hs : x.FAt w) : Calls Tryd.prog 49 #[.agg #[.int .i64 x.L, .int .i64 x.S, .slice x.pa x.m x.pc, .slice x.ca x.mc x.cc]] w (CdPost (x.mc / 2) (smp x.q) w) := by
  have HI := Lib.hid (show ∀ W, Below w.heap.size w W → Calls Tryd.prog 72 #[.int .i64 0, .int .i64 0, .slice x.ca x.mc x.cc] W (ImPost 0 0 (x.mc / 2) (smp x.q) W) from fun W hW => bImage 0 0 x.mc x.cc x.ca x.q W hm (hs.2.below hW))
  clear hs
  go_enter Tryd.func49, Tryd.ntmps49
  go_wp2_with (first | (go_at_call 72; (with_reducible refine (HI.out _ (by (repeat' (first | with_reducible exact Below.refl _ _ | (with_reducible refine below_later_of ?_ ?_ _) | (with_reducible refine Below.alloc ?_ ?_ _) | (with_reducible refine Below.setCell ?_ ?_ _) | (with_reducible refine Below.drew ?_) | (simp; done) | (simp; omega) | omega)))).mono ?_); rintro e w' ⟨a', c', rfl, ha, hcap, hb⟩; have HAA := Lib.hid ha; clear ha; obtain ⟨pp, rfl⟩ := later_of_below hb; clear hb))
  go_ret
  exact ⟨a', c', rfl, own_mono HAA.out (by simp), (by (repeat' (first | with_reducible exact Below.refl _ _ | (with_reducible refine below_later_of ?_ ?_ _) | (with_reducible refine Below.alloc ?_ ?_ _) | (with_reducible refine Below.setCell ?_ ?_ _) | (with_reducible refine Below.drew ?_) | (simp; done) | (simp; omega) | omega)))⟩
def FdPost (L S : Int) (n : Nat) (f : Nat → Nat × Nat) (w : World) (e : Ending) (w' : World) : Prop :=
  ∃ a c, e = .returned (.agg #[.int .i64 L, .int .i64 S, .slice a n c]) ∧ OwnS w' w.heap.size n f a ∧ Below w.heap.size w w'
theorem wp_worldJ {P : Program} {c : Code} {Q : Exit → Act → World → Prop} {a : Act} {w : World} (F : World → Prop) (hf : F w) (h : ∀ W, F W → Code.wp P c Q a W) : Code.wp P c Q a w := h w hf
set_option maxRecDepth 20000 in
set_option maxHeartbeats 4000000 in
theorem lSums (x : Scn) (w : World) (hm : x.m ≤ 100000) (hs : x.FAt w) : Calls Tryd.prog 48 #[.agg #[.int .i64 x.L, .int .i64 x.S, .slice x.pa x.m x.pc, .slice x.ca x.mc x.cc]] w (FdPost x.L x.S (x.m / 2) (smp x.p) w) := by
  obtain ⟨i0, hi0, hz0, hz1, hz2⟩ := info_parts infoC
  have HA := Lib.hid hs.1
  clear hs
  go_enter Tryd.func48, Tryd.ntmps48
  go_wp2
  refine wp_worldJ (fun W => ∃ W1, Below w.heap.size w W1 ∧ W1.heap.size = w.heap.size + 1 ∧ W1.cell? ⟨w.heap.size, 2, none⟩ = some (.slice x.pa x.m x.pc) ∧ TriSt W1 (w.heap.size + 1) (w.heap.size + 1 + 1) x.L x.S 49 (.slice none 0 0) (cvF (smp x.p) 0) W)
    ⟨w.alloc (.cells #[.int .i64 x.L, .int .i64 x.S, .slice x.pa x.m x.pc, .slice x.ca x.mc x.cc] 75), (by (repeat' (first | with_reducible exact Below.refl _ _ | (with_reducible refine below_later_of ?_ ?_ _) | (with_reducible refine Below.alloc ?_ ?_ _) | (with_reducible refine Below.setCell ?_ ?_ _) | (with_reducible refine Below.drew ?_) | (simp; done) | (simp; omega) | omega))), by simp, by simp [go_sem], by simp [go_sem], by simp [go_sem], by simp [go_sem], by simp [go_sem], by simp [go_sem], by simp [go_sem], by simp [go_sem], by simp [go_sem], by simp [go_sem], by simp [go_sem], World.ownsRow_nil _ _ _ _, (by (repeat' (first | with_reducible exact Below.refl _ _ | (with_reducible refine below_later_of ?_ ?_ _) | (with_reducible refine Below.alloc ?_ ?_ _) | (with_reducible refine Below.setCell ?_ ?_ _) | (with_reducible refine Below.drew ?_) | (simp; done) | (simp; omega) | omega))), by simp, by omega⟩ ?_
  rintro W2 ⟨W1, hb1, hsz1, q2, hst⟩
  have HST := Lib.hid hst
  have HB1 := Lib.hid hb1
  have Q2 := Lib.hid q2
  clear hst hb1 q2
  go_loopw [4] (fun i wr => ∃ (k j : Nat) (v : Value), j = 2 * k ∧ j ≤ x.m ∧ i = .int .i64 j ∧ TriSt W1 (w.heap.size + 1) (w.heap.size + 1 + 1) x.L x.S 49 v (cvF (smp x.p) k) wr) (fun i _ => x.m + 2 - (intOf i).toNat)
  case atStart => exact ⟨0, 0, _, rfl, by omega, rfl, HST.out⟩
  case round =>
    obtain ⟨k, j, v, hj, hjm, rfl, hst⟩ := hrel
    have HS2 := Lib.hid hst
    have HJ := Lib.hid hj
    have hk : k ≤ 100000 := by omega
    have k2 := (hst.bel.cell (p := ⟨w.heap.size, 2, none⟩) (Nat.lt_succ_self _)).trans Q2.out
    clear hj
    by_cases hlt : j + 1 < x.m
    · obtain ⟨b, off, hpa, hbw, hp⟩ := HA.out (by omega)
      rw [hpa] at k2
      have hdk : decide ((j : Int) + 1 < (x.m : Int)) = true := by simp; omega
      have cx := (hst.bel.cell (p := ⟨b, off + j, none⟩) (show b < w.heap.size + 1 by omega)).trans ((HB1.out.cell (p := ⟨b, off + j, none⟩) hbw).trans (hp j (by omega)))
      have cy := (hst.bel.cell (p := ⟨b, off + (j + 1), none⟩) (show b < w.heap.size + 1 by omega)).trans ((HB1.out.cell (p := ⟨b, off + (j + 1), none⟩) hbw).trans (hp (j + 1) (by omega)))
      have c2 := hst.c2
      have f2 := hst.f2
      have hltO := hst.lt
      have hbr : b < wr.heap.size := by omega
      have hown := hst.own
      rw [cvF_len] at hown
      have HOW2 := Lib.hid hown
      have HPX := Lib.hid (show smp x.p k = (x.p j, x.p (j + 1)) by unfold smp; rw [← HJ.out])
      generalize x.p j = u1 at cx HPX
      generalize x.p (j + 1) = u2 at cy HPX
      have HSN := Lib.hid (show ∀ (g' cc' : Nat) (w1 : World) (o : Obj), w1.ownsRow (w.heap.size + 1 + 1 + 1) 49 1 (.slice (some ⟨g', 0, none⟩) (k + 1) cc') (k + 1) (cvF (smp x.p) k ++ [.complex .f64 u1 u2]) → (wr.drew.alloc o).grownBy w1 v.ownBlock → TriSt W1 (w.heap.size + 1) (w.heap.size + 1 + 1) x.L x.S 49 (.slice (some ⟨g', 0, none⟩) (k + 1) cc') (cvF (smp x.p) (k + 1)) (w1.setCell ⟨w.heap.size + 1 + 1, 2, none⟩ (.slice (some ⟨g', 0, none⟩) (k + 1) cc')) from fun g' cc' w1 o h1 h2 => by
        rw [cvF_snoc, HPX.out]
        exact (HS2.out.below (Below.refl _ _).drew).put (by rw [cvF_len]; exact h1) h2)
      have HSL := Lib.hid (show ∀ (w1 : World) (o : Obj), (wr.drew.alloc o).grownBy w1 v.ownBlock → w1.cell? ⟨w.heap.size + 1 + 1, 2, none⟩ = some v ∧ w1.frozen? ⟨w.heap.size + 1 + 1, 2, none⟩ = false from fun w1 o h => (HS2.out.below (Below.refl _ _).drew).still h)
      have w1' : IntKind.i64.wrap ((j : Int) + 1) = (j : Int) + 1 := IntWalk.i64_in _ (by omega)
      have j1 : 0 ≤ (j : Int) + 1 := by omega
      have j2 : (j : Int) < (x.m : Int) := by omega
      have j3 : (j : Int) + 1 < (x.m : Int) := by omega
      have j4 : ((j : Int) + 1).toNat = j + 1 := by omega
      clear hst hp hpa hown
      go_wp2
      go_region_law (first | (refine step_append_lies _ rfl (.tmp 19) (.tmp 32) 32 rfl (w.heap.size + 1 + 1 + 1) 49 i0 (.complex .f64 0 0) 1 16 Tryd.underlying32 hi0 hz0 hz1 hz2 rfl (by decide) v k (cvF (smp x.p) k) (by simp [Act.eval, Act.put]) (by first | exact (HOW2.out.alloc _).drew | exact HOW2.out.drew.alloc _) ⟨wr.heap.size, 0, none⟩ 1 1 [.complex .f64 u1 u2] (by simp [Act.eval, Act.put]) rfl (by intro j u hj; rcases j with _ | j; (focus (simp at hj; subst hj; (first | (simp [Addr.add, go_sem]; done) | simp [Addr.add, go_sem, ↓IntWalk.iteOmega]))); (focus (simp at hj))) (by intro u hu; simp at hu; subst hu; rfl) (by decide) (by unfold maxLen; omega) (by omega) (by first | omega | (simp; omega)) _ rfl ?_; intro g' cc' w1 hown' hgrow _ _; have HN2 := Lib.hid (show TriSt W1 (w.heap.size + 1) (w.heap.size + 1 + 1) x.L x.S 49 (.slice (some ⟨g', 0, none⟩) (k + 1) cc') (cvF (smp x.p) (k + 1)) _ from HSN.out _ _ _ _ hown' hgrow); obtain ⟨hcb, hfb⟩ := HSL.out _ _ hgrow; clear hown' hgrow))
      all_goals
        go_wp2
        go_roundw
        case rel => exact ⟨k + 1, j + 2, _, by have := HJ.out; omega, by omega, by go_num, HN2.out⟩
        case measure => simp [intOf]; omega
    · have hdk : decide ((j : Int) + 1 < (x.m : Int)) = false := by simp; omega
      have HK := Lib.hid (show k = x.m / 2 by have := HJ.out; omega)
      have hown := hst.own
      rw [cvF_len] at hown
      obtain ⟨a', c', rfl⟩ := own_slice hown
      obtain ⟨e0, e1, e2, -, r0, r1, r2, g0, g1, g2, -, hbel, -, -⟩ := hst
      have HOW := Lib.hid hown
      have HBE := Lib.hid (HB1.out.trans (hbel.mono (by omega)))
      clear hown hbel
      go_wp2
      rw [← HK.out]
      refine bodyPost_ret ?_ rfl ⟨a', c', rfl, OwnS.mono (OwnS.set (OwnS.set (OwnS.set (ownS_row HOW.out) ?_ _) ?_ _) ?_ _) ?_, HBE.out.trans (by (repeat' (first | with_reducible exact Below.refl _ _ | (with_reducible refine below_later_of ?_ ?_ _) | (with_reducible refine Below.alloc ?_ ?_ _) | (with_reducible refine Below.setCell ?_ ?_ _) | (with_reducible refine Below.drew ?_) | (simp; done) | (simp; omega) | omega)))⟩
      · first | (simp [results, Tryd.results48, go_sem, r0, r1, r2]; done) | simp [results, Tryd.results48, go_sem, r0, r1, r2, ↓IntWalk.iteOmega]
      all_goals first | omega | (simp <;> omega)
end Go.Proofs.YtakohhlmomgegaaDoor
