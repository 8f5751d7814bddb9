/- Chapter 4: around: the pairs of a window, as an iterator. -/
import Derived.Test.YtfiioadmpjmmgaaGreatDoorX60
import Derived.Test.YtfiioadmpjmmgaaGreatDoorXE
import Derived.Test.YtfiioadmpjmmgaaGreatDoorZR
import Derived.TacticsIn
import Derived.BigFrameIn
import Derived.OwnWalkIn
import Derived.TacticsInMore
import Derived.LoopNIn
import Derived.LoopIn
namespace Go.Proofs.YtfiioadmpjmmgaaGreatDoor
set_option linter.unusedVariables false
set_option linter.unusedSimpArgs false
open Go.RowKit
/-- The boxes that around's closure has captured: the grid, the line, the sample, half. -/
structure AroB (W : World) (B L S g n cap line sample half : Nat) : Prop where
  c0 : W.cell? ⟨B, 0, none⟩ = some (.int .i64 L)
  c1 : W.cell? ⟨B, 1, none⟩ = some (.int .i64 S)
  c2 : W.cell? ⟨B, 2, none⟩ = some (.slice (some ⟨g, 0, none⟩) n cap)
  cl : W.cell? ⟨B + 1, 0, none⟩ = some (.int .i64 line)
  cs : W.cell? ⟨B + 2, 0, none⟩ = some (.int .i64 sample)
  ch : W.cell? ⟨B + 3, 0, none⟩ = some (.int .i64 half)
theorem AroB.below {W W' : World} {D B L S g n cap line sample half : Nat} (h : AroB W B L S g n cap line sample half) (hb : Below D W W') (hB : B + 3 < D) : AroB W' B L S g n cap line sample half :=
  ⟨(hb.cell (p := ⟨B, 0, none⟩) (show B < D by omega)).trans h.c0, (hb.cell (p := ⟨B, 1, none⟩) (show B < D by omega)).trans h.c1, (hb.cell (p := ⟨B, 2, none⟩) (show B < D by omega)).trans h.c2, (hb.cell (p := ⟨B + 1, 0, none⟩) (show B + 1 < D by omega)).trans h.cl, (hb.cell (p := ⟨B + 2, 0, none⟩) (show B + 2 < D by omega)).trans h.cs, (hb.cell (p := ⟨B + 3, 0, none⟩) (show B + 3 < D by omega)).trans h.ch⟩
set_option maxHeartbeats 400000 in
theorem around_any (L S g n cap line sample half : Nat) (w : World) :
    Calls Tryz.prog 74 #[.agg #[.int .i64 L, .int .i64 S, .slice (some ⟨g, 0, none⟩) n cap], .int .i64 line, .int .i64 sample, .int .i64 half] w fun e w' =>
      ∃ B, B = w.heap.size ∧ e = .returned (.func (.func 142) #[] #[.pointer (some ⟨B + 1, 0, none⟩), .pointer (some ⟨B + 3, 0, none⟩), .pointer (some ⟨B, 0, none⟩), .pointer (some ⟨B + 2, 0, none⟩)]) ∧ AroB w' B L S g n cap line sample half ∧ B + 3 < w'.heap.size ∧ Below w.heap.size w w' := by
  go_enter Tryz.func74, Tryz.ntmps74
  go_wp2
  go_ret
  exact ⟨w.heap.size, rfl, rfl, ⟨by simp [go_sem], by simp [go_sem], by simp [go_sem], by simp [go_sem], by simp [go_sem], by simp [go_sem]⟩, by simp <;> omega, (by (repeat' (first | with_reducible exact Below.refl _ _ | (with_reducible refine below_later_of ?_ ?_ _) | (with_reducible refine Below.alloc ?_ ?_ _) | (with_reducible refine Below.setCell ?_ ?_ _) | (with_reducible refine Below.drew ?_) | (simp; done) | (simp; omega) | omega)))⟩
/-- The pair number k of a window. -/
def winI (S l0 s0 sc k : Nat) : Nat := (l0 + k / sc) * S + (s0 + k % sc)
def encW (F : Nat → Int × Int) (S l0 s0 sc k : Nat) : Array Value := #[.agg #[.int .i64 (F (winI S l0 s0 sc k)).1, .int .i64 (F (winI S l0 s0 sc k)).2]]
theorem winI_at {S l0 s0 sc a b : Nat} (hb : b < sc) : winI S l0 s0 sc (a * sc + b) = (l0 + a) * S + (s0 + b) := by
  unfold winI
  rw [Nat.mul_comm a sc, Nat.mul_add_div (by omega), Nat.div_eq_of_lt hb, Nat.mul_add_mod, Nat.mod_eq_of_lt hb, Nat.add_zero]
def AroS (B L S g n cap line sample half : Nat) (F : Nat → Int × Int) (W : World) : Prop := AroB W B L S g n cap line sample half ∧ PairsAt W g n F ∧ g < W.heap.size ∧ B + 3 < W.heap.size
set_option maxRecDepth 20000 in
set_option maxHeartbeats 4000000 in
theorem around_iter (T : TypeId) (q : Nat) (hq : 1 ≤ q) (B L S g n cap line sample half : Nat) (F : Nat → Int × Int) (hn : n = L * S) (l2 : L ≤ 64) (s2 : S ≤ 64) (hl : line < L) (hs : sample < S) (hh : half ≤ 4) (W : World) :
    IterOkT T (AroS B L S g n cap line sample half F) Fence.wide q Tryz.prog 142 #[.pointer (some ⟨B + 1, 0, none⟩), .pointer (some ⟨B + 3, 0, none⟩), .pointer (some ⟨B, 0, none⟩), .pointer (some ⟨B + 2, 0, none⟩)] (cntW line half L * cntW sample half S) (encW F S (loW line half) (loW sample half) (cntW sample half S)) W := by
  intro l J Jx hJ hJx hS hY h0
  have HJ := Lib.hid hJ
  have HS := Lib.hid hS
  have HY := Lib.hid hY
  have H0 := Lib.hid h0
  obtain ⟨l0, hl0⟩ : ∃ l0, loW line half = l0 := ⟨_, rfl⟩
  obtain ⟨s0, hs0⟩ : ∃ s0, loW sample half = s0 := ⟨_, rfl⟩
  obtain ⟨lc, hlc⟩ : ∃ lc, cntW line half L = lc := ⟨_, rfl⟩
  obtain ⟨sc, hsc⟩ : ∃ sc, cntW sample half S = sc := ⟨_, rfl⟩
  obtain ⟨t1, t2⟩ := cntW_le (half := half) hl
  obtain ⟨t3, t4⟩ := cntW_le (half := half) hs
  rw [hl0, hlc] at t1 t2
  rw [hs0, hsc] at t3 t4
  have em1 : max ((line : Int) - (half : Int)) 0 = (l0 : Int) := by unfold loW at hl0; omega
  have em2 : max ((sample : Int) - (half : Int)) 0 = (s0 : Int) := by unfold loW at hs0; omega
  obtain ⟨le, hle⟩ : ∃ le, l0 + lc = le := ⟨_, rfl⟩
  obtain ⟨se, hse⟩ : ∃ se, s0 + sc = se := ⟨_, rfl⟩
  have en1 : min ((line : Int) + (half : Int)) ((L : Int) - 1) = (le : Int) - 1 := by rw [← hle, t2]; unfold hiW; omega
  have en2 : min ((sample : Int) + (half : Int)) ((S : Int) - 1) = (se : Int) - 1 := by rw [← hse, t4]; unfold hiW; omega
  rw [hl0, hs0, hlc, hsc] at HY
  rw [hlc, hsc]
  clear hJ hJx hY h0 hS hl0 hs0 hlc hsc t2 t4
  refine callsIn_of_wp Tryz.func142 rfl trivial ?_ rfl
  simp only [Tryz.ntmps142, List.size_toArray, List.length_cons, List.length_nil, Nat.reduceAdd, Nat.reduceSub, Array.replicate_succ, Array.replicate_zero, List.push_toArray, List.append_toArray, List.nil_append, List.cons_append]
  obtain ⟨⟨c0, c1, c2, cl, cs, ch⟩, -, -, hB0⟩ := HS.out 0 _ H0.out
  gi_wp2
  gi_loopw [6] (fun v wr => ∃ la : Nat, l0 ≤ la ∧ la ≤ le ∧ v = .int .i64 la ∧ J ((la - l0) * sc) wr ∧ W.heap.size ≤ wr.heap.size) (fun v _ => le - (intOf v).toNat)
  case atStart => exact ⟨l0, Nat.le_refl _, by omega, rfl, by rw [Nat.sub_self, Nat.zero_mul]; exact H0.out, Nat.le_refl _⟩
  case round =>
    clear c0 c1 c2 cl cs ch hB0
    obtain ⟨la, ha0, ha, rfl, hj, hsz⟩ := hrel
    have HJI := Lib.hid hj
    obtain ⟨⟨c0, c1, c2, cl, cs, ch⟩, -, -, hB0⟩ := HS.out _ wr hj
    by_cases hlt : la < le
    · have hd1 : decide ((la : Int) ≤ (le : Int) - 1) = true := by simp; omega
      clear hj
      gi_wp2
      gi_loopw [7] (fun v wr => ∃ sb : Nat, s0 ≤ sb ∧ sb ≤ se ∧ v = .int .i64 sb ∧ J ((la - l0) * sc + (sb - s0)) wr ∧ W.heap.size ≤ wr.heap.size) (fun v _ => se - (intOf v).toNat)
      case atStart => exact ⟨s0, Nat.le_refl _, by omega, rfl, by rw [Nat.sub_self, Nat.add_zero]; exact HJI.out, hsz⟩
      case round =>
        clear c0 c1 c2 cl cs ch hB0
        obtain ⟨sb, hb0, hb, rfl, hj, hsz⟩ := hrel
        have HJB := Lib.hid hj
        obtain ⟨⟨c0, c1, c2, cl, cs, ch⟩, hpr, hgw, hB0⟩ := HS.out _ wr hj
        by_cases hlb : sb < se
        · have hd2 : decide ((sb : Int) ≤ (se : Int) - 1) = true := by simp; omega
          have hk : (la - l0) * sc + (sb - s0) < lc * sc := by
            have h1 : (la - l0 + 1) * sc ≤ lc * sc := Nat.mul_le_mul_right _ (by omega)
            rw [Nat.add_mul, Nat.one_mul] at h1
            omega
          obtain ⟨i, hi⟩ : ∃ i, la * S + sb = i := ⟨_, rfl⟩
          have hin : i < n := by
            have h1 : (la + 1) * S ≤ L * S := Nat.mul_le_mul_right _ (by omega)
            rw [Nat.add_mul, Nat.one_mul] at h1
            omega
          have hic : (la : Int) * (S : Int) + (sb : Int) = (i : Int) := by rw [← hi, Int.natCast_add, Int.natCast_mul]
          have hi1 : (i : Int) < (n : Int) := by omega
          have hi0 : (0 : Int) ≤ (i : Int) := by omega
          have him : i ≤ 4096 := by
            have := Nat.mul_le_mul l2 s2
            omega
          have hmm : (la : Int) * (S : Int) ≤ 4096 ∧ 0 ≤ (la : Int) * (S : Int) := by
            have h1 : (0 : Int) ≤ (la : Int) * (S : Int) := Int.mul_nonneg (by omega) (by omega)
            omega
          obtain ⟨m1, m2⟩ := hmm
          obtain ⟨p1, p2⟩ := hpr i hin
          obtain ⟨fn, tmps, assign, body, hy, hR⟩ := HY.out _ wr hj hk hsz
          unfold encW at hy
          rw [winI_at (by omega), show l0 + (la - l0) = la by omega, show s0 + (sb - s0) = sb by omega, hi] at hy
          have HR := Lib.hid hR
          clear hR hj hpr
          generalize (F i).1 = x at *
          generalize (F i).2 = y at *
          gi_wp2
          refine HR.out.mono ?_
          rintro e W3 (⟨rfl, hJ3, hk3⟩ | ⟨rfl, hJx3⟩)
          · have HJ3 := Lib.hid hJ3
            have hs3 := hk3.size
            clear hk3 hJ3 c0 c1 c2 cl cs ch p1 p2 hB0 hgw
            gi_wp2
            go_roundw
            case rel => exact ⟨sb + 1, by omega, by omega, by go_num, by rw [show sb + 1 - s0 = sb - s0 + 1 by omega, ← Nat.add_assoc]; exact HJ3.out, by omega⟩
            case measure => simp [intOf]; omega
          · gi_wp2
            refine bodyPost_ret (results_none rfl _ _ _) rfl ?_
            exact ⟨⟨_, rfl⟩, .inr hJx3⟩
        · obtain rfl : sb = se := by omega
          have hd2 : decide ((sb : Int) ≤ (sb : Int) - 1) = false := by simp; omega
          clear hj hpr
          gi_wp2
          go_roundw
          case rel => exact ⟨la + 1, by omega, by omega, by go_num, by rw [show la + 1 - l0 = la - l0 + 1 by omega, Nat.add_mul, Nat.one_mul, show sc = sb - s0 by omega]; exact (show sc = sb - s0 by omega) ▸ HJB.out, hsz⟩
          case measure => simp [intOf]; omega
    · obtain rfl : la = le := by omega
      have hd1 : decide ((la : Int) ≤ (la : Int) - 1) = false := by simp; omega
      clear hj
      gi_wp2
      go_end0
      exact ⟨⟨_, rfl⟩, .inl (by have := HJI.out; rwa [show la - l0 = lc by omega] at this)⟩
end Go.Proofs.YtfiioadmpjmmgaaGreatDoor
