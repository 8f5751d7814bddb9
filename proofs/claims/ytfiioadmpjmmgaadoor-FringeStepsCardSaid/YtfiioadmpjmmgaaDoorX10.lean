/- Chapter 4: slices.Chunk of phases: its closure yields the lines. -/
import Derived.Test.YtfiioadmpjmmgaaDoorZQ
import Derived.Test.YtfiioadmpjmmgaaDoorZR
import Derived.TacticsIn
import Derived.BigFrameIn
import Derived.OwnWalkIn
import Derived.TacticsInMore
import Derived.LoopNIn
import Derived.LoopIn
namespace Go.Proofs.YtfiioadmpjmmgaaDoor
set_option linter.unusedVariables false
set_option linter.unusedSimpArgs false
open Go.RowKit
set_option maxHeartbeats 400000 in
theorem chunkM_any (a : Option Addr) (n cap : Nat) (s : Int) (w : World) (h : 1 ≤ s) :
    Calls Tryd.prog 72 #[.slice a n cap, .int .i64 s] w fun e w' => e = .returned (.func (.func 94) #[] #[.pointer (some ⟨w.heap.size, 0, none⟩), .pointer (some ⟨w.heap.size + 1, 0, none⟩)]) ∧ (w'.heap[w.heap.size]? = some (.cells #[.slice a n cap] 49 (0, 0)) ∧ w'.heap[w.heap.size + 1]? = some (.cells #[.int .i64 s] 3 (0, 0))) ∧ w'.heap.size = w.heap.size + 2 ∧ Below w.heap.size w w' := by
  have hd : decide (s < 1) = false := by simp; omega
  go_enter Tryd.func72, Tryd.ntmps72
  go_wp2
  go_ret
  exact ⟨rfl, ⟨(Below.heap_alloc _ _ _ (by simp)).trans (World.alloc_heap_new w _), by rw [show w.heap.size + 1 = (w.alloc (.cells #[.slice a n cap] 49)).heap.size by simp]; exact World.alloc_heap_new _ _⟩, by simp, (by (repeat' (first | with_reducible exact Below.refl _ _ | (with_reducible refine below_later_of ?_ ?_ _) | (with_reducible refine Below.alloc ?_ ?_ _) | (with_reducible refine Below.setCell ?_ ?_ _) | (with_reducible refine Below.drew ?_) | (simp; done) | (simp; omega) | omega)))⟩
/-- Line number k. -/
def encM (b off S k : Nat) : Array Value := #[.slice (some ⟨b, off + k * S, none⟩) S S]
def ChunkM (p1 p2 b off n cap S : Nat) (W : World) : Prop := W.heap[p1]? = some (.cells #[.slice (some ⟨b, off, none⟩) n cap] 49 (0, 0)) ∧ W.heap[p2]? = some (.cells #[.int .i64 S] 3 (0, 0))
theorem ChunkM.cells {p1 p2 b off n cap S : Nat} {W : World} (h : ChunkM p1 p2 b off n cap S W) : W.cell? ⟨p1, 0, none⟩ = some (.slice (some ⟨b, off, none⟩) n cap) ∧ W.cell? ⟨p2, 0, none⟩ = some (.int .i64 S) :=
  ⟨by rw [cell_of_row W p1 0 _ _ _ h.1]; rfl, by rw [cell_of_row W p2 0 _ _ _ h.2]; rfl⟩
set_option maxRecDepth 20000 in
set_option maxHeartbeats 2000000 in
theorem chunkM_iter (T : TypeId) (n : Nat) (hn : 1 ≤ n) (p1 p2 b off m cap L S : Nat) (hm : m = L * S) (hc : m ≤ cap) (l1 : 1 ≤ L) (l2 : L ≤ 64) (s1 : 1 ≤ S) (s2 : S ≤ 64) (W : World) :
    IterOkT T (ChunkM p1 p2 b off m cap S) Fence.wide n Tryd.prog 94 #[.pointer (some ⟨p1, 0, none⟩), .pointer (some ⟨p2, 0, none⟩)] L (encM b off S) W := by
  intro l J Jx hJ hJx hS hY h0
  have HM := Lib.hid hm
  have HJ := Lib.hid hJ
  have HS := Lib.hid hS
  have HY := Lib.hid hY
  have H0 := Lib.hid h0
  have hm4 : m ≤ 4096 := by rw [hm]; exact Nat.mul_le_mul l2 s2
  clear hJ hJx hY h0 hm hS
  refine callsIn_of_wp Tryd.func94 rfl trivial ?_ rfl
  simp only [Tryd.ntmps94, List.size_toArray, List.length_cons, List.length_nil, Nat.reduceAdd, Nat.reduceSub, Array.replicate_succ, Array.replicate_zero, List.push_toArray, List.append_toArray, List.nil_append, List.cons_append]
  gi_wp2
  gi_loopw [4] (fun v wr => ∃ k i : Nat, k ≤ L ∧ i = k * S ∧ v = .int .i64 i ∧ J k wr ∧ W.heap.size ≤ wr.heap.size) (fun v _ => m + 1 - (intOf v).toNat)
  case atStart => exact ⟨0, 0, Nat.zero_le _, by simp, rfl, H0.out, Nat.le_refl _⟩
  case round =>
    obtain ⟨k, i, hk, hi, rfl, hj, hsz⟩ := hrel
    have HI := Lib.hid hi
    have HJI := Lib.hid hj
    obtain ⟨q1, q2⟩ := (HS.out k wr hj).cells
    clear hi
    by_cases hlt : k < L
    · have him : i + S ≤ m := by
        have h1 : (k + 1) * S ≤ L * S := Nat.mul_le_mul_right _ hlt
        rw [Nat.add_mul, Nat.one_mul] at h1
        have := HI.out
        have := HM.out
        omega
      have hdk : decide (i < m) = true := by simp; omega
      have hcp : i < cap := by omega
      have hp1 : p1 < wr.heap.size := World.block_lt_of_cell? wr _ q1
      have hp2 : p2 < wr.heap.size := World.block_lt_of_cell? wr _ q2
      have hmin : min (S : Int) ((m - i : Nat) : Int) = (S : Int) := by omega
      gi_wp2
      refine wpIn_wide.2 ?_
      refine wp_region_calm (by kernel_rfl) (by kernel_rfl) ?_
      repeat (go_big_quiet_step (fail))
      refine wpQuiet_nil ?_
      rintro _ ⟨pz, rfl⟩
      have hbz : Below wr.heap.size wr (later wr pz) := below_later wr pz
      obtain ⟨fn, tmps, assign, body, hy, hR⟩ := HY.out k (later wr pz) (HJ.out _ _ _ HJI.out (hbz.mono hsz) (CellsSame.below hbz)) hlt (Nat.le_trans hsz hbz.size)
      unfold encM at hy
      rw [← HI.out] at hy
      have HR := Lib.hid hR
      clear hR hbz hj
      gi_wp2
      refine HR.out.mono ?_
      rintro e W3 (⟨rfl, hJ3, hk3⟩ | ⟨rfl, hJx3⟩)
      · have HJ3 := Lib.hid hJ3
        obtain ⟨r1, r2⟩ := (HS.out _ _ hJ3).cells
        have hs3 := hk3.size
        clear hk3 hJ3 q1 q2
        gi_wp2
        go_roundw
        case rel => exact ⟨k + 1, i + S, by omega, by rw [Nat.add_mul, Nat.one_mul, HI.out], by go_num, HJ3.out, by simp at hs3; omega⟩
        case measure => simp [intOf]; omega
      · gi_wp2
        refine bodyPost_ret (results_none rfl _ _ _) rfl ?_
        exact ⟨⟨_, rfl⟩, .inr hJx3⟩
    · obtain rfl : k = L := by omega
      have hdk : decide (i < m) = false := by simp; have := HI.out; have := HM.out; omega
      clear hj
      gi_wp2
      go_end0
      exact ⟨⟨_, rfl⟩, .inl HJI.out⟩
end Go.Proofs.YtfiioadmpjmmgaaDoor
