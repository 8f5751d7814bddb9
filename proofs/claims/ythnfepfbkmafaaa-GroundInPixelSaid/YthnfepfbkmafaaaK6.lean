/- The cells of a view, one by one. -/
import Derived.Test.YthnfepfbkmafaaaK4
import Derived.Test.YthnfepfbkmafaaaL3
import Derived.TacticsIn
import Derived.BigFrameIn
import Derived.OwnWalkIn
import Derived.TacticsInMore
import Derived.LoopNIn
import Derived.LoopIn
namespace Go.Proofs.Ythnfepfbkmafaaa
set_option linter.unusedVariables false
open Go.RowKit
def encC (nc k : Nat) : Array Value := #[.int .i64 ((k / nc : Nat) : Int), .int .i64 ((k % nc : Nat) : Int)]
theorem encC_at {nc i j : Nat} (hj : j < nc) : encC nc (i * nc + j) = #[.int .i64 (i : Int), .int .i64 (j : Int)] := by
  unfold encC
  rw [Nat.mul_comm, Nat.mul_add_div (by omega), Nat.div_eq_of_lt hj, Nat.mul_add_mod, Nat.mod_eq_of_lt hj, Nat.add_zero]
theorem ViewAt.block {w w' : World} {B : Nat} {t : Trk} {r : Rel} {b off cap : Nat} (h : ViewAt w B t r b off cap) (hw : w'.heap[B]? = w.heap[B]?) : ViewAt w' B t r b off cap := by
  have hc : ∀ j, w'.cell? ⟨B, j, none⟩ = w.cell? ⟨B, j, none⟩ := fun j => World.cell?_of_block hw
  unfold ViewAt at h ⊢
  simp only [hc]
  exact h
set_option maxRecDepth 20000 in
set_option maxHeartbeats 1000000 in
theorem cells_iter (n : Nat) (hn : 1 ≤ n) (t : Trk) (r : Rel) (b off cap : Nat) (o : r.Ok) (nr nc : Nat) (hnr : r.rows = nr) (hnc : r.cols = nc) (W : World) :
    IterOk Fence.wide n Try.prog 126 #[.agg #[.int .i64 t.sx, .int .i64 t.sy, .int .i64 t.sz, .int .i64 t.step, .int .i64 t.lines, .int .i64 t.near, .int .i64 t.bin, .int .i64 t.bins, .bool t.east, .int .i64 r.x, .int .i64 r.y, .int .i64 r.cell, .int .i64 r.rows, .int .i64 r.cols, .slice (some ⟨b, off, none⟩) r.ds.length cap]] (nr * nc) (encC nc) W := by
  intro l J Jx hJ hJx hY h0
  obtain ⟨-, -, -, -, -, -, r1, r2, l1, l2, -⟩ := o
  have HNR := Lib.hid hnr
  have HNC := Lib.hid hnc
  have HJ := Lib.hid hJ
  have HY := Lib.hid hY
  have H0 := Lib.hid h0
  clear hJ hJx hY h0
  refine callsIn_of_wp Try.func126 rfl trivial ?_ rfl
  simp only [Try.ntmps126, List.size_toArray, List.length_cons, List.length_nil, Nat.reduceAdd, Nat.reduceSub, Array.replicate_succ, Array.replicate_zero, List.push_toArray, List.append_toArray, List.nil_append, List.cons_append]
  have c1 : 1 ≤ nc := by omega
  have c2 : nc ≤ 64 := by omega
  have c3 : 1 ≤ nr := by omega
  have c4 : nr ≤ 64 := by omega
  clear hnr hnc
  gi_wp2
  obtain ⟨W2, hW2, hV2, hB2, hs2⟩ : ∃ W2, W.alloc (.cells #[.int .i64 t.sx, .int .i64 t.sy, .int .i64 t.sz, .int .i64 t.step, .int .i64 t.lines, .int .i64 t.near, .int .i64 t.bin, .int .i64 t.bins, .bool t.east, .int .i64 r.x, .int .i64 r.y, .int .i64 r.cell, .int .i64 r.rows, .int .i64 r.cols, .slice (some ⟨b, off, none⟩) r.ds.length cap] 144) = W2 ∧ ViewAt W2 W.heap.size t r b off cap ∧ Below W.heap.size W W2 ∧ W2.heap.size = W.heap.size + 1 :=
    ⟨_, rfl, viewAt_alloc _ _ _ _ _ _ _, (Below.refl _ _).alloc (Nat.le_refl _) _, by simp⟩
  rw [hW2]
  have HV2 := Lib.hid hV2
  have HJ0 := Lib.hid (HJ.out 0 _ _ H0.out hB2)
  have hlt2 : W.heap.size < W2.heap.size := by omega
  clear hW2 hV2 hB2 hs2
  gi_loopw [11] (fun v wr => ∃ i : Nat, i ≤ nr ∧ v = .int .i64 i ∧ J (i * nc) wr ∧ KeepTop W.heap.size W2 wr) (fun v _ => nr - (intOf v).toNat)
  case atStart => exact ⟨0, Nat.zero_le _, rfl, by rw [Nat.zero_mul]; exact HJ0.out, KeepTop.refl _ _⟩
  case round =>
    obtain ⟨i, hi, rfl, hj, hkt⟩ := hrel
    obtain ⟨c0, d1, d2, d3, d4, d5, d6, d7, d8, d9, d10, d11, d12, d13, d14⟩ := HV2.out.block (hkt.same _ (Nat.le_refl _) hlt2)
    clear c0 d1 d2 d3 d4 d5 d6 d7 d8 d9 d10 d11 d14
    have HKT := Lib.hid hkt
    have HJI := Lib.hid hj
    have hsz := hkt.size
    clear hj hkt
    by_cases hlt : i < nr
    · have hlt' : (i : Int) < r.rows := by have := HNR.out; omega
      gi_wp2
      gi_loopw [19] (fun v wr => ∃ j : Nat, j ≤ nc ∧ v = .int .i64 j ∧ J (i * nc + j) wr ∧ KeepTop W.heap.size W2 wr) (fun v _ => nc - (intOf v).toNat)
      case atStart => exact ⟨0, Nat.zero_le _, rfl, by rw [Nat.add_zero]; exact HJI.out, HKT.out⟩
      case round =>
        obtain ⟨j, hjn, rfl, hj2, hkt2⟩ := hrel
        by_cases hjl : j < nc
        · have hjl' : (j : Int) < r.cols := by have := HNC.out; omega
          have hk : i * nc + j < nr * nc := by
            have := Nat.mul_le_mul_right nc (show i + 1 ≤ nr by omega)
            rw [Nat.add_mul] at this; omega
          obtain ⟨fn, tmps, assign, body, hy, hR⟩ := HY.out _ _ hj2 hk (Nat.le_trans (Nat.le_of_lt hlt2) hkt2.size)
          rw [encC_at hjl] at hy
          have HR := Lib.hid hR
          have HK2 := Lib.hid hkt2
          clear hR hj2 hkt2
          gi_wp2
          refine HR.out.mono ?_
          rintro e W3 (⟨rfl, hJ3, hk3⟩ | ⟨rfl, hJx3⟩)
          · have HJ3 := Lib.hid hJ3
            have HK3 := Lib.hid (HK2.out.trans hk3)
            clear hJ3 hk3
            gi_wp2
            go_roundw
            case rel => exact ⟨j + 1, by omega, by go_num, HJ3.out, HK3.out⟩
            case measure => simp [intOf]; omega
          · gi_wp2
            refine bodyPost_ret (results_none rfl _ _ _) rfl ?_
            exact ⟨⟨_, rfl⟩, .inr hJx3⟩
        · have hjg : r.cols ≤ (j : Int) := by have := HNC.out; omega
          obtain rfl : j = nc := by omega
          have HJE := Lib.hid hj2
          have HKE := Lib.hid hkt2
          clear hj2 hkt2
          gi_wp2
          go_roundw
          case rel => exact ⟨i + 1, by omega, by go_num, by rw [Nat.add_mul, Nat.one_mul]; exact HJE.out, HKE.out⟩
          case measure => simp [intOf]; omega
    · have hge : r.rows ≤ (i : Int) := by have := HNR.out; omega
      obtain rfl : i = nr := by omega
      gi_wp2
      go_end0
      exact ⟨⟨_, rfl⟩, .inl HJI.out⟩
end Go.Proofs.Ythnfepfbkmafaaa
