/- For the laws over chapter 9's layers: the examples; the heights of a relief. -/
import Derived.Test.YtokpdmlmlkkekaaE2
import Derived.Test.YtokpdmlmlkkekaaZW
import Derived.Test.YtokpdmlmlkkekaaS5
import Derived.RegionTactic
import Derived.ChangeAlike
namespace Go.Proofs.Ytokpdmlmlkkekaa
set_option linter.unusedVariables false
open Go.RowKit
set_option maxHeartbeats 400000 in
theorem grounded_any (w : World) : Calls Try.prog 72 #[] w fun e w' => e = .returned (.bool true) ∧ Below w.heap.size w w' := by
  go_enter Try.func72, Try.ntmps72
  go_wp2_with (first | (go_at_call 76; refine (flight_any _).mono ?_; rintro e w' ⟨rfl, hb⟩; obtain ⟨pp, rfl⟩ := later_of_below hb; clear hb) | (go_at_call 25; refine (pixel_a _).mono ?_; rintro e w' ⟨rfl, hb⟩; obtain ⟨pp, rfl⟩ := later_of_below hb; clear hb))
  go_ret
  exact ⟨ret_bool (by simp), (by (repeat' (first | with_reducible exact Below.refl _ _ | (with_reducible refine below_later_of ?_ ?_ _) | (with_reducible refine Below.alloc ?_ ?_ _) | (with_reducible refine Below.setCell ?_ ?_ _) | (with_reducible refine Below.drew ?_) | (simp; done) | (simp; omega) | omega)))⟩
theorem wp_worldG {P : Program} {c : Code} {Q : Exit → Act → World → Prop} {a : Act} {w : World} (F : World → Prop) (hf : F w) (h : ∀ W, F W → Code.wp P c Q a W) : Code.wp P c Q a w := h w hf
/-- Block B holds two numbers that may be written. -/
def PairAt (W : World) (B : Nat) (a b : Int) : Prop := W.cell? ⟨B, 0, none⟩ = some (.int .i64 a) ∧ W.cell? ⟨B, 1, none⟩ = some (.int .i64 b) ∧ W.frozen? ⟨B, 0, none⟩ = false ∧ W.frozen? ⟨B, 1, none⟩ = false
theorem PairAt.put {W : World} {B : Nat} {a b : Int} (h : PairAt W B a b) (c d : Int) : PairAt ((W.setCell ⟨B, 0, none⟩ (.int .i64 c)).setCell ⟨B, 1, none⟩ (.int .i64 d)) B c d := by
  obtain ⟨h1, h2, h3, h4⟩ := h
  refine ⟨?_, ?_, ?_, ?_⟩ <;> simp [go_sem, h1, h2, h3, h4]
theorem PairAt.keep {W : World} {B B' : Nat} {a b : Int} (hne : B ≠ B') (h : PairAt W B a b) (x y : Value) : PairAt ((W.setCell ⟨B', 0, none⟩ x).setCell ⟨B', 1, none⟩ y) B a b := by
  obtain ⟨h1, h2, h3, h4⟩ := h
  have hne' : B' ≠ B := fun e => hne e.symm
  refine ⟨?_, ?_, ?_, ?_⟩ <;> simp [go_sem, h1, h2, h3, h4]
theorem relBlk_keep {W : World} {B B' : Nat} {r : Rel} {a : Option Addr} {cap : Nat} (hne : B ≠ B') (h : RelBlk W B r a cap) (x y : Value) : RelBlk ((W.setCell ⟨B', 0, none⟩ x).setCell ⟨B', 1, none⟩ y) B r a cap := by
  obtain ⟨h0, h1, h2, h3, h4, h5⟩ := h
  have hne' : B' ≠ B := fun e => hne e.symm
  refine ⟨?_, ?_, ?_, ?_, ?_, ?_⟩ <;> simp [go_sem, h0, h1, h2, h3, h4, h5]
set_option maxRecDepth 20000 in
set_option maxHeartbeats 4000000 in
theorem heights_any (r : Rel) (b off cap : Nat) (w : World) (hl : r.ds.length ≤ 1000000000) (hp : 0 < r.ds.length) (hf : FlInts intB r.ds) (hbw : b < w.heap.size) (hc : FloatsAt w b off r.ds) :
    Calls Try.prog 74 #[.agg #[.int .i64 r.x, .int .i64 r.y, .int .i64 r.cell, .int .i64 r.rows, .int .i64 r.cols, .slice (some ⟨b, off, none⟩) r.ds.length cap]] w fun e w' => e = .returned (.agg #[.int .i64 (hiLo r r.ds.length).1, .int .i64 (hiLo r r.ds.length).2]) ∧ Below w.heap.size w w' := by
  have c0 := hc 0 hp
  rw [Nat.add_zero] at c0
  have f0 := (hf 0 hp).1
  unfold FlInt at f0
  have HC := Lib.hid hc
  have HFI := Lib.hid hf
  have hs : ∀ m, hiLo r (m + 1) = (min (hiLo r m).1 (intB (bitAt r.ds m)), max (hiLo r m).2 (intB (bitAt r.ds m))) := fun m => rfl
  have HS := Lib.hid hs
  have H00 := Lib.hid (show (hiLo r 0).1 = intB (bitAt r.ds 0) ∧ (hiLo r 0).2 = intB (bitAt r.ds 0) from ⟨rfl, rfl⟩)
  clear hf hs hc
  go_enter Try.func74, Try.ntmps74
  go_wp2
  go_region
  all_goals
    go_wp2
    refine wp_worldG (fun W => RelBlk W w.heap.size r (some ⟨b, off, none⟩) cap ∧ PairAt W (w.heap.size + 1) 0 0 ∧ PairAt W (w.heap.size + 1 + 1) (intB (bitAt r.ds 0)) (intB (bitAt r.ds 0)) ∧ Below w.heap.size w W) ⟨⟨(by (first | (simp [go_sem]; done) | simp [go_sem, ↓IntWalk.iteOmega])), (by (first | (simp [go_sem]; done) | simp [go_sem, ↓IntWalk.iteOmega])), (by (first | (simp [go_sem]; done) | simp [go_sem, ↓IntWalk.iteOmega])), (by (first | (simp [go_sem]; done) | simp [go_sem, ↓IntWalk.iteOmega])), (by (first | (simp [go_sem]; done) | simp [go_sem, ↓IntWalk.iteOmega])), (by (first | (simp [go_sem]; done) | simp [go_sem, ↓IntWalk.iteOmega]))⟩, ⟨(by (first | (simp [go_sem]; done) | simp [go_sem, ↓IntWalk.iteOmega])), (by (first | (simp [go_sem]; done) | simp [go_sem, ↓IntWalk.iteOmega])), (by (first | (simp [go_sem]; done) | simp [go_sem, ↓IntWalk.iteOmega])), (by (first | (simp [go_sem]; done) | simp [go_sem, ↓IntWalk.iteOmega]))⟩, ⟨(by (first | (simp [go_sem]; done) | simp [go_sem, ↓IntWalk.iteOmega])), (by (first | (simp [go_sem]; done) | simp [go_sem, ↓IntWalk.iteOmega])), (by (first | (simp [go_sem]; done) | simp [go_sem, ↓IntWalk.iteOmega])), (by (first | (simp [go_sem]; done) | simp [go_sem, ↓IntWalk.iteOmega]))⟩, (by (repeat' (first | with_reducible exact Below.refl _ _ | (with_reducible refine below_later_of ?_ ?_ _) | (with_reducible refine Below.alloc ?_ ?_ _) | (with_reducible refine Below.setCell ?_ ?_ _) | (with_reducible refine Below.drew ?_) | (simp; done) | (simp; omega) | omega)))⟩ ?_
    rintro W2 ⟨kk, zz, oo, hb⟩
    have KK := Lib.hid kk
    have ZZ := Lib.hid zz
    have OO := Lib.hid oo
    have HBW := Lib.hid hb
    clear kk zz oo hb c0 f0
    go_loopw [4] (fun i wr => ∃ n : Nat, n ≤ r.ds.length ∧ i = .int .i64 n ∧ RelBlk wr w.heap.size r (some ⟨b, off, none⟩) cap ∧ PairAt wr (w.heap.size + 1) 0 0 ∧ PairAt wr (w.heap.size + 1 + 1) (hiLo r n).1 (hiLo r n).2 ∧ Below w.heap.size w wr) (fun i _ => r.ds.length - (intOf i).toNat)
    case atStart => exact ⟨0, Nat.zero_le _, rfl, KK.out, ZZ.out, by rw [H00.out.1, H00.out.2]; exact OO.out, HBW.out⟩
    case round =>
      obtain ⟨n, hn, rfl, kk, zz, oo, hb⟩ := hrel
      have K2 := Lib.hid kk
      have Z2 := Lib.hid zz
      have O2 := Lib.hid oo
      have HB2 := Lib.hid hb
      obtain ⟨k0, k1, k2, k3, k4, k5⟩ := kk
      by_cases hlt : n < r.ds.length
      · have cn := (hb.cell (p := ⟨b, off + n, none⟩) hbw).trans (HC.out n hlt)
        have fn := (HFI.out n hlt).1
        unfold FlInt at fn
        have H1 := Lib.hid (show (hiLo r (n + 1)).1 = min (hiLo r n).1 (intB (bitAt r.ds n)) ∧ (hiLo r (n + 1)).2 = max (hiLo r n).2 (intB (bitAt r.ds n)) by rw [HS.out n]; exact ⟨rfl, rfl⟩)
        obtain ⟨o0, o1, o2, o3⟩ := oo
        have hd : decide ((n : Int) < (r.ds.length : Int)) = true := by simp; omega
        clear hb zz
        go_wp2
        go_roundw
        case rel => exact ⟨n + 1, by omega, by go_num, relBlk_keep (by omega) K2.out _ _, Z2.out.keep (by omega) _ _, by rw [H1.out.1, H1.out.2]; exact O2.out.put _ _, HB2.out.trans (by (repeat' (first | with_reducible exact Below.refl _ _ | (with_reducible refine below_later_of ?_ ?_ _) | (with_reducible refine Below.alloc ?_ ?_ _) | (with_reducible refine Below.setCell ?_ ?_ _) | (with_reducible refine Below.drew ?_) | (simp; done) | (simp; omega) | omega)))⟩
        case measure => simp [intOf]; omega
      · obtain rfl : n = r.ds.length := by omega
        obtain ⟨o0, o1, o2, o3⟩ := oo
        obtain ⟨z0, z1, z2, z3⟩ := zz
        clear hb
        go_wp2
        refine bodyPost_ret ?_ rfl ⟨rfl, HB2.out.trans (by (repeat' (first | with_reducible exact Below.refl _ _ | (with_reducible refine below_later_of ?_ ?_ _) | (with_reducible refine Below.alloc ?_ ?_ _) | (with_reducible refine Below.setCell ?_ ?_ _) | (with_reducible refine Below.drew ?_) | (simp; done) | (simp; omega) | omega)))⟩
        first | (simp [results, Try.results74, go_sem, z0, z1]; done) | simp [results, Try.results74, go_sem, z0, z1, ↓IntWalk.iteOmega]
end Go.Proofs.Ytokpdmlmlkkekaa
