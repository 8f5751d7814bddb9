/- The sides of a polygon. -/
import Derived.Test.YthnfepfbkmafaaaG2
import Derived.OwnWalk
namespace Go.Proofs.Ythnfepfbkmafaaa
set_option linter.unusedVariables false
open Go.RowKit
/-- A place. -/
structure Plc where
  x : Int
  y : Int
  z : Int
def plc0 : Plc := ⟨0, 0, 0⟩
def plcAt (ps : List Plc) (k : Nat) : Plc := ps[k]?.getD plc0
/-- Block b holds these places, one behind the other. -/
def Places (w : World) (b : Nat) (ps : List Plc) : Prop :=
  ∀ k, k < ps.length → w.cell? ⟨b, k * 3, none⟩ = some (.int .i64 (plcAt ps k).x) ∧ w.cell? ⟨b, k * 3 + 1, none⟩ = some (.int .i64 (plcAt ps k).y) ∧ w.cell? ⟨b, k * 3 + 2, none⟩ = some (.int .i64 (plcAt ps k).z)
theorem Places.below {w w' : World} {b B : Nat} {ps : List Plc} (h : Places w b ps) (hb : b < B) (hw : Below B w w') : Places w' b ps := fun k hk =>
  ⟨(hw.cell (p := ⟨b, k * 3, none⟩) hb).trans (h k hk).1, (hw.cell (p := ⟨b, k * 3 + 1, none⟩) hb).trans (h k hk).2.1, (hw.cell (p := ⟨b, k * 3 + 2, none⟩) hb).trans (h k hk).2.2⟩
/-- The next number, round and round. -/
def nextN (n k : Nat) : Nat := if k + 1 < n then k + 1 else 0
def sideAt (ps : List Plc) (m : Int) (k : Nat) : Sd := ⟨m * (plcAt ps k).x, m * (plcAt ps k).y, m * (plcAt ps (nextN ps.length k)).x, m * (plcAt ps (nextN ps.length k)).y⟩
def Sd.cells (s : Sd) : List Value := [.int .i64 s.x1, .int .i64 s.y1, .int .i64 s.x2, .int .i64 s.y2]
def sidesUpto (ps : List Plc) (m : Int) : Nat → List Value
  | 0 => []
  | k + 1 => sidesUpto ps m k ++ (sideAt ps m k).cells
theorem info170 : (Try.prog.info? 170).map (fun i => (i.zero, i.size, i.bytes)) = some (some (.agg #[.int .i64 0, .int .i64 0, .int .i64 0, .int .i64 0]), 4, 32) := by kernel_rfl
def Mid1 (p : Plc) : Prop := -100000000 ≤ p.x ∧ p.x ≤ 100000000 ∧ -100000000 ≤ p.y ∧ p.y ≤ 100000000
set_option maxRecDepth 20000 in
set_option maxHeartbeats 400000 in
theorem sides_any (ps : List Plc) (m : Int) (b cap : Nat) (w : World) (hm : m = 1 ∨ m = 2) (hn : 3 ≤ ps.length) (hn2 : ps.length ≤ 1000) (hbw : b < w.heap.size) (hp : Places w b ps) (hmid : ∀ k, k < ps.length → Mid1 (plcAt ps k)) :
    Calls Try.prog 115 #[.slice (some ⟨b, 0, none⟩) ps.length cap, .int .i64 m] w
      fun e w' => ∃ v, e = .returned v ∧ w'.ownsRow w.heap.size 170 4 v ps.length (sidesUpto ps m ps.length) ∧ Below w.heap.size w w' := by
  obtain ⟨i0, hi, hz0, hz1, hz2⟩ := info_parts info170
  go_enter Try.func115, Try.ntmps115
  go_wp2
  go_loopw [5, 11] (fun v i wr => ∃ k : Nat, k ≤ ps.length ∧ i = .int .i64 k ∧ wr.ownsRow w.heap.size 170 4 v k (sidesUpto ps m k) ∧ Below w.heap.size w wr)
    (fun _ i _ => ps.length - (intOf i).toNat)
  case atStart => exact ⟨0, Nat.zero_le _, rfl, World.ownsRow_nil _ _ _ _, Below.refl _ _⟩
  case round =>
    obtain ⟨k, hk, rfl, hown, hnx⟩ := hrel
    by_cases hlt : k < ps.length
    · have HP := hp.below hbw hnx
      obtain ⟨c1, c2, c3⟩ := HP k hlt
      have hjn : nextN ps.length k < ps.length := by unfold nextN; split <;> omega
      obtain ⟨d1, d2, d3⟩ := HP _ hjn
      have hrem : ((k : Int) + 1) % (ps.length : Int) = ((nextN ps.length k : Nat) : Int) := by
        unfold nextN
        split
        · rw [Int.emod_eq_of_lt (by omega) (by omega)]; omega
        · rw [show ((k : Int) + 1) = (ps.length : Int) by omega, Int.emod_self]; rfl
      obtain ⟨⟨u1, u2, u3, u4⟩, v1, v2, v3, v4⟩ := And.intro (hmid k hlt) (hmid _ hjn)
      have hs : sidesUpto ps m (k + 1) = sidesUpto ps m k ++ (sideAt ps m k).cells := rfl
      have HS := Lib.hid hs
      clear hs
      unfold sideAt Sd.cells at HS
      generalize plcAt ps k = p at c1 c2 c3 u1 u2 u3 u4 HS
      generalize nextN ps.length k = j at d1 d2 d3 v1 v2 v3 v4 hjn hrem HS
      generalize plcAt ps j = q at d1 d2 d3 v1 v2 v3 v4 HS
      have hbr : b < wr.heap.size := by have := hnx.size; omega
      have hwr : w.heap.size ≤ wr.heap.size := hnx.size
      have HO := Lib.hid hown
      have HX := Lib.hid hnx
      have hmul : 0 ≤ m ∧ m ≤ 2 := by omega
      obtain ⟨m1, m2⟩ := hmul
      have e1 : -200000000 ≤ m * p.x ∧ m * p.x ≤ 200000000 := by rcases hm with rfl | rfl <;> omega
      have e2 : -200000000 ≤ m * p.y ∧ m * p.y ≤ 200000000 := by rcases hm with rfl | rfl <;> omega
      have e3 : -200000000 ≤ m * q.x ∧ m * q.x ≤ 200000000 := by rcases hm with rfl | rfl <;> omega
      have e4 : -200000000 ≤ m * q.y ∧ m * q.y ≤ 200000000 := by rcases hm with rfl | rfl <;> omega
      obtain ⟨e11, e12⟩ := e1
      obtain ⟨e21, e22⟩ := e2
      obtain ⟨e31, e32⟩ := e3
      obtain ⟨e41, e42⟩ := e4
      clear HP hown hnx hp hmid hm
      go_wp2_with (first
        | (at_builtin; refine wpList_append_own _ rfl _ _ 165 rfl w.heap.size 170 i0 (.agg #[.int .i64 0, .int .i64 0, .int .i64 0, .int .i64 0]) 4 32 Try.underlying165 hi hz0 hz1 hz2 rfl (by decide) _ _ _ rfl (((HO.out.alloc _).alloc _).alloc _) ⟨wr.heap.size + 1 + 1, 0, none⟩ 1 1 [.int .i64 (m * p.x), .int .i64 (m * p.y), .int .i64 (m * q.x), .int .i64 (m * q.y)] rfl rfl ?c1 ?c2 ?c3 ?c4 ?c5 ?_)
        | go_in)
      case c2 => exact ⟨rfl, rfl, rfl, rfl⟩
      case c3 => unfold maxLen; omega
      case c4 => omega
      case c5 => first | omega | (simp; omega)
      intro v' w1 hown' hgrow _
      go_wp2
      go_roundw
      case rel =>
        refine ⟨k + 1, by omega, rfl, ?_, ?_⟩
        · rw [HS.out]; exact hown'
        · have h0 : Below w.heap.size w (((wr.alloc (.cells #[.int .i64 p.x, .int .i64 p.y, .int .i64 p.z] 23)).alloc (.cells #[.int .i64 q.x, .int .i64 q.y, .int .i64 q.z] 23)).alloc (.cells #[.int .i64 (m * p.x), .int .i64 (m * p.y), .int .i64 (m * q.x), .int .i64 (m * q.y)] 170)) :=
            ((HX.out.alloc (by omega) _).alloc (by simp; omega) _).alloc (by simp; omega) _
          exact h0.grown hgrow h0.size (fun g hg => (HO.out.lt g hg).1)
      case measure => simp [intOf]; omega
    · go_wp2
      go_ret
      obtain rfl : k = ps.length := by omega
      exact ⟨_, rfl, hown, hnx⟩
end Go.Proofs.Ythnfepfbkmafaaa
