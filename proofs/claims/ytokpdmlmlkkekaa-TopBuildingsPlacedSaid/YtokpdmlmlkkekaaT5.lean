/- The law GroundTiles returns true. -/
import Derived.Test.YtokpdmlmlkkekaaT4
import Derived.Test.YtokpdmlmlkkekaaZW
namespace Go.Proofs.Ytokpdmlmlkkekaa
set_option linter.unusedVariables false
open Go.RowKit
/-- Tile k of a list of tiles. -/
def txP (l : Int) (ny k : Nat) : Int := l + ((k / ny : Nat) : Int)
def tyP (bo : Int) (ny k : Nat) : Int := bo + ((k % ny : Nat) : Int)
theorem tilesUpto_len (l bo : Int) (ny : Nat) : ∀ n, (tilesUpto l bo ny n).length = n * 2
  | 0 => rfl
  | n + 1 => by unfold tilesUpto; rw [List.length_append, tilesUpto_len l bo ny n]; simp; omega
theorem tilesUpto_get (l bo : Int) (ny k j : Nat) (hj : j < 2) : ∀ n, k < n → (tilesUpto l bo ny n)[k * 2 + j]? = [Value.int .i64 (txP l ny k), .int .i64 (tyP bo ny k)][j]?
  | 0, h => by omega
  | n + 1, h => by
    unfold tilesUpto
    have hl := tilesUpto_len l bo ny n
    by_cases e : k = n
    · subst e
      rw [List.getElem?_append_right (by omega), hl, show k * 2 + j - k * 2 = j by omega]
      rfl
    · rw [List.getElem?_append_left (by omega)]
      exact tilesUpto_get l bo ny k j hj n (by omega)
/-- Block g holds tiles. -/
def TilesAt (w : World) (g : Nat) (l bo : Int) (ny n : Nat) : Prop := ∀ k : Nat, k < n → w.cell? ⟨g, k * 2, none⟩ = some (.int .i64 (txP l ny k)) ∧ w.cell? ⟨g, k * 2 + 1, none⟩ = some (.int .i64 (tyP bo ny k))
theorem TilesAt.below {w w' : World} {g B n ny : Nat} {l bo : Int} (h : TilesAt w g l bo ny n) (hb : g < B) (hw : Below B w w') : TilesAt w' g l bo ny n := fun k hk =>
  ⟨(hw.cell (p := ⟨g, k * 2, none⟩) hb).trans (h k hk).1, (hw.cell (p := ⟨g, k * 2 + 1, none⟩) hb).trans (h k hk).2⟩
theorem tilesAt_own {w : World} {base n ny : Nat} {v : Value} {l bo : Int} (h : w.ownsRow base 44 2 v n (tilesUpto l bo ny n)) (hn : 0 < n) : ∃ g c, v = .slice (some ⟨g, 0, none⟩) n c ∧ g < w.heap.size ∧ TilesAt w g l bo ny n := by
  obtain ⟨g, c, rfl, h1, h2, h3, h4⟩ := ownsRow_slice h hn
  refine ⟨g, c, rfl, h2, fun k hk => ?_⟩
  exact ⟨(h.cellAt (k * 2) (by omega)).trans (tilesUpto_get l bo ny k 0 (by omega) n hk), (h.cellAt (k * 2 + 1) (by omega)).trans (tilesUpto_get l bo ny k 1 (by omega) n hk)⟩
theorem tiles_sl (b : Bx) (s : Int) (w : World) (hb : boxErrP b = 0) (he : tilesErrP b s = 0) (nx ny : Nat) (hnx : (nx : Int) = nxP b s) (hny : (ny : Int) = nyP b s) (n : Nat) (hn : nx * ny = n) (hp : 0 < n) (l bo : Int) (hl : b.x1 / s = l) (hbo : b.y1 / s = bo) :
    Calls Try.prog 62 #[.agg #[.int .i64 b.x1, .int .i64 b.x2, .int .i64 b.y1, .int .i64 b.y2], .int .i64 s] w fun e w' => ∃ g c, e = .returned (.tuple #[.slice (some ⟨g, 0, none⟩) n c, .int .i64 0]) ∧ g < w'.heap.size ∧ TilesAt w' g l bo ny n ∧ Below w.heap.size w w' := by
  subst hn hl hbo
  refine (tiles_ok b s w hb he nx ny hnx hny).mono ?_
  rintro e w' ⟨v, rfl, ho, hb⟩
  obtain ⟨g, c, rfl, h1, h2⟩ := tilesAt_own ho hp
  exact ⟨g, c, rfl, h1, h2, hb⟩
theorem rTiles_sl (b : Bx) (s : Int) (w : World) (o : b.Ok) (he : tilesErrP b s = 0) (nx ny : Nat) (hnx : (nx : Int) = nxP b s) (hny : (ny : Int) = nyP b s) (n : Nat) (hn : nx * ny = n) (hp : 0 < n) (l bo : Int) (hl : b.x1 / s = l) (hbo : b.y1 / s = bo) :
    Calls Try.prog 64 #[.agg #[.int .i64 b.x1, .int .i64 b.x2, .int .i64 b.y1, .int .i64 b.y2], .int .i64 s] w fun e w' => ∃ g c, e = .returned (.tuple #[.slice (some ⟨g, 0, none⟩) n c, .int .i64 0]) ∧ g < w'.heap.size ∧ TilesAt w' g l bo ny n ∧ Below w.heap.size w w' := by
  subst hn hl hbo
  refine (rTiles_ok b s w o he nx ny hnx hny).mono ?_
  rintro e w' ⟨v, rfl, ho, hb⟩
  obtain ⟨g, c, rfl, h1, h2⟩ := tilesAt_own ho hp
  exact ⟨g, c, rfl, h1, h2, hb⟩
theorem tiles_bad2 (b : Bx) (s : Int) (w : World) (hb : boxErrP b = 0) {e0 : Int} (he : tilesErrP b s = e0) (hz : e0 ≠ 0) :
    Calls Try.prog 62 #[.agg #[.int .i64 b.x1, .int .i64 b.x2, .int .i64 b.y1, .int .i64 b.y2], .int .i64 s] w fun e w' => e = .returned (.tuple #[.slice none 0 0, .int .i64 e0]) ∧ Below w.heap.size w w' := by
  subst he; exact tiles_bad b s w hb hz
theorem rTiles_bad2 (b : Bx) (s : Int) (w : World) (o : b.Ok) {e0 : Int} (he : tilesErrP b s = e0) (hz : e0 ≠ 0) :
    Calls Try.prog 64 #[.agg #[.int .i64 b.x1, .int .i64 b.x2, .int .i64 b.y1, .int .i64 b.y2], .int .i64 s] w fun e w' => e = .returned (.tuple #[.slice none 0 0, .int .i64 e0]) ∧ Below w.heap.size w w' := by
  subst he; exact rTiles_bad b s w o hz
def isTile (l bo : Int) (ny : Nat) (X Y : Int) (k : Nat) : Bool := (txP l ny k == X) && (tyP bo ny k == Y)
def hitT (l bo : Int) (ny : Nat) (X Y : Int) (k : Nat) : Bool := (List.range k).any (isTile l bo ny X Y)
theorem hitT_succ (l bo : Int) (ny : Nat) (X Y : Int) (k : Nat) : hitT l bo ny X Y (k + 1) = (hitT l bo ny X Y k || isTile l bo ny X Y k) := by
  unfold hitT; rw [List.range_succ, List.any_append]; simp
theorem hitT_all {l bo X Y : Int} {nx ny : Nat} (h1 : l ≤ X) (h2 : X < l + nx) (h3 : bo ≤ Y) (h4 : Y < bo + ny) : hitT l bo ny X Y (nx * ny) = true := by
  unfold hitT
  rw [List.any_eq_true]
  obtain ⟨i, hi⟩ : ∃ i : Nat, X = l + i := ⟨(X - l).toNat, by omega⟩
  obtain ⟨j, hj⟩ : ∃ j : Nat, Y = bo + j := ⟨(Y - bo).toNat, by omega⟩
  subst hi hj
  have hjn : j < ny := by omega
  refine ⟨i * ny + j, ?_, ?_⟩
  · rw [List.mem_range]
    have : (i + 1) * ny ≤ nx * ny := Nat.mul_le_mul_right _ (by omega)
    rw [Nat.add_mul, Nat.one_mul] at this
    omega
  · unfold isTile txP tyP
    rw [Nat.mul_comm i ny, Nat.mul_add_div (by omega), Nat.div_eq_of_lt hjn, Nat.mul_add_mod, Nat.mod_eq_of_lt hjn]
    simp
theorem insideP_bd {lo hi n : Int} (h : lo ≤ hi) : lo ≤ insideP lo hi n ∧ insideP lo hi n ≤ hi := by
  have hm1 := Int.emod_nonneg n (show hi - lo + 1 ≠ 0 by omega)
  have hm2 := Int.emod_lt_of_pos n (show 0 < hi - lo + 1 by omega)
  unfold insideP; omega
set_option maxRecDepth 20000 in
set_option maxHeartbeats 4000000 in
theorem gtiles_any (b : Bx) (a0 a1 a2 s : Int) (w : World) (i1 : -9223372036854775808 ≤ a0) (i2 : a0 ≤ 9223372036854775807) (i3 : -9223372036854775808 ≤ a1) (i4 : a1 ≤ 9223372036854775807) :
    Calls Try.prog 11 #[.agg #[.int .i64 b.x1, .int .i64 b.x2, .int .i64 b.y1, .int .i64 b.y2, .int .i64 a0, .int .i64 a1, .int .i64 a2], .int .i64 s] w fun e w' => e = .returned (.bool true) ∧ Below w.heap.size w w' := by
  by_cases hb : boxErrP b = 0
  · have HB := Lib.hid hb
    have o := boxErrP_ok hb
    have OB := Lib.hid o
    by_cases ht : tilesErrP b s = 0
    · have HT := Lib.hid ht
      obtain ⟨x1a, x1b, x2a, x2b, y1a, y1b, y2a, y2b, xo, yo⟩ := o
      have hs : inR 1 100000000 s = true := by
        unfold tilesErrP at ht
        split at ht
        · assumption
        · exact absurd ht (by decide)
      obtain ⟨s1, s2⟩ := inR_iff.1 hs
      have m1 := div_mono xo s1
      have m2 := div_mono yo s1
      obtain ⟨nx, hnx⟩ : ∃ nx : Nat, (nx : Int) = nxP b s := ⟨(nxP b s).toNat, by unfold nxP; omega⟩
      obtain ⟨ny, hny⟩ : ∃ ny : Nat, (ny : Int) = nyP b s := ⟨(nyP b s).toNat, by unfold nyP; omega⟩
      obtain ⟨n, hn⟩ : ∃ n : Nat, nx * ny = n := ⟨_, rfl⟩
      obtain ⟨l, hl⟩ : ∃ l, b.x1 / s = l := ⟨_, rfl⟩
      obtain ⟨bo, hbo⟩ : ∃ bo, b.y1 / s = bo := ⟨_, rfl⟩
      have hpos : 0 < n := by
        rw [← hn]
        refine Nat.mul_pos ?_ ?_
        · unfold nxP at hnx; omega
        · unfold nyP at hny; omega
      obtain ⟨j1, j2⟩ := insideP_bd (n := a0) xo
      obtain ⟨j3, j4⟩ := insideP_bd (n := a1) yo
      have hn400 : n ≤ 400 := by
        unfold tilesErrP at ht
        rw [hs, if_pos rfl] at ht
        split at ht
        · exact absurd ht (by decide)
        · rw [← hn]; refine Int.ofNat_le.1 ?_; rw [Int.natCast_mul, hnx, hny]; omega
      have HH := Lib.hid (show hitT l bo ny (insideP b.x1 b.x2 a0 / s) (insideP b.y1 b.y2 a1 / s) n = true by
        rw [← hn]
        have e1 := div_mono j1 s1
        have e2 := div_mono j2 s1
        have e3 := div_mono j3 s1
        have e4 := div_mono j4 s1
        unfold nxP at hnx
        unfold nyP at hny
        exact hitT_all (by omega) (by omega) (by omega) (by omega))
      have HNX := Lib.hid hnx
      have HNY := Lib.hid hny
      have HN := Lib.hid hn
      have HQL := Lib.hid hl
      have HQB := Lib.hid hbo
      clear hb ht hs hnx hny hn hl hbo m1 m2
      go_enter Try.func11, Try.ntmps11
      go_wp2_with (first | (go_at_call 18; refine (awake_any _).mono ?_; rintro e w' ⟨rfl, hb⟩; obtain ⟨pp, rfl⟩ := later_of_below hb; clear hb) | (go_at_call 62; refine (tiles_sl b s _ HB.out HT.out nx ny HNX.out HNY.out n HN.out hpos l bo HQL.out HQB.out).mono ?_; rintro e w1 ⟨g, cg, rfl, hg1, hg2, hb⟩; obtain ⟨p1, rfl⟩ := later_of_below hb; clear hb; have HG := Lib.hid hg2; clear hg2) | (go_at_call 63; refine (rBoxErr b _ HB.out).mono ?_; rintro e w' ⟨rfl, hb⟩; obtain ⟨pp, rfl⟩ := later_of_below hb; clear hb) | (go_at_call 64; refine (rTiles_sl b s _ OB.out HT.out nx ny HNX.out HNY.out n HN.out hpos l bo HQL.out HQB.out).mono ?_; rintro e w2 ⟨k, ck, rfl, hk1, hk2, hb⟩; obtain ⟨p3, rfl⟩ := later_of_below hb; clear hb; have HK := Lib.hid hk2; clear hk2))
      refine wp_region_calm (by kernel_rfl) (by kernel_rfl) ?_
      repeat (go_big_quiet_step (first | (go_at_call 65; exact calm_of (lInside _ _ _ _ (by omega) (by omega) (by omega) (by omega) (by omega))) | (go_at_call 57; exact calm_same (bFloor _ _ _ (by omega) (by omega) (by omega) (by omega)))))
      refine wpQuiet_nil ?_
      rintro _ ⟨p4, rfl⟩
      generalize insideP b.x1 b.x2 a0 / s = X at *
      generalize insideP b.y1 b.y2 a1 / s = Y at *
      go_wp2
      refine wp_world2 (fun W => TilesAt W g l bo ny n ∧ TilesAt W k l bo ny n ∧ Below w.heap.size w W ∧ g < W.heap.size ∧ k < W.heap.size) ⟨HG.out.below hg1 (by (repeat' (first | with_reducible exact Below.refl _ _ | (with_reducible refine below_later_of ?_ ?_ _) | (with_reducible refine Below.alloc ?_ ?_ _) | (with_reducible refine Below.setCell ?_ ?_ _) | (with_reducible refine Below.drew ?_) | (simp; done) | (simp; omega) | omega))), HK.out.below hk1 (by (repeat' (first | with_reducible exact Below.refl _ _ | (with_reducible refine below_later_of ?_ ?_ _) | (with_reducible refine Below.alloc ?_ ?_ _) | (with_reducible refine Below.setCell ?_ ?_ _) | (with_reducible refine Below.drew ?_) | (simp; done) | (simp; omega) | omega))), (by (repeat' (first | with_reducible exact Below.refl _ _ | (with_reducible refine below_later_of ?_ ?_ _) | (with_reducible refine Below.alloc ?_ ?_ _) | (with_reducible refine Below.setCell ?_ ?_ _) | (with_reducible refine Below.drew ?_) | (simp; done) | (simp; omega) | omega))), by simp at hg1 hk1 ⊢; omega, by simp at hg1 hk1 ⊢; omega⟩ ?_
      rintro W5 ⟨hw1, hw2, hw3, hw4, hw5⟩
      have HT1 := Lib.hid hw1
      have HT2 := Lib.hid hw2
      have HW5 := Lib.hid hw3
      have hsz5 := hw3.size
      have HSU := Lib.hid (hitT_succ l bo ny X Y)
      clear hw1 hw2 hw3
      go_loopw [11, 12] (fun f i wr => ∃ j : Nat, j ≤ n ∧ i = .int .i64 j ∧ f = .bool (hitT l bo ny X Y j) ∧ Below W5.heap.size W5 wr) (fun _ i _ => n - (intOf i).toNat)
      case atStart => exact ⟨0, Nat.zero_le _, rfl, rfl, Below.refl _ _⟩
      case round =>
        obtain ⟨j, hj, rfl, rfl, hnx⟩ := hrel
        have HX := Lib.hid hnx
        have hsz := hnx.size
        by_cases hlt : j < n
        · obtain ⟨c0, c1⟩ := (HT1.out.below hw4 hnx) j hlt
          obtain ⟨d0, d1⟩ := (HT2.out.below hw5 hnx) j hlt
          have hgr : g < wr.heap.size := by omega
          have hkr : k < wr.heap.size := by omega
          have HSJ := Lib.hid (HSU.out j)
          clear hnx
          unfold isTile at HSJ
          generalize txP l ny j = tx at c0 d0 HSJ
          generalize tyP bo ny j = ty at c1 d1 HSJ
          generalize hitT l bo ny X Y j = f at HSJ
          cases f
          all_goals go_wp2
          all_goals
            refine wp_region_calm (by kernel_rfl) (by kernel_rfl) ?_
            repeat (go_big_quiet_step (fail))
            refine wpQuiet_nil ?_
            rintro _ ⟨p6, rfl⟩
          all_goals go_wp2
          all_goals go_roundw
          all_goals (try (case rel => exact ⟨j + 1, by omega, by go_num, by rw [HSJ.out]; rfl, HX.out.trans (below_mono_of hsz (by (repeat' (first | with_reducible exact Below.refl _ _ | (with_reducible refine below_later_of ?_ ?_ _) | (with_reducible refine Below.alloc ?_ ?_ _) | (with_reducible refine Below.setCell ?_ ?_ _) | (with_reducible refine Below.drew ?_) | (simp; done) | (simp; omega) | omega))))⟩))
          all_goals (try (case measure => simp [intOf]; omega))
        · obtain rfl : j = n := by omega
          clear hnx
          go_wp2
          go_ret
          exact ⟨ret_bool HH.out, HW5.out.trans (HX.out.mono hsz5)⟩
    · obtain ⟨e0, he⟩ : ∃ e0, tilesErrP b s = e0 := ⟨_, rfl⟩
      rw [he] at ht
      have HT := Lib.hid he
      have hz : e0 ≠ 0 := ht
      clear hb he ht o
      go_enter Try.func11, Try.ntmps11
      go_wp2_with (first | (go_at_call 18; refine (awake_any _).mono ?_; rintro e w' ⟨rfl, hb⟩; obtain ⟨pp, rfl⟩ := later_of_below hb; clear hb) | (go_at_call 62; refine (tiles_bad2 b s _ HB.out HT.out hz).mono ?_; rintro e w' ⟨rfl, hb⟩; obtain ⟨pp, rfl⟩ := later_of_below hb; clear hb) | (go_at_call 63; refine (rBoxErr b _ HB.out).mono ?_; rintro e w' ⟨rfl, hb⟩; obtain ⟨pp, rfl⟩ := later_of_below hb; clear hb) | (go_at_call 64; refine (rTiles_bad2 b s _ OB.out HT.out hz).mono ?_; rintro e w' ⟨rfl, hb⟩; obtain ⟨pp, rfl⟩ := later_of_below hb; clear hb))
      go_ret
      exact ⟨ret_bool (by simp), (by (repeat' (first | with_reducible exact Below.refl _ _ | (with_reducible refine below_later_of ?_ ?_ _) | (with_reducible refine Below.alloc ?_ ?_ _) | (with_reducible refine Below.setCell ?_ ?_ _) | (with_reducible refine Below.drew ?_) | (simp; done) | (simp; omega) | omega)))⟩
  · obtain ⟨e0, he⟩ : ∃ e0, boxErrP b = e0 := ⟨_, rfl⟩
    rw [he] at hb
    have HB := Lib.hid he
    have hz : e0 ≠ 0 := hb
    clear hb he
    go_enter Try.func11, Try.ntmps11
    go_wp2_with (first | (go_at_call 18; refine (awake_any _).mono ?_; rintro e w' ⟨rfl, hb⟩; obtain ⟨pp, rfl⟩ := later_of_below hb; clear hb) | (go_at_call 62; refine (tiles_box b s _ HB.out hz).mono ?_; rintro e w' ⟨rfl, hb⟩; obtain ⟨pp, rfl⟩ := later_of_below hb; clear hb) | (go_at_call 63; refine (rBoxErr b _ HB.out).mono ?_; rintro e w' ⟨rfl, hb⟩; obtain ⟨pp, rfl⟩ := later_of_below hb; clear hb))
    go_ret
    exact ⟨ret_bool (by simp), (by (repeat' (first | with_reducible exact Below.refl _ _ | (with_reducible refine below_later_of ?_ ?_ _) | (with_reducible refine Below.alloc ?_ ?_ _) | (with_reducible refine Below.setCell ?_ ?_ _) | (with_reducible refine Below.drew ?_) | (simp; done) | (simp; omega) | omega)))⟩
end Go.Proofs.Ytokpdmlmlkkekaa
