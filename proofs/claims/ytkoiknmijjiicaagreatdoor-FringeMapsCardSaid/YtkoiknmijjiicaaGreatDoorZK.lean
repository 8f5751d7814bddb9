import Derived.Test.YtkoiknmijjiicaaGreatDoorZJ
import Derived.Test.YtkoiknmijjiicaaGreatDoorZI
import Derived.Deep.AppendLies
import Derived.Deep.RegionHeld3
/- Chapter 1: base.Image: an image of raw parts. -/
namespace Go.Proofs.YtkoiknmijjiicaaGreatDoor
set_option linter.unusedVariables false
set_option linter.unusedSimpArgs false
open Go.RowKit Ntt
def cv32 (D : List (Nat × Nat)) : List Value := D.map fun z => .complex .f32 z.1 z.2
theorem cv32_snoc (D : List (Nat × Nat)) (z : Nat × Nat) : cv32 (D ++ [z]) = cv32 D ++ [.complex .f32 z.1 z.2] := by unfold cv32; rw [List.map_append]; rfl
/-- The samples of raw parts. -/
def sampL (p : Nat → Nat) (k : Nat) : List (Nat × Nat) := (List.range k).map fun j => (p (2 * j), p (2 * j + 1))
theorem sampL_len (p : Nat → Nat) (k : Nat) : (sampL p k).length = k := by unfold sampL; simp
theorem sampL_succ (p : Nat → Nat) (k : Nat) : sampL p (k + 1) = sampL p k ++ [(p (2 * k), p (2 * k + 1))] := by unfold sampL; rw [List.range_succ, List.map_append]; rfl
theorem infoC32 : (Tryz.prog.info? 146).map (fun i => (i.zero, i.size, i.bytes)) = some (some (.complex .f32 0 0), 1, 8) := by kernel_rfl
/-- The image that is built up, as it lies in memory. -/
structure ImSt (w : World) (L S : Int) (D : List (Nat × Nat)) (v : Value) (wr : World) : Prop where
  c0 : wr.cell? ⟨w.heap.size + 1, 0, none⟩ = some (.int .i64 L)
  c1 : wr.cell? ⟨w.heap.size + 1, 1, none⟩ = some (.int .i64 S)
  c2 : wr.cell? ⟨w.heap.size + 1, 2, none⟩ = some v
  f2 : wr.frozen? ⟨w.heap.size + 1, 2, none⟩ = false
  r0 : wr.cell? ⟨w.heap.size, 0, none⟩ = some (.int .i64 0)
  r1 : wr.cell? ⟨w.heap.size, 1, none⟩ = some (.int .i64 0)
  r2 : wr.cell? ⟨w.heap.size, 2, none⟩ = some (.slice none 0 0)
  g0 : wr.frozen? ⟨w.heap.size, 0, none⟩ = false
  g1 : wr.frozen? ⟨w.heap.size, 1, none⟩ = false
  g2 : wr.frozen? ⟨w.heap.size, 2, none⟩ = false
  own : wr.ownsRow (w.heap.size + 2) 146 1 v D.length (cv32 D)
  bel : Below w.heap.size w wr
  lt : w.heap.size + 1 < wr.heap.size
theorem ImSt.put {w wr w1 : World} {L S : Int} {re im : Nat} {D : List (Nat × Nat)} {v v' : Value} {o : Obj} (h : ImSt w L S D v wr)
    (ho : w1.ownsRow (w.heap.size + 2) 146 1 v' (D.length + 1) (cv32 D ++ [.complex .f32 re im])) (hg : ((wr.alloc o).drew).grownBy w1 v.ownBlock) : ImSt w L S (D ++ [(re, im)]) v' (w1.setCell ⟨w.heap.size + 1, 2, none⟩ v') := by
  have hlt := h.lt
  have hb1 : Below (w.heap.size + 2) wr w1 := ((((Below.refl (w.heap.size + 2) wr).alloc (by omega) o)).drew).grown hg (by simp; omega) (fun g hg => (h.own.lt g hg).1)
  have hsz := hb1.size
  have q : ∀ j, w1.cell? ⟨w.heap.size + 1, j, none⟩ = wr.cell? ⟨w.heap.size + 1, j, none⟩ := fun j => hb1.cell (p := ⟨w.heap.size + 1, j, none⟩) (Nat.lt_succ_self _)
  have q2 : ∀ j, w1.frozen? ⟨w.heap.size + 1, j, none⟩ = wr.frozen? ⟨w.heap.size + 1, j, none⟩ := fun j => hb1.frozen (p := ⟨w.heap.size + 1, j, none⟩) (Nat.lt_succ_self _)
  have r : ∀ j, w1.cell? ⟨w.heap.size, j, none⟩ = wr.cell? ⟨w.heap.size, j, none⟩ := fun j => hb1.cell (p := ⟨w.heap.size, j, none⟩) (show w.heap.size < w.heap.size + 2 by omega)
  have r2 : ∀ j, w1.frozen? ⟨w.heap.size, j, none⟩ = wr.frozen? ⟨w.heap.size, j, none⟩ := fun j => hb1.frozen (p := ⟨w.heap.size, j, none⟩) (show w.heap.size < w.heap.size + 2 by omega)
  refine ⟨by simp [go_sem, q, h.c0], by simp [go_sem, q, h.c1], by simp [go_sem, q, h.c2], by simp [go_sem, q2, h.f2], by simp [go_sem, r, h.r0], by simp [go_sem, r, h.r1], by simp [go_sem, r, h.r2], by simp [go_sem, r2, h.g0], by simp [go_sem, r2, h.g1], by simp [go_sem, r2, h.g2], ?_, ?_, by simp; omega⟩
  · rw [cv32_snoc, show (D ++ [(re, im)]).length = D.length + 1 by simp]
    exact ownsRow_setCell_below ho (Nat.lt_succ_self _) _
  · exact (h.bel.trans (hb1.mono (by omega))).setCell (p := ⟨w.heap.size + 1, 2, none⟩) (show w.heap.size ≤ w.heap.size + 1 by omega) _
theorem wp_worldI {P : Program} {c : Code} {Q : Exit → Act → World → Prop} {a : Act} {w : World} (F : World → Prop) (hf : F w) (h : ∀ W, F W → Code.wp P c Q a W) : Code.wp P c Q a w := h w hf
/-- Floats of raw parts in memory. -/
def PartsAt (W : World) (b off m : Nat) (p : Nat → Nat) : Prop := ∀ k, k < m → W.cell? ⟨b, off + k, none⟩ = some (.float .f32 (p k))
theorem PartsAt.below {W W' : World} {b off m : Nat} {p : Nat → Nat} (h : PartsAt W b off m p) (hb : b < W.heap.size) (hw : Below W.heap.size W W') : PartsAt W' b off m p := fun k hk => (hw.cell (p := ⟨b, off + k, none⟩) hb).trans (h k hk)
def ImPost (L S : Int) (n : Nat) (f : Nat → Nat × Nat) (w : World) (e : Ending) (w' : World) : Prop :=
  ∃ a c, e = .returned (.agg #[.int .i64 L, .int .i64 S, .slice a n c]) ∧ (0 < n → ∃ g, a = some ⟨g, 0, none⟩ ∧ w.heap.size ≤ g ∧ g < w'.heap.size ∧ SamplesAt w' g 0 n f) ∧ n ≤ c ∧ Below w.heap.size w w'
theorem own_cap {W : World} {base n c : Nat} {e : TypeId} {a : Option Addr} {xs : List Value} (h : W.ownsRow base e 1 (.slice a n c) n xs) : n ≤ c := by
  obtain ⟨-, ⟨h1, h2⟩ | ⟨g, cap, cur, h1, -, -, h4, -⟩⟩ := h
  · cases h1; exact Nat.le_refl _
  · cases h1; exact h4
theorem samples_own {W : World} {base n c : Nat} {a : Option Addr} {p : Nat → Nat} (h : W.ownsRow base 146 1 (.slice a n c) n (cv32 (sampL p n))) (hp : 0 < n) :
    ∃ g, a = some ⟨g, 0, none⟩ ∧ base ≤ g ∧ g < W.heap.size ∧ SamplesAt W g 0 n (fun j => (p (2 * j), p (2 * j + 1))) := by
  have h0 := h
  obtain ⟨-, ⟨-, h1⟩ | ⟨g, cap, cur, h1, h2, h3, -⟩⟩ := h0
  · omega
  · simp only [Value.slice.injEq, true_and] at h1
    obtain ⟨rfl, rfl⟩ := h1
    refine ⟨g, rfl, h2, (Array.getElem?_eq_some_iff.1 h3).1, fun k hk => ?_⟩
    rw [Nat.zero_add, h.cellAt k (by omega)]
    unfold cv32 sampL
    rw [List.getElem?_map, List.getElem?_map, List.getElem?_range hk]
    rfl
theorem samples_fin {W : World} {base b n c : Nat} {a : Option Addr} {p : Nat → Nat} (h : W.ownsRow base 146 1 (.slice a n c) n (cv32 (sampL p n))) (hp : 0 < n) (hb : b ≤ base) :
    ∃ g, a = some ⟨g, 0, none⟩ ∧ b ≤ g ∧ g < W.heap.size ∧ SamplesAt W g 0 n (fun j => (p (2 * j), p (2 * j + 1))) := by
  obtain ⟨g, h1, h2, h3, h4⟩ := samples_own h hp
  exact ⟨g, h1, by omega, h3, h4⟩
set_option maxRecDepth 20000 in
set_option maxHeartbeats 4000000 in
theorem bImage (L S : Int) (m cap : Nat) (a : Option Addr) (p : Nat → Nat) (w : World) (hm : m ≤ 100000) (ha : 0 < m → ∃ b off, a = some ⟨b, off, none⟩ ∧ b < w.heap.size ∧ PartsAt w b off m p) :
    Calls Tryz.prog 30 #[.int .i64 L, .int .i64 S, .slice a m cap] w (ImPost L S (m / 2) (fun j => (p (2 * j), p (2 * j + 1))) w) := by
  obtain ⟨i0, hi0, hz0, hz1, hz2⟩ := info_parts infoC32
  have HA := Lib.hid ha
  clear ha
  go_enter Tryz.func30, Tryz.ntmps30
  go_wp2
  refine wp_worldI (fun W => ImSt w L S [] (.slice none 0 0) W) ⟨by simp [go_sem], by simp [go_sem], by simp [go_sem], by simp [go_sem], by simp [go_sem], by simp [go_sem], by simp [go_sem], by simp [go_sem], by simp [go_sem], by simp [go_sem], World.ownsRow_nil _ _ _ _, (by (repeat' (first | with_reducible exact Below.refl _ _ | (with_reducible refine below_later_of ?_ ?_ _) | (with_reducible refine Below.alloc ?_ ?_ _) | (with_reducible refine Below.setCell ?_ ?_ _) | (with_reducible refine Below.drew ?_) | (simp; done) | (simp; omega) | omega))), by simp⟩ ?_
  rintro W2 hst
  have HST := Lib.hid hst
  clear hst
  go_loopw [8] (fun i wr => ∃ (k j : Nat) (v : Value), j = 2 * k ∧ j ≤ m ∧ i = .int .i64 j ∧ ImSt w L S (sampL p k) v wr) (fun i _ => m + 2 - (intOf i).toNat)
  case atStart => exact ⟨0, 0, _, rfl, by omega, rfl, HST.out⟩
  case round =>
    obtain ⟨k, j, v, hj, hjm, rfl, hst⟩ := hrel
    have HS2 := Lib.hid hst
    have HJ := Lib.hid hj
    have hk : k ≤ 100000 := by omega
    clear hj
    by_cases hlt : j + 1 < m
    · obtain ⟨b, off, rfl, hbw, hp⟩ := HA.out (by omega)
      have hdk : decide ((j : Int) + 1 < (m : Int)) = true := by simp; omega
      have cx := (hst.bel.cell (p := ⟨b, off + j, none⟩) hbw).trans (hp j (by omega))
      have cy := (hst.bel.cell (p := ⟨b, off + (j + 1), none⟩) hbw).trans (hp (j + 1) (by omega))
      have hc2 := hst.c2
      have hf2 := hst.f2
      have hlt2 := hst.lt
      have hbel := hst.bel.size
      have hbr : b < wr.heap.size := by omega
      have HLB := Lib.hid (show ∀ g, v.ownBlock = some g → w.heap.size + 2 ≤ g from fun g hg => (hst.own.lt g hg).1)
      have hown := hst.own
      rw [sampL_len] at hown
      have HOW := Lib.hid hown
      have n1 : v.ownBlock ≠ some (w.heap.size + 1) := fun e => by have := (hst.own.lt _ e).1; omega
      have n2 : v.ownBlock ≠ some b := fun e => by have := (hst.own.lt _ e).1; omega
      have HN1 := Lib.hid n1
      have HN2 := Lib.hid n2
      have HPX := Lib.hid (show (p (2 * k), p (2 * k + 1)) = (p j, p (j + 1)) by rw [← HJ.out])
      generalize p j = x at cx HPX
      generalize p (j + 1) = y at cy HPX
      clear hst hp n1 n2 hown
      go_wp2
      have w1' : IntKind.i64.wrap ((j : Int) + 1) = (j : Int) + 1 := IntWalk.i64_in _ (by omega)
      have j0 : 0 ≤ (j : Int) := by omega
      have j1 : 0 ≤ (j : Int) + 1 := by omega
      have j2 : (j : Int) < (m : Int) := by omega
      have j3 : (j : Int) + 1 < (m : Int) := by omega
      have j4 : ((j : Int) + 1).toNat = j + 1 := by omega
      refine wp_region_L 15 (fun w' => w'.cell? ⟨b, off + j, none⟩ = some (.float .f32 x) ∧ w'.cell? ⟨b, off + (j + 1), none⟩ = some (.float .f32 y)) (fun w' => w'.cell? ⟨w.heap.size + 1, 2, none⟩ = some v) (by kernel_rfl) ⟨cx, cy⟩ hc2 (fun hO => ?_)
      refine anyL_take (i := 0) (v := ?_) rfl (by kernel_rfl) (fun _ _ _ h => h) (by rfl) ?_ hO (fun hO => ?_)
      rotate_left
      · rintro w' ⟨x0, x1⟩; go_simp; try with_reducible rfl
      try simp only [Act.put]
      refine anyL_load (i := 1) (v := ?_) rfl (by kernel_rfl) (fun _ _ _ h => h) (by rfl) ?_ hO (fun hO => ?_)
      rotate_left
      · rintro w' x0; go_simp; try with_reducible rfl
      try simp only [Act.put]
      refine anyL_take (i := 2) (v := ?_) rfl (by kernel_rfl) (fun _ _ _ h => h) (by rfl) ?_ hO (fun hO => ?_)
      rotate_left
      · rintro w' ⟨x0, x1⟩; go_simp; try with_reducible rfl
      try simp only [Act.put]
      refine anyL_take (i := 3) (v := ?_) rfl (by kernel_rfl) (fun _ _ _ h => h) (by rfl) ?_ hO (fun hO => ?_)
      rotate_left
      · rintro w' ⟨x0, x1⟩; go_simp; try with_reducible rfl
      try simp only [Act.put]
      refine anyL_take (i := 4) (v := ?_) rfl (by kernel_rfl) (fun _ _ _ h => h) (by rfl) ?_ hO (fun hO => ?_)
      rotate_left
      · rintro w' ⟨x0, x1⟩; go_simp; try with_reducible rfl
      try simp only [Act.put]
      refine anyL_take (i := 5) (v := ?_) rfl (by kernel_rfl) (fun _ _ _ h => h) (by rfl) ?_ hO (fun hO => ?_)
      rotate_left
      · rintro w' ⟨x0, x1⟩; go_simp; try with_reducible rfl
      try simp only [Act.put]
      refine anyL_take (i := 6) (v := ?_) rfl (by kernel_rfl) (fun _ _ _ h => h) (by rfl) ?_ hO (fun hO => ?_)
      rotate_left
      · rintro w' ⟨x0, x1⟩; go_simp; try with_reducible rfl
      try simp only [Act.put]
      refine anyL_take (i := 7) (v := ?_) rfl (by kernel_rfl) (fun _ _ _ h => h) (by rfl) ?_ hO (fun hO => ?_)
      rotate_left
      · rintro w' ⟨x0, x1⟩; go_simp; try with_reducible rfl
      try simp only [Act.put]
      refine anyL_take (i := 8) (v := ?_) rfl (by kernel_rfl) (fun _ _ _ h => h) (by rfl) ?_ hO (fun hO => ?_)
      rotate_left
      · rintro w' ⟨x0, x1⟩; go_simp; try with_reducible rfl
      try simp only [Act.put]
      refine anyL_take (i := 9) (v := ?_) rfl (by kernel_rfl) (fun _ _ _ h => h) (by rfl) ?_ hO (fun hO => ?_)
      rotate_left
      · rintro w' ⟨x0, x1⟩; go_simp; try with_reducible rfl
      try simp only [Act.put]
      refine anyL_take (i := 10) (v := ?_) rfl (by kernel_rfl) (fun _ _ _ h => h) (by rfl) ?_ hO (fun hO => ?_)
      rotate_left
      · rintro w' ⟨x0, x1⟩; go_simp; try with_reducible rfl
      try simp only [Act.put]
      refine anyL_take (i := 11) (v := ?_) rfl (by kernel_rfl) (fun _ _ _ h => h) (by rfl) ?_ hO (fun hO => ?_)
      rotate_left
      · rintro w' ⟨x0, x1⟩; go_simp; try with_reducible rfl
      try simp only [Act.put]
      refine anyL_one (i := 12) rfl (by kernel_rfl) (by rfl) (fun K hK => ?_)
      go_simp
      refine hK.out _ _ ⟨⟨(by (first | (simp [go_sem, cx]; done) | simp [go_sem, cx, ↓IntWalk.iteOmega])), (by (first | (simp [go_sem, cy]; done) | simp [go_sem, cy, ↓IntWalk.iteOmega]))⟩, fun _ => (by (first | (simp [go_sem, hc2]; done) | simp [go_sem, hc2, ↓IntWalk.iteOmega]))⟩ (fun hO => ?_)
      clear hK K
      try simp only [Act.put]
      refine anyL_one (i := 13) rfl (by kernel_rfl) (by rfl) (fun K hK => ?_)
      refine wp_append_lies _ _ _ _ (by rfl) (w.heap.size + 2) 146 i0 _ 1 8 Tryz.underlying32 hi0 hz0 hz1 hz2 rfl (by omega) v k (cv32 (sampL p k)) (by rfl) ((HOW.out.alloc _).drew)
            ⟨wr.heap.size, 0, none⟩ 1 1 [.complex .f32 x y] (by rfl) (by rfl) (World.news_of_block (cs := #[.complex .f32 x y]) (t := 146) (fr := (0, 0)) (heap_alloc_new wr _)) (by simp [Value.oneCell'])
            (by omega) (by unfold maxLen; omega) (by omega) (by simp; omega) (wr.heap.size + 1) (by simp) ?_
      intro gg cap' w1 hown1 hgrow hat hltg
      have hfz : w1.frozen? ⟨w.heap.size + 1, 2, none⟩ = false := (hgrow.frozen_far _ (by simp; omega) (Ne.symm HN1.out)).trans (by (first | (simp [go_sem, hf2]; done) | simp [go_sem, hf2, ↓IntWalk.iteOmega]))
      have hcz : w1.cell? ⟨w.heap.size + 1, 2, none⟩ = some v := (hgrow.cell_far _ (by simp; omega) (Ne.symm HN1.out)).trans (by (first | (simp [go_sem, hc2]; done) | simp [go_sem, hc2, ↓IntWalk.iteOmega]))
      refine hK.out _ _ ⟨⟨(hgrow.cell_far _ (by simp; omega) (Ne.symm HN2.out)).trans (by (first | (simp [go_sem, cx]; done) | simp [go_sem, cx, ↓IntWalk.iteOmega])), (hgrow.cell_far _ (by simp; omega) (Ne.symm HN2.out)).trans (by (first | (simp [go_sem, cy]; done) | simp [go_sem, cy, ↓IntWalk.iteOmega]))⟩, fun _ => hcz⟩ (fun hO => ?_)
      clear hK K
      try simp only [Act.put]
      refine anyL_take (i := 14) (v := ?_) rfl (by kernel_rfl) (fun _ _ _ h => h) (by rfl) ?_ hO (fun hO => ?_)
      rotate_left
      · rintro w' ⟨x0, x1⟩; go_simp; try with_reducible rfl
      try simp only [Act.put]
      refine anyL_one (i := 15) rfl (by kernel_rfl) (by rfl) (fun K hK => ?_)
      go_simp
      have e1 : b ≠ w.heap.size + 1 := by omega
      refine hK.out _ _ ⟨⟨(World.cell?_setCell_other _ _ _ _ (by intro e; simp at e <;> omega)).trans hO.1.1, (World.cell?_setCell_other _ _ _ _ (by intro e; simp at e <;> omega)).trans hO.1.2⟩, fun h => absurd h (by decide)⟩ (fun hO => ?_)
      clear hK K hO
      try simp only [Act.put]
      refine anyL_done (by kernel_rfl) ?_ _
      have HN := Lib.hid (HS2.out.put (by rw [sampL_len]; exact hown1) hgrow)
      clear hown1 hgrow hat hltg hfz hcz hc2 hf2 cx cy
      go_wp2
      go_roundw
      case rel => exact ⟨k + 1, j + 2, _, by have := HJ.out; omega, by omega, by go_num, by rw [sampL_succ, HPX.out]; exact HN.out⟩
      case measure => simp [intOf]; omega
    · have hdk : decide ((j : Int) + 1 < (m : Int)) = false := by simp; omega
      have HK := Lib.hid (show k = m / 2 by have := HJ.out; omega)
      have hown := hst.own
      rw [sampL_len] at hown
      obtain ⟨a', c', rfl⟩ := own_slice hown
      obtain ⟨e0, e1, e2, -, r0, r1, r2, g0, g1, g2, -, hbel, -⟩ := hst
      have HOW := Lib.hid hown
      have HBE := Lib.hid hbel
      clear hown hbel
      go_wp2
      rw [← HK.out]
      refine bodyPost_ret ?_ rfl ⟨a', c', rfl, fun h => ?_, own_cap HOW.out, HBE.out.trans (by (repeat' (first | with_reducible exact Below.refl _ _ | (with_reducible refine below_later_of ?_ ?_ _) | (with_reducible refine Below.alloc ?_ ?_ _) | (with_reducible refine Below.setCell ?_ ?_ _) | (with_reducible refine Below.drew ?_) | (simp; done) | (simp; omega) | omega)))⟩
      · first | (simp [results, Tryz.results30, go_sem, r0, r1, r2]; done) | simp [results, Tryz.results30, go_sem, r0, r1, r2, ↓IntWalk.iteOmega]
      · exact samples_fin (ownsRow_setCell_below (ownsRow_setCell_below (ownsRow_setCell_below HOW.out (by simp) _) (by simp) _) (by simp) _) h (Nat.le_add_right _ 2)
end Go.Proofs.YtkoiknmijjiicaaGreatDoor

/- Chapter 1: scenes: their images, their codes, whether they are small. -/
namespace Go.Proofs.YtkoiknmijjiicaaGreatDoor
set_option linter.unusedVariables false
set_option linter.unusedSimpArgs false
open Go.RowKit Ntt
/-- A scene: its size, its parts, its code's parts, and where they lie. -/
structure Scn where
  L : Int
  S : Int
  pa : Option Addr
  m : Nat
  pc : Nat
  p : Nat → Nat
  ca : Option Addr
  mc : Nat
  cc : Nat
  q : Nat → Nat
def SrcP (W : World) (a : Option Addr) (m : Nat) (p : Nat → Nat) : Prop := 0 < m → ∃ b off, a = some ⟨b, off, none⟩ ∧ b < W.heap.size ∧ PartsAt W b off m p
theorem SrcP.below {W W' : World} {a : Option Addr} {m : Nat} {p : Nat → Nat} (h : SrcP W a m p) (hb : Below W.heap.size W W') : SrcP W' a m p := fun h0 => by
  obtain ⟨b, off, h1, h2, h3⟩ := h h0
  exact ⟨b, off, h1, by have := hb.size; omega, h3.below h2 hb⟩
/-- The samples of parts. -/
def smp (p : Nat → Nat) (j : Nat) : Nat × Nat := (p (2 * j), p (2 * j + 1))
def Scn.At (W : World) (x : Scn) : Prop := SrcP W x.pa x.m x.p ∧ SrcP W x.ca x.mc x.q
theorem Scn.At.below {W W' : World} {x : Scn} (h : x.At W) (hb : Below W.heap.size W W') : x.At W' := ⟨h.1.below hb, h.2.below hb⟩
def smallB (x : Scn) : Bool := (decide (x.m ≤ 500) || decide (8192 < x.m) && decide (x.m ≤ 8196)) && decide (x.mc ≤ 70)
theorem smallB_ok {x : Scn} (h : smallB x = true) : (x.m ≤ 500 ∨ 8192 < x.m ∧ x.m ≤ 8196) ∧ x.mc ≤ 70 := by unfold smallB at h; simpa using h
@[go_sem] theorem field_image2 (a b c : Value) (w : World) : (Instr.field 34 (.agg #[a, b, c]) 2).run Tryz.prog w = .ok c w := by kernel_rfl
set_option maxHeartbeats 1000000 in
theorem lSmall (x : Scn) (w : World) {c : Bool} (hc : smallB x = c) : Calls Tryz.prog 7 #[.agg #[.int .i64 x.L, .int .i64 x.S, .slice x.pa x.m x.pc, .slice x.ca x.mc x.cc]] w fun e w' => e = .returned (.bool c) ∧ Below w.heap.size w w' := by
  subst hc
  by_cases c1 : x.m ≤ 500
  · have d1 : decide ((x.m : Int) ≤ 500) = true := by simp; omega
    have HF := Lib.hid (show decide ((x.mc : Int) ≤ 70) = smallB x by unfold smallB; rw [Bool.eq_iff_iff]; simp; omega)
    go_enter Tryz.func7, Tryz.ntmps7
    go_wp2
    go_ret
    exact ⟨ret_boolE HF.out, (by (repeat' (first | with_reducible exact Below.refl _ _ | (with_reducible refine below_later_of ?_ ?_ _) | (with_reducible refine Below.alloc ?_ ?_ _) | (with_reducible refine Below.setCell ?_ ?_ _) | (with_reducible refine Below.drew ?_) | (simp; done) | (simp; omega) | omega)))⟩
  · have d1 : decide ((x.m : Int) ≤ 500) = false := by simp; omega
    by_cases c2 : 8192 < x.m
    · have d2 : decide ((8192 : Int) < (x.m : Int)) = true := by simp; omega
      by_cases c3 : x.m ≤ 8196
      · have d3 : decide ((x.m : Int) ≤ 8196) = true := by simp; omega
        have HF := Lib.hid (show decide ((x.mc : Int) ≤ 70) = smallB x by unfold smallB; rw [Bool.eq_iff_iff]; simp; omega)
        go_enter Tryz.func7, Tryz.ntmps7
        go_wp2
        go_ret
        exact ⟨ret_boolE HF.out, (by (repeat' (first | with_reducible exact Below.refl _ _ | (with_reducible refine below_later_of ?_ ?_ _) | (with_reducible refine Below.alloc ?_ ?_ _) | (with_reducible refine Below.setCell ?_ ?_ _) | (with_reducible refine Below.drew ?_) | (simp; done) | (simp; omega) | omega)))⟩
      · have d3 : decide ((x.m : Int) ≤ 8196) = false := by simp; omega
        have HF := Lib.hid (show false = smallB x by unfold smallB; rw [Bool.eq_iff_iff]; simp; omega)
        go_enter Tryz.func7, Tryz.ntmps7
        go_wp2
        go_ret
        exact ⟨ret_boolE HF.out, (by (repeat' (first | with_reducible exact Below.refl _ _ | (with_reducible refine below_later_of ?_ ?_ _) | (with_reducible refine Below.alloc ?_ ?_ _) | (with_reducible refine Below.setCell ?_ ?_ _) | (with_reducible refine Below.drew ?_) | (simp; done) | (simp; omega) | omega)))⟩
    · have d2 : decide ((8192 : Int) < (x.m : Int)) = false := by simp; omega
      have HF := Lib.hid (show false = smallB x by unfold smallB; rw [Bool.eq_iff_iff]; simp; omega)
      go_enter Tryz.func7, Tryz.ntmps7
      go_wp2
      go_ret
      exact ⟨ret_boolE HF.out, (by (repeat' (first | with_reducible exact Below.refl _ _ | (with_reducible refine below_later_of ?_ ?_ _) | (with_reducible refine Below.alloc ?_ ?_ _) | (with_reducible refine Below.setCell ?_ ?_ _) | (with_reducible refine Below.drew ?_) | (simp; done) | (simp; omega) | omega)))⟩
theorem own_set {W : World} {B n : Nat} {a : Option Addr} {f : Nat → Nat × Nat} (h : 0 < n → ∃ g, a = some ⟨g, 0, none⟩ ∧ B ≤ g ∧ g < W.heap.size ∧ SamplesAt W g 0 n f) {p : Addr} (hp : p.block < B) (v : Value) : 0 < n → ∃ g, a = some ⟨g, 0, none⟩ ∧ B ≤ g ∧ g < (W.setCell p v).heap.size ∧ SamplesAt (W.setCell p v) g 0 n f := fun h0 => by
  obtain ⟨g, h1, h2, h3, h4⟩ := h h0
  refine ⟨g, h1, h2, by simpa using h3, fun k hk => ?_⟩
  rw [World.cell?_setCell_other _ _ _ _ (by intro e; rw [e] at hp; simp at hp; omega)]
  exact h4 k hk
theorem own_mono {W : World} {B B' n : Nat} {a : Option Addr} {f : Nat → Nat × Nat} (h : 0 < n → ∃ g, a = some ⟨g, 0, none⟩ ∧ B ≤ g ∧ g < W.heap.size ∧ SamplesAt W g 0 n f) (hb : B' ≤ B) : 0 < n → ∃ g, a = some ⟨g, 0, none⟩ ∧ B' ≤ g ∧ g < W.heap.size ∧ SamplesAt W g 0 n f := fun h0 => by
  obtain ⟨g, h1, h2, h3, h4⟩ := h h0
  exact ⟨g, h1, by omega, h3, h4⟩
set_option maxHeartbeats 1000000 in
theorem lImage (x : Scn) (w : World) (hm : x.m ≤ 100000) (hs : x.At w) : Calls Tryz.prog 9 #[.agg #[.int .i64 x.L, .int .i64 x.S, .slice x.pa x.m x.pc, .slice x.ca x.mc x.cc]] w (ImPost x.L x.S (x.m / 2) (smp x.p) w) := by
  have HI := Lib.hid (show ∀ W, Below w.heap.size w W → Calls Tryz.prog 30 #[.int .i64 x.L, .int .i64 x.S, .slice x.pa x.m x.pc] W (ImPost x.L x.S (x.m / 2) (smp x.p) W) from fun W hW => bImage x.L x.S x.m x.pc x.pa x.p W hm (hs.1.below hW))
  clear hs
  go_enter Tryz.func9, Tryz.ntmps9
  go_wp2_with (first | (go_at_call 30; (with_reducible refine (HI.out _ (by (repeat' (first | with_reducible exact Below.refl _ _ | (with_reducible refine below_later_of ?_ ?_ _) | (with_reducible refine Below.alloc ?_ ?_ _) | (with_reducible refine Below.setCell ?_ ?_ _) | (with_reducible refine Below.drew ?_) | (simp; done) | (simp; omega) | omega)))).mono ?_); rintro e w' ⟨a', c', rfl, ha, hcap, hb⟩; have HAA := Lib.hid ha; clear ha; obtain ⟨pp, rfl⟩ := later_of_below hb; clear hb))
  refine bodyPost_ret ?_ rfl ⟨a', c', rfl, own_mono (own_set (own_set (own_set HAA.out ?_ _) ?_ _) ?_ _) ?_, hcap, (by (repeat' (first | with_reducible exact Below.refl _ _ | (with_reducible refine below_later_of ?_ ?_ _) | (with_reducible refine Below.alloc ?_ ?_ _) | (with_reducible refine Below.setCell ?_ ?_ _) | (with_reducible refine Below.drew ?_) | (simp; done) | (simp; omega) | omega)))⟩
  · first | (simp [results, Tryz.results9, go_sem]; done) | simp [results, Tryz.results9, go_sem, ↓IntWalk.iteOmega]
  all_goals (simp <;> omega)
/-- A code, in memory of its own. -/
def CdPost (n : Nat) (f : Nat → Nat × Nat) (w : World) (e : Ending) (w' : World) : Prop :=
  ∃ a c, e = .returned (.slice a n c) ∧ (0 < n → ∃ g, a = some ⟨g, 0, none⟩ ∧ w.heap.size ≤ g ∧ g < w'.heap.size ∧ SamplesAt w' g 0 n f) ∧ Below w.heap.size w w'
end Go.Proofs.YtkoiknmijjiicaaGreatDoor

/- Chapter 1: base.Ints, base.SameSums. -/
namespace Go.Proofs.YtkoiknmijjiicaaGreatDoor
set_option linter.unusedVariables false
set_option linter.unusedSimpArgs false
open Go.RowKit Ntt
theorem below_mono_of {B B' : Nat} {w w' : World} (h : B' ≤ B) (hb : Below B w w') : Below B' w w' := hb.mono h
set_option maxHeartbeats 1000000 in
theorem bInts (xs ys : List Int) (v u : Value) (w : World) (hx : IntsV w v xs) (hy : IntsV w u ys) {c : Bool} (hc : decide (xs = ys) = c) :
    Calls Tryz.prog 61 #[v, u] w fun e w' => e = .returned (.bool c) ∧ Below w.heap.size w w' := by
  subst hc
  obtain ⟨x1, a, cap, rfl, x4⟩ := hx
  obtain ⟨y1, a', cap', rfl, y4⟩ := hy
  by_cases hl : xs.length = ys.length
  · by_cases h0 : 0 < xs.length
    · obtain ⟨b, off, rfl, hbw, hcx⟩ := x4 h0
      obtain ⟨b', off', rfl, hbw', hcy⟩ := y4 (by omega)
      have HCX := Lib.hid hcx
      have HCY := Lib.hid hcy
      have HL := Lib.hid hl
      have hl' : ((xs.length : Int) != (ys.length : Int)) = false := by rw [hl]; exact bne_self_eq_false _
      have hle : xs.length ≤ ys.length := by omega
      have hge : ys.length ≤ xs.length := by omega
      clear x4 y4 hcx hcy hl
      go_enter Tryz.func61, Tryz.ntmps61
      go_wp2
      go_loopw [5] (fun i wr => ∃ k : Nat, k ≤ xs.length ∧ i = .int .i64 k ∧ Below w.heap.size w wr ∧ ∀ j, j < k → intAt xs j = intAt ys j) (fun i _ => xs.length - (intOf i).toNat)
      case atStart => exact ⟨0, Nat.zero_le _, rfl, Below.refl _ _, fun j hj => by omega⟩
      case round =>
        obtain ⟨k, hk, rfl, hnx, hz⟩ := hrel
        have HX := Lib.hid hnx
        have HZ := Lib.hid hz
        have hsz := hnx.size
        by_cases hlt : k < xs.length
        · have cx := (hnx.cell (p := ⟨b, off + k, none⟩) hbw).trans (HCX.out k hlt)
          have cy := (hnx.cell (p := ⟨b', off' + k, none⟩) hbw').trans (HCY.out k (by omega))
          have hbr : b < wr.heap.size := by omega
          have hbr' : b' < wr.heap.size := by omega
          clear hnx hz
          by_cases he : intAt xs k = intAt ys k
          · have he' : (intAt xs k != intAt ys k) = false := by simpa using he
            have HE := Lib.hid he
            clear he
            generalize intAt xs k = p at cx he'
            generalize intAt ys k = q at cy he'
            go_wp2
            refine wp_region_calm (by kernel_rfl) (by kernel_rfl) ?_
            repeat (go_big_quiet_step (fail))
            refine wpQuiet_nil ?_
            rintro _ ⟨p3, rfl⟩
            go_wp2
            go_roundw
            case rel => exact ⟨k + 1, by omega, by go_num, HX.out.trans (below_mono_of hsz (by (repeat' (first | with_reducible exact Below.refl _ _ | (with_reducible refine below_later_of ?_ ?_ _) | (with_reducible refine Below.alloc ?_ ?_ _) | (with_reducible refine Below.setCell ?_ ?_ _) | (with_reducible refine Below.drew ?_) | (simp; done) | (simp; omega) | omega)))), fun j hj => if e : j = k then (by rw [e]; exact HE.out) else HZ.out j (by omega)⟩
            case measure => simp [intOf]; omega
          · have he' : (intAt xs k != intAt ys k) = true := by simpa using he
            have HF := Lib.hid (show decide (xs = ys) = false by rw [decide_eq_false_iff_not]; rintro rfl; exact he rfl)
            clear he
            generalize intAt xs k = p at cx he'
            generalize intAt ys k = q at cy he'
            go_wp2
            refine wp_region_calm (by kernel_rfl) (by kernel_rfl) ?_
            repeat (go_big_quiet_step (fail))
            refine wpQuiet_nil ?_
            rintro _ ⟨p3, rfl⟩
            go_wp2
            go_ret
            exact ⟨ret_bool HF.out.symm, HX.out.trans (below_mono_of hsz (by (repeat' (first | with_reducible exact Below.refl _ _ | (with_reducible refine below_later_of ?_ ?_ _) | (with_reducible refine Below.alloc ?_ ?_ _) | (with_reducible refine Below.setCell ?_ ?_ _) | (with_reducible refine Below.drew ?_) | (simp; done) | (simp; omega) | omega))))⟩
        · have HF := Lib.hid (show decide (xs = ys) = true by rw [decide_eq_true_iff]; exact intAt_ext HL.out (fun j hj => HZ.out j (by omega)))
          clear hnx hz
          go_wp2
          go_ret
          exact ⟨ret_bool HF.out.symm, HX.out⟩
    · have e1 : xs = [] := List.length_eq_zero_iff.1 (by omega)
      have e2 : ys = [] := List.length_eq_zero_iff.1 (by omega)
      subst e1 e2
      clear x4 y4 hl h0 x1 y1
      go_enter Tryz.func61, Tryz.ntmps61
      go_wp2
      refine wp_loop_rounds 1 ?_
      rw [rounds_succ]
      go_wp2
      go_ret
      exact ⟨rfl, Below.refl _ _⟩
  · have hl' : ((xs.length : Int) != (ys.length : Int)) = true := by rw [bne_iff_ne]; intro h; exact hl (Int.ofNat_inj.1 h)
    have HF := Lib.hid (show decide (xs = ys) = false by rw [decide_eq_false_iff_not]; rintro rfl; exact hl rfl)
    clear x4 y4 hl
    go_enter Tryz.func61, Tryz.ntmps61
    go_wp2
    go_ret
    exact ⟨ret_bool HF.out.symm, Below.refl _ _⟩
/-- The value is a slice of these numbers of a field. -/
def SumV (w : World) (v : Value) (n : Nat) (f : Nat → Nat × Nat) : Prop :=
  n ≤ 100000 ∧ ∃ a cap, v = .slice a n cap ∧ (0 < n → ∃ b off, a = some ⟨b, off, none⟩ ∧ b < w.heap.size ∧ SumsAt w b off n f)
theorem SumV.below {w w' : World} {v : Value} {n : Nat} {f : Nat → Nat × Nat} (h : SumV w v n f) (hw : Below w.heap.size w w') : SumV w' v n f := by
  obtain ⟨h1, a, cap, h3, h4⟩ := h
  refine ⟨h1, a, cap, h3, fun hp => ?_⟩
  obtain ⟨b, off, h5, h6, h7⟩ := h4 hp
  exact ⟨b, off, h5, Nat.lt_of_lt_of_le h6 hw.size, h7.below h6 hw⟩
def SameF (n m : Nat) (f g : Nat → Nat × Nat) : Prop := n = m ∧ ∀ k, k < n → f k = g k
set_option maxHeartbeats 2000000 in
theorem sameSums_any (n m : Nat) (f g : Nat → Nat × Nat) (v u : Value) (w : World) (hx : SumV w v n f) (hy : SumV w u m g) {c : Bool} (hc : c = true ↔ SameF n m f g) :
    Calls Tryz.prog 81 #[v, u] w fun e w' => e = .returned (.bool c) ∧ Below w.heap.size w w' := by
  obtain ⟨x1, a, cap, rfl, x4⟩ := hx
  obtain ⟨y1, a', cap', rfl, y4⟩ := hy
  have HC := Lib.hid hc
  clear hc
  by_cases hl : n = m
  · subst hl
    have hl' : ((n : Int) != (n : Int)) = false := bne_self_eq_false _
    by_cases h0 : 0 < n
    · obtain ⟨b, off, rfl, hbw, hcx⟩ := x4 h0
      obtain ⟨b', off', rfl, hbw', hcy⟩ := y4 h0
      have HCX := Lib.hid hcx
      have HCY := Lib.hid hcy
      clear x4 y4 hcx hcy
      go_enter Tryz.func81, Tryz.ntmps81
      go_wp2
      go_loopw [5] (fun i wr => ∃ k : Nat, k ≤ n ∧ i = .int .i64 k ∧ Below w.heap.size w wr ∧ ∀ j, j < k → f j = g j) (fun i _ => n - (intOf i).toNat)
      case atStart => exact ⟨0, Nat.zero_le _, rfl, Below.refl _ _, fun j hj => by omega⟩
      case round =>
        obtain ⟨k, hk, rfl, hnx, hz⟩ := hrel
        have HX := Lib.hid hnx
        have HZ := Lib.hid hz
        have hsz := hnx.size
        by_cases hlt : k < n
        · have cx := (hnx.cell (p := ⟨b, off + k, none⟩) hbw).trans (HCX.out k hlt)
          have cy := (hnx.cell (p := ⟨b', off' + k, none⟩) hbw').trans (HCY.out k hlt)
          have hbr : b < wr.heap.size := by omega
          have hbr' : b' < wr.heap.size := by omega
          have hdk : decide ((k : Int) < (n : Int)) = true := by simp; omega
          have hk0 : (0 : Int) ≤ (k : Int) := by omega
          have hk1 : (k : Int) < (n : Int) := by omega
          obtain ⟨p, hp⟩ : ∃ p, f k = p := ⟨_, rfl⟩
          obtain ⟨q, hq⟩ : ∃ q, g k = q := ⟨_, rfl⟩
          rw [hp] at cx
          rw [hq] at cy
          have HP := Lib.hid hp
          have HQ := Lib.hid hq
          obtain ⟨p1, p2⟩ := p
          obtain ⟨q1, q2⟩ := q
          dsimp only at cx cy
          clear hnx hz hp hq
          have r1 := fun w => hrun_bits p1 w
          have r2 := fun w => hrun_bits p2 w
          have r3 := fun w => hrun_bits q1 w
          have r4 := fun w => hrun_bits q2 w
          by_cases he : p1 = q1
          · subst he
            have d1 : ((p1 : Int) != (p1 : Int)) = false := bne_self_eq_false _
            by_cases he2 : p2 = q2
            · subst he2
              have d2 : ((p2 : Int) != (p2 : Int)) = false := bne_self_eq_false _
              go_wp2
              refine wp_region_calm (by kernel_rfl) (by kernel_rfl) ?_
              repeat (go_big_quiet_step (fail))
              refine wpQuiet_nil ?_
              rintro _ ⟨pp, rfl⟩
              go_wp2
              go_roundw
              case rel => exact ⟨k + 1, by omega, by go_num, HX.out.trans (below_mono_of hsz (by (repeat' (first | with_reducible exact Below.refl _ _ | (with_reducible refine below_later_of ?_ ?_ _) | (with_reducible refine Below.alloc ?_ ?_ _) | (with_reducible refine Below.setCell ?_ ?_ _) | (with_reducible refine Below.drew ?_) | (simp; done) | (simp; omega) | omega)))), fun j hj => if e : j = k then (by rw [e, HP.out, HQ.out]) else HZ.out j (by omega)⟩
              case measure => simp [intOf]; omega
            · have d2 : ((p2 : Int) != (q2 : Int)) = true := by rw [bne_iff_ne]; omega
              have HF := Lib.hid (show false = c by
                symm
                rw [Bool.eq_false_iff]
                intro h
                have := (HC.out.1 h).2 k hlt
                rw [HP.out, HQ.out] at this
                cases this
                exact he2 rfl)
              clear he2
              go_wp2
              refine wp_region_calm (by kernel_rfl) (by kernel_rfl) ?_
              repeat (go_big_quiet_step (fail))
              refine wpQuiet_nil ?_
              rintro _ ⟨pp, rfl⟩
              go_wp2
              go_ret
              exact ⟨ret_bool HF.out, HX.out.trans (below_mono_of hsz (by (repeat' (first | with_reducible exact Below.refl _ _ | (with_reducible refine below_later_of ?_ ?_ _) | (with_reducible refine Below.alloc ?_ ?_ _) | (with_reducible refine Below.setCell ?_ ?_ _) | (with_reducible refine Below.drew ?_) | (simp; done) | (simp; omega) | omega))))⟩
          · have d1 : ((p1 : Int) != (q1 : Int)) = true := by rw [bne_iff_ne]; omega
            have HF := Lib.hid (show false = c by
              symm
              rw [Bool.eq_false_iff]
              intro h
              have := (HC.out.1 h).2 k hlt
              rw [HP.out, HQ.out] at this
              cases this
              exact he rfl)
            clear he
            go_wp2
            refine wp_region_calm (by kernel_rfl) (by kernel_rfl) ?_
            repeat (go_big_quiet_step (fail))
            refine wpQuiet_nil ?_
            rintro _ ⟨pp, rfl⟩
            go_wp2
            go_ret
            exact ⟨ret_bool HF.out, HX.out.trans (below_mono_of hsz (by (repeat' (first | with_reducible exact Below.refl _ _ | (with_reducible refine below_later_of ?_ ?_ _) | (with_reducible refine Below.alloc ?_ ?_ _) | (with_reducible refine Below.setCell ?_ ?_ _) | (with_reducible refine Below.drew ?_) | (simp; done) | (simp; omega) | omega))))⟩
        · obtain rfl : k = n := by omega
          have HF := Lib.hid (show true = c from (HC.out.2 ⟨rfl, HZ.out⟩).symm)
          have hdk : decide ((k : Int) < (k : Int)) = false := by simp
          clear hnx hz
          go_wp2
          go_ret
          exact ⟨ret_bool HF.out, HX.out⟩
    · obtain rfl : n = 0 := by omega
      have HF := Lib.hid (show true = c from (HC.out.2 ⟨rfl, fun k hk => absurd hk (Nat.not_lt_zero _)⟩).symm)
      clear x4 y4 h0 hl' x1 y1
      go_enter Tryz.func81, Tryz.ntmps81
      go_wp2
      refine wp_loop_rounds 1 ?_
      rw [rounds_succ]
      go_wp2
      go_ret
      exact ⟨ret_bool HF.out, Below.refl _ _⟩
  · have hl' : ((n : Int) != (m : Int)) = true := by rw [bne_iff_ne]; omega
    have HF := Lib.hid (show false = c by
      symm
      rw [Bool.eq_false_iff]
      intro h
      exact hl (HC.out.1 h).1)
    clear x4 y4 hl
    go_enter Tryz.func81, Tryz.ntmps81
    go_wp2
    go_ret
    exact ⟨ret_bool HF.out, Below.refl _ _⟩
theorem parts_new (w : World) (l : List Nat) (t : TypeId) {arr : Array Value} (h : arr = (l.map (Value.float .f32)).toArray) {b : Nat} (hb : w.heap.size = b) : PartsAt (w.alloc (.cells arr t)) b 0 l.length (fun k => l.getD k 0) := fun k hk => by
  subst h hb
  rw [Nat.zero_add, cell_of_row _ _ k _ t (0, 0) (heap_alloc_new w _)]
  simp [hk]
theorem samples_new (w : World) (l : List (Nat × Nat)) (t : TypeId) {arr : Array Value} (h : arr = (l.map fun z => Value.complex .f32 z.1 z.2).toArray) {b : Nat} (hb : w.heap.size = b) : SamplesAt (w.alloc (.cells arr t)) b 0 l.length (fun k => l.getD k (0, 0)) := fun k hk => by
  subst h hb
  rw [Nat.zero_add, cell_of_row _ _ k _ t (0, 0) (heap_alloc_new w _)]
  simp [hk]
theorem sums_new (w : World) (l : List (Nat × Nat)) (t : TypeId) {arr : Array Value} (h : arr = (l.map fun z => Value.complex .f64 z.1 z.2).toArray) {b : Nat} (hb : w.heap.size = b) : SumsAt (w.alloc (.cells arr t)) b 0 l.length (fun k => l.getD k (0, 0)) := fun k hk => by
  subst h hb
  rw [Nat.zero_add, cell_of_row _ _ k _ t (0, 0) (heap_alloc_new w _)]
  simp [hk]
theorem ints_new (w : World) (l : List Int) (t : TypeId) (cap : Nat) {arr : Array Value} (h : arr = (l.map (Value.int .i64)).toArray) (hl : l.length ≤ 1000000000) {b : Nat} (hb : w.heap.size = b) : IntsV (w.alloc (.cells arr t)) (.slice (some ⟨b, 0, none⟩) l.length cap) l := by
  subst h hb
  refine ⟨hl, _, cap, rfl, fun _ => ⟨w.heap.size, 0, rfl, by simp, fun k hk => ?_⟩⟩
  rw [Nat.zero_add, cell_of_row _ _ k _ t (0, 0) (heap_alloc_new w _)]
  unfold intAt
  simp [hk]
/-- A field that is returned, as a list of its numbers. -/
theorem sumV_field {W : World} {base : Nat} {a : Option Addr} {c : Nat} {D : List (Nat × Nat)} (h : FieldAt W base a D) (hl : D.length ≤ 100000) : SumV W (.slice a D.length c) D.length (fun k => D.getD k (0, 0)) :=
  ⟨hl, a, c, rfl, fun hp => by
    obtain ⟨g, h1, -, h3, h4⟩ := h hp
    exact ⟨g, 0, h1, h3, fun k hk => by rw [Nat.zero_add]; exact h4 k _ (by simp [hk])⟩⟩
end Go.Proofs.YtkoiknmijjiicaaGreatDoor
