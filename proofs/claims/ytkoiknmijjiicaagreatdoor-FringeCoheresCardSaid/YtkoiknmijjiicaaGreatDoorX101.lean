/- Chapter 4: Coherence's closure: the sums of three windows, and what they give. -/
import Derived.Test.YtkoiknmijjiicaaGreatDoorX100
import Derived.Test.YtkoiknmijjiicaaGreatDoorZN
import Derived.Stop.RegionWithIn
namespace Go.Proofs.YtkoiknmijjiicaaGreatDoor
set_option linter.unusedVariables false
set_option linter.unusedSimpArgs false
open Go.RowKit Ieee Ntt
/-- The coherence of a place, in thousandths, as a float's bits. -/
def cohV (F G K : Nat → Int × Int) (L S half l s : Nat) : Nat :=
  floatOfInt .f32 (cohP (winP (fun i => (F i).1) L S half l s * winP (fun i => (F i).1) L S half l s + winP (fun i => (F i).2) L S half l s * winP (fun i => (F i).2) L S half l s).toNat (winP (enF G) L S half l s * winP (enF K) L S half l s).toNat : Nat)
theorem sumN_nn {f : Nat → Int} {a : Nat} : ∀ {k : Nat}, (∀ j, j < k → 0 ≤ f (a + j)) → 0 ≤ sumN f a k
  | 0, _ => Int.le_refl _
  | k + 1, h => by
    have := sumN_nn (k := k) fun j hj => h j (by omega)
    have := h k (by omega)
    rw [sumN]
    omega
/-- Marks of loops that have ended. -/
def Mk (ms : List Nat) (W : World) : Prop := ∀ m, m ∈ ms → W.heap[m]? = some (.deferred (some []))
theorem Mk.below {ms : List Nat} {D : Nat} {W W' : World} (h : Mk ms W) (hm : ∀ m, m ∈ ms → m < D) (hb : Below D W W') : Mk ms W' := fun m h1 => (hb.block m (hm m h1)).trans (h m h1)
theorem Mk.set {ms : List Nat} {W : World} (h : Mk ms W) {p : Addr} (hm : ∀ m, m ∈ ms → p.block < m) (v : Value) : Mk ms (W.setCell p v) := fun m h1 => (Below.heap_setCell _ _ _ _ (by have := hm m h1; omega)).trans (h m h1)
theorem heap_lt {W : World} {m : Nat} {o : Obj} (h : W.heap[m]? = some o) : m < W.heap.size := (Array.getElem?_eq_some_iff.1 h).1
theorem psW_next (G : Nat → Int) (S l0 s0 sc k : Nat) : psW G S l0 s0 sc (k + 1) = psW G S l0 s0 sc k + G (winI S l0 s0 sc k) := by unfold psW; rw [sumN, Nat.zero_add]
theorem enF_bd {n : Nat} {G : Nat → Int × Int} (h : SmallP n G 2047) {i : Nat} (hi : i < n) : 0 ≤ enF G i ∧ enF G i ≤ 8400000 := by
  obtain ⟨⟨a1, a2⟩, b1, b2⟩ := h i hi
  have e1 := Int.mul_nonneg (show 0 ≤ 2047 - (G i).1 by omega) (show 0 ≤ 2047 + (G i).1 by omega)
  have e2 : (2047 - (G i).1) * (2047 + (G i).1) = 4190209 - (G i).1 * (G i).1 := by grind
  have e3 := Int.mul_nonneg (show 0 ≤ 2047 - (G i).2 by omega) (show 0 ≤ 2047 + (G i).2 by omega)
  have e4 : (2047 - (G i).2) * (2047 + (G i).2) = 4190209 - (G i).2 * (G i).2 := by grind
  have p1 := eg_bd (x := (G i).1) (by omega)
  have p2 := eg_bd (x := (G i).2) (by omega)
  unfold enF
  omega
set_option maxRecDepth 20000 in
set_option maxHeartbeats 8000000 in
theorem coh1 (A X Y H L S gz gx gy n cz cx cy l s half : Nat) (F G K : Nat → Int × Int) (w : World) (hn : n = L * S) (l2 : L ≤ 64) (s2 : S ≤ 64) (hl : l < L) (hs : s < S) (hh : half ≤ 4) (hA : A < w.heap.size) (hX : X < w.heap.size) (hY : Y < w.heap.size) (hH : H < w.heap.size) (hgz : gz < w.heap.size) (hgx : gx < w.heap.size) (hgy : gy < w.heap.size)
    (z0 : w.cell? ⟨A, 0, none⟩ = some (.int .i64 L)) (z1 : w.cell? ⟨A, 1, none⟩ = some (.int .i64 S)) (z2 : w.cell? ⟨A, 2, none⟩ = some (.slice (some ⟨gz, 0, none⟩) n cz)) (x0 : w.cell? ⟨X, 0, none⟩ = some (.int .i64 L)) (x1 : w.cell? ⟨X, 1, none⟩ = some (.int .i64 S)) (x2 : w.cell? ⟨X, 2, none⟩ = some (.slice (some ⟨gx, 0, none⟩) n cx)) (y0 : w.cell? ⟨Y, 0, none⟩ = some (.int .i64 L)) (y1 : w.cell? ⟨Y, 1, none⟩ = some (.int .i64 S)) (y2 : w.cell? ⟨Y, 2, none⟩ = some (.slice (some ⟨gy, 0, none⟩) n cy)) (ch : w.cell? ⟨H, 0, none⟩ = some (.int .i64 half))
    (hF : PairsAt w gz n F) (hG : PairsAt w gx n G) (hK : PairsAt w gy n K) (sF : SmallP n F 8400000) (sG : SmallP n G 2047) (sK : SmallP n K 2047) :
    Calls Tryz.prog 40 #[.int .i64 l, .int .i64 s, .pointer (some ⟨A, 0, none⟩), .pointer (some ⟨H, 0, none⟩), .pointer (some ⟨X, 0, none⟩), .pointer (some ⟨Y, 0, none⟩)] w fun e w' => e = .returned (.float .f32 (cohV F G K L S half l s)) ∧ Below w.heap.size w w' := by
  have HN := Lib.hid hn
  clear hn
  have HAR1 := Lib.hid (fun w => around_any L S gz n cz l s half w)
  have HAR2 := Lib.hid (fun w => around_any L S gx n cx l s half w)
  have HAR3 := Lib.hid (fun w => around_any L S gy n cy l s half w)
  obtain ⟨t1, t2⟩ := cntW_le (half := half) hl
  obtain ⟨t3, t4⟩ := cntW_le (half := half) hs
  have t5 := cntW_9 (l := l) (L := L) hh
  have t6 := cntW_9 (l := s) (L := S) hh
  have HW1 := Lib.hid (show winP (fun i => (F i).1) L S half l s = psW (fun i => (F i).1) S (loW l half) (loW s half) (cntW s half S) (cntW l half L * cntW s half S) from (psW_rows _ _ _ _ _ _).symm)
  have HW2 := Lib.hid (show winP (fun i => (F i).2) L S half l s = psW (fun i => (F i).2) S (loW l half) (loW s half) (cntW s half S) (cntW l half L * cntW s half S) from (psW_rows _ _ _ _ _ _).symm)
  have HW3 := Lib.hid (show winP (enF G) L S half l s = psW (enF G) S (loW l half) (loW s half) (cntW s half S) (cntW l half L * cntW s half S) from (psW_rows _ _ _ _ _ _).symm)
  have HW4 := Lib.hid (show winP (enF K) L S half l s = psW (enF K) S (loW l half) (loW s half) (cntW s half S) (cntW l half L * cntW s half S) from (psW_rows _ _ _ _ _ _).symm)
  have HIT1 := Lib.hid (show ∀ B W, _ from fun B W => around_iter 5 8 (by omega) B L S gz n cz l s half F HN.out l2 s2 hl hs hh W)
  have HIT2 := Lib.hid (show ∀ B W, _ from fun B W => around_iter 5 8 (by omega) B L S gx n cx l s half G HN.out l2 s2 hl hs hh W)
  have HIT3 := Lib.hid (show ∀ B W, _ from fun B W => around_iter 5 8 (by omega) B L S gy n cy l s half K HN.out l2 s2 hl hs hh W)
  obtain ⟨l0, hl0⟩ : ∃ l0, loW l half = l0 := ⟨_, rfl⟩
  obtain ⟨s0, hs0⟩ : ∃ s0, loW s half = s0 := ⟨_, rfl⟩
  obtain ⟨lc, hlc⟩ : ∃ lc, cntW l half L = lc := ⟨_, rfl⟩
  obtain ⟨sc, hsc⟩ : ∃ sc, cntW s half S = sc := ⟨_, rfl⟩
  rw [hl0, hlc] at t1
  rw [hs0, hsc] at t3
  rw [hlc] at t5
  rw [hsc] at t6
  rw [hl0, hs0, hlc, hsc] at HIT1 HIT2 HIT3 HW1 HW2 HW3 HW4
  clear hl0 hs0 hlc hsc t2 t4
  have HTT := Lib.hid (show lc * sc ≤ 81 from Nat.mul_le_mul t5 t6)
  have HWI := Lib.hid (show ∀ j, j < lc * sc → winI S l0 s0 sc j < n from fun j hj => by rw [HN.out]; exact winI_lt t1 t3 hj)
  have HBF := Lib.hid (show ∀ k, k ≤ lc * sc → (-680400000 ≤ psW (fun i => (F i).1) S l0 s0 sc k ∧ psW (fun i => (F i).1) S l0 s0 sc k ≤ 680400000) ∧ -680400000 ≤ psW (fun i => (F i).2) S l0 s0 sc k ∧ psW (fun i => (F i).2) S l0 s0 sc k ≤ 680400000 from fun k hk => by
    have e1 := psW_bd (G := fun i => (F i).1) (n := n) (B := 8400000) (fun i hi => (sF i hi).1) (S := S) (l0 := l0) (s0 := s0) (sc := sc) (k := k) (fun j hj => HWI.out j (by omega))
    have e2 := psW_bd (G := fun i => (F i).2) (n := n) (B := 8400000) (fun i hi => (sF i hi).2) (S := S) (l0 := l0) (s0 := s0) (sc := sc) (k := k) (fun j hj => HWI.out j (by omega))
    have := HTT.out
    omega)
  have HBG := Lib.hid (show ∀ k, k ≤ lc * sc → -680400000 ≤ psW (enF G) S l0 s0 sc k ∧ psW (enF G) S l0 s0 sc k ≤ 680400000 from fun k hk => by
    have e1 := psW_bd (G := enF G) (n := n) (B := 8400000) (fun i hi => by have := enF_bd sG hi; omega) (S := S) (l0 := l0) (s0 := s0) (sc := sc) (k := k) (fun j hj => HWI.out j (by omega))
    have := HTT.out
    omega)
  have HBK := Lib.hid (show ∀ k, k ≤ lc * sc → -680400000 ≤ psW (enF K) S l0 s0 sc k ∧ psW (enF K) S l0 s0 sc k ≤ 680400000 from fun k hk => by
    have e1 := psW_bd (G := enF K) (n := n) (B := 8400000) (fun i hi => by have := enF_bd sK hi; omega) (S := S) (l0 := l0) (s0 := s0) (sc := sc) (k := k) (fun j hj => HWI.out j (by omega))
    have := HTT.out
    omega)
  have HNG := Lib.hid (show 0 ≤ psW (enF G) S l0 s0 sc (lc * sc) from sumN_nn fun j hj => (enF_bd sG (by rw [Nat.zero_add]; exact HWI.out j hj)).1)
  have HNK := Lib.hid (show 0 ≤ psW (enF K) S l0 s0 sc (lc * sc) from sumN_nn fun j hj => (enF_bd sK (by rw [Nat.zero_add]; exact HWI.out j hj)).1)
  have HSF := Lib.hid sF
  have HSG := Lib.hid sG
  have HSK := Lib.hid sK
  have HCX := Lib.hid (And.intro hX (And.intro x0 (And.intro x1 (And.intro x2 hG))))
  have HCY := Lib.hid (And.intro hY (And.intro y0 (And.intro y1 (And.intro y2 hK))))
  have HCH := Lib.hid (And.intro hH ch)
  have HFA := Lib.hid hF
  clear hF hG hK sF sG sK x0 x1 x2 y0 y1 y2 hX hY l2 s2 hh t1 t3 t5 t6 hl hs
  refine callsIn_wide.1 (callsIn_of_wp_marks (F := Fence.wide) (n := 9) Tryz.func40 rfl trivial (wpIn_wide.2 ?_) rfl)
  simp only [Tryz.ntmps40, List.size_toArray, List.length_cons, List.length_nil, Nat.reduceAdd, Nat.reduceSub, Array.replicate_succ, Array.replicate_zero, List.push_toArray, List.append_toArray, List.nil_append, List.cons_append]
  go_wp2_with (first | (go_at_call 41; (with_reducible refine (HAR1.out _).mono ?_); rintro e wa1 ⟨B1, hB1, rfl, hab1, hBw1, hb1⟩; have HAB1 := Lib.hid hab1; have HB51 := Lib.hid hb1; have HBB1 := Lib.hid hB1; have HBW1 := Lib.hid hBw1; clear hab1 hb1 hB1 hBw1))
  have hb5 := HB51.out
  have hBe1 := HBB1.out
  have hBw1 := HBW1.out
  (try simp at hBe1)
  have hRB1 : w.heap.size + 2 < B1 := by omega
  have hw51 : w.heap.size + 2 < wa1.heap.size := by omega
  have HST1 := Lib.hid (show CoSt w wa1 B1 L S gz n cz l s half F (psW (fun i => (F i).1) S l0 s0 sc 0) (psW (fun i => (F i).2) S l0 s0 sc 0) 0 0 wa1 from by
    have hba : Below w.heap.size w (((w.alloc (.cells #[.int .i64 0, .int .i64 0] 91)).alloc (.cells #[.int .i64 0] 3)).alloc (.cells #[.int .i64 0] 3)) := (by (repeat' (first | with_reducible exact Below.refl _ _ | (with_reducible refine below_later_of ?_ ?_ _) | (with_reducible refine Below.alloc ?_ ?_ _) | (with_reducible refine Below.setCell ?_ ?_ _) | (with_reducible refine Below.drew ?_) | (simp; done) | (simp; omega) | omega)))
    have hb6 : Below w.heap.size w wa1 := hba.trans (hb5.mono (by simp <;> omega))
    refine ⟨⟨HAB1.out, (fun k hk => ?_), by omega, hBw1⟩, ?_, ?_, ?_, ?_, ?_, ?_, ?_, ?_, hb6, Nat.le_refl _⟩
    · obtain ⟨q1, q2⟩ := HFA.out k hk
      exact ⟨(hb6.cell (p := ⟨gz, k * 2, none⟩) hgz).trans q1, (hb6.cell (p := ⟨gz, k * 2 + 1, none⟩) hgz).trans q2⟩
    · exact (hb5.cell (p := ⟨w.heap.size + 0, 0, none⟩) (by simp <;> omega)).trans (by (first | (simp [go_sem, psW, sumN]; done) | simp [go_sem, psW, sumN, ↓IntWalk.iteOmega]))
    · exact (hb5.cell (p := ⟨w.heap.size + 0, 1, none⟩) (by simp <;> omega)).trans (by (first | (simp [go_sem, psW, sumN]; done) | simp [go_sem, psW, sumN, ↓IntWalk.iteOmega]))
    · exact (hb5.cell (p := ⟨w.heap.size + 1, 0, none⟩) (by simp <;> omega)).trans (by (first | (simp [go_sem, psW, sumN]; done) | simp [go_sem, psW, sumN, ↓IntWalk.iteOmega]))
    · exact (hb5.cell (p := ⟨w.heap.size + 2, 0, none⟩) (by simp <;> omega)).trans (by (first | (simp [go_sem, psW, sumN]; done) | simp [go_sem, psW, sumN, ↓IntWalk.iteOmega]))
    · exact (hb5.frozen (p := ⟨w.heap.size + 0, 0, none⟩) (by simp <;> omega)).trans (by (first | (simp [go_sem]; done) | simp [go_sem, ↓IntWalk.iteOmega]))
    · exact (hb5.frozen (p := ⟨w.heap.size + 0, 1, none⟩) (by simp <;> omega)).trans (by (first | (simp [go_sem]; done) | simp [go_sem, ↓IntWalk.iteOmega]))
    · exact (hb5.frozen (p := ⟨w.heap.size + 1, 0, none⟩) (by simp <;> omega)).trans (by (first | (simp [go_sem]; done) | simp [go_sem, ↓IntWalk.iteOmega]))
    · exact (hb5.frozen (p := ⟨w.heap.size + 2, 0, none⟩) (by simp <;> omega)).trans (by (first | (simp [go_sem]; done) | simp [go_sem, ↓IntWalk.iteOmega])))
  have HBE1 := Lib.hid hBe1
  clear HAB1 HB51 HBB1 HBW1 hb5 hBe1 z0 z1 z2 ch HFA
  have HMK1 := Lib.hid (show Mk [] wa1 from fun m h => by cases h)
  have hma1 : ∀ m, m ∈ [] → m < wa1.heap.size := by intro m h; cases h
  have hmb1 : ∀ m, m ∈ [] → w.heap.size + 2 < m := by intro m h; cases h
  refine wpIn_wide.1 (wpIn_rangeCapW 5 (AroS B1 L S gz n cz l s half F) (n := 9) rfl (by omega) (gf := 88) (cap := #[.pointer (some ⟨B1 + 1, 0, none⟩), .pointer (some ⟨B1 + 3, 0, none⟩), .pointer (some ⟨B1, 0, none⟩), .pointer (some ⟨B1 + 2, 0, none⟩)]) rfl trivial (enters_of Tryz.func88 (by kernel_rfl) rfl) (N := lc * sc) (enc := encW F S l0 s0 sc) (fun k => rfl)
    (fun W _ => HIT1.out _ W)
    (fun k W => CoSt w wa1 B1 L S gz n cz l s half F (psW (fun i => (F i).1) S l0 s0 sc k) (psW (fun i => (F i).2) S l0 s0 sc k) 0 0 W ∧ Mk [] W)
    (fun _ _ => False)
    (fun k W1 W2 h hb hc => ⟨h.1.below hw51 hBw1 (by omega) hb, h.2.below hma1 hb⟩)
    (fun c W1 W2 h hb hc => h)
    (fun k W h => h.1.aro)
    ⟨HST1.out, HMK1.out⟩
    (fun T k W => (T.setIfInBounds 20 (.agg #[.int .i64 (F (winI S l0 s0 sc k)).1, .int .i64 (F (winI S l0 s0 sc k)).2])).setIfInBounds 12 (.pointer (some ⟨W.heap.size, 0, none⟩)))
    (fun k W => W.alloc (.cells #[.int .i64 (F (winI S l0 s0 sc k)).1, .int .i64 (F (winI S l0 s0 sc k)).2] 91))
    (fun k W => (Below.refl W.heap.size W).alloc (Nat.le_refl _) _)
    ?assign1 ?body1 ?done1 ?stop1)
  case assign1 =>
    intro ll k W K1 hK1
    simp only [encW]
    simp only [List.setIfInBounds_toArray, List.set_cons_succ, List.set_cons_zero] at hK1
    gi_wp2
    exact hK1
  case body1 =>
    rintro ll k W Wb ⟨hst, hmk⟩ hkN hWs hcs hsz
    have e0 : Wb.cell? ⟨W.heap.size, 0, none⟩ = _ := cell_same hcs (v := .int .i64 (F (winI S l0 s0 sc k)).1) (by simp [go_sem])
    have e1 : Wb.cell? ⟨W.heap.size, 1, none⟩ = _ := cell_same hcs (v := .int .i64 (F (winI S l0 s0 sc k)).2) (by simp [go_sem])
    have hin := HWI.out k hkN
    obtain ⟨⟨b1, b2⟩, b3, b4⟩ := HSF.out _ hin
    obtain ⟨⟨q1, q2⟩, q3, q4⟩ := HBF.out k (by omega)
    have n1 := psW_next (fun i => (F i).1) S l0 s0 sc k
    have n2 := psW_next (fun i => (F i).2) S l0 s0 sc k
    rw [n1, n2]
    generalize psW (fun i => (F i).1) S l0 s0 sc k = ua at *
    generalize psW (fun i => (F i).2) S l0 s0 sc k = ub at *
    dsimp only
    generalize (F (winI S l0 s0 sc k)).1 = x at *
    generalize (F (winI S l0 s0 sc k)).2 = y at *
    have HPL := Lib.hid (fun W => fPlus ua ub x y W (by omega) (by omega) (by omega) (by omega))
    have HSB := Lib.hid hst
    have HMB := Lib.hid hmk
    have r0 := hst.r0
    have r1 := hst.r1
    have rp := hst.rp
    have rq := hst.rq
    have f0 := hst.f0
    have f1 := hst.f1
    have fp := hst.fp
    have fq := hst.fq
    have hsW := hst.sz
    have hWl : W.heap.size < Wb.heap.size := by rw [← hsz]; simp
    clear hmk hst hcs hsz hin b1 b2 b3 b4 n1 n2 q3 q4
    gi_wp2_with (first | (refine ⟨trivial, ?_⟩; gi_at_call 42; refine (callsIn_rw (HPL.out _)).mono ?_; rintro e w' ⟨rfl, hb⟩; obtain ⟨p1, rfl⟩ := later_of_below hb; clear hb))
    exact ⟨((KeepT.below (below_later Wb p1)).setCell (p := ⟨w.heap.size, 0, none⟩) (show w.heap.size < wa1.heap.size by omega) _).setCell (p := ⟨w.heap.size, 1, none⟩) (show w.heap.size < wa1.heap.size by omega) _, (HSB.out.below hw51 hBw1 (by omega) ((below_later Wb p1).mono hsW)).put hRB1 hgz _ _, fun m h => by cases h⟩
  case stop1 =>
    rintro c W h hD
    exact h.elim
  case done1 =>
    rintro W ⟨hst, hmk1⟩ hD1
    have HB := Lib.hid hst.bel
    have HDD1 := Lib.hid hD1
    have r0 := hst.r0
    have r1 := hst.r1
    have rp := hst.rp
    have rq := hst.rq
    have f0 := hst.f0
    have f1 := hst.f1
    have fp := hst.fp
    have fq := hst.fq
    have hsW1 := hst.sz
    obtain ⟨pa, hpa⟩ : ∃ pa, psW (fun i => (F i).1) S l0 s0 sc (lc * sc) = pa := ⟨_, rfl⟩
    obtain ⟨pb, hpb⟩ : ∃ pb, psW (fun i => (F i).2) S l0 s0 sc (lc * sc) = pb := ⟨_, rfl⟩
    have HBA := Lib.hid (HBF.out (lc * sc) (Nat.le_refl _))
    rw [hpa] at r0 HW1 HBA
    rw [hpb] at r1 HW2 HBA
    clear hpa hpb
    clear hst hD1
    obtain ⟨hv, v0, v1, v2, -⟩ := HCX.out
    obtain ⟨hH, ch⟩ := HCH.out
    replace v0 := (HB.out.cell (p := ⟨X, 0, none⟩) hv).trans v0
    replace v1 := (HB.out.cell (p := ⟨X, 1, none⟩) hv).trans v1
    replace v2 := (HB.out.cell (p := ⟨X, 2, none⟩) hv).trans v2
    replace ch := (HB.out.cell (p := ⟨H, 0, none⟩) hH).trans ch
    have hWz := HB.out.size
    have hWm1 := heap_lt HDD1.out
    go_wp2_with (first | (go_at_call 41; (with_reducible refine (HAR2.out _).mono ?_); rintro e wa2 ⟨B2, hB2, rfl, hab2, hBw2, hb2⟩; have HAB2 := Lib.hid hab2; have HB52 := Lib.hid hb2; have HBB2 := Lib.hid hB2; have HBW2 := Lib.hid hBw2; clear hab2 hb2 hB2 hBw2))
    clear v0 v1 v2 ch
    have HMK2 := Lib.hid (show Mk [wa1.heap.size] wa2 from by
      refine Mk.below (W := W) (D := W.heap.size) ?_ ?_ HB52.out
      · intro m h
        simp only [List.mem_cons, List.not_mem_nil, or_false] at h
        subst h
        exact HDD1.out
      · intro m h
        simp only [List.mem_cons, List.not_mem_nil, or_false] at h
        omega)
    have hwm1 : wa1.heap.size < wa2.heap.size := by have := HB52.out.size; omega
    have hb5 := HB52.out
    have hBe2 := HBB2.out
    have hBw2 := HBW2.out
    (try simp at hBe2)
    have hRB2 : w.heap.size + 2 < B2 := by omega
    have hw52 : w.heap.size + 2 < wa2.heap.size := by omega
    have HST2 := Lib.hid (show CoSt w wa2 B2 L S gx n cx l s half G pa pb (psW (enF G) S l0 s0 sc 0) 0 wa2 from by
      have hb6 : Below w.heap.size w wa2 := HB.out.trans (hb5.mono HB.out.size)
      refine ⟨⟨HAB2.out, (fun k hk => ?_), by omega, hBw2⟩, (hb5.cell (p := ⟨w.heap.size, 0, none⟩) (show w.heap.size < W.heap.size by omega)).trans r0, (hb5.cell (p := ⟨w.heap.size, 1, none⟩) (show w.heap.size < W.heap.size by omega)).trans r1, (hb5.cell (p := ⟨w.heap.size + 1, 0, none⟩) (show w.heap.size + 1 < W.heap.size by omega)).trans rp, (hb5.cell (p := ⟨w.heap.size + 2, 0, none⟩) (show w.heap.size + 2 < W.heap.size by omega)).trans rq, (hb5.frozen (p := ⟨w.heap.size, 0, none⟩) (show w.heap.size < W.heap.size by omega)).trans f0, (hb5.frozen (p := ⟨w.heap.size, 1, none⟩) (show w.heap.size < W.heap.size by omega)).trans f1, (hb5.frozen (p := ⟨w.heap.size + 1, 0, none⟩) (show w.heap.size + 1 < W.heap.size by omega)).trans fp, (hb5.frozen (p := ⟨w.heap.size + 2, 0, none⟩) (show w.heap.size + 2 < W.heap.size by omega)).trans fq, hb6, Nat.le_refl _⟩
      obtain ⟨q1, q2⟩ := HCX.out.2.2.2.2 k hk
      exact ⟨(hb6.cell (p := ⟨gx, k * 2, none⟩) hgx).trans q1, (hb6.cell (p := ⟨gx, k * 2 + 1, none⟩) hgx).trans q2⟩)
    have HBE2 := Lib.hid hBe2
    clear HAB2 HB52 HBB2 HBW2 hb5 hBe2 r0 r1 rp rq f0 f1 fp fq
    have hma2 : ∀ m, m ∈ [wa1.heap.size] → m < wa2.heap.size := by intro m h; simp only [List.mem_cons, List.not_mem_nil, or_false] at h; omega
    have hmb2 : ∀ m, m ∈ [wa1.heap.size] → w.heap.size + 2 < m := by intro m h; simp only [List.mem_cons, List.not_mem_nil, or_false] at h; omega
    refine wpIn_wide.1 (wpIn_rangeCapW 5 (AroS B2 L S gx n cx l s half G) (n := 9) rfl (by omega) (gf := 88) (cap := #[.pointer (some ⟨B2 + 1, 0, none⟩), .pointer (some ⟨B2 + 3, 0, none⟩), .pointer (some ⟨B2, 0, none⟩), .pointer (some ⟨B2 + 2, 0, none⟩)]) rfl trivial (enters_of Tryz.func88 (by kernel_rfl) rfl) (N := lc * sc) (enc := encW G S l0 s0 sc) (fun k => rfl)
      (fun W _ => HIT2.out _ W)
      (fun k W => CoSt w wa2 B2 L S gx n cx l s half G pa pb (psW (enF G) S l0 s0 sc k) 0 W ∧ Mk [wa1.heap.size] W)
      (fun _ _ => False)
      (fun k W1 W2 h hb hc => ⟨h.1.below hw52 hBw2 (by omega) hb, h.2.below hma2 hb⟩)
      (fun c W1 W2 h hb hc => h)
      (fun k W h => h.1.aro)
      ⟨HST2.out, HMK2.out⟩
      (fun T k W => (T.setIfInBounds 29 (.agg #[.int .i64 (G (winI S l0 s0 sc k)).1, .int .i64 (G (winI S l0 s0 sc k)).2])).setIfInBounds 13 (.pointer (some ⟨W.heap.size, 0, none⟩)))
      (fun k W => W.alloc (.cells #[.int .i64 (G (winI S l0 s0 sc k)).1, .int .i64 (G (winI S l0 s0 sc k)).2] 91))
      (fun k W => (Below.refl W.heap.size W).alloc (Nat.le_refl _) _)
      ?assign2 ?body2 ?done2 ?stop2)
    case assign2 =>
      intro ll k W K1 hK1
      simp only [encW]
      simp only [List.setIfInBounds_toArray, List.set_cons_succ, List.set_cons_zero] at hK1
      gi_wp2
      exact hK1
    case body2 =>
      rintro ll k W Wb ⟨hst, hmk⟩ hkN hWs hcs hsz
      have e0 : Wb.cell? ⟨W.heap.size, 0, none⟩ = _ := cell_same hcs (v := .int .i64 (G (winI S l0 s0 sc k)).1) (by simp [go_sem])
      have e1 : Wb.cell? ⟨W.heap.size, 1, none⟩ = _ := cell_same hcs (v := .int .i64 (G (winI S l0 s0 sc k)).2) (by simp [go_sem])
      have hin := HWI.out k hkN
      obtain ⟨⟨b1, b2⟩, b3, b4⟩ := HSG.out _ hin
      obtain ⟨q1, q2⟩ := HBG.out k (by omega)
      obtain ⟨q5, q6⟩ := enF_bd HSG.out hin
      have n1 := psW_next (enF G) S l0 s0 sc k
      rw [n1]
      generalize psW (enF G) S l0 s0 sc k = ua at *
      obtain ⟨t, ht⟩ : ∃ t, enF G (winI S l0 s0 sc k) = t := ⟨_, rfl⟩
      rw [ht] at q5 q6 ⊢
      unfold enF at ht
      generalize (G (winI S l0 s0 sc k)).1 = x at *
      generalize (G (winI S l0 s0 sc k)).2 = y at *
      have HEN := Lib.hid (fun W => fEnergy x y W (by omega) (by omega) ht)
      have hwv : IntKind.i64.wrap (ua + t) = ua + t := IntWalk.i64_in _ (by omega)
      have HSB := Lib.hid hst
      have HMB := Lib.hid hmk
      have r0 := hst.r0
      have r1 := hst.r1
      have rp := hst.rp
      have rq := hst.rq
      have f0 := hst.f0
      have f1 := hst.f1
      have fp := hst.fp
      have fq := hst.fq
      have hsW := hst.sz
      have hWl : W.heap.size < Wb.heap.size := by rw [← hsz]; simp
      clear hmk hst hcs hsz hin b1 b2 b3 b4 n1 ht
      gi_wp2_with fail
      gi_region_with (first | (refine ⟨trivial, ?_⟩; gi_at_call 43; refine (callsIn_rw (HEN.out _)).mono ?_; rintro e w' ⟨rfl, hb⟩; obtain ⟨p1, rfl⟩ := later_of_below hb; clear hb))
      all_goals
        gi_wp2_with fail
        exact ⟨(KeepT.below (show Below Wb.heap.size Wb _ from (by (repeat' (first | with_reducible exact Below.refl _ _ | (with_reducible refine below_later_of ?_ ?_ _) | (with_reducible refine Below.alloc ?_ ?_ _) | (with_reducible refine Below.setCell ?_ ?_ _) | (with_reducible refine Below.drew ?_) | (simp; done) | (simp; omega) | omega))))).setCell (p := ⟨w.heap.size + 1, 0, none⟩) (show w.heap.size + 1 < wa2.heap.size by omega) _, (HSB.out.below hw52 hBw2 (by omega) ((show Below Wb.heap.size Wb _ from (by (repeat' (first | with_reducible exact Below.refl _ _ | (with_reducible refine below_later_of ?_ ?_ _) | (with_reducible refine Below.alloc ?_ ?_ _) | (with_reducible refine Below.setCell ?_ ?_ _) | (with_reducible refine Below.drew ?_) | (simp; done) | (simp; omega) | omega)))).mono hsW)).putP hRB2 hgx _, (HMB.out.below hma2 ((show Below Wb.heap.size Wb _ from (by (repeat' (first | with_reducible exact Below.refl _ _ | (with_reducible refine below_later_of ?_ ?_ _) | (with_reducible refine Below.alloc ?_ ?_ _) | (with_reducible refine Below.setCell ?_ ?_ _) | (with_reducible refine Below.drew ?_) | (simp; done) | (simp; omega) | omega)))).mono hsW)).set (fun m h => by have := hmb2 m h; dsimp only; omega) _⟩
    case stop2 =>
      rintro c W h hD
      exact h.elim
    case done2 =>
      rintro W ⟨hst, hmk2⟩ hD2
      have HB := Lib.hid hst.bel
      have HDD2 := Lib.hid hD2
      have r0 := hst.r0
      have r1 := hst.r1
      have rp := hst.rp
      have rq := hst.rq
      have f0 := hst.f0
      have f1 := hst.f1
      have fp := hst.fp
      have fq := hst.fq
      have hsW2 := hst.sz
      obtain ⟨pg, hpg⟩ : ∃ pg, psW (enF G) S l0 s0 sc (lc * sc) = pg := ⟨_, rfl⟩
      have HBP := Lib.hid (HBG.out (lc * sc) (Nat.le_refl _))
      rw [hpg] at rp HW3 HBP HNG
      clear hpg
      clear hst hD2
      obtain ⟨hv, v0, v1, v2, -⟩ := HCY.out
      obtain ⟨hH, ch⟩ := HCH.out
      replace v0 := (HB.out.cell (p := ⟨Y, 0, none⟩) hv).trans v0
      replace v1 := (HB.out.cell (p := ⟨Y, 1, none⟩) hv).trans v1
      replace v2 := (HB.out.cell (p := ⟨Y, 2, none⟩) hv).trans v2
      replace ch := (HB.out.cell (p := ⟨H, 0, none⟩) hH).trans ch
      have hWz := HB.out.size
      have hWm2 := heap_lt HDD2.out
      go_wp2_with (first | (go_at_call 41; (with_reducible refine (HAR3.out _).mono ?_); rintro e wa3 ⟨B3, hB3, rfl, hab3, hBw3, hb3⟩; have HAB3 := Lib.hid hab3; have HB53 := Lib.hid hb3; have HBB3 := Lib.hid hB3; have HBW3 := Lib.hid hBw3; clear hab3 hb3 hB3 hBw3))
      clear v0 v1 v2 ch
      have HMK3 := Lib.hid (show Mk [wa2.heap.size, wa1.heap.size] wa3 from by
        refine Mk.below (W := W) (D := W.heap.size) ?_ ?_ HB53.out
        · intro m h
          simp only [List.mem_cons, List.not_mem_nil, or_false] at h
          rcases h with rfl | rfl
          · exact HDD2.out
          · exact hmk2 _ (by simp)
        · intro m h
          simp only [List.mem_cons, List.not_mem_nil, or_false] at h
          omega)
      have hwm2 : wa2.heap.size < wa3.heap.size := by have := HB53.out.size; omega
      have hb5 := HB53.out
      have hBe3 := HBB3.out
      have hBw3 := HBW3.out
      (try simp at hBe3)
      have hRB3 : w.heap.size + 2 < B3 := by omega
      have hw53 : w.heap.size + 2 < wa3.heap.size := by omega
      have HST3 := Lib.hid (show CoSt w wa3 B3 L S gy n cy l s half K pa pb pg (psW (enF K) S l0 s0 sc 0) wa3 from by
        have hb6 : Below w.heap.size w wa3 := HB.out.trans (hb5.mono HB.out.size)
        refine ⟨⟨HAB3.out, (fun k hk => ?_), by omega, hBw3⟩, (hb5.cell (p := ⟨w.heap.size, 0, none⟩) (show w.heap.size < W.heap.size by omega)).trans r0, (hb5.cell (p := ⟨w.heap.size, 1, none⟩) (show w.heap.size < W.heap.size by omega)).trans r1, (hb5.cell (p := ⟨w.heap.size + 1, 0, none⟩) (show w.heap.size + 1 < W.heap.size by omega)).trans rp, (hb5.cell (p := ⟨w.heap.size + 2, 0, none⟩) (show w.heap.size + 2 < W.heap.size by omega)).trans rq, (hb5.frozen (p := ⟨w.heap.size, 0, none⟩) (show w.heap.size < W.heap.size by omega)).trans f0, (hb5.frozen (p := ⟨w.heap.size, 1, none⟩) (show w.heap.size < W.heap.size by omega)).trans f1, (hb5.frozen (p := ⟨w.heap.size + 1, 0, none⟩) (show w.heap.size + 1 < W.heap.size by omega)).trans fp, (hb5.frozen (p := ⟨w.heap.size + 2, 0, none⟩) (show w.heap.size + 2 < W.heap.size by omega)).trans fq, hb6, Nat.le_refl _⟩
        obtain ⟨q1, q2⟩ := HCY.out.2.2.2.2 k hk
        exact ⟨(hb6.cell (p := ⟨gy, k * 2, none⟩) hgy).trans q1, (hb6.cell (p := ⟨gy, k * 2 + 1, none⟩) hgy).trans q2⟩)
      have HBE3 := Lib.hid hBe3
      clear HAB3 HB53 HBB3 HBW3 hb5 hBe3 r0 r1 rp rq f0 f1 fp fq
      have hma3 : ∀ m, m ∈ [wa2.heap.size, wa1.heap.size] → m < wa3.heap.size := by intro m h; simp only [List.mem_cons, List.not_mem_nil, or_false] at h; omega
      have hmb3 : ∀ m, m ∈ [wa2.heap.size, wa1.heap.size] → w.heap.size + 2 < m := by intro m h; simp only [List.mem_cons, List.not_mem_nil, or_false] at h; omega
      refine wpIn_wide.1 (wpIn_rangeCapW 5 (AroS B3 L S gy n cy l s half K) (n := 9) rfl (by omega) (gf := 88) (cap := #[.pointer (some ⟨B3 + 1, 0, none⟩), .pointer (some ⟨B3 + 3, 0, none⟩), .pointer (some ⟨B3, 0, none⟩), .pointer (some ⟨B3 + 2, 0, none⟩)]) rfl trivial (enters_of Tryz.func88 (by kernel_rfl) rfl) (N := lc * sc) (enc := encW K S l0 s0 sc) (fun k => rfl)
        (fun W _ => HIT3.out _ W)
        (fun k W => CoSt w wa3 B3 L S gy n cy l s half K pa pb pg (psW (enF K) S l0 s0 sc k) W ∧ Mk [wa2.heap.size, wa1.heap.size] W)
        (fun _ _ => False)
        (fun k W1 W2 h hb hc => ⟨h.1.below hw53 hBw3 (by omega) hb, h.2.below hma3 hb⟩)
        (fun c W1 W2 h hb hc => h)
        (fun k W h => h.1.aro)
        ⟨HST3.out, HMK3.out⟩
        (fun T k W => (T.setIfInBounds 39 (.agg #[.int .i64 (K (winI S l0 s0 sc k)).1, .int .i64 (K (winI S l0 s0 sc k)).2])).setIfInBounds 14 (.pointer (some ⟨W.heap.size, 0, none⟩)))
        (fun k W => W.alloc (.cells #[.int .i64 (K (winI S l0 s0 sc k)).1, .int .i64 (K (winI S l0 s0 sc k)).2] 91))
        (fun k W => (Below.refl W.heap.size W).alloc (Nat.le_refl _) _)
        ?assign3 ?body3 ?done3 ?stop3)
      case assign3 =>
        intro ll k W K1 hK1
        simp only [encW]
        simp only [List.setIfInBounds_toArray, List.set_cons_succ, List.set_cons_zero] at hK1
        gi_wp2
        exact hK1
      case body3 =>
        rintro ll k W Wb ⟨hst, hmk⟩ hkN hWs hcs hsz
        have e0 : Wb.cell? ⟨W.heap.size, 0, none⟩ = _ := cell_same hcs (v := .int .i64 (K (winI S l0 s0 sc k)).1) (by simp [go_sem])
        have e1 : Wb.cell? ⟨W.heap.size, 1, none⟩ = _ := cell_same hcs (v := .int .i64 (K (winI S l0 s0 sc k)).2) (by simp [go_sem])
        have hin := HWI.out k hkN
        obtain ⟨⟨b1, b2⟩, b3, b4⟩ := HSK.out _ hin
        obtain ⟨q1, q2⟩ := HBK.out k (by omega)
        obtain ⟨q5, q6⟩ := enF_bd HSK.out hin
        have n1 := psW_next (enF K) S l0 s0 sc k
        rw [n1]
        generalize psW (enF K) S l0 s0 sc k = ua at *
        obtain ⟨t, ht⟩ : ∃ t, enF K (winI S l0 s0 sc k) = t := ⟨_, rfl⟩
        rw [ht] at q5 q6 ⊢
        unfold enF at ht
        generalize (K (winI S l0 s0 sc k)).1 = x at *
        generalize (K (winI S l0 s0 sc k)).2 = y at *
        have HEN := Lib.hid (fun W => fEnergy x y W (by omega) (by omega) ht)
        have hwv : IntKind.i64.wrap (ua + t) = ua + t := IntWalk.i64_in _ (by omega)
        have HSB := Lib.hid hst
        have HMB := Lib.hid hmk
        have r0 := hst.r0
        have r1 := hst.r1
        have rp := hst.rp
        have rq := hst.rq
        have f0 := hst.f0
        have f1 := hst.f1
        have fp := hst.fp
        have fq := hst.fq
        have hsW := hst.sz
        have hWl : W.heap.size < Wb.heap.size := by rw [← hsz]; simp
        clear hmk hst hcs hsz hin b1 b2 b3 b4 n1 ht
        gi_wp2_with fail
        gi_region_with (first | (refine ⟨trivial, ?_⟩; gi_at_call 43; refine (callsIn_rw (HEN.out _)).mono ?_; rintro e w' ⟨rfl, hb⟩; obtain ⟨p1, rfl⟩ := later_of_below hb; clear hb))
        all_goals
          gi_wp2_with fail
          exact ⟨(KeepT.below (show Below Wb.heap.size Wb _ from (by (repeat' (first | with_reducible exact Below.refl _ _ | (with_reducible refine below_later_of ?_ ?_ _) | (with_reducible refine Below.alloc ?_ ?_ _) | (with_reducible refine Below.setCell ?_ ?_ _) | (with_reducible refine Below.drew ?_) | (simp; done) | (simp; omega) | omega))))).setCell (p := ⟨w.heap.size + 2, 0, none⟩) (show w.heap.size + 2 < wa3.heap.size by omega) _, (HSB.out.below hw53 hBw3 (by omega) ((show Below Wb.heap.size Wb _ from (by (repeat' (first | with_reducible exact Below.refl _ _ | (with_reducible refine below_later_of ?_ ?_ _) | (with_reducible refine Below.alloc ?_ ?_ _) | (with_reducible refine Below.setCell ?_ ?_ _) | (with_reducible refine Below.drew ?_) | (simp; done) | (simp; omega) | omega)))).mono hsW)).putQ hRB3 hgy _, (HMB.out.below hma3 ((show Below Wb.heap.size Wb _ from (by (repeat' (first | with_reducible exact Below.refl _ _ | (with_reducible refine below_later_of ?_ ?_ _) | (with_reducible refine Below.alloc ?_ ?_ _) | (with_reducible refine Below.setCell ?_ ?_ _) | (with_reducible refine Below.drew ?_) | (simp; done) | (simp; omega) | omega)))).mono hsW)).set (fun m h => by have := hmb3 m h; dsimp only; omega) _⟩
      case stop3 =>
        rintro c W h hD
        exact h.elim
      case done3 =>
        rintro W ⟨hst, hmk3⟩ hD3
        have HB := Lib.hid hst.bel
        have HDD3 := Lib.hid hD3
        have r0 := hst.r0
        have r1 := hst.r1
        have rp := hst.rp
        have rq := hst.rq
        have f0 := hst.f0
        have f1 := hst.f1
        have fp := hst.fp
        have fq := hst.fq
        have hsW3 := hst.sz
        obtain ⟨pk, hpk⟩ : ∃ pk, psW (enF K) S l0 s0 sc (lc * sc) = pk := ⟨_, rfl⟩
        have HBQ := Lib.hid (HBK.out (lc * sc) (Nat.le_refl _))
        rw [hpk] at rq HW4 HBQ HNK
        clear hpk
        clear hst hD3
        obtain ⟨⟨u1, u2⟩, u3, u4⟩ := HBA.out
        obtain ⟨u5, u6⟩ := HBP.out
        obtain ⟨u7, u8⟩ := HBQ.out
        have u9 := HNG.out
        have u10 := HNK.out
        have e1 := eg_bd (x := pa) (by omega)
        have e2 := eg_bd (x := pb) (by omega)
        have e3 := Int.mul_nonneg u9 u10
        have e4 : pg * pk ≤ 680400000 * 680400000 := Int.mul_le_mul u6 u8 u10 (by decide)
        obtain ⟨se, hse⟩ : ∃ se, pa * pa + pb * pb = se := ⟨_, rfl⟩
        obtain ⟨aq, haq⟩ : ∃ aq, pg * pk = aq := ⟨_, rfl⟩
        have HEE := Lib.hid (fun W => fEnergy pa pb W (by omega) (by omega) hse)
        obtain ⟨sN, hsN⟩ := Int.eq_ofNat_of_zero_le (show 0 ≤ se by omega)
        obtain ⟨aN, haN⟩ := Int.eq_ofNat_of_zero_le (show 0 ≤ aq by omega)
        have hww : IntKind.i64.wrap (pg * pk) = aq := by rw [haq]; exact IntWalk.i64_in _ (by omega)
        have HCO := Lib.hid (fun W => fCoherent sN aN W (by omega) (by omega))
        rw [← hsN, ← haN] at HCO
        obtain ⟨t, ht⟩ : ∃ t, cohP sN aN = t := ⟨_, rfl⟩
        rw [ht] at HCO
        have k1 := fun W => conv_f32 (t : Int) W
        have HV := Lib.hid (show cohV F G K L S half l s = floatOfInt .f32 (t : Int) from by unfold cohV; rw [HW1.out, HW2.out, HW3.out, HW4.out, hse, haq, hsN, haN, Int.toNat_natCast, Int.toNat_natCast, ht])
        generalize floatOfInt .f32 (t : Int) = fb at k1 HV
        have hRW : w.heap.size + 2 < W.heap.size := by omega
        clear u1 u2 u3 u4 u5 u6 u7 u8 u9 u10 e1 e2 e3 e4 hse haq hsN haN ht
        go_wp2_with fail
        refine wp_region_calm (by kernel_rfl) (by kernel_rfl) ?_
        repeat (go_big_quiet_step ((first | (go_at_call 43; exact calm_of (HEE.out _)) | (go_at_call 44; exact calm_same (HCO.out _)))))
        refine wpQuiet_nil ?_
        rintro _ ⟨pz, rfl⟩
        go_wp2_with fail
        have hWm3 := heap_lt HDD3.out
        have q3 : (later W pz).heap[wa3.heap.size]? = some (.deferred (some [])) := ((below_later W pz).block _ hWm3).trans HDD3.out
        have m2 := hmk3 wa2.heap.size (by simp)
        have m1 := hmk3 wa1.heap.size (by simp)
        have q2 : (later W pz).heap[wa2.heap.size]? = some (.deferred (some [])) := ((below_later W pz).block _ (heap_lt m2)).trans m2
        have q1 : (later W pz).heap[wa1.heap.size]? = some (.deferred (some [])) := ((below_later W pz).block _ (heap_lt m1)).trans m1
        refine ⟨by simp, .inl ⟨_, _, rfl, run_takeDeferred q3, ⟨by simp, .inl ⟨_, _, rfl, run_takeDeferred ((World.putObj_heap_other (by omega)).trans q2), ⟨by simp, .inl ⟨_, _, rfl, run_takeDeferred ((World.putObj_heap_other (by omega)).trans ((World.putObj_heap_other (by omega)).trans q1)), ?_⟩⟩⟩⟩⟩⟩
        refine ⟨.float .f32 fb, ?_, by rw [HV.out], ?_⟩
        · simp [results, Tryz.results40, go_sem]
        · exact HB.out.trans ((((below_later W pz).mono HB.out.size).trans ((below_putObj (Nat.le_refl _) _).mono (by omega))).trans (((below_putObj (Nat.le_refl _) _).mono (by omega)).trans ((below_putObj (Nat.le_refl _) _).mono (by omega))))
end Go.Proofs.YtkoiknmijjiicaaGreatDoor
