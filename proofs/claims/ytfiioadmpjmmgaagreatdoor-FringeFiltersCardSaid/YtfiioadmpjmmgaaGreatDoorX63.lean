/- Chapter 4: Filtered's closure: the sum of a window. -/
import Derived.Test.YtfiioadmpjmmgaaGreatDoorX62
import Derived.Test.YtfiioadmpjmmgaaGreatDoorX64
import Derived.Test.YtfiioadmpjmmgaaGreatDoorXE
namespace Go.Proofs.YtfiioadmpjmmgaaGreatDoor
set_option linter.unusedVariables false
set_option linter.unusedSimpArgs false
open Go.RowKit
set_option maxHeartbeats 1000000 in
theorem fPlus (x y u v : Int) (w : World) (h1 : -1000000000000000 ≤ x ∧ x ≤ 1000000000000000) (h2 : -1000000000000000 ≤ y ∧ y ≤ 1000000000000000) (h3 : -1000000000000000 ≤ u ∧ u ≤ 1000000000000000) (h4 : -1000000000000000 ≤ v ∧ v ≤ 1000000000000000) :
    Calls Tryz.prog 75 #[.agg #[.int .i64 x, .int .i64 y], .agg #[.int .i64 u, .int .i64 v]] w fun e w' => e = .returned (.agg #[.int .i64 (x + u), .int .i64 (y + v)]) ∧ Below w.heap.size w w' := by
  obtain ⟨a1, a2⟩ := h1
  obtain ⟨a3, a4⟩ := h2
  obtain ⟨a5, a6⟩ := h3
  obtain ⟨a7, a8⟩ := h4
  go_enter Tryz.func75, Tryz.ntmps75
  go_wp2
  refine bodyPost_ret ?_ rfl ⟨rfl, (by (repeat' (first | with_reducible exact Below.refl _ _ | (with_reducible refine below_later_of ?_ ?_ _) | (with_reducible refine Below.alloc ?_ ?_ _) | (with_reducible refine Below.setCell ?_ ?_ _) | (with_reducible refine Below.drew ?_) | (simp; done) | (simp; omega) | omega)))⟩
  first | (simp [results, Tryz.results75, go_sem]; done) | simp [results, Tryz.results75, go_sem, ↓IntWalk.iteOmega]
theorem cell_same {W W' : World} (h : CellsSame W W') {p : Addr} {v : Value} (hc : W.cell? p = some v) : W'.cell? p = some v := by
  unfold World.cell? at hc ⊢
  cases hk : W.heap[p.block]? with
  | none => rw [hk] at hc; cases hc
  | some o =>
    rw [hk] at hc
    cases o with
    | cells c T fr => rw [h _ _ _ _ hk]; exact hc
    | _ => cases hc
/-- The sum of a window, pair by pair. -/
def psW (G : Nat → Int) (S l0 s0 sc k : Nat) : Int := sumN (fun j => G (winI S l0 s0 sc j)) 0 k
theorem psW_rows (G : Nat → Int) (S l0 s0 sc : Nat) : ∀ m, psW G S l0 s0 sc (m * sc) = winW G S s0 sc l0 m
  | 0 => by rw [Nat.zero_mul]; rfl
  | m + 1 => by
    have h := psW_rows G S l0 s0 sc m
    unfold psW at h ⊢
    rw [Nat.add_mul, Nat.one_mul, sumN_add, h, winW_succ, Nat.zero_add]
    congr 1
    exact sumN_shift fun j hj => by rw [winI_at hj]
theorem psW_bd {G : Nat → Int} {n : Nat} {B : Int} (hG : ∀ i, i < n → -B ≤ G i ∧ G i ≤ B) {S l0 s0 sc k : Nat} (hk : ∀ j, j < k → winI S l0 s0 sc j < n) : -(k * B) ≤ psW G S l0 s0 sc k ∧ psW G S l0 s0 sc k ≤ k * B :=
  sumN_bd fun j hj => hG _ (by rw [Nat.zero_add]; exact hk j hj)
theorem winI_lt {L S l0 s0 lc sc k : Nat} (h1 : l0 + lc ≤ L) (h2 : s0 + sc ≤ S) (hk : k < lc * sc) : winI S l0 s0 sc k < L * S := by
  have hsc : 0 < sc := Nat.pos_of_ne_zero (by rintro rfl; simp at hk)
  have hd : k / sc < lc := (Nat.div_lt_iff_lt_mul hsc).2 hk
  have hm := Nat.mod_lt k hsc
  unfold winI
  have h3 : (l0 + k / sc + 1) * S ≤ L * S := Nat.mul_le_mul_right _ (by omega)
  rw [Nat.add_mul, Nat.one_mul] at h3
  omega
/-- What a round of Filtered's closure meets. -/
structure FiSt (w w5 : World) (B L S g n cap l s half : Nat) (F : Nat → Int × Int) (a b : Int) (W : World) : Prop where
  aro : AroS B L S g n cap l s half F W
  r0 : W.cell? ⟨w.heap.size, 0, none⟩ = some (.int .i64 a)
  r1 : W.cell? ⟨w.heap.size, 1, none⟩ = some (.int .i64 b)
  f0 : W.frozen? ⟨w.heap.size, 0, none⟩ = false
  f1 : W.frozen? ⟨w.heap.size, 1, none⟩ = false
  bel : Below w.heap.size w W
  sz : w5.heap.size ≤ W.heap.size
theorem FiSt.below {w w5 W W' : World} {B L S g n cap l s half : Nat} {F : Nat → Int × Int} {a b : Int} (h : FiSt w w5 B L S g n cap l s half F a b W) (hR : w.heap.size < w5.heap.size) (hB : B + 3 < w5.heap.size) (hg : g < w5.heap.size) (hb : Below w5.heap.size W W') : FiSt w w5 B L S g n cap l s half F a b W' := by
  obtain ⟨⟨h1, h2, h3, h4⟩, r0, r1, f0, f1, bel, sz⟩ := h
  have hs := hb.size
  exact ⟨⟨h1.below hb hB, fun k hk => by
    obtain ⟨q1, q2⟩ := h2 k hk
    exact ⟨(hb.cell (p := ⟨g, k * 2, none⟩) hg).trans q1, (hb.cell (p := ⟨g, k * 2 + 1, none⟩) hg).trans q2⟩, by omega, by omega⟩,
    (hb.cell (p := ⟨w.heap.size, 0, none⟩) hR).trans r0, (hb.cell (p := ⟨w.heap.size, 1, none⟩) hR).trans r1, (hb.frozen (p := ⟨w.heap.size, 0, none⟩) hR).trans f0, (hb.frozen (p := ⟨w.heap.size, 1, none⟩) hR).trans f1, bel.trans (hb.mono (by omega)), by omega⟩
theorem FiSt.put {w w5 W : World} {B L S g n cap l s half : Nat} {F : Nat → Int × Int} {a b : Int} (h : FiSt w w5 B L S g n cap l s half F a b W) (hR : w.heap.size < B) (hg : g < w.heap.size) (a' b' : Int) : FiSt w w5 B L S g n cap l s half F a' b' ((W.setCell ⟨w.heap.size, 0, none⟩ (.int .i64 a')).setCell ⟨w.heap.size, 1, none⟩ (.int .i64 b')) := by
  obtain ⟨⟨⟨c0, c1, c2, cl, cs, ch⟩, h2, h3, h4⟩, r0, r1, f0, f1, bel, sz⟩ := h
  have hne : ∀ (x i j : Nat), x ≠ w.heap.size → (⟨w.heap.size, j, none⟩ : Addr) ≠ ⟨x, i, none⟩ := fun x i j hx e => hx (congrArg Addr.block e).symm
  have q : ∀ x i, x ≠ w.heap.size → ((W.setCell ⟨w.heap.size, 0, none⟩ (.int .i64 a')).setCell ⟨w.heap.size, 1, none⟩ (.int .i64 b')).cell? ⟨x, i, none⟩ = W.cell? ⟨x, i, none⟩ := fun x i hx => by
    rw [World.cell?_setCell_other _ _ _ _ (hne x i 1 hx), World.cell?_setCell_other _ _ _ _ (hne x i 0 hx)]
  refine ⟨⟨⟨?_, ?_, ?_, ?_, ?_, ?_⟩, fun k hk => ?_, by simpa using h3, by simpa using h4⟩, by simp [go_sem, r0], by simp [go_sem, r1], by simp [go_sem, f0], by simp [go_sem, f1], ?_, by simpa using sz⟩
  · rw [q _ _ (by omega)]; exact c0
  · rw [q _ _ (by omega)]; exact c1
  · rw [q _ _ (by omega)]; exact c2
  · rw [q _ _ (by omega)]; exact cl
  · rw [q _ _ (by omega)]; exact cs
  · rw [q _ _ (by omega)]; exact ch
  · rw [q _ _ (by omega), q _ _ (by omega)]; exact h2 k hk
  · exact (bel.setCell (p := ⟨w.heap.size, 0, none⟩) (Nat.le_refl _) _).setCell (p := ⟨w.heap.size, 1, none⟩) (Nat.le_refl _) _
set_option maxRecDepth 20000 in
set_option maxHeartbeats 4000000 in
theorem filt1 (A H L S g n cap l s half : Nat) (F : Nat → Int × Int) (w : World) (hn : n = L * S) (l2 : L ≤ 64) (s2 : S ≤ 64) (hl : l < L) (hs : s < S) (hh : half ≤ 4) (hA : A < w.heap.size) (hH : H < w.heap.size) (hg : g < w.heap.size)
    (c0 : w.cell? ⟨A, 0, none⟩ = some (.int .i64 L)) (c1 : w.cell? ⟨A, 1, none⟩ = some (.int .i64 S)) (c2 : w.cell? ⟨A, 2, none⟩ = some (.slice (some ⟨g, 0, none⟩) n cap)) (ch : w.cell? ⟨H, 0, none⟩ = some (.int .i64 half)) (hF : PairsAt w g n F) (sF : SmallP n F 1000000000) :
    Calls Tryz.prog 73 #[.int .i64 l, .int .i64 s, .pointer (some ⟨A, 0, none⟩), .pointer (some ⟨H, 0, none⟩)] w fun e w' => e = .returned (.agg #[.int .i64 (winP (fun i => (F i).1) L S half l s), .int .i64 (winP (fun i => (F i).2) L S half l s)]) ∧ Below w.heap.size w w' := by
  have HN := Lib.hid hn
  clear hn
  have HAR := Lib.hid (fun w => around_any L S g n cap l s half w)
  refine callsIn_wide.1 (callsIn_of_wp_marks (F := Fence.wide) (n := 9) Tryz.func73 rfl trivial (wpIn_wide.2 ?_) rfl)
  simp only [Tryz.ntmps73, List.size_toArray, List.length_cons, List.length_nil, Nat.reduceAdd, Nat.reduceSub, Array.replicate_succ, Array.replicate_zero, List.push_toArray, List.append_toArray, List.nil_append, List.cons_append]
  go_wp2_with (first | (go_at_call 74; (with_reducible refine (HAR.out _).mono ?_); rintro e w5 ⟨B, hB, rfl, hab, hBw, hb⟩; have HAB := Lib.hid hab; have HB5 := Lib.hid hb; have HBB := Lib.hid hB; have HBW := Lib.hid hBw; clear hab hb hB hBw))
  obtain ⟨t1, t2⟩ := cntW_le (half := half) hl
  obtain ⟨t3, t4⟩ := cntW_le (half := half) hs
  have HWP1 := Lib.hid (show winP (fun i => (F i).1) L S half l s = psW (fun i => (F i).1) S (loW l half) (loW s half) (cntW s half S) (cntW l half L * cntW s half S) from (psW_rows _ _ _ _ _ _).symm)
  have HWP2 := Lib.hid (show winP (fun i => (F i).2) L S half l s = psW (fun i => (F i).2) S (loW l half) (loW s half) (cntW s half S) (cntW l half L * cntW s half S) from (psW_rows _ _ _ _ _ _).symm)
  have HIT := Lib.hid (show ∀ W, _ from fun W => around_iter 5 8 (by omega) B L S g n cap l s half F HN.out l2 s2 hl hs hh W)
  obtain ⟨l0, hl0⟩ : ∃ l0, loW l half = l0 := ⟨_, rfl⟩
  obtain ⟨s0, hs0⟩ : ∃ s0, loW s half = s0 := ⟨_, rfl⟩
  obtain ⟨lc, hlc⟩ : ∃ lc, cntW l half L = lc := ⟨_, rfl⟩
  obtain ⟨sc, hsc⟩ : ∃ sc, cntW s half S = sc := ⟨_, rfl⟩
  rw [hl0, hlc] at t1
  rw [hs0, hsc] at t3
  rw [hl0, hs0, hlc, hsc] at HIT HWP1 HWP2
  clear hl0 hs0 hlc hsc t2 t4
  have HTT := Lib.hid (show lc * sc ≤ 4096 by
    have := Nat.mul_le_mul (show lc ≤ 64 by omega) (show sc ≤ 64 by omega)
    omega)
  have hb5 := HB5.out
  have hBe := HBB.out
  have hBw := HBW.out
  simp at hBe
  have HBE := Lib.hid hBe
  have hRB : w.heap.size < B := by omega
  have hw5 : w.heap.size + 1 ≤ w5.heap.size := by omega
  have HST := Lib.hid (show FiSt w w5 B L S g n cap l s half F (psW (fun i => (F i).1) S l0 s0 sc 0) (psW (fun i => (F i).2) S l0 s0 sc 0) w5 from by
    have hba : Below w.heap.size w (w.alloc (.cells #[.int .i64 0, .int .i64 0] 131)) := (by (repeat' (first | with_reducible exact Below.refl _ _ | (with_reducible refine below_later_of ?_ ?_ _) | (with_reducible refine Below.alloc ?_ ?_ _) | (with_reducible refine Below.setCell ?_ ?_ _) | (with_reducible refine Below.drew ?_) | (simp; done) | (simp; omega) | omega)))
    have hb6 : Below w.heap.size w w5 := hba.trans (hb5.mono (by simp))
    refine ⟨⟨HAB.out, (fun k hk => ?_), by omega, hBw⟩, ?_, ?_, ?_, ?_, hb6, Nat.le_refl _⟩
    · obtain ⟨q1, q2⟩ := hF k hk
      exact ⟨(hb6.cell (p := ⟨g, k * 2, none⟩) hg).trans q1, (hb6.cell (p := ⟨g, k * 2 + 1, none⟩) hg).trans q2⟩
    · exact (hb5.cell (p := ⟨w.heap.size, 0, none⟩) (by simp)).trans (by simp [go_sem, psW, sumN])
    · exact (hb5.cell (p := ⟨w.heap.size, 1, none⟩) (by simp)).trans (by simp [go_sem, psW, sumN])
    · exact (hb5.frozen (p := ⟨w.heap.size, 0, none⟩) (by simp)).trans (by simp [go_sem])
    · exact (hb5.frozen (p := ⟨w.heap.size, 1, none⟩) (by simp)).trans (by simp [go_sem]))
  have HSF := Lib.hid sF
  clear hF c0 c1 c2 ch HAB HB5 HBB HBW hb5 sF hBe
  refine wpIn_wide.1 (wpIn_rangeCapW 5 (AroS B L S g n cap l s half F) (n := 9) rfl (by omega) (gf := 142) (cap := #[.pointer (some ⟨B + 1, 0, none⟩), .pointer (some ⟨B + 3, 0, none⟩), .pointer (some ⟨B, 0, none⟩), .pointer (some ⟨B + 2, 0, none⟩)]) rfl trivial (enters_of Tryz.func142 (by kernel_rfl) rfl) (N := lc * sc) (enc := encW F S l0 s0 sc) (fun k => rfl)
    (fun W _ => HIT.out W)
    (fun k W => FiSt w w5 B L S g n cap l s half F (psW (fun i => (F i).1) S l0 s0 sc k) (psW (fun i => (F i).2) S l0 s0 sc k) W)
    (fun _ _ => False)
    (fun k W1 W2 h hb hc => h.below (by omega) hBw (by omega) hb)
    (fun c W1 W2 h hb hc => h)
    (fun k W h => h.aro)
    HST.out
    (fun T k W => (T.setIfInBounds 13 (.agg #[.int .i64 (F (winI S l0 s0 sc k)).1, .int .i64 (F (winI S l0 s0 sc k)).2])).setIfInBounds 7 (.pointer (some ⟨W.heap.size, 0, none⟩)))
    (fun k W => W.alloc (.cells #[.int .i64 (F (winI S l0 s0 sc k)).1, .int .i64 (F (winI S l0 s0 sc k)).2] 131))
    (fun k W => (Below.refl W.heap.size W).alloc (Nat.le_refl _) _)
    ?assign ?body ?done ?stop)
  case assign =>
    intro ll k W K hK
    simp only [encW]
    simp only [List.setIfInBounds_toArray, List.set_cons_succ, List.set_cons_zero] at hK
    gi_wp2
    exact hK
  case body =>
    rintro ll k W Wb hst hkN hWs hcs hsz
    have x0 : Wb.cell? ⟨W.heap.size, 0, none⟩ = _ := cell_same hcs (v := .int .i64 (F (winI S l0 s0 sc k)).1) (by simp [go_sem])
    have x1 : Wb.cell? ⟨W.heap.size, 1, none⟩ = _ := cell_same hcs (v := .int .i64 (F (winI S l0 s0 sc k)).2) (by simp [go_sem])
    have hin := winI_lt t1 t3 hkN
    rw [← HN.out] at hin
    obtain ⟨⟨b1, b2⟩, b3, b4⟩ := HSF.out _ hin
    have hk5 := HTT.out
    obtain ⟨e1, e2⟩ := psW_bd (G := fun i => (F i).1) (n := n) (B := 1000000000) (fun i hi => (HSF.out i hi).1) (S := S) (l0 := l0) (s0 := s0) (sc := sc) (k := k) (fun j hj => by rw [HN.out]; exact winI_lt t1 t3 (by omega))
    obtain ⟨e3, e4⟩ := psW_bd (G := fun i => (F i).2) (n := n) (B := 1000000000) (fun i hi => (HSF.out i hi).2) (S := S) (l0 := l0) (s0 := s0) (sc := sc) (k := k) (fun j hj => by rw [HN.out]; exact winI_lt t1 t3 (by omega))
    have n1 : psW (fun i => (F i).1) S l0 s0 sc (k + 1) = psW (fun i => (F i).1) S l0 s0 sc k + (F (winI S l0 s0 sc k)).1 := by unfold psW; rw [sumN, Nat.zero_add]
    have n2 : psW (fun i => (F i).2) S l0 s0 sc (k + 1) = psW (fun i => (F i).2) S l0 s0 sc k + (F (winI S l0 s0 sc k)).2 := by unfold psW; rw [sumN, Nat.zero_add]
    rw [n1, n2]
    generalize psW (fun i => (F i).1) S l0 s0 sc k = pa at *
    generalize psW (fun i => (F i).2) S l0 s0 sc k = pb at *
    generalize (F (winI S l0 s0 sc k)).1 = x at *
    generalize (F (winI S l0 s0 sc k)).2 = y at *
    have HPL := Lib.hid (fun W => fPlus pa pb x y W (by omega) (by omega) (by omega) (by omega))
    have HSB := Lib.hid hst
    have r0 := hst.r0
    have r1 := hst.r1
    have f0 := hst.f0
    have f1 := hst.f1
    have hsW := hst.sz
    have hWl : W.heap.size < Wb.heap.size := by rw [← hsz]; simp
    clear hst hcs hsz hin b1 b2 b3 b4 e1 e2 e3 e4 n1 n2
    gi_wp2_with (first | (refine ⟨trivial, ?_⟩; gi_at_call 75; refine (callsIn_rw (HPL.out _)).mono ?_; rintro e w' ⟨rfl, hb⟩; obtain ⟨p1, rfl⟩ := later_of_below hb; clear hb))
    exact ⟨((KeepT.below (below_later Wb p1)).setCell (p := ⟨w.heap.size, 0, none⟩) (show w.heap.size < w5.heap.size by omega) _).setCell (p := ⟨w.heap.size, 1, none⟩) (show w.heap.size < w5.heap.size by omega) _, (HSB.out.below (by omega) hBw (by omega) ((below_later Wb p1).mono hsW)).put hRB hg _ _⟩
  case done =>
    rintro W hst hD
    have HB := Lib.hid hst.bel
    have HDD := Lib.hid hD
    have r0 := hst.r0
    have r1 := hst.r1
    have f0 := hst.f0
    have f1 := hst.f1
    have hsW := hst.sz
    have hRW : w.heap.size < W.heap.size := by omega
    obtain ⟨pa, hpa⟩ : ∃ pa, psW (fun i => (F i).1) S l0 s0 sc (lc * sc) = pa := ⟨_, rfl⟩
    obtain ⟨pb, hpb⟩ : ∃ pb, psW (fun i => (F i).2) S l0 s0 sc (lc * sc) = pb := ⟨_, rfl⟩
    rw [hpa] at r0
    rw [hpb] at r1
    have HPA := Lib.hid hpa
    have HPB := Lib.hid hpb
    clear hst hD hpa hpb
    go_wp2_with fail
    refine ⟨by simp, .inl ⟨_, _, rfl, run_takeDeferred ((Below.heap_setCell _ _ _ _ (show w5.heap.size ≠ w.heap.size by omega)).trans ((Below.heap_setCell _ _ _ _ (show w5.heap.size ≠ w.heap.size by omega)).trans HDD.out)), ?_⟩⟩
    have hb : Below w5.heap.size ((W.setCell ⟨w.heap.size, 0, none⟩ (.int .i64 pa)).setCell ⟨w.heap.size, 1, none⟩ (.int .i64 pb)) (((W.setCell ⟨w.heap.size, 0, none⟩ (.int .i64 pa)).setCell ⟨w.heap.size, 1, none⟩ (.int .i64 pb)).putObj w5.heap.size (.deferred none)) := below_putObj (Nat.le_refl _) _
    refine ⟨.agg #[.int .i64 pa, .int .i64 pb], ?_, by rw [HWP1.out, HWP2.out, HPA.out, HPB.out], ((HB.out.setCell (p := ⟨w.heap.size, 0, none⟩) (Nat.le_refl _) _).setCell (p := ⟨w.heap.size, 1, none⟩) (Nat.le_refl _) _).trans (hb.mono (by omega))⟩
    have q0 := (hb.cell (p := ⟨w.heap.size, 0, none⟩) (show w.heap.size < w5.heap.size by omega)).trans (show _ = some (.int .i64 pa) by simp [go_sem, r0])
    have q1 := (hb.cell (p := ⟨w.heap.size, 1, none⟩) (show w.heap.size < w5.heap.size by omega)).trans (show _ = some (.int .i64 pb) by simp [go_sem, r1])
    simp [results, Tryz.results73, go_sem, q0, q1]
  case stop =>
    rintro c W h hD
    exact h.elim
end Go.Proofs.YtfiioadmpjmmgaaGreatDoor
