/- Chapter 4: numbers of a field; Filtered. -/
import Derived.Test.YtfiioadmpjmmgaaGreatDoorX63
import Derived.Test.YtfiioadmpjmmgaaGreatDoorXE
namespace Go.Proofs.YtfiioadmpjmmgaaGreatDoor
set_option linter.unusedVariables false
set_option linter.unusedSimpArgs false
open Go.RowKit Ieee Ntt
set_option maxHeartbeats 2000000 in
theorem numbers1 (A b off n cap : Nat) (lines samples : Int) (f : Nat → Nat × Nat) (X Y : Nat → Int) (l s i : Nat) (w : World) (hA : ImgBlk w A lines samples (some ⟨b, off, none⟩) n cap) (hf : SumsAt w b off n f)
    (h1 : 1 ≤ samples) (h2 : samples ≤ 64) (hl : l ≤ 64) (hs : s ≤ 64) (hx : (l : Int) * samples + s = (i : Int)) (hn : i < n) (hAw : A < w.heap.size) (hbw : b < w.heap.size) (hX : SmallD n f X Y 1000000000) :
    Calls Tryz.prog 137 #[.int .i64 l, .int .i64 s, .pointer (some ⟨A, 0, none⟩)] w fun e w' => e = .returned (.agg #[.int .i64 (X i), .int .i64 (Y i)]) ∧ Below w.heap.size w w' := by
  obtain ⟨a0, a1, a2⟩ := hA
  have ci := hf i hn
  obtain ⟨hcn, ⟨p5, p6⟩, p7, p8⟩ := hX i hn
  have HPO := Lib.hid (fun w => fPairOf (f i).1 (f i).2 (X i) (Y i) w (flD hcn.re (by omega) (by omega)) (flD hcn.im (by omega) (by omega)))
  have hp : 0 ≤ (l : Int) * samples ∧ (l : Int) * samples ≤ 4096 := by
    refine ⟨Int.mul_nonneg (Int.natCast_nonneg l) (by omega), ?_⟩
    have := Int.mul_le_mul (show (l : Int) ≤ 64 by omega) h2 (by omega) (by decide)
    omega
  obtain ⟨r1, r2⟩ := hp
  generalize X i = x at *
  generalize Y i = y at *
  have hi0 : (0 : Int) ≤ (i : Int) := by omega
  have hi1 : (i : Int) < (n : Int) := by omega
  clear hf hX hcn
  go_enter Tryz.func137, Tryz.ntmps137
  go_wp2_with (first | (go_at_call 138; (with_reducible refine (HPO.out _).mono ?_); rintro e w' ⟨rfl, hb⟩; obtain ⟨p1, rfl⟩ := later_of_below hb; clear hb))
  refine bodyPost_ret ?_ rfl ⟨rfl, (by (repeat' (first | with_reducible exact Below.refl _ _ | (with_reducible refine below_later_of ?_ ?_ _) | (with_reducible refine Below.alloc ?_ ?_ _) | (with_reducible refine Below.setCell ?_ ?_ _) | (with_reducible refine Below.drew ?_) | (simp; done) | (simp; omega) | omega)))⟩
  first | (simp [results, Tryz.results137, go_sem]; done) | simp [results, Tryz.results137, go_sem, ↓IntWalk.iteOmega]
set_option maxHeartbeats 2000000 in
theorem fNumbersOf (L S n cap : Nat) (b off : Nat) (f : Nat → Nat × Nat) (X Y : Nat → Int) (w : World) (hn : n = L * S) (hL1 : 1 ≤ L) (hL : L ≤ 64) (hS1 : 1 ≤ S) (hS : S ≤ 64) (hbw : b < w.heap.size) (hf : SumsAt w b off n f) (hX : SmallD n f X Y 1000000000) :
    Calls Tryz.prog 70 #[.agg #[.int .i64 L, .int .i64 S, .slice (some ⟨b, off, none⟩) n cap]] w (GrPost L S n (partsF X Y) w) := by
  have HMA := Lib.hid (show ∀ W, Below w.heap.size w W → W.cell? ⟨w.heap.size, 0, none⟩ = some (.int .i64 L) → W.cell? ⟨w.heap.size, 1, none⟩ = some (.int .i64 S) → W.cell? ⟨w.heap.size, 2, none⟩ = some (.slice (some ⟨b, off, none⟩) n cap) → Calls Tryz.prog 72 #[.int .i64 L, .int .i64 S, .func (.func 137) #[] #[.pointer (some ⟨w.heap.size, 0, none⟩)]] W (GrPost L S n (partsF X Y) W) from fun W hW c0 c1 c2 => by
    have hlt : w.heap.size < W.heap.size := World.block_lt_of_cell? _ _ c0
    have := mapped_pr L S 137 #[.pointer (some ⟨w.heap.size, 0, none⟩)] (partsF X Y) W hL hS (enters_of Tryz.func137 (by kernel_rfl) rfl) (fun W2 hW2 l s hl hs => by
      have hs2 := hW2.size
      have hin : l * S + s < n := by
        have h1 : (l + 1) * S ≤ L * S := Nat.mul_le_mul_right _ hl
        rw [Nat.add_mul, Nat.one_mul] at h1
        omega
      exact numbers1 w.heap.size b off n cap L S f X Y l s (l * S + s) W2 ⟨(hW2.cell hlt).trans c0, (hW2.cell hlt).trans c1, (hW2.cell hlt).trans c2⟩ ((hf.below hbw hW).below (by have := hW.size; omega) hW2) (by omega) (by omega) (by omega) (by omega) (by rw [Int.natCast_add, Int.natCast_mul]) hin (by omega) (by have := hW.size; omega) hX)
    rwa [← hn] at this)
  clear hf hX hn
  go_enter Tryz.func70, Tryz.ntmps70
  go_wp2_with (first | (go_at_call 72; (with_reducible refine (HMA.out _ (by (repeat' (first | with_reducible exact Below.refl _ _ | (with_reducible refine below_later_of ?_ ?_ _) | (with_reducible refine Below.alloc ?_ ?_ _) | (with_reducible refine Below.setCell ?_ ?_ _) | (with_reducible refine Below.drew ?_) | (simp; done) | (simp; omega) | omega))) (by (first | (simp [go_sem]; done) | simp [go_sem, ↓IntWalk.iteOmega])) (by (first | (simp [go_sem]; done) | simp [go_sem, ↓IntWalk.iteOmega])) (by (first | (simp [go_sem]; done) | simp [go_sem, ↓IntWalk.iteOmega]))).mono ?_); rintro e w' ⟨a', c', rfl, how, hcap, hb⟩; have HOW := Lib.hid how; have HCP := Lib.hid hcap; clear how hcap; have HB9 := Lib.hid hb; have hz9 := hb.size; obtain ⟨p1, rfl⟩ := later_of_below hb; clear hb))
  refine bodyPost_ret ?_ rfl ⟨a', c', rfl, OwnPr.mono (OwnPr.set (OwnPr.set (OwnPr.set HOW.out ?_ _) ?_ _) ?_ _) ?_, HCP.out, (by (repeat' (first | with_reducible exact Below.refl _ _ | (with_reducible refine below_later_of ?_ ?_ _) | (with_reducible refine Below.alloc ?_ ?_ _) | (with_reducible refine Below.setCell ?_ ?_ _) | (with_reducible refine Below.drew ?_) | (simp; done) | (simp; omega) | omega)))⟩
  · first | (simp [results, Tryz.results70, go_sem]; done) | simp [results, Tryz.results70, go_sem, ↓IntWalk.iteOmega]
  all_goals first | omega | (simp <;> omega)
def winE (half : Int) : Int := if inE 0 4 half then 0 else 2
set_option maxHeartbeats 400000 in
theorem fWindowErr (half : Int) (w : World) {e0 : Int} (he : winE half = e0) : Calls Tryz.prog 69 #[.int .i64 half] w fun e w' => e = .returned (.int .i64 e0) ∧ w = w' := by
  subst he
  unfold winE
  rcases (show inE 0 4 half = false ∨ inE 0 4 half = true by cases inE 0 4 half <;> simp) with hw | hw
  · rw [hw, if_neg (by decide)]
    have HW := Lib.hid hw
    clear hw
    go_enter Tryz.func69, Tryz.ntmps69
    go_wp2_with (first | (go_at_call 89; (with_reducible refine (fWithin _ _ _ _ HW.out).mono ?_); rintro e w' ⟨rfl, rfl⟩))
    go_ret
    exact ⟨rfl, rfl⟩
  · rw [hw, if_pos rfl]
    have HW := Lib.hid hw
    clear hw
    go_enter Tryz.func69, Tryz.ntmps69
    go_wp2_with (first | (go_at_call 89; (with_reducible refine (fWithin _ _ _ _ HW.out).mono ?_); rintro e w' ⟨rfl, rfl⟩))
    go_ret
    exact ⟨rfl, rfl⟩
set_option maxHeartbeats 1000000 in
theorem fFieldErr (L S : Int) (n cap : Nat) (f : Nat → Nat × Nat) (a : Option Addr) (w : World) (hl : n ≤ 100000) (hd : FldAt w L S n f a) (hw : Wide64 n f) {e0 : Int} (he : (fldE L S n f).2 = e0) :
    Calls Tryz.prog 68 #[.agg #[.int .i64 L, .int .i64 S, .slice a n cap]] w fun e w' => e = .returned (.int .i64 e0) ∧ Below w.heap.size w w' := by
  have HI := Lib.hid (show ∀ W, Below w.heap.size w W → _ from fun W hW => checkField_any L S n cap f a W hl (hd.below hW) hw (i0 := (fldE L S n f).1) (e0 := e0) (by rw [← he]))
  clear hd he
  generalize (fldE L S n f).1 = i0 at HI
  go_enter Tryz.func68, Tryz.ntmps68
  go_wp2_with (first | (go_at_call 136; (with_reducible refine (HI.out _ (by (repeat' (first | with_reducible exact Below.refl _ _ | (with_reducible refine below_later_of ?_ ?_ _) | (with_reducible refine Below.alloc ?_ ?_ _) | (with_reducible refine Below.setCell ?_ ?_ _) | (with_reducible refine Below.drew ?_) | (simp; done) | (simp; omega) | omega)))).mono ?_); rintro e w' ⟨rfl, hb⟩; obtain ⟨pp, rfl⟩ := later_of_below hb; clear hb))
  go_ret
  exact ⟨rfl, (by (repeat' (first | with_reducible exact Below.refl _ _ | (with_reducible refine below_later_of ?_ ?_ _) | (with_reducible refine Below.alloc ?_ ?_ _) | (with_reducible refine Below.setCell ?_ ?_ _) | (with_reducible refine Below.drew ?_) | (simp; done) | (simp; omega) | omega)))⟩
/-- The sums of windows. -/
def filF (X Y : Nat → Int) (L S half i : Nat) : Int × Int := (winP X L S half (i / S) (i % S), winP Y L S half (i / S) (i % S))
theorem filt_map {L S n : Nat} {X Y : Nat → Int} (hn : n = L * S) (h0 : 0 < n) (hL : L ≤ 64) (hS1 : 1 ≤ S) (hS : S ≤ 64) (half : Nat) (hh : half ≤ 4) (sF : SmallP n (partsF X Y) 1000000000) (W : World) (a1 : Option Addr) (c1 Gb Hb : Nat) {B1 : Nat} {Wa : World} (h1 : OwnPr B1 Wa n (partsF X Y) a1) (b1 : Below Wa.heap.size Wa W)
    (q0 : W.cell? ⟨Gb, 0, none⟩ = some (.int .i64 L)) (q1 : W.cell? ⟨Gb, 1, none⟩ = some (.int .i64 S)) (q2 : W.cell? ⟨Gb, 2, none⟩ = some (.slice a1 n c1)) (qh : W.cell? ⟨Hb, 0, none⟩ = some (.int .i64 half)) :
    Calls Tryz.prog 72 #[.int .i64 L, .int .i64 S, .func (.func 73) #[] #[.pointer (some ⟨Gb, 0, none⟩), .pointer (some ⟨Hb, 0, none⟩)]] W (GrPost L S n (filF X Y L S half) W) := by
  obtain ⟨g, rfl, hg, hp⟩ := ownPr_at h1 h0 b1
  have hG : Gb < W.heap.size := World.block_lt_of_cell? _ _ q0
  have hH : Hb < W.heap.size := World.block_lt_of_cell? _ _ qh
  have := mapped_pr L S 73 #[.pointer (some ⟨Gb, 0, none⟩), .pointer (some ⟨Hb, 0, none⟩)] (filF X Y L S half) W hL hS (enters_of Tryz.func73 (by kernel_rfl) rfl) (fun W2 hW2 l s hl hs => by
    have hz := hW2.size
    have := filt1 Gb Hb L S g n c1 l s half (partsF X Y) W2 hn hL hS hl hs hh (by omega) (by omega) (by omega) ((hW2.cell (p := ⟨Gb, 0, none⟩) hG).trans q0) ((hW2.cell (p := ⟨Gb, 1, none⟩) hG).trans q1) ((hW2.cell (p := ⟨Gb, 2, none⟩) hG).trans q2) ((hW2.cell (p := ⟨Hb, 0, none⟩) hH).trans qh) (hp.below hg hW2) sF
    have e1 : (l * S + s) / S = l := by rw [Nat.mul_comm, Nat.mul_add_div (by omega), Nat.div_eq_of_lt hs, Nat.add_zero]
    have e2 : (l * S + s) % S = s := by rw [Nat.mul_comm, Nat.mul_add_mod, Nat.mod_eq_of_lt hs]
    unfold filF
    rw [e1, e2]
    exact this)
  rwa [← hn] at this
theorem field_large {L S n : Nat} {F : Nat → Int × Int} (h0 : 0 < n) (hn : n ≤ 5000) (hc : anyL n F = true) (W : World) (a : Option Addr) (c : Nat) {B : Nat} {Wa : World} (h1 : OwnPr B Wa n F a) (b1 : Below Wa.heap.size Wa W) :
    Calls Tryz.prog 71 #[.agg #[.int .i64 L, .int .i64 S, .slice a n c]] W fun e w' => e = .returned (.tuple #[.agg #[.int .i64 0, .int .i64 0, .slice none 0 0], .int .i64 8]) ∧ Below W.heap.size W w' := by
  obtain ⟨g1, rfl, hg1, hp1⟩ := ownPr_at h1 h0 b1
  exact fieldOf_large L S n c g1 F W (by omega) hg1 hp1 hc
/-- The error of Filtered ahead of its sums. -/
def filE (L S : Int) (n : Nat) (f : Nat → Nat × Nat) (half : Int) : Int := first2 (fldE L S n f).2 (winE half)
set_option maxHeartbeats 1000000 in
theorem filtered_bad (L S : Int) (n cap : Nat) (f : Nat → Nat × Nat) (a : Option Addr) (half : Int) (w : World) (hl : n ≤ 100000) (hd : FldAt w L S n f a) (hw : Wide64 n f) {e0 : Int} (he : filE L S n f half = e0) (h0 : e0 ≠ 0) :
    Calls Tryz.prog 14 #[.agg #[.int .i64 L, .int .i64 S, .slice a n cap], .int .i64 half] w fun e w' => e = .returned (.tuple #[.agg #[.int .i64 0, .int .i64 0, .slice none 0 0], .int .i64 e0]) ∧ Below w.heap.size w w' := by
  have HE1 := Lib.hid (show ∀ W, Below w.heap.size w W → _ from fun W hW => fFieldErr L S n cap f a W hl (hd.below hW) hw rfl)
  have HE2 := Lib.hid (fun w => fWindowErr half w rfl)
  have HF := Lib.hid (show first2 (fldE L S n f).2 (winE half) = e0 from he)
  have hne : (e0 != 0) = true := by simpa using h0
  clear hd he h0
  generalize (fldE L S n f).2 = z1 at *
  generalize winE half = z2 at *
  go_enter Tryz.func14, Tryz.ntmps14
  go_wp2
  refine wp_region_calm_tail 4 (by kernel_rfl) (by kernel_rfl) ?_
  simp only [List.take_succ_cons, List.take_zero, List.drop_succ_cons, List.drop_zero]
  repeat (go_big_quiet_step (first | (go_at_call 68; with_reducible exact calm_of (HE1.out _ (by (repeat' (first | with_reducible exact Below.refl _ _ | (with_reducible refine below_later_of ?_ ?_ _) | (with_reducible refine Below.alloc ?_ ?_ _) | (with_reducible refine Below.setCell ?_ ?_ _) | (with_reducible refine Below.drew ?_) | (simp; done) | (simp; omega) | omega))))) | (go_at_call 69; with_reducible exact calm_same (HE2.out _))))
  refine wpQuiet_nil ?_
  rintro _ ⟨pz, rfl⟩
  go_wp2_with (first | (go_at_call 67; refine (fFirst2 _ _ _ _ HF.out (by (first | (simp [go_sem]; done) | simp [go_sem, ↓IntWalk.iteOmega])) (by (first | (simp [go_sem]; done) | simp [go_sem, ↓IntWalk.iteOmega]))).mono ?_; rintro e w' ⟨rfl, rfl⟩))
  refine bodyPost_ret ?_ rfl ⟨rfl, (by (repeat' (first | with_reducible exact Below.refl _ _ | (with_reducible refine below_later_of ?_ ?_ _) | (with_reducible refine Below.alloc ?_ ?_ _) | (with_reducible refine Below.setCell ?_ ?_ _) | (with_reducible refine Below.drew ?_) | (simp; done) | (simp; omega) | omega)))⟩
  first | (simp [results, Tryz.results14, go_sem]; done) | simp [results, Tryz.results14, go_sem, ↓IntWalk.iteOmega]
theorem alloc_cell5 {W : World} {cs : Array Value} {T : TypeId} {B j : Nat} {v : Value} (h : B = W.heap.size) (hv : cs[j]? = some v) : (W.alloc (.cells cs T)).cell? ⟨B, j, none⟩ = some v := by
  subst h
  rw [World.cell?_alloc_new]
  exact hv
set_option maxRecDepth 20000 in
set_option maxHeartbeats 4000000 in
theorem filtered_ok (L S n half : Nat) (cap : Nat) (f : Nat → Nat × Nat) (a : Option Addr) (w : World) (hd : FldAt w L S n f a) (hw : Wide64 n f) (hl : n ≤ 100000) (he : filE L S n f half = 0) (hc : anyL n (filF (xD f) (yD f) L S half) = false) :
    Calls Tryz.prog 14 #[.agg #[.int .i64 L, .int .i64 S, .slice a n cap], .int .i64 half] w (FdPost4 L S n (nmF (filF (xD f) (yD f) L S half)) w) := by
  have HE1 := Lib.hid (show ∀ W, Below w.heap.size w W → _ from fun W hW => fFieldErr L S n cap f a W (by omega) (hd.below hW) hw rfl)
  have HE2 := Lib.hid (fun w => fWindowErr half w rfl)
  have HF := Lib.hid (show first2 (fldE L S n f).2 (winE half) = 0 from he)
  obtain ⟨e1, e2⟩ := first2_z (show first2 (fldE L S n f).2 (winE half) = 0 from he)
  obtain ⟨s1, g1⟩ := fldE_zero e1
  obtain ⟨⟨hL1, hL⟩, ⟨hS1, hS⟩, hn⟩ := sizeE_okU s1
  have hh : half ≤ 4 := by
    unfold winE at e2
    split at e2
    · rename_i h; have := (inE_iff.1 h); omega
    · exact absurd e2 (by decide)
  have hnn : n = L * S := by exact_mod_cast hn
  obtain ⟨b, off, rfl, hbw, hf⟩ := hd s1
  have hX : SmallD n f (xD f) (yD f) 1000000000 := smallD_of hw g1
  have hL1 : 1 ≤ L := by omega
  have hL : L ≤ 64 := by omega
  have hS1 : 1 ≤ S := by omega
  have hS : S ≤ 64 := by omega
  have HN0 := Lib.hid (show 0 < n by rw [hnn]; exact Nat.mul_pos (by omega) (by omega))
  have hn5 : n ≤ 5000 := by have := Nat.mul_le_mul hL hS; omega
  have HM1 := Lib.hid (show SmallP n (partsF (xD f) (yD f)) 1000000000 from fun k hk => by
    obtain ⟨-, h1, h2⟩ := hX k hk
    unfold partsF
    dsimp only
    omega)
  have HNO := Lib.hid (show ∀ W, Below w.heap.size w W → _ from fun W hW => fNumbersOf L S n cap b off f (xD f) (yD f) W hnn hL1 hL hS1 hS (by have := hW.size; omega) (hf.below hbw hW) hX)
  have HMA := Lib.hid (filt_map (L := L) (S := S) hnn HN0.out hL hS1 hS half hh HM1.out)
  have HFO := Lib.hid (field_of (L := L) (S := S) HN0.out hn5 hc)
  clear hd hw he e1 e2 s1 g1 hn hnn hf hX hc
  generalize xD f = X at *
  generalize yD f = Y at *
  generalize (fldE L S n f).2 = z1 at *
  generalize winE half = z2 at *
  go_enter Tryz.func14, Tryz.ntmps14
  go_wp2
  refine wp_region_calm_tail 4 (by kernel_rfl) (by kernel_rfl) ?_
  simp only [List.take_succ_cons, List.take_zero, List.drop_succ_cons, List.drop_zero]
  repeat (go_big_quiet_step (first | (go_at_call 68; with_reducible exact calm_of (HE1.out _ (by (repeat' (first | with_reducible exact Below.refl _ _ | (with_reducible refine below_later_of ?_ ?_ _) | (with_reducible refine Below.alloc ?_ ?_ _) | (with_reducible refine Below.setCell ?_ ?_ _) | (with_reducible refine Below.drew ?_) | (simp; done) | (simp; omega) | omega))))) | (go_at_call 69; with_reducible exact calm_same (HE2.out _))))
  refine wpQuiet_nil ?_
  rintro _ ⟨pz, rfl⟩
  go_wp2_with (first | (go_at_call 67; refine (fFirst2 _ _ _ _ HF.out (by (first | (simp [go_sem]; done) | simp [go_sem, ↓IntWalk.iteOmega])) (by (first | (simp [go_sem]; done) | simp [go_sem, ↓IntWalk.iteOmega]))).mono ?_; rintro e w' ⟨rfl, rfl⟩))
  go_wp2_with (first | (go_at_call 70; (with_reducible refine (HNO.out _ (by (repeat' (first | with_reducible exact Below.refl _ _ | (with_reducible refine below_later_of ?_ ?_ _) | (with_reducible refine Below.alloc ?_ ?_ _) | (with_reducible refine Below.setCell ?_ ?_ _) | (with_reducible refine Below.drew ?_) | (simp; done) | (simp; omega) | omega)))).mono ?_); rintro e w' ⟨a1, c1, rfl, ho, -, hb⟩; have HO1 := Lib.hid ho; clear ho; obtain ⟨p1, rfl⟩ := later_of_below hb; clear hb) | (go_at_call 72; (with_reducible refine (HMA.out _ _ _ _ _ HO1.out (by (repeat' (first | with_reducible exact Below.refl _ _ | (with_reducible refine below_later_of ?_ ?_ _) | (with_reducible refine Below.alloc ?_ ?_ _) | (with_reducible refine Below.setCell ?_ ?_ _) | (with_reducible refine Below.drew ?_) | (simp; done) | (simp; omega) | omega))) (alloc_cell5 (by simp) rfl) (alloc_cell5 (by simp) rfl) (alloc_cell5 (by simp) rfl) (by (first | (simp [go_sem]; done) | simp [go_sem, ↓IntWalk.iteOmega]))).mono ?_); rintro e w' ⟨a2, c2, rfl, ho, -, hb⟩; have HO2 := Lib.hid ho; clear ho; obtain ⟨p2, rfl⟩ := later_of_below hb; clear hb) | (go_at_call 71; (with_reducible refine (HFO.out _ _ _ HO2.out (by (repeat' (first | with_reducible exact Below.refl _ _ | (with_reducible refine below_later_of ?_ ?_ _) | (with_reducible refine Below.alloc ?_ ?_ _) | (with_reducible refine Below.setCell ?_ ?_ _) | (with_reducible refine Below.drew ?_) | (simp; done) | (simp; omega) | omega)))).mono ?_); rintro e w' ⟨a4, c4, rfl, ho, hcp, hb⟩; have HO4 := Lib.hid ho; have HC4 := Lib.hid hcp; clear ho hcp; obtain ⟨p4, rfl⟩ := later_of_below hb; clear hb))
  refine bodyPost_ret ?_ rfl ⟨a4, c4, rfl, OwnS.mono (OwnS.set (OwnS.set (OwnS.set HO4.out ?_ _) ?_ _) ?_ _) ?_, HC4.out, (by (repeat' (first | with_reducible exact Below.refl _ _ | (with_reducible refine below_later_of ?_ ?_ _) | (with_reducible refine Below.alloc ?_ ?_ _) | (with_reducible refine Below.setCell ?_ ?_ _) | (with_reducible refine Below.drew ?_) | (simp; done) | (simp; omega) | omega)))⟩
  · first | (simp [results, Tryz.results14, go_sem]; done) | simp [results, Tryz.results14, go_sem, ↓IntWalk.iteOmega]
  all_goals first | omega | (simp <;> omega)
set_option maxRecDepth 20000 in
set_option maxHeartbeats 4000000 in
theorem filtered_large (L S n half : Nat) (cap : Nat) (f : Nat → Nat × Nat) (a : Option Addr) (w : World) (hd : FldAt w L S n f a) (hw : Wide64 n f) (hl : n ≤ 100000) (he : filE L S n f half = 0) (hc : anyL n (filF (xD f) (yD f) L S half) = true) :
    Calls Tryz.prog 14 #[.agg #[.int .i64 L, .int .i64 S, .slice a n cap], .int .i64 half] w fun e w' => e = .returned (.tuple #[.agg #[.int .i64 0, .int .i64 0, .slice none 0 0], .int .i64 8]) ∧ Below w.heap.size w w' := by
  have HE1 := Lib.hid (show ∀ W, Below w.heap.size w W → _ from fun W hW => fFieldErr L S n cap f a W (by omega) (hd.below hW) hw rfl)
  have HE2 := Lib.hid (fun w => fWindowErr half w rfl)
  have HF := Lib.hid (show first2 (fldE L S n f).2 (winE half) = 0 from he)
  obtain ⟨e1, e2⟩ := first2_z (show first2 (fldE L S n f).2 (winE half) = 0 from he)
  obtain ⟨s1, g1⟩ := fldE_zero e1
  obtain ⟨⟨hL1, hL⟩, ⟨hS1, hS⟩, hn⟩ := sizeE_okU s1
  have hh : half ≤ 4 := by
    unfold winE at e2
    split at e2
    · rename_i h; have := (inE_iff.1 h); omega
    · exact absurd e2 (by decide)
  have hnn : n = L * S := by exact_mod_cast hn
  obtain ⟨b, off, rfl, hbw, hf⟩ := hd s1
  have hX : SmallD n f (xD f) (yD f) 1000000000 := smallD_of hw g1
  have hL1 : 1 ≤ L := by omega
  have hL : L ≤ 64 := by omega
  have hS1 : 1 ≤ S := by omega
  have hS : S ≤ 64 := by omega
  have HN0 := Lib.hid (show 0 < n by rw [hnn]; exact Nat.mul_pos (by omega) (by omega))
  have hn5 : n ≤ 5000 := by have := Nat.mul_le_mul hL hS; omega
  have HM1 := Lib.hid (show SmallP n (partsF (xD f) (yD f)) 1000000000 from fun k hk => by
    obtain ⟨-, h1, h2⟩ := hX k hk
    unfold partsF
    dsimp only
    omega)
  have HNO := Lib.hid (show ∀ W, Below w.heap.size w W → _ from fun W hW => fNumbersOf L S n cap b off f (xD f) (yD f) W hnn hL1 hL hS1 hS (by have := hW.size; omega) (hf.below hbw hW) hX)
  have HMA := Lib.hid (filt_map (L := L) (S := S) hnn HN0.out hL hS1 hS half hh HM1.out)
  have HFO := Lib.hid (field_large (L := L) (S := S) HN0.out hn5 hc)
  clear hd hw he e1 e2 s1 g1 hn hnn hf hX hc
  generalize xD f = X at *
  generalize yD f = Y at *
  generalize (fldE L S n f).2 = z1 at *
  generalize winE half = z2 at *
  go_enter Tryz.func14, Tryz.ntmps14
  go_wp2
  refine wp_region_calm_tail 4 (by kernel_rfl) (by kernel_rfl) ?_
  simp only [List.take_succ_cons, List.take_zero, List.drop_succ_cons, List.drop_zero]
  repeat (go_big_quiet_step (first | (go_at_call 68; with_reducible exact calm_of (HE1.out _ (by (repeat' (first | with_reducible exact Below.refl _ _ | (with_reducible refine below_later_of ?_ ?_ _) | (with_reducible refine Below.alloc ?_ ?_ _) | (with_reducible refine Below.setCell ?_ ?_ _) | (with_reducible refine Below.drew ?_) | (simp; done) | (simp; omega) | omega))))) | (go_at_call 69; with_reducible exact calm_same (HE2.out _))))
  refine wpQuiet_nil ?_
  rintro _ ⟨pz, rfl⟩
  go_wp2_with (first | (go_at_call 67; refine (fFirst2 _ _ _ _ HF.out (by (first | (simp [go_sem]; done) | simp [go_sem, ↓IntWalk.iteOmega])) (by (first | (simp [go_sem]; done) | simp [go_sem, ↓IntWalk.iteOmega]))).mono ?_; rintro e w' ⟨rfl, rfl⟩))
  go_wp2_with (first | (go_at_call 70; (with_reducible refine (HNO.out _ (by (repeat' (first | with_reducible exact Below.refl _ _ | (with_reducible refine below_later_of ?_ ?_ _) | (with_reducible refine Below.alloc ?_ ?_ _) | (with_reducible refine Below.setCell ?_ ?_ _) | (with_reducible refine Below.drew ?_) | (simp; done) | (simp; omega) | omega)))).mono ?_); rintro e w' ⟨a1, c1, rfl, ho, -, hb⟩; have HO1 := Lib.hid ho; clear ho; obtain ⟨p1, rfl⟩ := later_of_below hb; clear hb) | (go_at_call 72; (with_reducible refine (HMA.out _ _ _ _ _ HO1.out (by (repeat' (first | with_reducible exact Below.refl _ _ | (with_reducible refine below_later_of ?_ ?_ _) | (with_reducible refine Below.alloc ?_ ?_ _) | (with_reducible refine Below.setCell ?_ ?_ _) | (with_reducible refine Below.drew ?_) | (simp; done) | (simp; omega) | omega))) (alloc_cell5 (by simp) rfl) (alloc_cell5 (by simp) rfl) (alloc_cell5 (by simp) rfl) (by (first | (simp [go_sem]; done) | simp [go_sem, ↓IntWalk.iteOmega]))).mono ?_); rintro e w' ⟨a2, c2, rfl, ho, -, hb⟩; have HO2 := Lib.hid ho; clear ho; obtain ⟨p2, rfl⟩ := later_of_below hb; clear hb) | (go_at_call 71; (with_reducible refine (HFO.out _ _ _ HO2.out (by (repeat' (first | with_reducible exact Below.refl _ _ | (with_reducible refine below_later_of ?_ ?_ _) | (with_reducible refine Below.alloc ?_ ?_ _) | (with_reducible refine Below.setCell ?_ ?_ _) | (with_reducible refine Below.drew ?_) | (simp; done) | (simp; omega) | omega)))).mono ?_); rintro e w' ⟨rfl, hb⟩; obtain ⟨p4, rfl⟩ := later_of_below hb; clear hb))
  refine bodyPost_ret ?_ rfl ⟨rfl, (by (repeat' (first | with_reducible exact Below.refl _ _ | (with_reducible refine below_later_of ?_ ?_ _) | (with_reducible refine Below.alloc ?_ ?_ _) | (with_reducible refine Below.setCell ?_ ?_ _) | (with_reducible refine Below.drew ?_) | (simp; done) | (simp; omega) | omega)))⟩
  first | (simp [results, Tryz.results14, go_sem]; done) | simp [results, Tryz.results14, go_sem, ↓IntWalk.iteOmega]
end Go.Proofs.YtfiioadmpjmmgaaGreatDoor
