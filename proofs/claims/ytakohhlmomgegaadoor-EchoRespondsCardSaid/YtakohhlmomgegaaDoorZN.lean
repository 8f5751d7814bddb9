import Derived.Test.YtakohhlmomgegaaDoorZM
import Derived.Test.YtakohhlmomgegaaDoorZK
import Derived.Deep.CutRange
import Derived.Deep.RegionHeld3
/- Chapter 1: images that are made sample by sample: imageOf with the closure of Added; Added. -/
namespace Go.Proofs.YtakohhlmomgegaaDoor
set_option linter.unusedVariables false
set_option linter.unusedSimpArgs false
open Go.RowKit Ntt
theorem num_nearest {n : Int} (h : n.natAbs < 16777216) : FNum Ieee.single (floatOfInt .f32 n) n := fnum_int good_single h
theorem conv_f32 (n : Int) (w : World) : (convert 3 118 (.int .i64 n)).run Tryd.prog w = .ok (.float .f32 (floatOfInt .f32 n)) w :=
  run_convert_int_float w 3 118 .i64 .f32 n (by kernel_rfl) Tryd.underlying118
set_option maxHeartbeats 400000 in
theorem parts_any (a b : Nat) (x y : Int) (w : World) (hx : FlI .f32 118 a x) (hy : FlI .f32 118 b y) :
    Calls Tryd.prog 110 #[.complex .f32 a b] w fun e w' => e = .returned (.tuple #[.int .i64 x, .int .i64 y]) ∧ w = w' := by
  unfold FlI at hx hy
  go_enter Tryd.func110, Tryd.ntmps110
  go_wp2
  go_ret2
  exact ⟨rfl, rfl⟩
/-- The sample of two whole parts. -/
def smpI (x y : Int) : Nat × Nat := (floatOfInt .f32 x, floatOfInt .f32 y)
/-- The samples of a sum of two images. -/
def addB (f g : Nat → Nat × Nat) (i : Nat) : Nat × Nat := smpI (xB f i + xB g i) (yB f i + yB g i)
theorem smpI_parts {x y : Int} (hx : x.natAbs < 16777216) (hy : y.natAbs < 16777216) : intB (smpI x y).1 = x ∧ intB (smpI x y).2 = y := ⟨(intB_of (num_nearest hx)).2, (intB_of (num_nearest hy)).2⟩
theorem addB_parts {f g : Nat → Nat × Nat} {n i : Nat} (hf : SmallS n f (xB f) (yB f) 2047) (hg : SmallS n g (xB g) (yB g) 2047) (hi : i < n) : xB (addB f g) i = xB f i + xB g i ∧ yB (addB f g) i = yB f i + yB g i := by
  obtain ⟨-, h1, h2⟩ := hf i hi
  obtain ⟨-, h3, h4⟩ := hg i hi
  exact smpI_parts (by omega) (by omega)
set_option maxHeartbeats 1000000 in
theorem added1 (A B b off n cap c coff ccap : Nat) (lines samples lines' samples' : Int) (f g : Nat → Nat × Nat) (l s i : Nat) (w : World) (hA : ImgBlk w A lines samples (some ⟨b, off, none⟩) n cap) (hB : ImgBlk w B lines' samples' (some ⟨c, coff, none⟩) n ccap) (hf : SamplesAt w b off n f) (hg : SamplesAt w c coff n g)
    (h1 : 1 ≤ samples) (h2 : samples ≤ 64) (hl : l ≤ 64) (hs : s ≤ 64) (hx : (l : Int) * samples + s = (i : Int)) (hn : i < n) (hsf : SmallS n f (xB f) (yB f) 2047) (hsg : SmallS n g (xB g) (yB g) 2047) :
    Calls Tryd.prog 109 #[.int .i64 l, .int .i64 s, .pointer (some ⟨A, 0, none⟩), .pointer (some ⟨B, 0, none⟩)] w fun e w' => e = .returned (.tuple #[.int .i64 (xB f i + xB g i), .int .i64 (yB f i + yB g i)]) ∧ w = w' := by
  obtain ⟨a0, a1, a2⟩ := hA
  obtain ⟨b0, b1, b2⟩ := hB
  have ci := hf i hn
  have di := hg i hn
  obtain ⟨⟨p1, p2, p3, p4⟩, ⟨p5, p6⟩, p7, p8⟩ := hsf i hn
  obtain ⟨⟨q1, q2, q3, q4⟩, ⟨q5, q6⟩, q7, q8⟩ := hsg i hn
  have HP1 := Lib.hid (fun w => parts_any (f i).1 (f i).2 _ _ w (flI_single p1 (by omega) (by omega)) (flI_single p2 (by omega) (by omega)))
  have HP2 := Lib.hid (fun w => parts_any (g i).1 (g i).2 _ _ w (flI_single q1 (by omega) (by omega)) (flI_single q2 (by omega) (by omega)))
  have hp : 0 ≤ (l : Int) * samples ∧ (l : Int) * samples ≤ 4096 := by
    refine ⟨Int.mul_nonneg (Int.natCast_nonneg l) (by omega), ?_⟩
    have := Int.mul_le_mul (show (l : Int) ≤ 64 by omega) h2 (by omega) (by decide)
    omega
  obtain ⟨r1, r2⟩ := hp
  generalize xB f i = x1 at p5 p6 HP1 ⊢
  generalize yB f i = y1 at p7 p8 HP1 ⊢
  generalize xB g i = x2 at q5 q6 HP2 ⊢
  generalize yB g i = y2 at q7 q8 HP2 ⊢
  clear hf hg hsf hsg p1 p2 p3 p4 q1 q2 q3 q4
  go_enter Tryd.func109, Tryd.ntmps109
  go_wp2_with (first | (go_at_call 110; (with_reducible refine (HP1.out _).mono ?_); rintro e w' ⟨rfl, rfl⟩) | (go_at_call 110; (with_reducible refine (HP2.out _).mono ?_); rintro e w' ⟨rfl, rfl⟩))
  go_ret2
  exact ⟨rfl, rfl⟩
end Go.Proofs.YtakohhlmomgegaaDoor

/- Chapter 1: imageOf with the closure of Added. -/
namespace Go.Proofs.YtakohhlmomgegaaDoor
set_option linter.unusedVariables false
set_option linter.unusedSimpArgs false
open Go.RowKit Ntt
theorem ImSt.still {w wr w1 : World} {L S : Int} {D : List (Nat × Nat)} {v : Value} {o : Obj} (h : ImSt w L S D v wr) (hg : (wr.alloc o).grownBy w1 v.ownBlock) :
    w1.cell? ⟨w.heap.size + 1, 2, none⟩ = some v ∧ w1.frozen? ⟨w.heap.size + 1, 2, none⟩ = false := by
  have hlt := h.lt
  have hb1 : Below (w.heap.size + 2) wr w1 := (((Below.refl (w.heap.size + 2) wr).alloc (by omega) o)).grown hg (by simp; omega) (fun g hg => (h.own.lt g hg).1)
  exact ⟨(hb1.cell (p := ⟨w.heap.size + 1, 2, none⟩) (Nat.lt_succ_self _)).trans h.c2, (hb1.frozen (p := ⟨w.heap.size + 1, 2, none⟩) (Nat.lt_succ_self _)).trans h.f2⟩
theorem ImSt.put2 {w wr w1 : World} {L S : Int} {re im : Nat} {D : List (Nat × Nat)} {v v' : Value} {o : Obj} (h : ImSt w L S D v wr)
    (ho : w1.ownsRow (w.heap.size + 2) 63 1 v' (D.length + 1) (cv32 D ++ [.complex .f32 re im])) (hg : (wr.alloc o).grownBy w1 v.ownBlock) : ImSt w L S (D ++ [(re, im)]) v' (w1.setCell ⟨w.heap.size + 1, 2, none⟩ v') := by
  have hlt := h.lt
  have hb1 : Below (w.heap.size + 2) wr w1 := (((Below.refl (w.heap.size + 2) wr).alloc (by omega) o)).grown hg (by simp; omega) (fun g hg => (h.own.lt g hg).1)
  have hsz := hb1.size
  have q : ∀ j, w1.cell? ⟨w.heap.size + 1, j, none⟩ = wr.cell? ⟨w.heap.size + 1, j, none⟩ := fun j => hb1.cell (p := ⟨w.heap.size + 1, j, none⟩) (Nat.lt_succ_self _)
  have q2 : ∀ j, w1.frozen? ⟨w.heap.size + 1, j, none⟩ = wr.frozen? ⟨w.heap.size + 1, j, none⟩ := fun j => hb1.frozen (p := ⟨w.heap.size + 1, j, none⟩) (Nat.lt_succ_self _)
  have r : ∀ j, w1.cell? ⟨w.heap.size, j, none⟩ = wr.cell? ⟨w.heap.size, j, none⟩ := fun j => hb1.cell (p := ⟨w.heap.size, j, none⟩) (show w.heap.size < w.heap.size + 2 by omega)
  have r2 : ∀ j, w1.frozen? ⟨w.heap.size, j, none⟩ = wr.frozen? ⟨w.heap.size, j, none⟩ := fun j => hb1.frozen (p := ⟨w.heap.size, j, none⟩) (show w.heap.size < w.heap.size + 2 by omega)
  refine ⟨by simp [go_sem, q, h.c0], by simp [go_sem, q, h.c1], by simp [go_sem, q, h.c2], by simp [go_sem, q2, h.f2], by simp [go_sem, r, h.r0], by simp [go_sem, r, h.r1], by simp [go_sem, r, h.r2], by simp [go_sem, r2, h.g0], by simp [go_sem, r2, h.g1], by simp [go_sem, r2, h.g2], ?_, ?_, by simp; omega⟩
  · rw [cv32_snoc, show (D ++ [(re, im)]).length = D.length + 1 by simp]
    exact ownsRow_setCell_below ho (Nat.lt_succ_self _) _
  · exact (h.bel.trans (hb1.mono (by omega))).setCell (p := ⟨w.heap.size + 1, 2, none⟩) (show w.heap.size ≤ w.heap.size + 1 by omega) _
/-- The first samples of an image. -/
def firstL (f : Nat → Nat × Nat) (k : Nat) : List (Nat × Nat) := (List.range k).map f
theorem firstL_len (f : Nat → Nat × Nat) (k : Nat) : (firstL f k).length = k := by unfold firstL; simp
theorem firstL_succ (f : Nat → Nat × Nat) (k : Nat) : firstL f (k + 1) = firstL f k ++ [((f k).1, (f k).2)] := by unfold firstL; rw [List.range_succ, List.map_append]; rfl
theorem samples_firstL {W : World} {base b n c : Nat} {a : Option Addr} {f : Nat → Nat × Nat} (h : W.ownsRow base 63 1 (.slice a n c) n (cv32 (firstL f n))) (hp : 0 < n) (hb : b ≤ base) :
    ∃ g, a = some ⟨g, 0, none⟩ ∧ b ≤ g ∧ g < W.heap.size ∧ SamplesAt W g 0 n f := by
  have h0 := h
  obtain ⟨-, ⟨-, h1⟩ | ⟨g, cap, cur, h1, h2, h3, -⟩⟩ := h0
  · omega
  · simp only [Value.slice.injEq, true_and] at h1
    obtain ⟨rfl, rfl⟩ := h1
    refine ⟨g, rfl, by omega, (Array.getElem?_eq_some_iff.1 h3).1, fun k hk => ?_⟩
    rw [Nat.zero_add, h.cellAt k (by omega)]
    unfold cv32 firstL
    rw [List.getElem?_map, List.getElem?_map, List.getElem?_range hk]
    rfl
set_option maxRecDepth 20000 in
set_option maxHeartbeats 4000000 in
theorem imageOf_add (L S A B : Nat) (b off n cap c coff ccap : Nat) (lines lines' samples' : Int) (f g : Nat → Nat × Nat) (w : World) (hL : L ≤ 64) (hS : S ≤ 64) (hn : n = L * S)
    (hA : A < w.heap.size) (hB : B < w.heap.size) (hbw : b < w.heap.size) (hcw : c < w.heap.size) (hia : ImgBlk w A lines S (some ⟨b, off, none⟩) n cap) (hib : ImgBlk w B lines' samples' (some ⟨c, coff, none⟩) n ccap) (hf : SamplesAt w b off n f) (hg : SamplesAt w c coff n g)
    (hsf : SmallS n f (xB f) (yB f) 2047) (hsg : SmallS n g (xB g) (yB g) 2047) :
    Calls Tryd.prog 108 #[.int .i64 L, .int .i64 S, .func (.func 109) #[] #[.pointer (some ⟨A, 0, none⟩), .pointer (some ⟨B, 0, none⟩)]] w (ImPost L S n (addB f g) w) := by
  obtain ⟨i0, hi0, hz0, hz1, hz2⟩ := info_parts infoC32
  have HIA := Lib.hid hia
  have HIB := Lib.hid hib
  have HF := Lib.hid hf
  have HG := Lib.hid hg
  have HSF := Lib.hid hsf
  have HSG := Lib.hid hsg
  have HN := Lib.hid hn
  clear hia hib hf hg hsf hsg hn
  go_enter Tryd.func108, Tryd.ntmps108
  go_wp2
  refine wp_worldI (fun W => ImSt w L S [] (.slice none 0 0) W) ⟨by simp [go_sem], by simp [go_sem], by simp [go_sem], by simp [go_sem], by simp [go_sem], by simp [go_sem], by simp [go_sem], by simp [go_sem], by simp [go_sem], by simp [go_sem], World.ownsRow_nil _ _ _ _, (by (repeat' (first | with_reducible exact Below.refl _ _ | (with_reducible refine below_later_of ?_ ?_ _) | (with_reducible refine Below.alloc ?_ ?_ _) | (with_reducible refine Below.setCell ?_ ?_ _) | (with_reducible refine Below.drew ?_) | (simp; done) | (simp; omega) | omega))), by simp⟩ ?_
  rintro W2 hst
  have HST := Lib.hid hst
  clear hst
  go_loopw [16] (fun i wr => ∃ (l : Nat) (v : Value), l ≤ L ∧ i = .int .i64 l ∧ ImSt w L S (firstL (addB f g) (l * S)) v wr) (fun i _ => L - (intOf i).toNat)
  case atStart => exact ⟨0, _, Nat.zero_le _, rfl, by rw [Nat.zero_mul]; exact HST.out⟩
  case round =>
    obtain ⟨l, v, hl, rfl, hst⟩ := hrel
    have HS1 := Lib.hid hst
    clear hst
    by_cases hlt : l < L
    · have hdl : decide ((l : Int) < (L : Int)) = true := by simp; omega
      go_wp2
      go_loopw [20] (fun i wr => ∃ (s : Nat) (v : Value), s ≤ S ∧ i = .int .i64 s ∧ ImSt w L S (firstL (addB f g) (l * S + s)) v wr) (fun i _ => S - (intOf i).toNat)
      case atStart => exact ⟨0, v, Nat.zero_le _, rfl, HS1.out⟩
      case round =>
        obtain ⟨s, v, hs, rfl, hst⟩ := hrel
        have HS2 := Lib.hid hst
        by_cases hst2 : s < S
        · have hds : decide ((s : Int) < (S : Int)) = true := by simp; omega
          obtain ⟨i, hi⟩ : ∃ i, l * S + s = i := ⟨_, rfl⟩
          have hin : i < n := by
            have h1 : (l + 1) * S ≤ L * S := Nat.mul_le_mul_right _ hlt
            rw [Nat.add_mul, Nat.one_mul] at h1
            have := HN.out
            omega
          have hlen : (firstL (addB f g) i).length ≤ 10000 := by
            rw [firstL_len]
            have h1 : l * S ≤ 64 * 64 := Nat.mul_le_mul (by omega) hS
            omega
          have HI := Lib.hid hi
          rw [hi] at HS2
          have HCL := Lib.hid (added1 A B b off n cap c coff ccap lines S lines' samples' f g l s i wr (HIA.out.below hA hst.bel) (HIB.out.below hB hst.bel) (HF.out.below hbw hst.bel) (HG.out.below hcw hst.bel) (by omega) (by omega) (by omega) (by omega) (by rw [← hi, Int.natCast_add, Int.natCast_mul]) hin HSF.out HSG.out)
          have HV := Lib.hid (show ((addB f g i).1, (addB f g i).2) = smpI (xB f i + xB g i) (yB f i + yB g i) from rfl)
          have k1 := fun w => conv_f32 (xB f i + xB g i) w
          have k2 := fun w => conv_f32 (yB f i + yB g i) w
          generalize xB f i + xB g i = x at HCL HV k1
          generalize yB f i + yB g i = y at HCL HV k2
          have hc2 := hst.c2
          have hf2 := hst.f2
          have hlt2 := hst.lt
          obtain ⟨re, hre⟩ : ∃ re, floatOfInt .f32 x = re := ⟨_, rfl⟩
          obtain ⟨im, him⟩ : ∃ im, floatOfInt .f32 y = im := ⟨_, rfl⟩
          rw [hre] at k1
          rw [him] at k2
          have HV2 := Lib.hid (show ((addB f g i).1, (addB f g i).2) = (re, im) by rw [HV.out, ← hre, ← him]; rfl)
          clear hst hre him HV hi
          go_wp2_with (first | (go_at_call 109; (with_reducible refine (HCL.out).mono ?_); rintro e w' ⟨rfl, rfl⟩) | (at_builtin; refine wpList_append_own _ rfl _ _ 30 rfl (w.heap.size + 2) 63 i0 (.complex .f32 0 0) 1 8 Tryd.underlying30 hi0 hz0 hz1 hz2 rfl (by decide) _ _ _ rfl (HS2.out.own.alloc _) ⟨wr.heap.size, 0, none⟩ 1 1 [.complex .f32 re im] rfl rfl ?d1 ?d2 ?d3 ?d4 ?d5 ?_))
          case d1 =>
            intro i u hu
            rcases i with _ | i
            · simp at hu; subst hu; simp [Addr.add, go_sem]
            · simp at hu
          case d2 => first | rfl | (intro u hu; simp at hu; subst hu; rfl)
          case d3 => unfold maxLen; omega
          case d4 => omega
          case d5 => first | omega | (simp; omega)
          intro v' w1 hown' hgrow _
          obtain ⟨g', cc', rfl⟩ := row_slice hown' (by omega)
          have HN2 := Lib.hid (HS2.out.put2 (re := re) (im := im) hown' hgrow)
          obtain ⟨hcb, hfb⟩ := HS2.out.still hgrow
          clear hown' hgrow hlen
          go_wp2
          go_roundw
          case rel => exact ⟨s + 1, _, by omega, by go_num, by rw [← Nat.add_assoc, HI.out, firstL_succ, HV2.out]; exact HN2.out⟩
          case measure => simp [intOf]; omega
        · obtain rfl : s = S := by omega
          have hds : decide ((s : Int) < (s : Int)) = false := by simp
          clear hst
          go_wp2
          go_roundw
          case rel => exact ⟨l + 1, v, by omega, by go_num, by rw [Nat.add_mul, Nat.one_mul]; exact HS2.out⟩
          case measure => simp [intOf]; omega
    · obtain rfl : l = L := by omega
      have hdl : decide ((l : Int) < (l : Int)) = false := by simp
      have hst := HS1.out
      have hown := hst.own
      rw [firstL_len, ← HN.out] at hown
      obtain ⟨a', c', rfl⟩ := own_slice hown
      obtain ⟨e0, e1, e2, -, r0, r1, r2, g0, g1, g2, -, hbel, -⟩ := hst
      have HOW := Lib.hid hown
      have HBE := Lib.hid hbel
      clear hown hbel
      go_wp2
      refine bodyPost_ret ?_ rfl ⟨a', c', rfl, fun h => ?_, own_cap HOW.out, HBE.out.trans (by (repeat' (first | with_reducible exact Below.refl _ _ | (with_reducible refine below_later_of ?_ ?_ _) | (with_reducible refine Below.alloc ?_ ?_ _) | (with_reducible refine Below.setCell ?_ ?_ _) | (with_reducible refine Below.drew ?_) | (simp; done) | (simp; omega) | omega)))⟩
      · first | (simp [results, Tryd.results108, go_sem, r0, r1, r2]; done) | simp [results, Tryd.results108, go_sem, r0, r1, r2, ↓IntWalk.iteOmega]
      · exact samples_firstL (ownsRow_setCell_below (ownsRow_setCell_below (ownsRow_setCell_below HOW.out (by simp) _) (by simp) _) (by simp) _) h (Nat.le_add_right _ 2)
end Go.Proofs.YtakohhlmomgegaaDoor

/- Chapter 1: Added. -/
namespace Go.Proofs.YtakohhlmomgegaaDoor
set_option linter.unusedVariables false
set_option linter.unusedSimpArgs false
open Go.RowKit Ntt
/-- The sum that Added returns, in memory of its own. -/
def AddOk (W : World) (base : Nat) (L S : Int) (n : Nat) (f : Nat → Nat × Nat) (L' S' : Int) (m : Nat) (g : Nat → Nat × Nat) (l s : Int) (n' : Nat) (a : Option Addr) : Prop :=
  ∃ L0 S0 : Nat, (L = L0 ∧ S = S0 ∧ L' = L0 ∧ S' = S0) ∧ (1 ≤ L0 ∧ L0 ≤ 64 ∧ 1 ≤ S0 ∧ S0 ≤ 64) ∧ n = L0 * S0 ∧ m = L0 * S0 ∧ l = L0 ∧ s = S0 ∧ n' = L0 * S0 ∧ SmallS n f (xB f) (yB f) 2047 ∧ SmallS n g (xB g) (yB g) 2047 ∧ SmallS n (addB f g) (xB (addB f g)) (yB (addB f g)) 2047 ∧
    (0 < n' → ∃ gg, a = some ⟨gg, 0, none⟩ ∧ base ≤ gg ∧ gg < W.heap.size ∧ SamplesAt W gg 0 n' (addB f g))
def AddAny (L S : Int) (n : Nat) (f : Nat → Nat × Nat) (L' S' : Int) (m : Nat) (g : Nat → Nat × Nat) (w : World) (e : Ending) (w' : World) : Prop :=
  ∃ l s n' a c e0, e = .returned (.tuple #[.agg #[.int .i64 l, .int .i64 s, .slice a n' c], .int .i64 e0]) ∧ (e0 = 0 → AddOk w' w.heap.size L S n f L' S' m g l s n' a ∧ n' ≤ c) ∧ Below w.heap.size w w'
theorem own_step2 {W W' : World} {B n : Nat} {a : Option Addr} {f : Nat → Nat × Nat} (h : 0 < n → ∃ g, a = some ⟨g, 0, none⟩ ∧ B ≤ g ∧ g < W.heap.size ∧ SamplesAt W g 0 n f) (hb : Below W.heap.size W W') : 0 < n → ∃ g, a = some ⟨g, 0, none⟩ ∧ B ≤ g ∧ g < W'.heap.size ∧ SamplesAt W' g 0 n f := fun h0 => by
  obtain ⟨g, h1, h2, h3, h4⟩ := h h0
  exact ⟨g, h1, h2, by have := hb.size; omega, h4.below h3 hb⟩
/-- The boxes of Added: two images, and the result. -/
structure AdSt (w : World) (L S : Int) (a : Option Addr) (n cap : Nat) (L' S' : Int) (b : Option Addr) (m bcap : Nat) (W : World) : Prop where
  a0 : W.cell? ⟨w.heap.size, 0, none⟩ = some (.int .i64 L)
  a1 : W.cell? ⟨w.heap.size, 1, none⟩ = some (.int .i64 S)
  a2 : W.cell? ⟨w.heap.size, 2, none⟩ = some (.slice a n cap)
  b0 : W.cell? ⟨w.heap.size + 1, 0, none⟩ = some (.int .i64 L')
  b1 : W.cell? ⟨w.heap.size + 1, 1, none⟩ = some (.int .i64 S')
  b2 : W.cell? ⟨w.heap.size + 1, 2, none⟩ = some (.slice b m bcap)
  r0 : W.cell? ⟨w.heap.size + 2, 0, none⟩ = some (.int .i64 0)
  r1 : W.cell? ⟨w.heap.size + 2, 1, none⟩ = some (.int .i64 0)
  r2 : W.cell? ⟨w.heap.size + 2, 2, none⟩ = some (.slice none 0 0)
  g0 : W.frozen? ⟨w.heap.size + 2, 0, none⟩ = false
  g1 : W.frozen? ⟨w.heap.size + 2, 1, none⟩ = false
  g2 : W.frozen? ⟨w.heap.size + 2, 2, none⟩ = false
  bel : Below w.heap.size w W
  lt : w.heap.size + 2 < W.heap.size
theorem AdSt.below {w W W' : World} {L S L' S' : Int} {a b : Option Addr} {n cap m bcap : Nat} (h : AdSt w L S a n cap L' S' b m bcap W) (hb : Below W.heap.size W W') : AdSt w L S a n cap L' S' b m bcap W' := by
  have hlt := h.lt
  have hs := hb.size
  have q1 : ∀ j, W'.cell? ⟨w.heap.size, j, none⟩ = W.cell? ⟨w.heap.size, j, none⟩ := fun j => hb.cell (p := ⟨w.heap.size, j, none⟩) (show w.heap.size < W.heap.size by omega)
  have q2 : ∀ j, W'.cell? ⟨w.heap.size + 1, j, none⟩ = W.cell? ⟨w.heap.size + 1, j, none⟩ := fun j => hb.cell (p := ⟨w.heap.size + 1, j, none⟩) (show w.heap.size + 1 < W.heap.size by omega)
  have q3 : ∀ j, W'.cell? ⟨w.heap.size + 2, j, none⟩ = W.cell? ⟨w.heap.size + 2, j, none⟩ := fun j => hb.cell (p := ⟨w.heap.size + 2, j, none⟩) hlt
  have f3 : ∀ j, W'.frozen? ⟨w.heap.size + 2, j, none⟩ = W.frozen? ⟨w.heap.size + 2, j, none⟩ := fun j => hb.frozen (p := ⟨w.heap.size + 2, j, none⟩) hlt
  exact ⟨(q1 0).trans h.a0, (q1 1).trans h.a1, (q1 2).trans h.a2, (q2 0).trans h.b0, (q2 1).trans h.b1, (q2 2).trans h.b2, (q3 0).trans h.r0, (q3 1).trans h.r1, (q3 2).trans h.r2, (f3 0).trans h.g0, (f3 1).trans h.g1, (f3 2).trans h.g2, h.bel.trans (hb.mono (by omega)), by omega⟩
set_option maxHeartbeats 2000000 in
theorem added_bad (L S L' S' : Int) (n cap m bcap : Nat) (f g : Nat → Nat × Nat) (a b : Option Addr) (w : World) (hn : n ≤ 100000) (hm : m ≤ 100000) (hda : DataAt w L S n f a) (hdb : DataAt w L' S' m g b) {e0 : Int} (he : first2 (imgE L S n f).2 (imgE L' S' m g).2 = e0) (h0 : e0 ≠ 0) :
    Calls Tryd.prog 53 #[.agg #[.int .i64 L, .int .i64 S, .slice a n cap], .agg #[.int .i64 L', .int .i64 S', .slice b m bcap]] w fun e w' => e = .returned (.tuple #[.agg #[.int .i64 0, .int .i64 0, .slice none 0 0], .int .i64 e0]) ∧ Below w.heap.size w w' := by
  have HEA := Lib.hid (show ∀ W, Below w.heap.size w W → _ from fun W hW => imageErr_any L S n cap f a W hn (hda.below hW) rfl)
  have HEB := Lib.hid (show ∀ W, Below w.heap.size w W → _ from fun W hW => imageErr_any L' S' m bcap g b W hm (hdb.below hW) rfl)
  have HF := Lib.hid he
  have hne : (e0 != 0) = true := by simpa using h0
  clear he h0 hda hdb
  generalize (imgE L S n f).2 = z1 at HEA HF
  generalize (imgE L' S' m g).2 = z2 at HEB HF
  go_enter Tryd.func53, Tryd.ntmps53
  go_wp2
  refine wp_worldI (AdSt w L S a n cap L' S' b m bcap) ⟨(by simp [go_sem]), (by simp [go_sem]), (by simp [go_sem]), (by simp [go_sem]), (by simp [go_sem]), (by simp [go_sem]), (by simp [go_sem]), (by simp [go_sem]), (by simp [go_sem]), (by simp [go_sem]), (by simp [go_sem]), (by simp [go_sem]), (by (repeat' (first | with_reducible exact Below.refl _ _ | (with_reducible refine below_later_of ?_ ?_ _) | (with_reducible refine Below.alloc ?_ ?_ _) | (with_reducible refine Below.setCell ?_ ?_ _) | (with_reducible refine Below.drew ?_) | (simp; done) | (simp; omega) | omega))), by simp⟩ ?_
  rintro W1 hst
  have HST := Lib.hid hst
  have HEA1 := Lib.hid (show ∀ W, Below W1.heap.size W1 W → _ from fun W hW => HEA.out W (hst.bel.trans (hW.mono hst.bel.size)))
  have HEB1 := Lib.hid (show ∀ W, Below W1.heap.size W1 W → _ from fun W hW => HEB.out W (hst.bel.trans (hW.mono hst.bel.size)))
  obtain ⟨k0, k1, k2, j0, j1, j2, -, -, -, -, -, -, -, lt1⟩ := hst
  clear HEA HEB
  go_cut [6] from 8 to 14 (fun X wx => X = .int .i64 e0 ∧ Below W1.heap.size W1 wx)
  case first =>
    go_region_held3 (fun w' => w'.cell? ⟨w.heap.size, 0, none⟩ = some (.int .i64 L) ∧ w'.cell? ⟨w.heap.size, 1, none⟩ = some (.int .i64 S) ∧ w'.cell? ⟨w.heap.size, 2, none⟩ = some (.slice a n cap) ∧ w'.cell? ⟨w.heap.size + 1, 0, none⟩ = some (.int .i64 L') ∧ w'.cell? ⟨w.heap.size + 1, 1, none⟩ = some (.int .i64 S') ∧ w'.cell? ⟨w.heap.size + 1, 2, none⟩ = some (.slice b m bcap)) (first | exact ⟨k0, k1, k2, j0, j1, j2⟩ | ((first | (simp [go_sem, k0, k1, k2, j0, j1, j2]; done) | simp [go_sem, k0, k1, k2, j0, j1, j2, ↓IntWalk.iteOmega]); done)) (first | (go_at_call 78; (with_reducible refine (HEA1.out _ (by (repeat' (first | with_reducible exact Below.refl _ _ | (with_reducible refine below_later_of ?_ ?_ _) | (with_reducible refine Below.alloc ?_ ?_ _) | (with_reducible refine Below.setCell ?_ ?_ _) | (with_reducible refine Below.drew ?_) | (simp; done) | (simp; omega) | omega)))).mono ?_); rintro e w' ⟨rfl, hb⟩; obtain ⟨pp, rfl⟩ := later_of_below hb; clear hb) | (go_at_call 78; (with_reducible refine (HEB1.out _ (by (repeat' (first | with_reducible exact Below.refl _ _ | (with_reducible refine below_later_of ?_ ?_ _) | (with_reducible refine Below.alloc ?_ ?_ _) | (with_reducible refine Below.setCell ?_ ?_ _) | (with_reducible refine Below.drew ?_) | (simp; done) | (simp; omega) | omega)))).mono ?_); rintro e w' ⟨rfl, hb⟩; obtain ⟨pp2, rfl⟩ := later_of_below hb; clear hb) | (go_at_call 77; refine (first_e _ _ _ _ HF.out (by (first | (simp [go_sem]; done) | simp [go_sem, ↓IntWalk.iteOmega])) (by (first | (simp [go_sem]; done) | simp [go_sem, ↓IntWalk.iteOmega]))).mono ?_; rintro e w' ⟨rfl, rfl⟩))
    all_goals
      rename_i hheld
      clear hheld
      go_wp2_with fail
      go_meet
      exact ⟨rfl, (by (repeat' (first | with_reducible exact Below.refl _ _ | (with_reducible refine below_later_of ?_ ?_ _) | (with_reducible refine Below.alloc ?_ ?_ _) | (with_reducible refine Below.setCell ?_ ?_ _) | (with_reducible refine Below.drew ?_) | (simp; done) | (simp; omega) | omega)))⟩
  case rest =>
    obtain ⟨rfl, hb⟩ := hcut
    obtain ⟨W3, hW3⟩ : ∃ W3 : World, W3 = wc := ⟨_, rfl⟩
    subst hW3
    have HS3 := Lib.hid (HST.out.below hb)
    clear hb k0 k1 k2 j0 j1 j2 HEA1 HEB1 HST
    obtain ⟨k0, k1, k2, j0, j1, j2, r0, r1, r2, g0, g1, g2, bel, lt⟩ := HS3.out
    go_wp2
    refine bodyPost_ret ?_ rfl ⟨rfl, bel.trans (by (repeat' (first | with_reducible exact Below.refl _ _ | (with_reducible refine below_later_of ?_ ?_ _) | (with_reducible refine Below.alloc ?_ ?_ _) | (with_reducible refine Below.setCell ?_ ?_ _) | (with_reducible refine Below.drew ?_) | (simp; done) | (simp; omega) | omega)))⟩
    first | (simp [results, Tryd.results53, go_sem, r0, r1, r2]; done) | simp [results, Tryd.results53, go_sem, r0, r1, r2, ↓IntWalk.iteOmega]
set_option maxHeartbeats 2000000 in
theorem added_clash (L S L' S' : Int) (n cap m bcap : Nat) (f g : Nat → Nat × Nat) (a b : Option Addr) (w : World) (hn : n ≤ 100000) (hm : m ≤ 100000) (hda : DataAt w L S n f a) (hdb : DataAt w L' S' m g b) (he : first2 (imgE L S n f).2 (imgE L' S' m g).2 = 0) (h0 : L ≠ L' ∨ L = L' ∧ S ≠ S') :
    Calls Tryd.prog 53 #[.agg #[.int .i64 L, .int .i64 S, .slice a n cap], .agg #[.int .i64 L', .int .i64 S', .slice b m bcap]] w fun e w' => e = .returned (.tuple #[.agg #[.int .i64 0, .int .i64 0, .slice none 0 0], .int .i64 13]) ∧ Below w.heap.size w w' := by
  have HEA := Lib.hid (show ∀ W, Below w.heap.size w W → _ from fun W hW => imageErr_any L S n cap f a W hn (hda.below hW) rfl)
  have HEB := Lib.hid (show ∀ W, Below w.heap.size w W → _ from fun W hW => imageErr_any L' S' m bcap g b W hm (hdb.below hW) rfl)
  have HF := Lib.hid he
  clear he hda hdb
  generalize (imgE L S n f).2 = z1 at HEA HF
  generalize (imgE L' S' m g).2 = z2 at HEB HF
  rcases h0 with h0 | ⟨h1, h0⟩
  · have hne : (L != L') = true := by simpa using h0
    clear h0
    go_enter Tryd.func53, Tryd.ntmps53
    go_wp2
    refine wp_worldI (AdSt w L S a n cap L' S' b m bcap) ⟨(by simp [go_sem]), (by simp [go_sem]), (by simp [go_sem]), (by simp [go_sem]), (by simp [go_sem]), (by simp [go_sem]), (by simp [go_sem]), (by simp [go_sem]), (by simp [go_sem]), (by simp [go_sem]), (by simp [go_sem]), (by simp [go_sem]), (by (repeat' (first | with_reducible exact Below.refl _ _ | (with_reducible refine below_later_of ?_ ?_ _) | (with_reducible refine Below.alloc ?_ ?_ _) | (with_reducible refine Below.setCell ?_ ?_ _) | (with_reducible refine Below.drew ?_) | (simp; done) | (simp; omega) | omega))), by simp⟩ ?_
    rintro W1 hst
    have HST := Lib.hid hst
    have HEA1 := Lib.hid (show ∀ W, Below W1.heap.size W1 W → _ from fun W hW => HEA.out W (hst.bel.trans (hW.mono hst.bel.size)))
    have HEB1 := Lib.hid (show ∀ W, Below W1.heap.size W1 W → _ from fun W hW => HEB.out W (hst.bel.trans (hW.mono hst.bel.size)))
    obtain ⟨k0, k1, k2, j0, j1, j2, -, -, -, -, -, -, -, lt1⟩ := hst
    clear HEA HEB
    go_cut [6] from 8 to 14 (fun X wx => X = .int .i64 0 ∧ Below W1.heap.size W1 wx)
    case first =>
      go_region_held3 (fun w' => w'.cell? ⟨w.heap.size, 0, none⟩ = some (.int .i64 L) ∧ w'.cell? ⟨w.heap.size, 1, none⟩ = some (.int .i64 S) ∧ w'.cell? ⟨w.heap.size, 2, none⟩ = some (.slice a n cap) ∧ w'.cell? ⟨w.heap.size + 1, 0, none⟩ = some (.int .i64 L') ∧ w'.cell? ⟨w.heap.size + 1, 1, none⟩ = some (.int .i64 S') ∧ w'.cell? ⟨w.heap.size + 1, 2, none⟩ = some (.slice b m bcap)) (first | exact ⟨k0, k1, k2, j0, j1, j2⟩ | ((first | (simp [go_sem, k0, k1, k2, j0, j1, j2]; done) | simp [go_sem, k0, k1, k2, j0, j1, j2, ↓IntWalk.iteOmega]); done)) (first | (go_at_call 78; (with_reducible refine (HEA1.out _ (by (repeat' (first | with_reducible exact Below.refl _ _ | (with_reducible refine below_later_of ?_ ?_ _) | (with_reducible refine Below.alloc ?_ ?_ _) | (with_reducible refine Below.setCell ?_ ?_ _) | (with_reducible refine Below.drew ?_) | (simp; done) | (simp; omega) | omega)))).mono ?_); rintro e w' ⟨rfl, hb⟩; obtain ⟨pp, rfl⟩ := later_of_below hb; clear hb) | (go_at_call 78; (with_reducible refine (HEB1.out _ (by (repeat' (first | with_reducible exact Below.refl _ _ | (with_reducible refine below_later_of ?_ ?_ _) | (with_reducible refine Below.alloc ?_ ?_ _) | (with_reducible refine Below.setCell ?_ ?_ _) | (with_reducible refine Below.drew ?_) | (simp; done) | (simp; omega) | omega)))).mono ?_); rintro e w' ⟨rfl, hb⟩; obtain ⟨pp2, rfl⟩ := later_of_below hb; clear hb) | (go_at_call 77; refine (first_e _ _ _ _ HF.out (by (first | (simp [go_sem]; done) | simp [go_sem, ↓IntWalk.iteOmega])) (by (first | (simp [go_sem]; done) | simp [go_sem, ↓IntWalk.iteOmega]))).mono ?_; rintro e w' ⟨rfl, rfl⟩))
      all_goals
        rename_i hheld
        clear hheld
        go_wp2_with fail
        go_meet
        exact ⟨rfl, (by (repeat' (first | with_reducible exact Below.refl _ _ | (with_reducible refine below_later_of ?_ ?_ _) | (with_reducible refine Below.alloc ?_ ?_ _) | (with_reducible refine Below.setCell ?_ ?_ _) | (with_reducible refine Below.drew ?_) | (simp; done) | (simp; omega) | omega)))⟩
    case rest =>
      obtain ⟨rfl, hb⟩ := hcut
      obtain ⟨W3, hW3⟩ : ∃ W3 : World, W3 = wc := ⟨_, rfl⟩
      subst hW3
      have HS3 := Lib.hid (HST.out.below hb)
      clear hb k0 k1 k2 j0 j1 j2 HEA1 HEB1 HST
      obtain ⟨k0, k1, k2, j0, j1, j2, r0, r1, r2, g0, g1, g2, bel, lt⟩ := HS3.out
      go_wp2
      refine bodyPost_ret ?_ rfl ⟨rfl, bel.trans (by (repeat' (first | with_reducible exact Below.refl _ _ | (with_reducible refine below_later_of ?_ ?_ _) | (with_reducible refine Below.alloc ?_ ?_ _) | (with_reducible refine Below.setCell ?_ ?_ _) | (with_reducible refine Below.drew ?_) | (simp; done) | (simp; omega) | omega)))⟩
      first | (simp [results, Tryd.results53, go_sem, r0, r1, r2]; done) | simp [results, Tryd.results53, go_sem, r0, r1, r2, ↓IntWalk.iteOmega]
  · have hne : (S != S') = true := by simpa using h0
    have hne0 : (L != L') = false := by simpa using h1
    clear h0 h1
    go_enter Tryd.func53, Tryd.ntmps53
    go_wp2
    refine wp_worldI (AdSt w L S a n cap L' S' b m bcap) ⟨(by simp [go_sem]), (by simp [go_sem]), (by simp [go_sem]), (by simp [go_sem]), (by simp [go_sem]), (by simp [go_sem]), (by simp [go_sem]), (by simp [go_sem]), (by simp [go_sem]), (by simp [go_sem]), (by simp [go_sem]), (by simp [go_sem]), (by (repeat' (first | with_reducible exact Below.refl _ _ | (with_reducible refine below_later_of ?_ ?_ _) | (with_reducible refine Below.alloc ?_ ?_ _) | (with_reducible refine Below.setCell ?_ ?_ _) | (with_reducible refine Below.drew ?_) | (simp; done) | (simp; omega) | omega))), by simp⟩ ?_
    rintro W1 hst
    have HST := Lib.hid hst
    have HEA1 := Lib.hid (show ∀ W, Below W1.heap.size W1 W → _ from fun W hW => HEA.out W (hst.bel.trans (hW.mono hst.bel.size)))
    have HEB1 := Lib.hid (show ∀ W, Below W1.heap.size W1 W → _ from fun W hW => HEB.out W (hst.bel.trans (hW.mono hst.bel.size)))
    obtain ⟨k0, k1, k2, j0, j1, j2, -, -, -, -, -, -, -, lt1⟩ := hst
    clear HEA HEB
    go_cut [6] from 8 to 14 (fun X wx => X = .int .i64 0 ∧ Below W1.heap.size W1 wx)
    case first =>
      go_region_held3 (fun w' => w'.cell? ⟨w.heap.size, 0, none⟩ = some (.int .i64 L) ∧ w'.cell? ⟨w.heap.size, 1, none⟩ = some (.int .i64 S) ∧ w'.cell? ⟨w.heap.size, 2, none⟩ = some (.slice a n cap) ∧ w'.cell? ⟨w.heap.size + 1, 0, none⟩ = some (.int .i64 L') ∧ w'.cell? ⟨w.heap.size + 1, 1, none⟩ = some (.int .i64 S') ∧ w'.cell? ⟨w.heap.size + 1, 2, none⟩ = some (.slice b m bcap)) (first | exact ⟨k0, k1, k2, j0, j1, j2⟩ | ((first | (simp [go_sem, k0, k1, k2, j0, j1, j2]; done) | simp [go_sem, k0, k1, k2, j0, j1, j2, ↓IntWalk.iteOmega]); done)) (first | (go_at_call 78; (with_reducible refine (HEA1.out _ (by (repeat' (first | with_reducible exact Below.refl _ _ | (with_reducible refine below_later_of ?_ ?_ _) | (with_reducible refine Below.alloc ?_ ?_ _) | (with_reducible refine Below.setCell ?_ ?_ _) | (with_reducible refine Below.drew ?_) | (simp; done) | (simp; omega) | omega)))).mono ?_); rintro e w' ⟨rfl, hb⟩; obtain ⟨pp, rfl⟩ := later_of_below hb; clear hb) | (go_at_call 78; (with_reducible refine (HEB1.out _ (by (repeat' (first | with_reducible exact Below.refl _ _ | (with_reducible refine below_later_of ?_ ?_ _) | (with_reducible refine Below.alloc ?_ ?_ _) | (with_reducible refine Below.setCell ?_ ?_ _) | (with_reducible refine Below.drew ?_) | (simp; done) | (simp; omega) | omega)))).mono ?_); rintro e w' ⟨rfl, hb⟩; obtain ⟨pp2, rfl⟩ := later_of_below hb; clear hb) | (go_at_call 77; refine (first_e _ _ _ _ HF.out (by (first | (simp [go_sem]; done) | simp [go_sem, ↓IntWalk.iteOmega])) (by (first | (simp [go_sem]; done) | simp [go_sem, ↓IntWalk.iteOmega]))).mono ?_; rintro e w' ⟨rfl, rfl⟩))
      all_goals
        rename_i hheld
        clear hheld
        go_wp2_with fail
        go_meet
        exact ⟨rfl, (by (repeat' (first | with_reducible exact Below.refl _ _ | (with_reducible refine below_later_of ?_ ?_ _) | (with_reducible refine Below.alloc ?_ ?_ _) | (with_reducible refine Below.setCell ?_ ?_ _) | (with_reducible refine Below.drew ?_) | (simp; done) | (simp; omega) | omega)))⟩
    case rest =>
      obtain ⟨rfl, hb⟩ := hcut
      obtain ⟨W3, hW3⟩ : ∃ W3 : World, W3 = wc := ⟨_, rfl⟩
      subst hW3
      have HS3 := Lib.hid (HST.out.below hb)
      clear hb k0 k1 k2 j0 j1 j2 HEA1 HEB1 HST
      obtain ⟨k0, k1, k2, j0, j1, j2, r0, r1, r2, g0, g1, g2, bel, lt⟩ := HS3.out
      go_wp2
      refine bodyPost_ret ?_ rfl ⟨rfl, bel.trans (by (repeat' (first | with_reducible exact Below.refl _ _ | (with_reducible refine below_later_of ?_ ?_ _) | (with_reducible refine Below.alloc ?_ ?_ _) | (with_reducible refine Below.setCell ?_ ?_ _) | (with_reducible refine Below.drew ?_) | (simp; done) | (simp; omega) | omega)))⟩
      first | (simp [results, Tryd.results53, go_sem, r0, r1, r2]; done) | simp [results, Tryd.results53, go_sem, r0, r1, r2, ↓IntWalk.iteOmega]
set_option maxHeartbeats 2000000 in
theorem added_large (L S : Nat) (n cap bcap : Nat) (f g : Nat → Nat × Nat) (a b : Option Addr) (w : World) (hn : n ≤ 100000) (hda : DataAt w L S n f a) (hdb : DataAt w L S n g b) (he : first2 (imgE L S n f).2 (imgE L S n g).2 = 0) {e1 : Int} (h0 : (imgE L S n (addB f g)).2 = e1) (hne' : e1 ≠ 0) :
    Calls Tryd.prog 53 #[.agg #[.int .i64 L, .int .i64 S, .slice a n cap], .agg #[.int .i64 L, .int .i64 S, .slice b n bcap]] w fun e w' => e = .returned (.tuple #[.agg #[.int .i64 0, .int .i64 0, .slice none 0 0], .int .i64 8]) ∧ Below w.heap.size w w' := by
  have hne : (e1 != 0) = true := by simpa using hne'
  clear hne'
  have HEA := Lib.hid (show ∀ W, Below w.heap.size w W → _ from fun W hW => imageErr_any L S n cap f a W hn (hda.below hW) rfl)
  have HEB := Lib.hid (show ∀ W, Below w.heap.size w W → _ from fun W hW => imageErr_any L S n bcap g b W hn (hdb.below hW) rfl)
  have HF := Lib.hid he
  obtain ⟨he1, he2⟩ := first2_zero he
  obtain ⟨hs, hg⟩ := imgE_zero he1
  obtain ⟨-, hg2⟩ := imgE_zero he2
  obtain ⟨⟨l1, l2⟩, ⟨s1, s2⟩, hnn⟩ := sizeE_zero hs
  obtain ⟨ab, aoff, rfl, haw, hfa⟩ := hda hs
  obtain ⟨bb, boff, rfl, hbw, hfb⟩ := hdb hs
  have HIM := Lib.hid (show ∀ W, Below w.heap.size w W → w.heap.size + 1 < W.heap.size → ImgBlk W w.heap.size L S (some ⟨ab, aoff, none⟩) n cap → ImgBlk W (w.heap.size + 1) L S (some ⟨bb, boff, none⟩) n bcap → Calls Tryd.prog 108 #[.int .i64 L, .int .i64 S, .func (.func 109) #[] #[.pointer (some ⟨w.heap.size, 0, none⟩), .pointer (some ⟨w.heap.size + 1, 0, none⟩)]] W (ImPost L S n (addB f g) W) from fun W hW hlt h1 h2 => by
    have hsz := hW.size
    exact imageOf_add L S w.heap.size (w.heap.size + 1) ab aoff n cap bb boff bcap L L S f g W (by omega) (by omega) (by exact_mod_cast hnn) (by omega) hlt (by omega) (by omega) h1 h2 (hfa.below haw hW) (hfb.below hbw hW) (smallS_of (by decide) hg) (smallS_of (by decide) hg2))
  have HEO := Lib.hid (show ∀ W a c, DataAt W L S n (addB f g) a → _ from fun W a c h => imageErr_any L S n c (addB f g) a W hn h h0)
  clear he he1 he2 hs hg hg2 hnn hfa hfb hda hdb h0
  generalize (imgE L S n f).2 = z1 at HEA HF
  generalize (imgE L S n g).2 = z2 at HEB HF
  go_enter Tryd.func53, Tryd.ntmps53
  go_wp2
  refine wp_worldI (AdSt w L S (some ⟨ab, aoff, none⟩) n cap L S (some ⟨bb, boff, none⟩) n bcap) ⟨(by simp [go_sem]), (by simp [go_sem]), (by simp [go_sem]), (by simp [go_sem]), (by simp [go_sem]), (by simp [go_sem]), (by simp [go_sem]), (by simp [go_sem]), (by simp [go_sem]), (by simp [go_sem]), (by simp [go_sem]), (by simp [go_sem]), (by (repeat' (first | with_reducible exact Below.refl _ _ | (with_reducible refine below_later_of ?_ ?_ _) | (with_reducible refine Below.alloc ?_ ?_ _) | (with_reducible refine Below.setCell ?_ ?_ _) | (with_reducible refine Below.drew ?_) | (simp; done) | (simp; omega) | omega))), by simp⟩ ?_
  rintro W1 hst
  have HST := Lib.hid hst
  have HEA1 := Lib.hid (show ∀ W, Below W1.heap.size W1 W → _ from fun W hW => HEA.out W (hst.bel.trans (hW.mono hst.bel.size)))
  have HEB1 := Lib.hid (show ∀ W, Below W1.heap.size W1 W → _ from fun W hW => HEB.out W (hst.bel.trans (hW.mono hst.bel.size)))
  obtain ⟨k0, k1, k2, j0, j1, j2, -, -, -, -, -, -, -, lt1⟩ := hst
  clear HEA HEB
  go_cut [6] from 8 to 14 (fun X wx => X = .int .i64 0 ∧ Below W1.heap.size W1 wx)
  case first =>
    go_region_held3 (fun w' => w'.cell? ⟨w.heap.size, 0, none⟩ = some (.int .i64 L) ∧ w'.cell? ⟨w.heap.size, 1, none⟩ = some (.int .i64 S) ∧ w'.cell? ⟨w.heap.size, 2, none⟩ = some (.slice (some ⟨ab, aoff, none⟩) n cap) ∧ w'.cell? ⟨w.heap.size + 1, 0, none⟩ = some (.int .i64 L) ∧ w'.cell? ⟨w.heap.size + 1, 1, none⟩ = some (.int .i64 S) ∧ w'.cell? ⟨w.heap.size + 1, 2, none⟩ = some (.slice (some ⟨bb, boff, none⟩) n bcap)) (first | exact ⟨k0, k1, k2, j0, j1, j2⟩ | ((first | (simp [go_sem, k0, k1, k2, j0, j1, j2]; done) | simp [go_sem, k0, k1, k2, j0, j1, j2, ↓IntWalk.iteOmega]); done)) (first | (go_at_call 78; (with_reducible refine (HEA1.out _ (by (repeat' (first | with_reducible exact Below.refl _ _ | (with_reducible refine below_later_of ?_ ?_ _) | (with_reducible refine Below.alloc ?_ ?_ _) | (with_reducible refine Below.setCell ?_ ?_ _) | (with_reducible refine Below.drew ?_) | (simp; done) | (simp; omega) | omega)))).mono ?_); rintro e w' ⟨rfl, hb⟩; obtain ⟨pp, rfl⟩ := later_of_below hb; clear hb) | (go_at_call 78; (with_reducible refine (HEB1.out _ (by (repeat' (first | with_reducible exact Below.refl _ _ | (with_reducible refine below_later_of ?_ ?_ _) | (with_reducible refine Below.alloc ?_ ?_ _) | (with_reducible refine Below.setCell ?_ ?_ _) | (with_reducible refine Below.drew ?_) | (simp; done) | (simp; omega) | omega)))).mono ?_); rintro e w' ⟨rfl, hb⟩; obtain ⟨pp2, rfl⟩ := later_of_below hb; clear hb) | (go_at_call 77; refine (first_e _ _ _ _ HF.out (by (first | (simp [go_sem]; done) | simp [go_sem, ↓IntWalk.iteOmega])) (by (first | (simp [go_sem]; done) | simp [go_sem, ↓IntWalk.iteOmega]))).mono ?_; rintro e w' ⟨rfl, rfl⟩))
    all_goals
      rename_i hheld
      clear hheld
      go_wp2_with fail
      go_meet
      exact ⟨rfl, (by (repeat' (first | with_reducible exact Below.refl _ _ | (with_reducible refine below_later_of ?_ ?_ _) | (with_reducible refine Below.alloc ?_ ?_ _) | (with_reducible refine Below.setCell ?_ ?_ _) | (with_reducible refine Below.drew ?_) | (simp; done) | (simp; omega) | omega)))⟩
  case rest =>
    obtain ⟨rfl, hb⟩ := hcut
    obtain ⟨W3, hW3⟩ : ∃ W3 : World, W3 = wc := ⟨_, rfl⟩
    subst hW3
    have HS3 := Lib.hid (HST.out.below hb)
    clear hb k0 k1 k2 j0 j1 j2 HEA1 HEB1 HST
    obtain ⟨k0, k1, k2, j0, j1, j2, r0, r1, r2, g0, g1, g2, bel, lt⟩ := HS3.out
    go_wp2_with (first | (go_at_call 108; (with_reducible refine (HIM.out _ bel (by omega) (ImgBlk.mk' k0 k1 k2) (ImgBlk.mk' j0 j1 j2)).mono ?_); rintro e w' ⟨a', c', rfl, hfa, hcap, hb⟩; have HFA := Lib.hid hfa; clear hfa; obtain ⟨pp3, rfl⟩ := later_of_below hb; clear hb) | (go_at_call 78; (with_reducible refine (HEO.out _ _ _ (dataAt_own HFA.out (by (repeat' (first | with_reducible exact Below.refl _ _ | (with_reducible refine below_later_of ?_ ?_ _) | (with_reducible refine Below.alloc ?_ ?_ _) | (with_reducible refine Below.setCell ?_ ?_ _) | (with_reducible refine Below.drew ?_) | (simp; done) | (simp; omega) | omega))))).mono ?_); rintro e w' ⟨rfl, hb⟩; obtain ⟨pp4, rfl⟩ := later_of_below hb; clear hb))
    refine bodyPost_ret ?_ rfl ⟨rfl, bel.trans (by (repeat' (first | with_reducible exact Below.refl _ _ | (with_reducible refine below_later_of ?_ ?_ _) | (with_reducible refine Below.alloc ?_ ?_ _) | (with_reducible refine Below.setCell ?_ ?_ _) | (with_reducible refine Below.drew ?_) | (simp; done) | (simp; omega) | omega)))⟩
    first | (simp [results, Tryd.results53, go_sem, r0, r1, r2]; done) | simp [results, Tryd.results53, go_sem, r0, r1, r2, ↓IntWalk.iteOmega]
def AddOkPost (L S : Int) (n : Nat) (g : Nat → Nat × Nat) (w : World) (e : Ending) (w' : World) : Prop :=
  ∃ a c, e = .returned (.tuple #[.agg #[.int .i64 L, .int .i64 S, .slice a n c], .int .i64 0]) ∧ (0 < n → ∃ gg, a = some ⟨gg, 0, none⟩ ∧ w.heap.size ≤ gg ∧ gg < w'.heap.size ∧ SamplesAt w' gg 0 n g) ∧ n ≤ c ∧ Below w.heap.size w w'
set_option maxHeartbeats 2000000 in
theorem added_ok (L S : Nat) (n cap bcap : Nat) (f g : Nat → Nat × Nat) (a b : Option Addr) (w : World) (hn : n ≤ 100000) (hda : DataAt w L S n f a) (hdb : DataAt w L S n g b) (he : first2 (imgE L S n f).2 (imgE L S n g).2 = 0) (h0 : (imgE L S n (addB f g)).2 = 0) :
    Calls Tryd.prog 53 #[.agg #[.int .i64 L, .int .i64 S, .slice a n cap], .agg #[.int .i64 L, .int .i64 S, .slice b n bcap]] w (AddOkPost L S n (addB f g) w) := by
  have HEA := Lib.hid (show ∀ W, Below w.heap.size w W → _ from fun W hW => imageErr_any L S n cap f a W hn (hda.below hW) rfl)
  have HEB := Lib.hid (show ∀ W, Below w.heap.size w W → _ from fun W hW => imageErr_any L S n bcap g b W hn (hdb.below hW) rfl)
  have HF := Lib.hid he
  obtain ⟨he1, he2⟩ := first2_zero he
  obtain ⟨hs, hg⟩ := imgE_zero he1
  obtain ⟨-, hg2⟩ := imgE_zero he2
  obtain ⟨⟨l1, l2⟩, ⟨s1, s2⟩, hnn⟩ := sizeE_zero hs
  obtain ⟨ab, aoff, rfl, haw, hfa⟩ := hda hs
  obtain ⟨bb, boff, rfl, hbw, hfb⟩ := hdb hs
  have HIM := Lib.hid (show ∀ W, Below w.heap.size w W → w.heap.size + 1 < W.heap.size → ImgBlk W w.heap.size L S (some ⟨ab, aoff, none⟩) n cap → ImgBlk W (w.heap.size + 1) L S (some ⟨bb, boff, none⟩) n bcap → Calls Tryd.prog 108 #[.int .i64 L, .int .i64 S, .func (.func 109) #[] #[.pointer (some ⟨w.heap.size, 0, none⟩), .pointer (some ⟨w.heap.size + 1, 0, none⟩)]] W (ImPost L S n (addB f g) W) from fun W hW hlt h1 h2 => by
    have hsz := hW.size
    exact imageOf_add L S w.heap.size (w.heap.size + 1) ab aoff n cap bb boff bcap L L S f g W (by omega) (by omega) (by exact_mod_cast hnn) (by omega) hlt (by omega) (by omega) h1 h2 (hfa.below haw hW) (hfb.below hbw hW) (smallS_of (by decide) hg) (smallS_of (by decide) hg2))
  have HEO := Lib.hid (show ∀ W a c, DataAt W L S n (addB f g) a → _ from fun W a c h => imageErr_any L S n c (addB f g) a W hn h h0)
  clear he he1 he2 hs hg hg2 hnn hfa hfb hda hdb h0
  generalize (imgE L S n f).2 = z1 at HEA HF
  generalize (imgE L S n g).2 = z2 at HEB HF
  go_enter Tryd.func53, Tryd.ntmps53
  go_wp2
  refine wp_worldI (AdSt w L S (some ⟨ab, aoff, none⟩) n cap L S (some ⟨bb, boff, none⟩) n bcap) ⟨(by simp [go_sem]), (by simp [go_sem]), (by simp [go_sem]), (by simp [go_sem]), (by simp [go_sem]), (by simp [go_sem]), (by simp [go_sem]), (by simp [go_sem]), (by simp [go_sem]), (by simp [go_sem]), (by simp [go_sem]), (by simp [go_sem]), (by (repeat' (first | with_reducible exact Below.refl _ _ | (with_reducible refine below_later_of ?_ ?_ _) | (with_reducible refine Below.alloc ?_ ?_ _) | (with_reducible refine Below.setCell ?_ ?_ _) | (with_reducible refine Below.drew ?_) | (simp; done) | (simp; omega) | omega))), by simp⟩ ?_
  rintro W1 hst
  have HST := Lib.hid hst
  have HEA1 := Lib.hid (show ∀ W, Below W1.heap.size W1 W → _ from fun W hW => HEA.out W (hst.bel.trans (hW.mono hst.bel.size)))
  have HEB1 := Lib.hid (show ∀ W, Below W1.heap.size W1 W → _ from fun W hW => HEB.out W (hst.bel.trans (hW.mono hst.bel.size)))
  obtain ⟨k0, k1, k2, j0, j1, j2, -, -, -, -, -, -, -, lt1⟩ := hst
  clear HEA HEB
  go_cut [6] from 8 to 14 (fun X wx => X = .int .i64 0 ∧ Below W1.heap.size W1 wx)
  case first =>
    go_region_held3 (fun w' => w'.cell? ⟨w.heap.size, 0, none⟩ = some (.int .i64 L) ∧ w'.cell? ⟨w.heap.size, 1, none⟩ = some (.int .i64 S) ∧ w'.cell? ⟨w.heap.size, 2, none⟩ = some (.slice (some ⟨ab, aoff, none⟩) n cap) ∧ w'.cell? ⟨w.heap.size + 1, 0, none⟩ = some (.int .i64 L) ∧ w'.cell? ⟨w.heap.size + 1, 1, none⟩ = some (.int .i64 S) ∧ w'.cell? ⟨w.heap.size + 1, 2, none⟩ = some (.slice (some ⟨bb, boff, none⟩) n bcap)) (first | exact ⟨k0, k1, k2, j0, j1, j2⟩ | ((first | (simp [go_sem, k0, k1, k2, j0, j1, j2]; done) | simp [go_sem, k0, k1, k2, j0, j1, j2, ↓IntWalk.iteOmega]); done)) (first | (go_at_call 78; (with_reducible refine (HEA1.out _ (by (repeat' (first | with_reducible exact Below.refl _ _ | (with_reducible refine below_later_of ?_ ?_ _) | (with_reducible refine Below.alloc ?_ ?_ _) | (with_reducible refine Below.setCell ?_ ?_ _) | (with_reducible refine Below.drew ?_) | (simp; done) | (simp; omega) | omega)))).mono ?_); rintro e w' ⟨rfl, hb⟩; obtain ⟨pp, rfl⟩ := later_of_below hb; clear hb) | (go_at_call 78; (with_reducible refine (HEB1.out _ (by (repeat' (first | with_reducible exact Below.refl _ _ | (with_reducible refine below_later_of ?_ ?_ _) | (with_reducible refine Below.alloc ?_ ?_ _) | (with_reducible refine Below.setCell ?_ ?_ _) | (with_reducible refine Below.drew ?_) | (simp; done) | (simp; omega) | omega)))).mono ?_); rintro e w' ⟨rfl, hb⟩; obtain ⟨pp2, rfl⟩ := later_of_below hb; clear hb) | (go_at_call 77; refine (first_e _ _ _ _ HF.out (by (first | (simp [go_sem]; done) | simp [go_sem, ↓IntWalk.iteOmega])) (by (first | (simp [go_sem]; done) | simp [go_sem, ↓IntWalk.iteOmega]))).mono ?_; rintro e w' ⟨rfl, rfl⟩))
    all_goals
      rename_i hheld
      clear hheld
      go_wp2_with fail
      go_meet
      exact ⟨rfl, (by (repeat' (first | with_reducible exact Below.refl _ _ | (with_reducible refine below_later_of ?_ ?_ _) | (with_reducible refine Below.alloc ?_ ?_ _) | (with_reducible refine Below.setCell ?_ ?_ _) | (with_reducible refine Below.drew ?_) | (simp; done) | (simp; omega) | omega)))⟩
  case rest =>
    obtain ⟨rfl, hb⟩ := hcut
    obtain ⟨W3, hW3⟩ : ∃ W3 : World, W3 = wc := ⟨_, rfl⟩
    subst hW3
    have HS3 := Lib.hid (HST.out.below hb)
    clear hb k0 k1 k2 j0 j1 j2 HEA1 HEB1 HST
    obtain ⟨k0, k1, k2, j0, j1, j2, r0, r1, r2, g0, g1, g2, bel, lt⟩ := HS3.out
    go_wp2_with (first | (go_at_call 108; (with_reducible refine (HIM.out _ bel (by omega) (ImgBlk.mk' k0 k1 k2) (ImgBlk.mk' j0 j1 j2)).mono ?_); rintro e w' ⟨a', c', rfl, hfa, hcap, hb⟩; have HFA := Lib.hid hfa; clear hfa; obtain ⟨pp3, rfl⟩ := later_of_below hb; clear hb) | (go_at_call 78; (with_reducible refine (HEO.out _ _ _ (dataAt_own HFA.out (by (repeat' (first | with_reducible exact Below.refl _ _ | (with_reducible refine below_later_of ?_ ?_ _) | (with_reducible refine Below.alloc ?_ ?_ _) | (with_reducible refine Below.setCell ?_ ?_ _) | (with_reducible refine Below.drew ?_) | (simp; done) | (simp; omega) | omega))))).mono ?_); rintro e w' ⟨rfl, hb⟩; obtain ⟨pp4, rfl⟩ := later_of_below hb; clear hb))
    refine bodyPost_ret ?_ rfl ⟨a', c', rfl, ?_, hcap, bel.trans (by (repeat' (first | with_reducible exact Below.refl _ _ | (with_reducible refine below_later_of ?_ ?_ _) | (with_reducible refine Below.alloc ?_ ?_ _) | (with_reducible refine Below.setCell ?_ ?_ _) | (with_reducible refine Below.drew ?_) | (simp; done) | (simp; omega) | omega)))⟩
    · first | (simp [results, Tryd.results53, go_sem, r0, r1, r2]; done) | simp [results, Tryd.results53, go_sem, r0, r1, r2, ↓IntWalk.iteOmega]
    · refine own_mono (own_set (own_set (own_set (own_step2 HFA.out (by (repeat' (first | with_reducible exact Below.refl _ _ | (with_reducible refine below_later_of ?_ ?_ _) | (with_reducible refine Below.alloc ?_ ?_ _) | (with_reducible refine Below.setCell ?_ ?_ _) | (with_reducible refine Below.drew ?_) | (simp; done) | (simp; omega) | omega)))) ?_ _) ?_ _) ?_ _) ?_ <;> first | omega | (simp; done) | (simp; omega)
theorem added_law (L S L' S' : Int) (n cap m bcap : Nat) (f g : Nat → Nat × Nat) (a b : Option Addr) (w : World) (hn : n ≤ 100000) (hm : m ≤ 100000) (hda : DataAt w L S n f a) (hdb : DataAt w L' S' m g b) : Calls Tryd.prog 53 #[.agg #[.int .i64 L, .int .i64 S, .slice a n cap], .agg #[.int .i64 L', .int .i64 S', .slice b m bcap]] w (AddAny L S n f L' S' m g w) := by
  by_cases he : first2 (imgE L S n f).2 (imgE L' S' m g).2 = 0
  · obtain ⟨he1, he2⟩ := first2_zero he
    obtain ⟨hs, hg⟩ := imgE_zero he1
    obtain ⟨hs2, hg2⟩ := imgE_zero he2
    obtain ⟨⟨l1, l2⟩, ⟨s1, s2⟩, hnn⟩ := sizeE_zero hs
    obtain ⟨-, -, hnn2⟩ := sizeE_zero hs2
    by_cases h0 : L = L' ∧ S = S'
    · obtain ⟨rfl, rfl⟩ := h0
      obtain ⟨L0, rfl⟩ := Int.eq_ofNat_of_zero_le (show 0 ≤ L by omega)
      obtain ⟨S0, rfl⟩ := Int.eq_ofNat_of_zero_le (show 0 ≤ S by omega)
      have hnn' : n = L0 * S0 := by exact_mod_cast hnn
      obtain rfl : m = n := by rw [hnn']; exact_mod_cast hnn2
      by_cases h1 : (imgE L0 S0 m (addB f g)).2 = 0
      · refine (added_ok L0 S0 m cap bcap f g a b w hn hda hdb he h1).mono ?_
        rintro e w' ⟨a', c', rfl, ho, hc, hb⟩
        have h2 := (imgE_zero h1).2
        refine ⟨_, _, _, a', c', 0, rfl, fun _ => ⟨⟨L0, S0, ⟨rfl, rfl, rfl, rfl⟩, by omega, hnn', hnn', rfl, rfl, hnn', smallS_of (by decide) hg, smallS_of (by decide) hg2, smallS_of (by decide) h2, ho⟩, hc⟩, hb⟩
      · refine (added_large L0 S0 m cap bcap f g a b w hn hda hdb he rfl h1).mono ?_
        rintro e w' ⟨rfl, hb⟩
        exact ⟨0, 0, 0, none, 0, 8, rfl, fun h => absurd h (by decide), hb⟩
    · refine (added_clash L S L' S' n cap m bcap f g a b w hn hm hda hdb he (by omega)).mono ?_
      rintro e w' ⟨rfl, hb⟩
      exact ⟨0, 0, 0, none, 0, 13, rfl, fun h => absurd h (by decide), hb⟩
  · refine (added_bad L S L' S' n cap m bcap f g a b w hn hm hda hdb rfl he).mono ?_
    rintro e w' ⟨rfl, hb⟩
    exact ⟨0, 0, 0, none, 0, _, rfl, fun h => absurd h he, hb⟩
end Go.Proofs.YtakohhlmomgegaaDoor
