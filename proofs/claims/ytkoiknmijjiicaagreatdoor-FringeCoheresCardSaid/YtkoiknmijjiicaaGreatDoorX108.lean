/- Chapter 4: maps of floats that are the same; noFloats; the coherence of images in one statement. -/
import Derived.Test.YtkoiknmijjiicaaGreatDoorX105
import Derived.Test.YtkoiknmijjiicaaGreatDoorX106
import Derived.Test.YtkoiknmijjiicaaGreatDoorX27
namespace Go.Proofs.YtkoiknmijjiicaaGreatDoor
set_option linter.unusedVariables false
set_option linter.unusedSimpArgs false
open Go.RowKit Ieee Ntt
theorem run_bits4 (b : Nat) (w : World) : (callFunc 92 #[.float .f32 b]).run Tryz.prog w = .ok (.value (.int .u32 b)) w := by
  rw [run_callFunc_extern (e := Extern.MathFloatBits.float32bits) Tryz.func92 (by kernel_rfl) (by kernel_rfl) (by kernel_rfl) (by kernel_rfl)]
  rfl
set_option maxHeartbeats 2000000 in
theorem sameFls_true (ds : List Nat) (v u : Value) (w : World) (hx : FlV w v ds) (hy : FlV w u ds) :
    Calls Tryz.prog 47 #[v, u] w fun e w' => e = .returned (.bool true) ∧ Below w.heap.size w w' := by
  obtain ⟨x1, a, cap, rfl, x4⟩ := hx
  obtain ⟨y1, a', cap', rfl, y4⟩ := hy
  obtain ⟨n, hn⟩ : ∃ n, ds.length = n := ⟨_, rfl⟩
  rw [hn] at x1 x4 y1 y4 ⊢
  have hl' : ((n : Int) != (n : Int)) = false := bne_self_eq_false _
  clear hn
  by_cases h0 : 0 < n
  · obtain ⟨b, off, rfl, hbw, hcx⟩ := x4 h0
    obtain ⟨b', off', rfl, hbw', hcy⟩ := y4 h0
    have HCX := Lib.hid hcx
    have HCY := Lib.hid hcy
    clear x4 y4 hcx hcy
    go_enter Tryz.func47, Tryz.ntmps47
    go_wp2
    go_loopw [5] (fun i wr => ∃ k : Nat, k ≤ n ∧ i = .int .i64 k ∧ Below w.heap.size w wr) (fun i _ => n - (intOf i).toNat)
    case atStart => exact ⟨0, Nat.zero_le _, rfl, Below.refl _ _⟩
    case round =>
      obtain ⟨k, hk, rfl, hnx⟩ := hrel
      have HX := Lib.hid hnx
      have hsz := hnx.size
      rcases (show k < n ∨ k = n by omega) with hlt | rfl
      · have cx := (hnx.cell (p := ⟨b, off + k, none⟩) hbw).trans (HCX.out k hlt)
        have cy := (hnx.cell (p := ⟨b', off' + k, none⟩) hbw').trans (HCY.out k hlt)
        have hbr : b < wr.heap.size := by omega
        have hbr' : b' < wr.heap.size := by omega
        have hdk : decide ((k : Int) < (n : Int)) = true := by simp; omega
        have hk0 : (0 : Int) ≤ (k : Int) := by omega
        have hk1 : (k : Int) < (n : Int) := by omega
        obtain ⟨p, hp⟩ : ∃ p, flAt ds k = p := ⟨_, rfl⟩
        rw [hp] at cx cy
        clear hnx hp
        have r1 := fun w => run_bits4 p w
        have d1 : ((p : Int) != (p : Int)) = false := bne_self_eq_false _
        go_wp2
        refine wp_region_calm (by kernel_rfl) (by kernel_rfl) ?_
        repeat (go_big_quiet_step (fail))
        refine wpQuiet_nil ?_
        rintro _ ⟨pp, rfl⟩
        go_wp2
        go_roundw
        case rel => exact ⟨k + 1, by omega, by go_num, HX.out.trans (below_mono_of hsz (by (repeat' (first | with_reducible exact Below.refl _ _ | (with_reducible refine below_later_of ?_ ?_ _) | (with_reducible refine Below.alloc ?_ ?_ _) | (with_reducible refine Below.setCell ?_ ?_ _) | (with_reducible refine Below.drew ?_) | (simp; done) | (simp; omega) | omega))))⟩
        case measure => simp [intOf]; omega
      · have hdk : decide ((k : Int) < (k : Int)) = false := by simp
        clear hnx
        go_wp2
        go_ret
        exact ⟨rfl, HX.out⟩
  · obtain rfl : n = 0 := by omega
    clear x4 y4
    go_enter Tryz.func47, Tryz.ntmps47
    go_wp2
    go_loopw [5] (fun i wr => i = .int .i64 0 ∧ Below w.heap.size w wr) (fun _ _ => 0)
    case atStart => exact ⟨rfl, Below.refl _ _⟩
    case round =>
      obtain ⟨rfl, hnx⟩ := hrel
      have HX := Lib.hid hnx
      clear hnx
      go_wp2
      go_ret
      exact ⟨rfl, HX.out⟩
set_option maxHeartbeats 2000000 in
theorem sameFlMap_true (R C : Int) (ds : List Nat) (v u : Value) (w : World) (hx : FlV w v ds) (hy : FlV w u ds) :
    Calls Tryz.prog 13 #[.agg #[.int .i64 R, .int .i64 C, v], .agg #[.int .i64 R, .int .i64 C, u]] w fun e w' => e = .returned (.bool true) ∧ Below w.heap.size w w' := by
  have HSF := Lib.hid (show ∀ W, Below w.heap.size w W → _ from fun W hW => sameFls_true ds v u W (hx.below hW) (hy.below hW))
  obtain ⟨-, a, cap, rfl, -⟩ := hx
  obtain ⟨-, a', cap', rfl, -⟩ := hy
  go_enter Tryz.func13, Tryz.ntmps13
  go_wp2_with (first | (go_at_call 47; (with_reducible refine (HSF.out _ (by (repeat' (first | with_reducible exact Below.refl _ _ | (with_reducible refine below_later_of ?_ ?_ _) | (with_reducible refine Below.alloc ?_ ?_ _) | (with_reducible refine Below.setCell ?_ ?_ _) | (with_reducible refine Below.drew ?_) | (simp; done) | (simp; omega) | omega)))).mono ?_); rintro e w' ⟨rfl, hb⟩; obtain ⟨p1, rfl⟩ := later_of_below hb; clear hb))
  go_ret
  exact ⟨rfl, (by (repeat' (first | with_reducible exact Below.refl _ _ | (with_reducible refine below_later_of ?_ ?_ _) | (with_reducible refine Below.alloc ?_ ?_ _) | (with_reducible refine Below.setCell ?_ ?_ _) | (with_reducible refine Below.drew ?_) | (simp; done) | (simp; omega) | omega)))⟩
set_option maxHeartbeats 400000 in
theorem lNoFloats (a : Option Addr) (cap : Nat) (w : World) :
    Calls Tryz.prog 12 #[.agg #[.int .i64 0, .int .i64 0, .slice a 0 cap]] w fun e w' => e = .returned (.bool true) ∧ Below w.heap.size w w' := by
  go_enter Tryz.func12, Tryz.ntmps12
  go_wp2
  go_ret
  exact ⟨ret_bool (by simp), (by (repeat' (first | with_reducible exact Below.refl _ _ | (with_reducible refine below_later_of ?_ ?_ _) | (with_reducible refine Below.alloc ?_ ?_ _) | (with_reducible refine Below.setCell ?_ ?_ _) | (with_reducible refine Below.drew ?_) | (simp; done) | (simp; omega) | omega)))⟩
/-- The coherence of two images, as floats' bits. -/
def cohD (L S : Int) (n : Nat) (f f' : Nat → Nat × Nat) (half : Int) : List Nat :=
  (List.range n).map (cohF (intfF (xB f) (yB f) (xB f') (yB f')) (partsF (xB f) (yB f)) (partsF (xB f') (yB f')) L.toNat S.toNat half.toNat)
theorem cohD_len (L S : Int) (n : Nat) (f f' : Nat → Nat × Nat) (half : Int) : (cohD L S n f f' half).length = n := by unfold cohD; simp
theorem cohV_swap (F F' G K : Nat → Int × Int) (h1 : ∀ i, (F' i).1 = (F i).1) (h2 : ∀ i, (F' i).2 = -(F i).2) (L S half l s : Nat) : cohV F' K G L S half l s = cohV F G K L S half l s := by
  have e1 : (fun i => (F' i).1) = fun i => (F i).1 := funext h1
  unfold cohV
  rw [e1, winP_neg (F := fun i => (F i).2) (G := fun i => (F' i).2) h2, Int.mul_comm (winP (enF K) L S half l s)]
  generalize winP (fun i => (F i).2) L S half l s = y
  have : -y * -y = y * y := by grind
  rw [this]
/-- It does not depend on the order. -/
theorem cohD_swap (L S : Int) (n : Nat) (f f' : Nat → Nat × Nat) (half : Int) : cohD L S n f' f half = cohD L S n f f' half := by
  unfold cohD
  congr 1
  funext i
  unfold cohF
  refine cohV_swap _ _ _ _ (fun i => ?_) (fun i => ?_) _ _ _ _ _
  · show xB f' i * xB f i + yB f' i * yB f i = xB f i * xB f' i + yB f i * yB f' i
    grind
  · show yB f' i * xB f i - xB f' i * yB f i = -(yB f i * xB f' i - xB f i * yB f' i)
    grind
/-- What a map of floats says that is returned with an error. -/
structure CoSay (W : World) (B : Nat) (L S : Int) (n : Nat) (ds : List Nat) (E : Int) (l s : Int) (k : Nat) (a : Option Addr) (c : Nat) : Prop where
  ok : E = 0 → l = L ∧ s = S ∧ k = n ∧ OwnFV B W (.slice a k c) ds
  bad : E ≠ 0 → l = 0 ∧ s = 0 ∧ k = 0
theorem CoSay.below {W W' : World} {B : Nat} {L S : Int} {n : Nat} {ds : List Nat} {E : Int} {l s : Int} {k : Nat} {a : Option Addr} {c : Nat} (h : CoSay W B L S n ds E l s k a c) (hb : Below W.heap.size W W') : CoSay W' B L S n ds E l s k a c :=
  ⟨fun e => by
    obtain ⟨h1, h2, h3, h4⟩ := h.ok e
    exact ⟨h1, h2, h3, h4.below hb⟩, h.bad⟩
theorem CoSay.mono {W : World} {B B' : Nat} {L S : Int} {n : Nat} {ds : List Nat} {E : Int} {l s : Int} {k : Nat} {a : Option Addr} {c : Nat} (h : CoSay W B L S n ds E l s k a c) (hb : B' ≤ B) : CoSay W B' L S n ds E l s k a c :=
  ⟨fun e => by
    obtain ⟨h1, h2, h3, h4⟩ := h.ok e
    exact ⟨h1, h2, h3, h4.mono hb⟩, h.bad⟩
theorem CoSay.set {W : World} {B : Nat} {L S : Int} {n : Nat} {ds : List Nat} {E : Int} {l s : Int} {k : Nat} {a : Option Addr} {c : Nat} (h : CoSay W B L S n ds E l s k a c) {p : Addr} (hp : p.block < B) (v : Value) : CoSay (W.setCell p v) B L S n ds E l s k a c :=
  ⟨fun e => by
    obtain ⟨h1, h2, h3, h4⟩ := h.ok e
    exact ⟨h1, h2, h3, h4.set hp v⟩, h.bad⟩
theorem coh_det (L S : Int) (n cap : Nat) (f : Nat → Nat × Nat) (a : Option Addr) (L' S' : Int) (n' cap' : Nat) (f' : Nat → Nat × Nat) (a' : Option Addr) (half : Int) (w : World) (hl : n ≤ 100000) (hl' : n' ≤ 100000) (hd : DataAt w L S n f a) (hd' : DataAt w L' S' n' f' a') {E : Int} (hE : cohE L S n f L' S' n' f' half = E) :
    Calls Tryz.prog 8 #[.agg #[.int .i64 L, .int .i64 S, .slice a n cap], .agg #[.int .i64 L', .int .i64 S', .slice a' n' cap'], .int .i64 half] w
      fun e w' => ∃ l s k q c, e = .returned (.tuple #[.agg #[.int .i64 l, .int .i64 s, .slice q k c], .int .i64 E]) ∧ CoSay w' w.heap.size L S n (cohD L S n f f' half) E l s k q c ∧ Below w.heap.size w w' := by
  by_cases h0 : E = 0
  · subst h0
    obtain ⟨e0, ew⟩ := first2_z (show first2 (pairE L S n f L' S' n' f') (winE half) = 0 from hE)
    have hh : 0 ≤ half ∧ half ≤ 4 := by
      unfold winE at ew
      split at ew
      · rename_i h; exact inE_iff.1 h
      · exact absurd ew (by decide)
    obtain ⟨e1, e2, rfl, rfl⟩ := pairE_zero e0
    obtain ⟨s1, g1⟩ := imgE_zero e1
    obtain ⟨⟨l1, l2⟩, ⟨l3, l4⟩, -⟩ := sizeE_okU s1
    obtain ⟨L, rfl⟩ := Int.eq_ofNat_of_zero_le (show 0 ≤ L by omega)
    obtain ⟨S, rfl⟩ := Int.eq_ofNat_of_zero_le (show 0 ≤ S by omega)
    obtain ⟨half, rfl⟩ := Int.eq_ofNat_of_zero_le hh.1
    refine (coherence_ok L S n cap f a n' cap' f' a' half w hl hl' hd hd' hE).mono ?_
    rintro e w' ⟨q, c, rfl, ho, hb⟩
    exact ⟨_, _, _, q, c, rfl, ⟨fun _ => ⟨rfl, rfl, rfl, ho⟩, fun h => absurd rfl h⟩, hb⟩
  · refine (coherence_bad L S n cap f a L' S' n' cap' f' a' half w hl hl' hd hd' hE h0).mono ?_
    rintro e w' ⟨rfl, hb⟩
    exact ⟨0, 0, 0, none, 0, rfl, ⟨fun h => absurd h h0, fun _ => ⟨rfl, rfl, rfl⟩⟩, hb⟩
/-- A grid of floats that is returned, its size in integers. -/
def GfPostI (L S : Int) (n : Nat) (ds : List Nat) (w : World) (e : Ending) (w' : World) : Prop :=
  ∃ a c, e = .returned (.agg #[.int .i64 L, .int .i64 S, .slice a n c]) ∧ OwnFV w.heap.size w' (.slice a n c) ds ∧ Below w.heap.size w w'
theorem rCoherence_of {L S : Int} {n n' : Nat} {f f' : Nat → Nat × Nat} {half : Int} (hE : cohE L S n f L S n' f' half = 0) (hnn : n' = n) (W : World) (a1 : Option Addr) (c1 : Nat) (a2 : Option Addr) (c2 : Nat) {B1 B2 : Nat} {Wa Wb : World}
    (h1 : 0 < n → ∃ g, a1 = some ⟨g, 0, none⟩ ∧ B1 ≤ g ∧ g < Wa.heap.size ∧ SamplesAt Wa g 0 n f) (b1 : Below Wa.heap.size Wa W) (h2 : 0 < n' → ∃ g, a2 = some ⟨g, 0, none⟩ ∧ B2 ≤ g ∧ g < Wb.heap.size ∧ SamplesAt Wb g 0 n' f') (b2 : Below Wb.heap.size Wb W) :
    Calls Tryz.prog 14 #[.agg #[.int .i64 L, .int .i64 S, .slice a1 n c1], .agg #[.int .i64 L, .int .i64 S, .slice a2 n' c2], .int .i64 half] W (GfPostI L S n (cohD L S n f f' half) W) := by
  subst hnn
  obtain ⟨e0, ew⟩ := first2_z (show first2 (pairE L S n' f L S n' f') (winE half) = 0 from hE)
  have hh : 0 ≤ half ∧ half ≤ 4 := by
    unfold winE at ew
    split at ew
    · rename_i h; exact inE_iff.1 h
    · exact absurd ew (by decide)
  obtain ⟨e1, e2, -, -⟩ := pairE_zero e0
  obtain ⟨s1, g1⟩ := imgE_zero e1
  obtain ⟨s2, g2⟩ := imgE_zero e2
  obtain ⟨⟨l1, l2⟩, ⟨l3, l4⟩, hn⟩ := sizeE_okU s1
  obtain ⟨L, rfl⟩ := Int.eq_ofNat_of_zero_le (show 0 ≤ L by omega)
  obtain ⟨S, rfl⟩ := Int.eq_ofNat_of_zero_le (show 0 ≤ S by omega)
  obtain ⟨half, rfl⟩ := Int.eq_ofNat_of_zero_le hh.1
  have hn : n' = L * S := by exact_mod_cast hn
  have h0 : 0 < n' := by rw [hn]; exact Nat.mul_pos (by omega) (by omega)
  obtain ⟨g1, rfl, -, hg1, hs1⟩ := h1 h0
  obtain ⟨g2, rfl, -, hg2, hs2⟩ := h2 h0
  exact rCoherence L S n' c1 g1 0 c2 g2 0 half f f' W hn (by omega) (by omega) (by omega) (by omega) (by omega) (by have := b1.size; omega) (by have := b2.size; omega) (hs1.below hg1 b1) (hs2.below hg2 b2) (smallS_of (by decide) (by assumption)) (smallS_of (by decide) (by assumption))
end Go.Proofs.YtkoiknmijjiicaaGreatDoor
