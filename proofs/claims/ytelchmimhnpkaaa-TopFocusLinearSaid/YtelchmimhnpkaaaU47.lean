/- Chapter 1: Added. -/
import Derived.Test.YtelchmimhnpkaaaU46
import Derived.Test.YtelchmimhnpkaaaU33
import Derived.Deep.CutRange
import Derived.Deep.RegionHeld3
namespace Go.Proofs.Ytelchmimhnpkaaa
set_option linter.unusedVariables false
open Go.RowKit Ntt
/-- The sum that Added returns, in memory of its own. -/
def AddOk (W : World) (base : Nat) (L S : Int) (n : Nat) (f : Nat → Nat × Nat) (L' S' : Int) (m : Nat) (g : Nat → Nat × Nat) (l s : Int) (n' : Nat) (a : Option Addr) : Prop :=
  ∃ L0 S0 : Nat, (L = L0 ∧ S = S0 ∧ L' = L0 ∧ S' = S0) ∧ (1 ≤ L0 ∧ L0 ≤ 64 ∧ 1 ≤ S0 ∧ S0 ≤ 64) ∧ n = L0 * S0 ∧ m = L0 * S0 ∧ l = L0 ∧ s = S0 ∧ n' = L0 * S0 ∧ SmallS n f (xB f) (yB f) 2047 ∧ SmallS n g (xB g) (yB g) 2047 ∧ SmallS n (addB f g) (xB (addB f g)) (yB (addB f g)) 2047 ∧
    (0 < n' → ∃ gg, a = some ⟨gg, 0, none⟩ ∧ base ≤ gg ∧ gg < W.heap.size ∧ SamplesAt W gg 0 n' (addB f g))
def AddAny (L S : Int) (n : Nat) (f : Nat → Nat × Nat) (L' S' : Int) (m : Nat) (g : Nat → Nat × Nat) (w : World) (e : Ending) (w' : World) : Prop :=
  ∃ l s n' a c e0, e = .returned (.tuple #[.agg #[.int .i64 l, .int .i64 s, .slice a n' c], .int .i64 e0]) ∧ (e0 = 0 → AddOk w' w.heap.size L S n f L' S' m g l s n' a ∧ n' ≤ c) ∧ Below w.heap.size w w'
theorem own_step2 {W W' : World} {B n : Nat} {a : Option Addr} {f : Nat → Nat × Nat} (h : 0 < n → ∃ g, a = some ⟨g, 0, none⟩ ∧ B ≤ g ∧ g < W.heap.size ∧ SamplesAt W g 0 n f) (hb : Below W.heap.size W W') : 0 < n → ∃ g, a = some ⟨g, 0, none⟩ ∧ B ≤ g ∧ g < W'.heap.size ∧ SamplesAt W' g 0 n f := fun h0 => by
  obtain ⟨g, h1, h2, h3, h4⟩ := h h0
  exact ⟨g, h1, h2, by have := hb.size; omega, h4.below h3 hb⟩
/-- The boxes of Added: two images, and the result. -/
structure AdSt (w : World) (L S : Int) (a : Option Addr) (n cap : Nat) (L' S' : Int) (b : Option Addr) (m bcap : Nat) (W : World) : Prop where
  a0 : W.cell? ⟨w.heap.size, 0, none⟩ = some (.int .i64 L)
  a1 : W.cell? ⟨w.heap.size, 1, none⟩ = some (.int .i64 S)
  a2 : W.cell? ⟨w.heap.size, 2, none⟩ = some (.slice a n cap)
  b0 : W.cell? ⟨w.heap.size + 1, 0, none⟩ = some (.int .i64 L')
  b1 : W.cell? ⟨w.heap.size + 1, 1, none⟩ = some (.int .i64 S')
  b2 : W.cell? ⟨w.heap.size + 1, 2, none⟩ = some (.slice b m bcap)
  r0 : W.cell? ⟨w.heap.size + 2, 0, none⟩ = some (.int .i64 0)
  r1 : W.cell? ⟨w.heap.size + 2, 1, none⟩ = some (.int .i64 0)
  r2 : W.cell? ⟨w.heap.size + 2, 2, none⟩ = some (.slice none 0 0)
  g0 : W.frozen? ⟨w.heap.size + 2, 0, none⟩ = false
  g1 : W.frozen? ⟨w.heap.size + 2, 1, none⟩ = false
  g2 : W.frozen? ⟨w.heap.size + 2, 2, none⟩ = false
  bel : Below w.heap.size w W
  lt : w.heap.size + 2 < W.heap.size
theorem AdSt.below {w W W' : World} {L S L' S' : Int} {a b : Option Addr} {n cap m bcap : Nat} (h : AdSt w L S a n cap L' S' b m bcap W) (hb : Below W.heap.size W W') : AdSt w L S a n cap L' S' b m bcap W' := by
  have hlt := h.lt
  have hs := hb.size
  have q1 : ∀ j, W'.cell? ⟨w.heap.size, j, none⟩ = W.cell? ⟨w.heap.size, j, none⟩ := fun j => hb.cell (p := ⟨w.heap.size, j, none⟩) (show w.heap.size < W.heap.size by omega)
  have q2 : ∀ j, W'.cell? ⟨w.heap.size + 1, j, none⟩ = W.cell? ⟨w.heap.size + 1, j, none⟩ := fun j => hb.cell (p := ⟨w.heap.size + 1, j, none⟩) (show w.heap.size + 1 < W.heap.size by omega)
  have q3 : ∀ j, W'.cell? ⟨w.heap.size + 2, j, none⟩ = W.cell? ⟨w.heap.size + 2, j, none⟩ := fun j => hb.cell (p := ⟨w.heap.size + 2, j, none⟩) hlt
  have f3 : ∀ j, W'.frozen? ⟨w.heap.size + 2, j, none⟩ = W.frozen? ⟨w.heap.size + 2, j, none⟩ := fun j => hb.frozen (p := ⟨w.heap.size + 2, j, none⟩) hlt
  exact ⟨(q1 0).trans h.a0, (q1 1).trans h.a1, (q1 2).trans h.a2, (q2 0).trans h.b0, (q2 1).trans h.b1, (q2 2).trans h.b2, (q3 0).trans h.r0, (q3 1).trans h.r1, (q3 2).trans h.r2, (f3 0).trans h.g0, (f3 1).trans h.g1, (f3 2).trans h.g2, h.bel.trans (hb.mono (by omega)), by omega⟩
set_option maxHeartbeats 2000000 in
theorem added_bad (L S L' S' : Int) (n cap m bcap : Nat) (f g : Nat → Nat × Nat) (a b : Option Addr) (w : World) (hn : n ≤ 100000) (hm : m ≤ 100000) (hda : DataAt w L S n f a) (hdb : DataAt w L' S' m g b) {e0 : Int} (he : first2 (imgE L S n f).2 (imgE L' S' m g).2 = e0) (h0 : e0 ≠ 0) :
    Calls Try.prog 20 #[.agg #[.int .i64 L, .int .i64 S, .slice a n cap], .agg #[.int .i64 L', .int .i64 S', .slice b m bcap]] w fun e w' => e = .returned (.tuple #[.agg #[.int .i64 0, .int .i64 0, .slice none 0 0], .int .i64 e0]) ∧ Below w.heap.size w w' := by
  have HEA := Lib.hid (show ∀ W, Below w.heap.size w W → _ from fun W hW => imageErr_any L S n cap f a W hn (hda.below hW) rfl)
  have HEB := Lib.hid (show ∀ W, Below w.heap.size w W → _ from fun W hW => imageErr_any L' S' m bcap g b W hm (hdb.below hW) rfl)
  have HF := Lib.hid he
  have hne : (e0 != 0) = true := by simpa using h0
  clear he h0 hda hdb
  generalize (imgE L S n f).2 = z1 at HEA HF
  generalize (imgE L' S' m g).2 = z2 at HEB HF
  go_enter Try.func20, Try.ntmps20
  go_wp2
  refine wp_worldI (AdSt w L S a n cap L' S' b m bcap) ⟨(by simp [go_sem]), (by simp [go_sem]), (by simp [go_sem]), (by simp [go_sem]), (by simp [go_sem]), (by simp [go_sem]), (by simp [go_sem]), (by simp [go_sem]), (by simp [go_sem]), (by simp [go_sem]), (by simp [go_sem]), (by simp [go_sem]), (by (repeat' (first | with_reducible exact Below.refl _ _ | (with_reducible refine below_later_of ?_ ?_ _) | (with_reducible refine Below.alloc ?_ ?_ _) | (with_reducible refine Below.setCell ?_ ?_ _) | (with_reducible refine Below.drew ?_) | (simp; done) | (simp; omega) | omega))), by simp⟩ ?_
  rintro W1 hst
  have HST := Lib.hid hst
  have HEA1 := Lib.hid (show ∀ W, Below W1.heap.size W1 W → _ from fun W hW => HEA.out W (hst.bel.trans (hW.mono hst.bel.size)))
  have HEB1 := Lib.hid (show ∀ W, Below W1.heap.size W1 W → _ from fun W hW => HEB.out W (hst.bel.trans (hW.mono hst.bel.size)))
  obtain ⟨k0, k1, k2, j0, j1, j2, -, -, -, -, -, -, -, lt1⟩ := hst
  clear HEA HEB
  go_cut [6] from 8 to 14 (fun X wx => X = .int .i64 e0 ∧ Below W1.heap.size W1 wx)
  case first =>
    go_region_held3 (fun w' => w'.cell? ⟨w.heap.size, 0, none⟩ = some (.int .i64 L) ∧ w'.cell? ⟨w.heap.size, 1, none⟩ = some (.int .i64 S) ∧ w'.cell? ⟨w.heap.size, 2, none⟩ = some (.slice a n cap) ∧ w'.cell? ⟨w.heap.size + 1, 0, none⟩ = some (.int .i64 L') ∧ w'.cell? ⟨w.heap.size + 1, 1, none⟩ = some (.int .i64 S') ∧ w'.cell? ⟨w.heap.size + 1, 2, none⟩ = some (.slice b m bcap)) (first | exact ⟨k0, k1, k2, j0, j1, j2⟩ | ((first | (simp [go_sem, k0, k1, k2, j0, j1, j2]; done) | simp [go_sem, k0, k1, k2, j0, j1, j2, ↓IntWalk.iteOmega]); done)) (first | (go_at_call 58; (with_reducible refine (HEA1.out _ (by (repeat' (first | with_reducible exact Below.refl _ _ | (with_reducible refine below_later_of ?_ ?_ _) | (with_reducible refine Below.alloc ?_ ?_ _) | (with_reducible refine Below.setCell ?_ ?_ _) | (with_reducible refine Below.drew ?_) | (simp; done) | (simp; omega) | omega)))).mono ?_); rintro e w' ⟨rfl, hb⟩; obtain ⟨pp, rfl⟩ := later_of_below hb; clear hb) | (go_at_call 58; (with_reducible refine (HEB1.out _ (by (repeat' (first | with_reducible exact Below.refl _ _ | (with_reducible refine below_later_of ?_ ?_ _) | (with_reducible refine Below.alloc ?_ ?_ _) | (with_reducible refine Below.setCell ?_ ?_ _) | (with_reducible refine Below.drew ?_) | (simp; done) | (simp; omega) | omega)))).mono ?_); rintro e w' ⟨rfl, hb⟩; obtain ⟨pp2, rfl⟩ := later_of_below hb; clear hb) | (go_at_call 57; refine (first_e _ _ _ _ HF.out (by (first | (simp [go_sem]; done) | simp [go_sem, ↓IntWalk.iteOmega])) (by (first | (simp [go_sem]; done) | simp [go_sem, ↓IntWalk.iteOmega]))).mono ?_; rintro e w' ⟨rfl, rfl⟩))
    all_goals
      rename_i hheld
      clear hheld
      go_wp2_with fail
      go_meet
      exact ⟨rfl, (by (repeat' (first | with_reducible exact Below.refl _ _ | (with_reducible refine below_later_of ?_ ?_ _) | (with_reducible refine Below.alloc ?_ ?_ _) | (with_reducible refine Below.setCell ?_ ?_ _) | (with_reducible refine Below.drew ?_) | (simp; done) | (simp; omega) | omega)))⟩
  case rest =>
    obtain ⟨rfl, hb⟩ := hcut
    obtain ⟨W3, hW3⟩ : ∃ W3 : World, W3 = wc := ⟨_, rfl⟩
    subst hW3
    have HS3 := Lib.hid (HST.out.below hb)
    clear hb k0 k1 k2 j0 j1 j2 HEA1 HEB1 HST
    obtain ⟨k0, k1, k2, j0, j1, j2, r0, r1, r2, g0, g1, g2, bel, lt⟩ := HS3.out
    go_wp2
    refine bodyPost_ret ?_ rfl ⟨rfl, bel.trans (by (repeat' (first | with_reducible exact Below.refl _ _ | (with_reducible refine below_later_of ?_ ?_ _) | (with_reducible refine Below.alloc ?_ ?_ _) | (with_reducible refine Below.setCell ?_ ?_ _) | (with_reducible refine Below.drew ?_) | (simp; done) | (simp; omega) | omega)))⟩
    first | (simp [results, Try.results20, go_sem, r0, r1, r2]; done) | simp [results, Try.results20, go_sem, r0, r1, r2, ↓IntWalk.iteOmega]
set_option maxHeartbeats 2000000 in
theorem added_clash (L S L' S' : Int) (n cap m bcap : Nat) (f g : Nat → Nat × Nat) (a b : Option Addr) (w : World) (hn : n ≤ 100000) (hm : m ≤ 100000) (hda : DataAt w L S n f a) (hdb : DataAt w L' S' m g b) (he : first2 (imgE L S n f).2 (imgE L' S' m g).2 = 0) (h0 : L ≠ L' ∨ L = L' ∧ S ≠ S') :
    Calls Try.prog 20 #[.agg #[.int .i64 L, .int .i64 S, .slice a n cap], .agg #[.int .i64 L', .int .i64 S', .slice b m bcap]] w fun e w' => e = .returned (.tuple #[.agg #[.int .i64 0, .int .i64 0, .slice none 0 0], .int .i64 13]) ∧ Below w.heap.size w w' := by
  have HEA := Lib.hid (show ∀ W, Below w.heap.size w W → _ from fun W hW => imageErr_any L S n cap f a W hn (hda.below hW) rfl)
  have HEB := Lib.hid (show ∀ W, Below w.heap.size w W → _ from fun W hW => imageErr_any L' S' m bcap g b W hm (hdb.below hW) rfl)
  have HF := Lib.hid he
  clear he hda hdb
  generalize (imgE L S n f).2 = z1 at HEA HF
  generalize (imgE L' S' m g).2 = z2 at HEB HF
  rcases h0 with h0 | ⟨h1, h0⟩
  · have hne : (L != L') = true := by simpa using h0
    clear h0
    go_enter Try.func20, Try.ntmps20
    go_wp2
    refine wp_worldI (AdSt w L S a n cap L' S' b m bcap) ⟨(by simp [go_sem]), (by simp [go_sem]), (by simp [go_sem]), (by simp [go_sem]), (by simp [go_sem]), (by simp [go_sem]), (by simp [go_sem]), (by simp [go_sem]), (by simp [go_sem]), (by simp [go_sem]), (by simp [go_sem]), (by simp [go_sem]), (by (repeat' (first | with_reducible exact Below.refl _ _ | (with_reducible refine below_later_of ?_ ?_ _) | (with_reducible refine Below.alloc ?_ ?_ _) | (with_reducible refine Below.setCell ?_ ?_ _) | (with_reducible refine Below.drew ?_) | (simp; done) | (simp; omega) | omega))), by simp⟩ ?_
    rintro W1 hst
    have HST := Lib.hid hst
    have HEA1 := Lib.hid (show ∀ W, Below W1.heap.size W1 W → _ from fun W hW => HEA.out W (hst.bel.trans (hW.mono hst.bel.size)))
    have HEB1 := Lib.hid (show ∀ W, Below W1.heap.size W1 W → _ from fun W hW => HEB.out W (hst.bel.trans (hW.mono hst.bel.size)))
    obtain ⟨k0, k1, k2, j0, j1, j2, -, -, -, -, -, -, -, lt1⟩ := hst
    clear HEA HEB
    go_cut [6] from 8 to 14 (fun X wx => X = .int .i64 0 ∧ Below W1.heap.size W1 wx)
    case first =>
      go_region_held3 (fun w' => w'.cell? ⟨w.heap.size, 0, none⟩ = some (.int .i64 L) ∧ w'.cell? ⟨w.heap.size, 1, none⟩ = some (.int .i64 S) ∧ w'.cell? ⟨w.heap.size, 2, none⟩ = some (.slice a n cap) ∧ w'.cell? ⟨w.heap.size + 1, 0, none⟩ = some (.int .i64 L') ∧ w'.cell? ⟨w.heap.size + 1, 1, none⟩ = some (.int .i64 S') ∧ w'.cell? ⟨w.heap.size + 1, 2, none⟩ = some (.slice b m bcap)) (first | exact ⟨k0, k1, k2, j0, j1, j2⟩ | ((first | (simp [go_sem, k0, k1, k2, j0, j1, j2]; done) | simp [go_sem, k0, k1, k2, j0, j1, j2, ↓IntWalk.iteOmega]); done)) (first | (go_at_call 58; (with_reducible refine (HEA1.out _ (by (repeat' (first | with_reducible exact Below.refl _ _ | (with_reducible refine below_later_of ?_ ?_ _) | (with_reducible refine Below.alloc ?_ ?_ _) | (with_reducible refine Below.setCell ?_ ?_ _) | (with_reducible refine Below.drew ?_) | (simp; done) | (simp; omega) | omega)))).mono ?_); rintro e w' ⟨rfl, hb⟩; obtain ⟨pp, rfl⟩ := later_of_below hb; clear hb) | (go_at_call 58; (with_reducible refine (HEB1.out _ (by (repeat' (first | with_reducible exact Below.refl _ _ | (with_reducible refine below_later_of ?_ ?_ _) | (with_reducible refine Below.alloc ?_ ?_ _) | (with_reducible refine Below.setCell ?_ ?_ _) | (with_reducible refine Below.drew ?_) | (simp; done) | (simp; omega) | omega)))).mono ?_); rintro e w' ⟨rfl, hb⟩; obtain ⟨pp2, rfl⟩ := later_of_below hb; clear hb) | (go_at_call 57; refine (first_e _ _ _ _ HF.out (by (first | (simp [go_sem]; done) | simp [go_sem, ↓IntWalk.iteOmega])) (by (first | (simp [go_sem]; done) | simp [go_sem, ↓IntWalk.iteOmega]))).mono ?_; rintro e w' ⟨rfl, rfl⟩))
      all_goals
        rename_i hheld
        clear hheld
        go_wp2_with fail
        go_meet
        exact ⟨rfl, (by (repeat' (first | with_reducible exact Below.refl _ _ | (with_reducible refine below_later_of ?_ ?_ _) | (with_reducible refine Below.alloc ?_ ?_ _) | (with_reducible refine Below.setCell ?_ ?_ _) | (with_reducible refine Below.drew ?_) | (simp; done) | (simp; omega) | omega)))⟩
    case rest =>
      obtain ⟨rfl, hb⟩ := hcut
      obtain ⟨W3, hW3⟩ : ∃ W3 : World, W3 = wc := ⟨_, rfl⟩
      subst hW3
      have HS3 := Lib.hid (HST.out.below hb)
      clear hb k0 k1 k2 j0 j1 j2 HEA1 HEB1 HST
      obtain ⟨k0, k1, k2, j0, j1, j2, r0, r1, r2, g0, g1, g2, bel, lt⟩ := HS3.out
      go_wp2
      refine bodyPost_ret ?_ rfl ⟨rfl, bel.trans (by (repeat' (first | with_reducible exact Below.refl _ _ | (with_reducible refine below_later_of ?_ ?_ _) | (with_reducible refine Below.alloc ?_ ?_ _) | (with_reducible refine Below.setCell ?_ ?_ _) | (with_reducible refine Below.drew ?_) | (simp; done) | (simp; omega) | omega)))⟩
      first | (simp [results, Try.results20, go_sem, r0, r1, r2]; done) | simp [results, Try.results20, go_sem, r0, r1, r2, ↓IntWalk.iteOmega]
  · have hne : (S != S') = true := by simpa using h0
    have hne0 : (L != L') = false := by simpa using h1
    clear h0 h1
    go_enter Try.func20, Try.ntmps20
    go_wp2
    refine wp_worldI (AdSt w L S a n cap L' S' b m bcap) ⟨(by simp [go_sem]), (by simp [go_sem]), (by simp [go_sem]), (by simp [go_sem]), (by simp [go_sem]), (by simp [go_sem]), (by simp [go_sem]), (by simp [go_sem]), (by simp [go_sem]), (by simp [go_sem]), (by simp [go_sem]), (by simp [go_sem]), (by (repeat' (first | with_reducible exact Below.refl _ _ | (with_reducible refine below_later_of ?_ ?_ _) | (with_reducible refine Below.alloc ?_ ?_ _) | (with_reducible refine Below.setCell ?_ ?_ _) | (with_reducible refine Below.drew ?_) | (simp; done) | (simp; omega) | omega))), by simp⟩ ?_
    rintro W1 hst
    have HST := Lib.hid hst
    have HEA1 := Lib.hid (show ∀ W, Below W1.heap.size W1 W → _ from fun W hW => HEA.out W (hst.bel.trans (hW.mono hst.bel.size)))
    have HEB1 := Lib.hid (show ∀ W, Below W1.heap.size W1 W → _ from fun W hW => HEB.out W (hst.bel.trans (hW.mono hst.bel.size)))
    obtain ⟨k0, k1, k2, j0, j1, j2, -, -, -, -, -, -, -, lt1⟩ := hst
    clear HEA HEB
    go_cut [6] from 8 to 14 (fun X wx => X = .int .i64 0 ∧ Below W1.heap.size W1 wx)
    case first =>
      go_region_held3 (fun w' => w'.cell? ⟨w.heap.size, 0, none⟩ = some (.int .i64 L) ∧ w'.cell? ⟨w.heap.size, 1, none⟩ = some (.int .i64 S) ∧ w'.cell? ⟨w.heap.size, 2, none⟩ = some (.slice a n cap) ∧ w'.cell? ⟨w.heap.size + 1, 0, none⟩ = some (.int .i64 L') ∧ w'.cell? ⟨w.heap.size + 1, 1, none⟩ = some (.int .i64 S') ∧ w'.cell? ⟨w.heap.size + 1, 2, none⟩ = some (.slice b m bcap)) (first | exact ⟨k0, k1, k2, j0, j1, j2⟩ | ((first | (simp [go_sem, k0, k1, k2, j0, j1, j2]; done) | simp [go_sem, k0, k1, k2, j0, j1, j2, ↓IntWalk.iteOmega]); done)) (first | (go_at_call 58; (with_reducible refine (HEA1.out _ (by (repeat' (first | with_reducible exact Below.refl _ _ | (with_reducible refine below_later_of ?_ ?_ _) | (with_reducible refine Below.alloc ?_ ?_ _) | (with_reducible refine Below.setCell ?_ ?_ _) | (with_reducible refine Below.drew ?_) | (simp; done) | (simp; omega) | omega)))).mono ?_); rintro e w' ⟨rfl, hb⟩; obtain ⟨pp, rfl⟩ := later_of_below hb; clear hb) | (go_at_call 58; (with_reducible refine (HEB1.out _ (by (repeat' (first | with_reducible exact Below.refl _ _ | (with_reducible refine below_later_of ?_ ?_ _) | (with_reducible refine Below.alloc ?_ ?_ _) | (with_reducible refine Below.setCell ?_ ?_ _) | (with_reducible refine Below.drew ?_) | (simp; done) | (simp; omega) | omega)))).mono ?_); rintro e w' ⟨rfl, hb⟩; obtain ⟨pp2, rfl⟩ := later_of_below hb; clear hb) | (go_at_call 57; refine (first_e _ _ _ _ HF.out (by (first | (simp [go_sem]; done) | simp [go_sem, ↓IntWalk.iteOmega])) (by (first | (simp [go_sem]; done) | simp [go_sem, ↓IntWalk.iteOmega]))).mono ?_; rintro e w' ⟨rfl, rfl⟩))
      all_goals
        rename_i hheld
        clear hheld
        go_wp2_with fail
        go_meet
        exact ⟨rfl, (by (repeat' (first | with_reducible exact Below.refl _ _ | (with_reducible refine below_later_of ?_ ?_ _) | (with_reducible refine Below.alloc ?_ ?_ _) | (with_reducible refine Below.setCell ?_ ?_ _) | (with_reducible refine Below.drew ?_) | (simp; done) | (simp; omega) | omega)))⟩
    case rest =>
      obtain ⟨rfl, hb⟩ := hcut
      obtain ⟨W3, hW3⟩ : ∃ W3 : World, W3 = wc := ⟨_, rfl⟩
      subst hW3
      have HS3 := Lib.hid (HST.out.below hb)
      clear hb k0 k1 k2 j0 j1 j2 HEA1 HEB1 HST
      obtain ⟨k0, k1, k2, j0, j1, j2, r0, r1, r2, g0, g1, g2, bel, lt⟩ := HS3.out
      go_wp2
      refine bodyPost_ret ?_ rfl ⟨rfl, bel.trans (by (repeat' (first | with_reducible exact Below.refl _ _ | (with_reducible refine below_later_of ?_ ?_ _) | (with_reducible refine Below.alloc ?_ ?_ _) | (with_reducible refine Below.setCell ?_ ?_ _) | (with_reducible refine Below.drew ?_) | (simp; done) | (simp; omega) | omega)))⟩
      first | (simp [results, Try.results20, go_sem, r0, r1, r2]; done) | simp [results, Try.results20, go_sem, r0, r1, r2, ↓IntWalk.iteOmega]
set_option maxHeartbeats 2000000 in
theorem added_large (L S : Nat) (n cap bcap : Nat) (f g : Nat → Nat × Nat) (a b : Option Addr) (w : World) (hn : n ≤ 100000) (hda : DataAt w L S n f a) (hdb : DataAt w L S n g b) (he : first2 (imgE L S n f).2 (imgE L S n g).2 = 0) {e1 : Int} (h0 : (imgE L S n (addB f g)).2 = e1) (hne' : e1 ≠ 0) :
    Calls Try.prog 20 #[.agg #[.int .i64 L, .int .i64 S, .slice a n cap], .agg #[.int .i64 L, .int .i64 S, .slice b n bcap]] w fun e w' => e = .returned (.tuple #[.agg #[.int .i64 0, .int .i64 0, .slice none 0 0], .int .i64 8]) ∧ Below w.heap.size w w' := by
  have hne : (e1 != 0) = true := by simpa using hne'
  clear hne'
  have HEA := Lib.hid (show ∀ W, Below w.heap.size w W → _ from fun W hW => imageErr_any L S n cap f a W hn (hda.below hW) rfl)
  have HEB := Lib.hid (show ∀ W, Below w.heap.size w W → _ from fun W hW => imageErr_any L S n bcap g b W hn (hdb.below hW) rfl)
  have HF := Lib.hid he
  obtain ⟨he1, he2⟩ := first2_zero he
  obtain ⟨hs, hg⟩ := imgE_zero he1
  obtain ⟨-, hg2⟩ := imgE_zero he2
  obtain ⟨⟨l1, l2⟩, ⟨s1, s2⟩, hnn⟩ := sizeE_zero hs
  obtain ⟨ab, aoff, rfl, haw, hfa⟩ := hda hs
  obtain ⟨bb, boff, rfl, hbw, hfb⟩ := hdb hs
  have HIM := Lib.hid (show ∀ W, Below w.heap.size w W → w.heap.size + 1 < W.heap.size → ImgBlk W w.heap.size L S (some ⟨ab, aoff, none⟩) n cap → ImgBlk W (w.heap.size + 1) L S (some ⟨bb, boff, none⟩) n bcap → Calls Try.prog 67 #[.int .i64 L, .int .i64 S, .func (.func 68) #[] #[.pointer (some ⟨w.heap.size, 0, none⟩), .pointer (some ⟨w.heap.size + 1, 0, none⟩)]] W (ImPost L S n (addB f g) W) from fun W hW hlt h1 h2 => by
    have hsz := hW.size
    exact imageOf_add L S w.heap.size (w.heap.size + 1) ab aoff n cap bb boff bcap L L S f g W (by omega) (by omega) (by exact_mod_cast hnn) (by omega) hlt (by omega) (by omega) h1 h2 (hfa.below haw hW) (hfb.below hbw hW) (smallS_of (by decide) hg) (smallS_of (by decide) hg2))
  have HEO := Lib.hid (show ∀ W a c, DataAt W L S n (addB f g) a → _ from fun W a c h => imageErr_any L S n c (addB f g) a W hn h h0)
  clear he he1 he2 hs hg hg2 hnn hfa hfb hda hdb h0
  generalize (imgE L S n f).2 = z1 at HEA HF
  generalize (imgE L S n g).2 = z2 at HEB HF
  go_enter Try.func20, Try.ntmps20
  go_wp2
  refine wp_worldI (AdSt w L S (some ⟨ab, aoff, none⟩) n cap L S (some ⟨bb, boff, none⟩) n bcap) ⟨(by simp [go_sem]), (by simp [go_sem]), (by simp [go_sem]), (by simp [go_sem]), (by simp [go_sem]), (by simp [go_sem]), (by simp [go_sem]), (by simp [go_sem]), (by simp [go_sem]), (by simp [go_sem]), (by simp [go_sem]), (by simp [go_sem]), (by (repeat' (first | with_reducible exact Below.refl _ _ | (with_reducible refine below_later_of ?_ ?_ _) | (with_reducible refine Below.alloc ?_ ?_ _) | (with_reducible refine Below.setCell ?_ ?_ _) | (with_reducible refine Below.drew ?_) | (simp; done) | (simp; omega) | omega))), by simp⟩ ?_
  rintro W1 hst
  have HST := Lib.hid hst
  have HEA1 := Lib.hid (show ∀ W, Below W1.heap.size W1 W → _ from fun W hW => HEA.out W (hst.bel.trans (hW.mono hst.bel.size)))
  have HEB1 := Lib.hid (show ∀ W, Below W1.heap.size W1 W → _ from fun W hW => HEB.out W (hst.bel.trans (hW.mono hst.bel.size)))
  obtain ⟨k0, k1, k2, j0, j1, j2, -, -, -, -, -, -, -, lt1⟩ := hst
  clear HEA HEB
  go_cut [6] from 8 to 14 (fun X wx => X = .int .i64 0 ∧ Below W1.heap.size W1 wx)
  case first =>
    go_region_held3 (fun w' => w'.cell? ⟨w.heap.size, 0, none⟩ = some (.int .i64 L) ∧ w'.cell? ⟨w.heap.size, 1, none⟩ = some (.int .i64 S) ∧ w'.cell? ⟨w.heap.size, 2, none⟩ = some (.slice (some ⟨ab, aoff, none⟩) n cap) ∧ w'.cell? ⟨w.heap.size + 1, 0, none⟩ = some (.int .i64 L) ∧ w'.cell? ⟨w.heap.size + 1, 1, none⟩ = some (.int .i64 S) ∧ w'.cell? ⟨w.heap.size + 1, 2, none⟩ = some (.slice (some ⟨bb, boff, none⟩) n bcap)) (first | exact ⟨k0, k1, k2, j0, j1, j2⟩ | ((first | (simp [go_sem, k0, k1, k2, j0, j1, j2]; done) | simp [go_sem, k0, k1, k2, j0, j1, j2, ↓IntWalk.iteOmega]); done)) (first | (go_at_call 58; (with_reducible refine (HEA1.out _ (by (repeat' (first | with_reducible exact Below.refl _ _ | (with_reducible refine below_later_of ?_ ?_ _) | (with_reducible refine Below.alloc ?_ ?_ _) | (with_reducible refine Below.setCell ?_ ?_ _) | (with_reducible refine Below.drew ?_) | (simp; done) | (simp; omega) | omega)))).mono ?_); rintro e w' ⟨rfl, hb⟩; obtain ⟨pp, rfl⟩ := later_of_below hb; clear hb) | (go_at_call 58; (with_reducible refine (HEB1.out _ (by (repeat' (first | with_reducible exact Below.refl _ _ | (with_reducible refine below_later_of ?_ ?_ _) | (with_reducible refine Below.alloc ?_ ?_ _) | (with_reducible refine Below.setCell ?_ ?_ _) | (with_reducible refine Below.drew ?_) | (simp; done) | (simp; omega) | omega)))).mono ?_); rintro e w' ⟨rfl, hb⟩; obtain ⟨pp2, rfl⟩ := later_of_below hb; clear hb) | (go_at_call 57; refine (first_e _ _ _ _ HF.out (by (first | (simp [go_sem]; done) | simp [go_sem, ↓IntWalk.iteOmega])) (by (first | (simp [go_sem]; done) | simp [go_sem, ↓IntWalk.iteOmega]))).mono ?_; rintro e w' ⟨rfl, rfl⟩))
    all_goals
      rename_i hheld
      clear hheld
      go_wp2_with fail
      go_meet
      exact ⟨rfl, (by (repeat' (first | with_reducible exact Below.refl _ _ | (with_reducible refine below_later_of ?_ ?_ _) | (with_reducible refine Below.alloc ?_ ?_ _) | (with_reducible refine Below.setCell ?_ ?_ _) | (with_reducible refine Below.drew ?_) | (simp; done) | (simp; omega) | omega)))⟩
  case rest =>
    obtain ⟨rfl, hb⟩ := hcut
    obtain ⟨W3, hW3⟩ : ∃ W3 : World, W3 = wc := ⟨_, rfl⟩
    subst hW3
    have HS3 := Lib.hid (HST.out.below hb)
    clear hb k0 k1 k2 j0 j1 j2 HEA1 HEB1 HST
    obtain ⟨k0, k1, k2, j0, j1, j2, r0, r1, r2, g0, g1, g2, bel, lt⟩ := HS3.out
    go_wp2_with (first | (go_at_call 67; (with_reducible refine (HIM.out _ bel (by omega) (ImgBlk.mk' k0 k1 k2) (ImgBlk.mk' j0 j1 j2)).mono ?_); rintro e w' ⟨a', c', rfl, hfa, hcap, hb⟩; have HFA := Lib.hid hfa; clear hfa; obtain ⟨pp3, rfl⟩ := later_of_below hb; clear hb) | (go_at_call 58; (with_reducible refine (HEO.out _ _ _ (dataAt_own HFA.out (by (repeat' (first | with_reducible exact Below.refl _ _ | (with_reducible refine below_later_of ?_ ?_ _) | (with_reducible refine Below.alloc ?_ ?_ _) | (with_reducible refine Below.setCell ?_ ?_ _) | (with_reducible refine Below.drew ?_) | (simp; done) | (simp; omega) | omega))))).mono ?_); rintro e w' ⟨rfl, hb⟩; obtain ⟨pp4, rfl⟩ := later_of_below hb; clear hb))
    refine bodyPost_ret ?_ rfl ⟨rfl, bel.trans (by (repeat' (first | with_reducible exact Below.refl _ _ | (with_reducible refine below_later_of ?_ ?_ _) | (with_reducible refine Below.alloc ?_ ?_ _) | (with_reducible refine Below.setCell ?_ ?_ _) | (with_reducible refine Below.drew ?_) | (simp; done) | (simp; omega) | omega)))⟩
    first | (simp [results, Try.results20, go_sem, r0, r1, r2]; done) | simp [results, Try.results20, go_sem, r0, r1, r2, ↓IntWalk.iteOmega]
def AddOkPost (L S : Int) (n : Nat) (g : Nat → Nat × Nat) (w : World) (e : Ending) (w' : World) : Prop :=
  ∃ a c, e = .returned (.tuple #[.agg #[.int .i64 L, .int .i64 S, .slice a n c], .int .i64 0]) ∧ (0 < n → ∃ gg, a = some ⟨gg, 0, none⟩ ∧ w.heap.size ≤ gg ∧ gg < w'.heap.size ∧ SamplesAt w' gg 0 n g) ∧ n ≤ c ∧ Below w.heap.size w w'
set_option maxHeartbeats 2000000 in
theorem added_ok (L S : Nat) (n cap bcap : Nat) (f g : Nat → Nat × Nat) (a b : Option Addr) (w : World) (hn : n ≤ 100000) (hda : DataAt w L S n f a) (hdb : DataAt w L S n g b) (he : first2 (imgE L S n f).2 (imgE L S n g).2 = 0) (h0 : (imgE L S n (addB f g)).2 = 0) :
    Calls Try.prog 20 #[.agg #[.int .i64 L, .int .i64 S, .slice a n cap], .agg #[.int .i64 L, .int .i64 S, .slice b n bcap]] w (AddOkPost L S n (addB f g) w) := by
  have HEA := Lib.hid (show ∀ W, Below w.heap.size w W → _ from fun W hW => imageErr_any L S n cap f a W hn (hda.below hW) rfl)
  have HEB := Lib.hid (show ∀ W, Below w.heap.size w W → _ from fun W hW => imageErr_any L S n bcap g b W hn (hdb.below hW) rfl)
  have HF := Lib.hid he
  obtain ⟨he1, he2⟩ := first2_zero he
  obtain ⟨hs, hg⟩ := imgE_zero he1
  obtain ⟨-, hg2⟩ := imgE_zero he2
  obtain ⟨⟨l1, l2⟩, ⟨s1, s2⟩, hnn⟩ := sizeE_zero hs
  obtain ⟨ab, aoff, rfl, haw, hfa⟩ := hda hs
  obtain ⟨bb, boff, rfl, hbw, hfb⟩ := hdb hs
  have HIM := Lib.hid (show ∀ W, Below w.heap.size w W → w.heap.size + 1 < W.heap.size → ImgBlk W w.heap.size L S (some ⟨ab, aoff, none⟩) n cap → ImgBlk W (w.heap.size + 1) L S (some ⟨bb, boff, none⟩) n bcap → Calls Try.prog 67 #[.int .i64 L, .int .i64 S, .func (.func 68) #[] #[.pointer (some ⟨w.heap.size, 0, none⟩), .pointer (some ⟨w.heap.size + 1, 0, none⟩)]] W (ImPost L S n (addB f g) W) from fun W hW hlt h1 h2 => by
    have hsz := hW.size
    exact imageOf_add L S w.heap.size (w.heap.size + 1) ab aoff n cap bb boff bcap L L S f g W (by omega) (by omega) (by exact_mod_cast hnn) (by omega) hlt (by omega) (by omega) h1 h2 (hfa.below haw hW) (hfb.below hbw hW) (smallS_of (by decide) hg) (smallS_of (by decide) hg2))
  have HEO := Lib.hid (show ∀ W a c, DataAt W L S n (addB f g) a → _ from fun W a c h => imageErr_any L S n c (addB f g) a W hn h h0)
  clear he he1 he2 hs hg hg2 hnn hfa hfb hda hdb h0
  generalize (imgE L S n f).2 = z1 at HEA HF
  generalize (imgE L S n g).2 = z2 at HEB HF
  go_enter Try.func20, Try.ntmps20
  go_wp2
  refine wp_worldI (AdSt w L S (some ⟨ab, aoff, none⟩) n cap L S (some ⟨bb, boff, none⟩) n bcap) ⟨(by simp [go_sem]), (by simp [go_sem]), (by simp [go_sem]), (by simp [go_sem]), (by simp [go_sem]), (by simp [go_sem]), (by simp [go_sem]), (by simp [go_sem]), (by simp [go_sem]), (by simp [go_sem]), (by simp [go_sem]), (by simp [go_sem]), (by (repeat' (first | with_reducible exact Below.refl _ _ | (with_reducible refine below_later_of ?_ ?_ _) | (with_reducible refine Below.alloc ?_ ?_ _) | (with_reducible refine Below.setCell ?_ ?_ _) | (with_reducible refine Below.drew ?_) | (simp; done) | (simp; omega) | omega))), by simp⟩ ?_
  rintro W1 hst
  have HST := Lib.hid hst
  have HEA1 := Lib.hid (show ∀ W, Below W1.heap.size W1 W → _ from fun W hW => HEA.out W (hst.bel.trans (hW.mono hst.bel.size)))
  have HEB1 := Lib.hid (show ∀ W, Below W1.heap.size W1 W → _ from fun W hW => HEB.out W (hst.bel.trans (hW.mono hst.bel.size)))
  obtain ⟨k0, k1, k2, j0, j1, j2, -, -, -, -, -, -, -, lt1⟩ := hst
  clear HEA HEB
  go_cut [6] from 8 to 14 (fun X wx => X = .int .i64 0 ∧ Below W1.heap.size W1 wx)
  case first =>
    go_region_held3 (fun w' => w'.cell? ⟨w.heap.size, 0, none⟩ = some (.int .i64 L) ∧ w'.cell? ⟨w.heap.size, 1, none⟩ = some (.int .i64 S) ∧ w'.cell? ⟨w.heap.size, 2, none⟩ = some (.slice (some ⟨ab, aoff, none⟩) n cap) ∧ w'.cell? ⟨w.heap.size + 1, 0, none⟩ = some (.int .i64 L) ∧ w'.cell? ⟨w.heap.size + 1, 1, none⟩ = some (.int .i64 S) ∧ w'.cell? ⟨w.heap.size + 1, 2, none⟩ = some (.slice (some ⟨bb, boff, none⟩) n bcap)) (first | exact ⟨k0, k1, k2, j0, j1, j2⟩ | ((first | (simp [go_sem, k0, k1, k2, j0, j1, j2]; done) | simp [go_sem, k0, k1, k2, j0, j1, j2, ↓IntWalk.iteOmega]); done)) (first | (go_at_call 58; (with_reducible refine (HEA1.out _ (by (repeat' (first | with_reducible exact Below.refl _ _ | (with_reducible refine below_later_of ?_ ?_ _) | (with_reducible refine Below.alloc ?_ ?_ _) | (with_reducible refine Below.setCell ?_ ?_ _) | (with_reducible refine Below.drew ?_) | (simp; done) | (simp; omega) | omega)))).mono ?_); rintro e w' ⟨rfl, hb⟩; obtain ⟨pp, rfl⟩ := later_of_below hb; clear hb) | (go_at_call 58; (with_reducible refine (HEB1.out _ (by (repeat' (first | with_reducible exact Below.refl _ _ | (with_reducible refine below_later_of ?_ ?_ _) | (with_reducible refine Below.alloc ?_ ?_ _) | (with_reducible refine Below.setCell ?_ ?_ _) | (with_reducible refine Below.drew ?_) | (simp; done) | (simp; omega) | omega)))).mono ?_); rintro e w' ⟨rfl, hb⟩; obtain ⟨pp2, rfl⟩ := later_of_below hb; clear hb) | (go_at_call 57; refine (first_e _ _ _ _ HF.out (by (first | (simp [go_sem]; done) | simp [go_sem, ↓IntWalk.iteOmega])) (by (first | (simp [go_sem]; done) | simp [go_sem, ↓IntWalk.iteOmega]))).mono ?_; rintro e w' ⟨rfl, rfl⟩))
    all_goals
      rename_i hheld
      clear hheld
      go_wp2_with fail
      go_meet
      exact ⟨rfl, (by (repeat' (first | with_reducible exact Below.refl _ _ | (with_reducible refine below_later_of ?_ ?_ _) | (with_reducible refine Below.alloc ?_ ?_ _) | (with_reducible refine Below.setCell ?_ ?_ _) | (with_reducible refine Below.drew ?_) | (simp; done) | (simp; omega) | omega)))⟩
  case rest =>
    obtain ⟨rfl, hb⟩ := hcut
    obtain ⟨W3, hW3⟩ : ∃ W3 : World, W3 = wc := ⟨_, rfl⟩
    subst hW3
    have HS3 := Lib.hid (HST.out.below hb)
    clear hb k0 k1 k2 j0 j1 j2 HEA1 HEB1 HST
    obtain ⟨k0, k1, k2, j0, j1, j2, r0, r1, r2, g0, g1, g2, bel, lt⟩ := HS3.out
    go_wp2_with (first | (go_at_call 67; (with_reducible refine (HIM.out _ bel (by omega) (ImgBlk.mk' k0 k1 k2) (ImgBlk.mk' j0 j1 j2)).mono ?_); rintro e w' ⟨a', c', rfl, hfa, hcap, hb⟩; have HFA := Lib.hid hfa; clear hfa; obtain ⟨pp3, rfl⟩ := later_of_below hb; clear hb) | (go_at_call 58; (with_reducible refine (HEO.out _ _ _ (dataAt_own HFA.out (by (repeat' (first | with_reducible exact Below.refl _ _ | (with_reducible refine below_later_of ?_ ?_ _) | (with_reducible refine Below.alloc ?_ ?_ _) | (with_reducible refine Below.setCell ?_ ?_ _) | (with_reducible refine Below.drew ?_) | (simp; done) | (simp; omega) | omega))))).mono ?_); rintro e w' ⟨rfl, hb⟩; obtain ⟨pp4, rfl⟩ := later_of_below hb; clear hb))
    refine bodyPost_ret ?_ rfl ⟨a', c', rfl, ?_, hcap, bel.trans (by (repeat' (first | with_reducible exact Below.refl _ _ | (with_reducible refine below_later_of ?_ ?_ _) | (with_reducible refine Below.alloc ?_ ?_ _) | (with_reducible refine Below.setCell ?_ ?_ _) | (with_reducible refine Below.drew ?_) | (simp; done) | (simp; omega) | omega)))⟩
    · first | (simp [results, Try.results20, go_sem, r0, r1, r2]; done) | simp [results, Try.results20, go_sem, r0, r1, r2, ↓IntWalk.iteOmega]
    · refine own_mono (own_set (own_set (own_set (own_step2 HFA.out (by (repeat' (first | with_reducible exact Below.refl _ _ | (with_reducible refine below_later_of ?_ ?_ _) | (with_reducible refine Below.alloc ?_ ?_ _) | (with_reducible refine Below.setCell ?_ ?_ _) | (with_reducible refine Below.drew ?_) | (simp; done) | (simp; omega) | omega)))) ?_ _) ?_ _) ?_ _) ?_ <;> first | omega | (simp; done) | (simp; omega)
theorem added_law (L S L' S' : Int) (n cap m bcap : Nat) (f g : Nat → Nat × Nat) (a b : Option Addr) (w : World) (hn : n ≤ 100000) (hm : m ≤ 100000) (hda : DataAt w L S n f a) (hdb : DataAt w L' S' m g b) : Calls Try.prog 20 #[.agg #[.int .i64 L, .int .i64 S, .slice a n cap], .agg #[.int .i64 L', .int .i64 S', .slice b m bcap]] w (AddAny L S n f L' S' m g w) := by
  by_cases he : first2 (imgE L S n f).2 (imgE L' S' m g).2 = 0
  · obtain ⟨he1, he2⟩ := first2_zero he
    obtain ⟨hs, hg⟩ := imgE_zero he1
    obtain ⟨hs2, hg2⟩ := imgE_zero he2
    obtain ⟨⟨l1, l2⟩, ⟨s1, s2⟩, hnn⟩ := sizeE_zero hs
    obtain ⟨-, -, hnn2⟩ := sizeE_zero hs2
    by_cases h0 : L = L' ∧ S = S'
    · obtain ⟨rfl, rfl⟩ := h0
      obtain ⟨L0, rfl⟩ := Int.eq_ofNat_of_zero_le (show 0 ≤ L by omega)
      obtain ⟨S0, rfl⟩ := Int.eq_ofNat_of_zero_le (show 0 ≤ S by omega)
      have hnn' : n = L0 * S0 := by exact_mod_cast hnn
      obtain rfl : m = n := by rw [hnn']; exact_mod_cast hnn2
      by_cases h1 : (imgE L0 S0 m (addB f g)).2 = 0
      · refine (added_ok L0 S0 m cap bcap f g a b w hn hda hdb he h1).mono ?_
        rintro e w' ⟨a', c', rfl, ho, hc, hb⟩
        have h2 := (imgE_zero h1).2
        refine ⟨_, _, _, a', c', 0, rfl, fun _ => ⟨⟨L0, S0, ⟨rfl, rfl, rfl, rfl⟩, by omega, hnn', hnn', rfl, rfl, hnn', smallS_of (by decide) hg, smallS_of (by decide) hg2, smallS_of (by decide) h2, ho⟩, hc⟩, hb⟩
      · refine (added_large L0 S0 m cap bcap f g a b w hn hda hdb he rfl h1).mono ?_
        rintro e w' ⟨rfl, hb⟩
        exact ⟨0, 0, 0, none, 0, 8, rfl, fun h => absurd h (by decide), hb⟩
    · refine (added_clash L S L' S' n cap m bcap f g a b w hn hm hda hdb he (by omega)).mono ?_
      rintro e w' ⟨rfl, hb⟩
      exact ⟨0, 0, 0, none, 0, 13, rfl, fun h => absurd h (by decide), hb⟩
  · refine (added_bad L S L' S' n cap m bcap f g a b w hn hm hda hdb rfl he).mono ?_
    rintro e w' ⟨rfl, hb⟩
    exact ⟨0, 0, 0, none, 0, _, rfl, fun h => absurd h he, hb⟩
end Go.Proofs.Ytelchmimhnpkaaa
