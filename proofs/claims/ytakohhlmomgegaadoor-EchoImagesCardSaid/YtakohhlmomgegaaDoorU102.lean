/- Chapter 1: images that are returned with an error, as values; Added and Shifted of the program and of the reference; images compared. -/
import Derived.Test.YtakohhlmomgegaaDoorU100
import Derived.Test.YtakohhlmomgegaaDoorU101
namespace Go.Proofs.YtakohhlmomgegaaDoor
set_option linter.unusedVariables false
set_option linter.unusedSimpArgs false
open Go.RowKit Ntt
/-- What a call that makes an image says: the image, or the zero value. -/
def ImgSay (W : World) (b : Nat) (e0 L S : Int) (n : Nat) (F : Nat → Nat × Nat) (l s : Int) (n' : Nat) (a : Option Addr) : Prop := (e0 = 0 → l = L ∧ s = S ∧ n' = n ∧ n ≤ 4096 ∧ OwnC W b n F a) ∧ (e0 ≠ 0 → l = 0 ∧ s = 0 ∧ n' = 0)
theorem ImgSay.below {W W' : World} {b : Nat} {e0 L S : Int} {n : Nat} {F : Nat → Nat × Nat} {l s : Int} {n' : Nat} {a : Option Addr} (h : ImgSay W b e0 L S n F l s n' a) (hb : Below W.heap.size W W') : ImgSay W' b e0 L S n F l s n' a :=
  ⟨fun h0 => by
    obtain ⟨h1, h2, h3, h4, h5⟩ := h.1 h0
    exact ⟨h1, h2, h3, h4, h5.below hb⟩, h.2⟩
theorem ImgSay.mono {W : World} {b b' : Nat} {e0 L S : Int} {n : Nat} {F : Nat → Nat × Nat} {l s : Int} {n' : Nat} {a : Option Addr} (h : ImgSay W b e0 L S n F l s n' a) (hb : b' ≤ b) : ImgSay W b' e0 L S n F l s n' a :=
  ⟨fun h0 => by
    obtain ⟨h1, h2, h3, h4, h5⟩ := h.1 h0
    exact ⟨h1, h2, h3, h4, h5.mono hb⟩, h.2⟩
theorem ImgSay.set {W : World} {b : Nat} {e0 L S : Int} {n : Nat} {F : Nat → Nat × Nat} {l s : Int} {n' : Nat} {a : Option Addr} (h : ImgSay W b e0 L S n F l s n' a) {p : Addr} (hp : p.block < b) (v : Value) : ImgSay (W.setCell p v) b e0 L S n F l s n' a :=
  ⟨fun h0 => by
    obtain ⟨h1, h2, h3, h4, h5⟩ := h.1 h0
    exact ⟨h1, h2, h3, h4, h5.set hp v⟩, h.2⟩
/-- A call's ending that says so. -/
def ImgEnd (e0 L S : Int) (n : Nat) (F : Nat → Nat × Nat) (w : World) (e : Ending) (w' : World) : Prop :=
  ∃ l s n' a c, e = .returned (.tuple #[.agg #[.int .i64 l, .int .i64 s, .slice a n' c], .int .i64 e0]) ∧ ImgSay w' w.heap.size e0 L S n F l s n' a ∧ Below w.heap.size w w'
theorem imgE_small {L S : Int} {n : Nat} {f : Nat → Nat × Nat} (h : (imgE L S n f).2 = 0) : n ≤ 4096 := by
  obtain ⟨⟨l1, l2⟩, ⟨s1, s2⟩, hnn⟩ := sizeE_zero (imgE_zero h).1
  have := Int.mul_le_mul l2 s2 (by omega) (by decide)
  omega
theorem added_say (L S L' S' : Int) (n cap m bcap : Nat) (f g : Nat → Nat × Nat) (a b : Option Addr) (w : World) (hn : n ≤ 100000) (hm : m ≤ 100000) (hda : DataAt w L S n f a) (hdb : DataAt w L' S' m g b) {e0 : Int} (hE : addE L S n f L' S' m g = e0) :
    Calls Tryd.prog 53 #[.agg #[.int .i64 L, .int .i64 S, .slice a n cap], .agg #[.int .i64 L', .int .i64 S', .slice b m bcap]] w (ImgEnd e0 L S n (addB f g) w) := by
  refine (added_det L S L' S' n cap m bcap f g a b w hn hm hda hdb hE).mono ?_
  rintro e w' ⟨l, s, n', a', c, rfl, h1, h2, h3⟩
  refine ⟨l, s, n', a', c, rfl, ⟨fun h0 => ?_, h2⟩, h3⟩
  have hz := (addE_zero (hE.trans h0)).1
  obtain ⟨⟨L0, S0, ⟨k1, k2, -, -⟩, k3, k4, k5, k6, k7, k8, -, -, -, k9⟩, -⟩ := h1 h0
  refine ⟨by omega, by omega, by omega, imgE_small hz, ?_⟩
  obtain rfl : n = n' := by omega
  exact k9
theorem rAdded_say (L S L' S' : Int) (n cap m bcap : Nat) (f g : Nat → Nat × Nat) (a b : Option Addr) (w : World) (hda : DataAt w L S n f a) (hdb : DataAt w L' S' m g b) (h1 : (imgE L S n f).2 = 0) (h2 : (imgE L' S' m g).2 = 0) {e0 : Int} (hE : addE L S n f L' S' m g = e0) :
    Calls Tryd.prog 69 #[.agg #[.int .i64 L, .int .i64 S, .slice a n cap], .agg #[.int .i64 L', .int .i64 S', .slice b m bcap]] w (ImgEnd e0 L S n (addB f g) w) := by
  unfold addE at hE
  rw [if_pos (first2_mk h1 h2)] at hE
  by_cases h : L = L' ∧ S = S'
  · rw [if_pos h] at hE
    obtain ⟨rfl, rfl⟩ := h
    obtain ⟨hs, hg⟩ := imgE_zero h1
    obtain ⟨hs2, hg2⟩ := imgE_zero h2
    obtain ⟨⟨l1, l2⟩, ⟨s1, s2⟩, hnn⟩ := sizeE_zero hs
    obtain ⟨-, -, hnn2⟩ := sizeE_zero hs2
    obtain rfl : n = m := by omega
    obtain ⟨b1, o1, rfl, hb1, hf⟩ := hda hs
    obtain ⟨b2, o2, rfl, hb2, hf2⟩ := hdb hs2
    have hz := smallS_of (by decide) hg
    have hz2 := smallS_of (by decide) hg2
    have he : sumE n f g = e0 := (sumE_img hs hz hz2).trans hE
    obtain ⟨L0, rfl⟩ := Int.eq_ofNat_of_zero_le (show 0 ≤ L by omega)
    obtain ⟨S0, rfl⟩ := Int.eq_ofNat_of_zero_le (show 0 ≤ S by omega)
    refine (rAdded L0 S0 b1 o1 n cap b2 o2 bcap f g w (imgE_small h1) hb1 hb2 hf hf2 hz hz2 he).mono ?_
    rintro e w' ⟨l, s, n', a', c, rfl, k1, k2, k3⟩
    refine ⟨l, s, n', a', c, rfl, ⟨fun h0 => ?_, k2⟩, k3⟩
    obtain ⟨k4, k5, k6, k7⟩ := k1 h0
    exact ⟨k4, k5, k6, imgE_small h1, k7⟩
  · rw [if_neg h] at hE
    subst hE
    refine (rAdded_clash L S L' S' n cap m bcap a b w h).mono ?_
    rintro e w' ⟨rfl, hb⟩
    exact ⟨0, 0, 0, none, 0, rfl, ⟨fun h => absurd h (by decide), fun _ => ⟨rfl, rfl, rfl⟩⟩, hb⟩
theorem shfE_zero {L S : Int} {n : Nat} {f : Nat → Nat × Nat} {p q : Int} (h : shfE L S n f p q = 0) : (imgE L S n f).2 = 0 ∧ inE (-64) 64 p = true ∧ inE (-64) 64 q = true := by
  unfold shfE at h
  split at h
  · rename_i h1
    split at h
    · rename_i h2
      rw [Bool.and_eq_true] at h2
      exact ⟨h1, h2⟩
    · exact absurd h (by decide)
  · rename_i h1; exact absurd h h1
theorem shifted_say (L S : Int) (n cap : Nat) (f : Nat → Nat × Nat) (a : Option Addr) (p q : Int) (w : World) (hn : n ≤ 100000) (hd : DataAt w L S n f a) {e0 : Int} (he : shfE L S n f p q = e0) :
    Calls Tryd.prog 65 #[.agg #[.int .i64 L, .int .i64 S, .slice a n cap], .agg #[.int .i64 p, .int .i64 q]] w (ImgEnd e0 L S n (shB f L.toNat S.toNat p q) w) := by
  by_cases h0 : e0 = 0
  · subst h0
    obtain ⟨h1, h2, h3⟩ := shfE_zero he
    obtain ⟨hs, hg⟩ := imgE_zero h1
    obtain ⟨⟨l1, l2⟩, ⟨s1, s2⟩, hnn⟩ := sizeE_zero hs
    obtain ⟨L0, rfl⟩ := Int.eq_ofNat_of_zero_le (show 0 ≤ L by omega)
    obtain ⟨S0, rfl⟩ := Int.eq_ofNat_of_zero_le (show 0 ≤ S by omega)
    obtain ⟨b1, o1, rfl, hb1, hf⟩ := hd hs
    refine (shifted_ok L0 S0 b1 o1 n cap f p q w (by omega) (by omega) (by omega) (by omega) (by exact_mod_cast hnn) hb1 hf hg h2 h3).mono ?_
    rintro e w' ⟨a', c, rfl, ho, -, hb⟩
    exact ⟨_, _, _, a', c, rfl, ⟨fun _ => ⟨rfl, rfl, rfl, imgE_small h1, ho⟩, fun h => absurd rfl h⟩, hb⟩
  · refine (shifted_bad L S n cap f a p q w hn hd he h0).mono ?_
    rintro e w' ⟨rfl, hb⟩
    exact ⟨0, 0, 0, none, 0, rfl, ⟨fun h => absurd h h0, fun _ => ⟨rfl, rfl, rfl⟩⟩, hb⟩
/-- A call's ending that gives an image alone. -/
def ImgRet (L S : Int) (n : Nat) (F : Nat → Nat × Nat) (w : World) (e : Ending) (w' : World) : Prop :=
  ∃ l s n' a c, e = .returned (.agg #[.int .i64 l, .int .i64 s, .slice a n' c]) ∧ ImgSay w' w.heap.size 0 L S n F l s n' a ∧ Below w.heap.size w w'
theorem rShifted_say (L S : Int) (n cap : Nat) (f : Nat → Nat × Nat) (a : Option Addr) (p q : Int) (w : World) (hd : DataAt w L S n f a) (he : shfE L S n f p q = 0) :
    Calls Tryd.prog 68 #[.agg #[.int .i64 L, .int .i64 S, .slice a n cap], .agg #[.int .i64 p, .int .i64 q]] w (ImgRet L S n (shB f L.toNat S.toNat p q) w) := by
  obtain ⟨h1, h2, h3⟩ := shfE_zero he
  obtain ⟨hs, hg⟩ := imgE_zero h1
  obtain ⟨⟨l1, l2⟩, ⟨s1, s2⟩, hnn⟩ := sizeE_zero hs
  obtain ⟨L0, rfl⟩ := Int.eq_ofNat_of_zero_le (show 0 ≤ L by omega)
  obtain ⟨S0, rfl⟩ := Int.eq_ofNat_of_zero_le (show 0 ≤ S by omega)
  obtain ⟨b1, o1, rfl, hb1, hf⟩ := hd hs
  refine (rShifted L0 S0 b1 o1 n cap f p q w (by omega) (by omega) (by omega) (by omega) (by exact_mod_cast hnn) hb1 hf (smallS_of (by decide) hg) (inE_iff.1 h2) (inE_iff.1 h3)).mono ?_
  rintro e w' ⟨a', c, rfl, ho, -, hb⟩
  exact ⟨_, _, _, a', c, rfl, ⟨fun _ => ⟨rfl, rfl, rfl, imgE_small h1, ho⟩, fun h => absurd rfl h⟩, hb⟩
theorem samV_own {W : World} {base n c : Nat} {a : Option Addr} {F : Nat → Nat × Nat} (h : OwnC W base n F a) (hn : n ≤ 100000) : SamV W (.slice a n c) n F :=
  ⟨hn, a, c, rfl, fun hp => by
    obtain ⟨g, h1, -, h3, h4⟩ := h hp
    exact ⟨g, 0, h1, h3, h4⟩⟩
theorem samV_none {W : World} {c : Nat} {a : Option Addr} {F : Nat → Nat × Nat} : SamV W (.slice a 0 c) 0 F := ⟨by decide, a, c, rfl, fun hp => absurd hp (by decide)⟩
theorem same_img {W : World} {b b2 : Nat} {e0 L S : Int} {n : Nat} {F : Nat → Nat × Nat} {l s l2 s2 : Int} {n' n2 c c2 : Nat} {a a2 : Option Addr} (h : ImgSay W b e0 L S n F l s n' a) (k : ImgSay W b2 e0 L S n F l2 s2 n2 a2) :
    Calls Tryd.prog 67 #[.agg #[.int .i64 l, .int .i64 s, .slice a n' c], .agg #[.int .i64 l2, .int .i64 s2, .slice a2 n2 c2]] W fun e w' => e = .returned (.bool true) ∧ Below W.heap.size W w' := by
  by_cases h0 : e0 = 0
  · obtain ⟨rfl, rfl, rfl, h4, h5⟩ := h.1 h0
    obtain ⟨rfl, rfl, rfl, -, k5⟩ := k.1 h0
    exact sameImage_any _ _ _ _ _ _ _ _ _ _ W (samV_own h5 (by omega)) (samV_own k5 (by omega)) ⟨fun _ => ⟨rfl, rfl, rfl, fun _ _ => rfl⟩, fun _ => rfl⟩
  · obtain ⟨rfl, rfl, rfl⟩ := h.2 h0
    obtain ⟨rfl, rfl, rfl⟩ := k.2 h0
    exact sameImage_any _ _ _ _ _ _ (fun _ => (0, 0)) (fun _ => (0, 0)) _ _ W samV_none samV_none ⟨fun _ => ⟨rfl, rfl, rfl, fun _ _ => rfl⟩, fun _ => rfl⟩
set_option maxHeartbeats 400000 in
theorem lNoImage (a : Option Addr) (c : Nat) (w : World) : Calls Tryd.prog 66 #[.agg #[.int .i64 0, .int .i64 0, .slice a 0 c]] w fun e w' => e = .returned (.bool true) ∧ Below w.heap.size w w' := by
  go_enter Tryd.func66, Tryd.ntmps66
  go_wp2
  go_ret
  exact ⟨rfl, (by (repeat' (first | with_reducible exact Below.refl _ _ | (with_reducible refine below_later_of ?_ ?_ _) | (with_reducible refine Below.alloc ?_ ?_ _) | (with_reducible refine Below.setCell ?_ ?_ _) | (with_reducible refine Below.drew ?_) | (simp; done) | (simp; omega) | omega)))⟩
end Go.Proofs.YtakohhlmomgegaaDoor
