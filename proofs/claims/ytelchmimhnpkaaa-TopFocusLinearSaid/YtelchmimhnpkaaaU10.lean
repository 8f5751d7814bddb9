/- Chapter 1: the list with a transform (back), Transform. -/
import Derived.Test.YtelchmimhnpkaaaU9
namespace Go.Proofs.Ytelchmimhnpkaaa
set_option linter.unusedVariables false
open Go.RowKit Ntt
/-- Block g holds the first n numbers of f, and may be written. -/
def OwnF (W : World) (g n : Nat) (f : Nat → Int) : Prop := IntsAtF W g n f ∧ ∀ k, k < n → W.frozen? ⟨g, k, none⟩ = false
theorem OwnF.set {W : World} {g n k : Nat} {f h : Nat → Int} {z : Int} (o : OwnF W g n f) (hk : k < n) (hh : ∀ j, j < n → h j = if j = k then z else f j) : OwnF (W.setCell ⟨g, k, none⟩ (.int .i64 z)) g n h := by
  obtain ⟨⟨h1, h2⟩, h3⟩ := o
  refine ⟨⟨by simpa using h1, fun j hj => ?_⟩, fun j hj => ?_⟩
  · rw [hh j hj]
    by_cases e : j = k
    · subst e
      rw [if_pos rfl]
      exact World.cell?_setCell_same _ _ _ (h2 j hj)
    · rw [if_neg e, World.cell?_setCell_other _ _ _ _ (by intro e2; simp at e2 <;> omega)]
      exact h2 j hj
  · have := h3 j hj
    simpa [go_sem] using this
theorem OwnF.below {W W' : World} {g n : Nat} {f : Nat → Int} (h : OwnF W g n f) (hb : Below W.heap.size W W') : OwnF W' g n f :=
  ⟨h.1.below hb, fun k hk => (hb.frozen (p := ⟨g, k, none⟩) h.1.1).trans (h.2 k hk)⟩
theorem OwnF.drew {W : World} {g n : Nat} {f : Nat → Int} (h : OwnF W g n f) : OwnF W.drew g n f := by
  refine ⟨h.1.drew, fun k hk => ?_⟩
  have := h.2 k hk
  simpa [go_sem] using this
theorem OwnF.same {W : World} {g n : Nat} {f h : Nat → Int} (o : OwnF W g n f) (hh : ∀ j, j < n → f j = h j) : OwnF W g n h :=
  ⟨⟨o.1.1, fun k hk => by rw [← hh k hk]; exact o.1.2 k hk⟩, o.2⟩
/-- The list with a transform, as the program finds it. -/
def backP (n m : Nat) (a : Nat → Int) (k : Nat) : Int := fft PP m a (invM (rootM n)) k * invM n % PP
def OwnPost (n : Nat) (f : Nat → Int) (w : World) (e : Ending) (w' : World) : Prop :=
  ∃ g c, e = .returned (.slice (some ⟨g, 0, none⟩) n c) ∧ w.heap.size ≤ g ∧ OwnF w' g n f ∧ Below w.heap.size w w'
set_option maxRecDepth 20000 in
set_option maxHeartbeats 1000000 in
theorem back_any (m : Nat) (hm : m ≤ 7) (zs : List Int) (v : Value) (w : World) (hz : zs.length = 2 ^ m) (hv : IntsV w v zs) (hr : ∀ k, k < zs.length → 0 ≤ intAt zs k ∧ intAt zs k < 998244353) :
    Calls Try.prog 66 #[v] w (OwnPost zs.length (backP zs.length m (intAt zs)) w) := by
  have hp : 2 ^ m ≤ 2 ^ 7 := Nat.pow_le_pow_right (by decide) hm
  have hp0 : 0 < zs.length := by rw [hz]; exact Nat.two_pow_pos m
  have hl : zs.length ≤ 128 := by omega
  obtain ⟨rb1, rb2⟩ := powM_bd 3 (998244352 / zs.length)
  obtain ⟨ib1, ib2⟩ := powM_bd (rootM zs.length) 998244351
  obtain ⟨nb1, nb2⟩ := powM_bd (zs.length : Int) 998244351
  have HI1 := Lib.hid (fun w => inverse_any (rootM zs.length) w rb1 rb2)
  have HI2 := Lib.hid (fun w => inverse_any (zs.length : Int) w (by omega) (by omega))
  have HTR := Lib.hid (show ∀ w2, Below w.heap.size w w2 → Calls Try.prog 63 #[v, .int .i64 (invM (rootM zs.length))] w2 (TransPost m (intAt zs) (invM (rootM zs.length)) w2) from fun w2 hb => transform_spec m hm zs v _ w2 hz (hv.below hb) hr ib1 ib2)
  have hfb := fun k => fft_bd m (a := intAt zs) (invM (rootM zs.length)) k (fun i hi => hr i (by omega))
  have HFB := Lib.hid hfb
  obtain ⟨hle, a, cap, rfl, -⟩ := hv
  have HZ := Lib.hid hz
  have hnb : 0 ≤ invM (zs.length : Int) ∧ invM (zs.length : Int) < 998244353 := ⟨nb1, nb2⟩
  obtain ⟨nb1, nb2⟩ := hnb
  clear hr hz rb1 rb2 ib1 ib2 hfb hp
  go_enter Try.func66, Try.ntmps66
  go_wp2_with (first | (go_at_call 64; refine (rootOf_any zs.length _ (by omega) (by omega)).mono ?_; rintro e w' ⟨rfl, rfl⟩) | (go_at_call 65; (with_reducible refine (HI1.out _).mono ?_); rintro e w' ⟨rfl, rfl⟩) | (go_at_call 65; (with_reducible refine (HI2.out _).mono ?_); rintro e w' ⟨rfl, rfl⟩) | (go_at_call 63; (with_reducible refine (HTR.out _ (by (repeat' (first | with_reducible exact Below.refl _ _ | (with_reducible refine below_later_of ?_ ?_ _) | (with_reducible refine Below.alloc ?_ ?_ _) | (with_reducible refine Below.setCell ?_ ?_ _) | (with_reducible refine Below.drew ?_) | (simp; done) | (simp; omega) | omega)))).mono ?_); rintro e w' ⟨g, c, rfl, hgb, hg, hf, hb⟩; rw [← HZ.out] at hg hf ⊢; have HG := Lib.hid (show OwnF w' g _ _ from ⟨hg, hf⟩); clear hg hf; have HB := Lib.hid hb; clear hb))
  have hfs : ∀ k, 0 ≤ fft PP m (intAt zs) (invM (rootM zs.length)) k ∧ fft PP m (intAt zs) (invM (rootM zs.length)) k < 998244353 := HFB.out
  go_loopw [17] (fun i wr => ∃ k : Nat, k ≤ zs.length ∧ i = .int .i64 k ∧ OwnF wr g zs.length (fun j => if j < k then backP zs.length m (intAt zs) j else fft PP m (intAt zs) (invM (rootM zs.length)) j) ∧ Below w.heap.size w wr) (fun i _ => zs.length - (intOf i).toNat)
  case atStart => exact ⟨0, Nat.zero_le _, rfl, HG.out.same (fun j _ => by simp), HB.out⟩
  case round =>
    obtain ⟨k, hk, rfl, ho, hbx⟩ := hrel
    have HO := Lib.hid ho
    have HBX := Lib.hid hbx
    by_cases hlt : k < zs.length
    · have hdk : decide ((k : Int) < (zs.length : Int)) = true := by simp; omega
      have ck := ho.1.2 k hlt
      simp only [Nat.lt_irrefl, if_false] at ck
      have fk := ho.2 k hlt
      obtain ⟨e1, e2⟩ := hfs k
      have HV := Lib.hid (show fft PP m (intAt zs) (invM (rootM zs.length)) k * invM zs.length % 998244353 = backP zs.length m (intAt zs) k from rfl)
      generalize fft PP m (intAt zs) (invM (rootM zs.length)) k = ev at ck e1 e2 HV
      obtain ⟨m1, m2⟩ := pp_mul e1 e2 nb1 nb2
      clear ho hbx hfs
      go_wp2
      go_roundw
      case rel => exact ⟨k + 1, by omega, by go_num, HO.out.set hlt (fun j hj => by
        by_cases e : j = k
        · subst e; rw [if_pos (by omega), if_pos rfl, HV.out]
        · rw [if_neg e]
          by_cases c : j < k
          · rw [if_pos c, if_pos (by omega)]
          · rw [if_neg c, if_neg (by omega)]), HBX.out.trans (by (repeat' (first | with_reducible exact Below.refl _ _ | (with_reducible refine below_later_of ?_ ?_ _) | (with_reducible refine Below.alloc ?_ ?_ _) | (with_reducible refine Below.setCell ?_ ?_ _) | (with_reducible refine Below.drew ?_) | (simp; done) | (simp; omega) | omega)))⟩
      case measure => simp [intOf]; omega
    · obtain rfl : k = zs.length := by omega
      have hdk : decide ((zs.length : Int) < (zs.length : Int)) = false := by simp
      clear ho hbx hfs
      go_wp2
      go_ret
      exact ⟨g, c, rfl, hgb, HO.out.same (fun j hj => if_pos hj), HBX.out⟩
/-- A list that is transformed: its length is a power of 2. -/
theorem two_pow {n : Nat} (h : twoB n = true) : ∃ m, m ≤ 7 ∧ n = 2 ^ m := by
  unfold twoB at h
  simp at h
  rcases h with rfl | rfl | rfl | rfl | rfl | rfl | rfl | rfl
  · exact ⟨0, by decide, rfl⟩
  · exact ⟨1, by decide, rfl⟩
  · exact ⟨2, by decide, rfl⟩
  · exact ⟨3, by decide, rfl⟩
  · exact ⟨4, by decide, rfl⟩
  · exact ⟨5, by decide, rfl⟩
  · exact ⟨6, by decide, rfl⟩
  · exact ⟨7, by decide, rfl⟩
theorem listE_ok {zs : List Int} (h : listE zs = 0) : (∃ m, m ≤ 7 ∧ zs.length = 2 ^ m) ∧ ∀ k, k < zs.length → 0 ≤ intAt zs k ∧ intAt zs k < 998244353 := by
  unfold listE at h
  split at h
  · rename_i h2
    split at h
    · rename_i h3
      refine ⟨two_pow h2, fun k hk => ?_⟩
      have := intAt_all.1 h3 k hk
      unfold inE at this
      simp at this
      omega
    · exact absurd h (by decide)
  · exact absurd h (by decide)
end Go.Proofs.Ytelchmimhnpkaaa
