/- Chapter 1: Transform, Inverse, CopyInts, by lists. -/
import Derived.Test.YtakohhlmomgegaaDoorU70
import Derived.Test.YtakohhlmomgegaaDoorZK
import Derived.Lib.SlFresh
import Derived.Deep.Upon
namespace Go.Proofs.YtakohhlmomgegaaDoor
set_option linter.unusedVariables false
set_option linter.unusedSimpArgs false
open Go.RowKit Ntt
/-- The transform, and the list with a transform, as lists. -/
def trL (m : Nat) (zs : List Int) : List Int := (List.range zs.length).map (fft PP m (intAt zs) (rootM zs.length))
def bkL (m : Nat) (zs : List Int) : List Int := (List.range zs.length).map (backP zs.length m (intAt zs))
theorem trL_len (m : Nat) (zs : List Int) : (trL m zs).length = zs.length := by simp [trL]
theorem bkL_len (m : Nat) (zs : List Int) : (bkL m zs).length = zs.length := by simp [bkL]
theorem listE_of {xs : List Int} (h : twoB xs.length = true) (hr : ∀ k, k < xs.length → 0 ≤ intAt xs k ∧ intAt xs k < 998244353) : listE xs = 0 := by
  unfold listE
  rw [if_pos h, if_pos]
  rw [intAt_all]
  intro k hk
  have := hr k hk
  unfold inE
  simp
  omega
theorem listE_two {xs : List Int} (h : listE xs = 0) : twoB xs.length = true := by
  unfold listE at h
  split at h
  · assumption
  · exact absurd h (by decide)
theorem fft_range {m : Nat} {a : Nat → Int} {n : Nat} (hn : n = 2 ^ m) (ha : ∀ i, i < n → 0 ≤ a i ∧ a i < 998244353) (r : Int) (k : Nat) : 0 ≤ fft PP m a r k ∧ fft PP m a r k < 998244353 := by
  subst hn
  exact fft_bd m r k ha
theorem trL_ok {m : Nat} {zs : List Int} (hz : zs.length = 2 ^ m) (h : listE zs = 0) : listE (trL m zs) = 0 := by
  refine listE_of (by rw [trL_len]; exact listE_two h) fun k hk => ?_
  rw [trL_len] at hk
  unfold trL
  rw [intAt_map _ hk]
  exact fft_range hz (listE_ok h).2 _ _
theorem bkL_ok {m : Nat} {zs : List Int} (h : listE zs = 0) : listE (bkL m zs) = 0 := by
  refine listE_of (by rw [bkL_len]; exact listE_two h) fun k hk => ?_
  rw [bkL_len] at hk
  unfold bkL
  rw [intAt_map _ hk]
  exact ⟨Int.emod_nonneg _ (by decide), Int.emod_lt_of_pos _ (by decide)⟩
theorem backP_same {n m : Nat} (hn : n = 2 ^ m) {a b : Nat → Int} (h : ∀ i, i < n → a i = b i) (k : Nat) : backP n m a k = backP n m b k := by
  subst hn
  unfold backP
  rw [fft_same m _ _ h]
theorem bk_tr {m : Nat} (hm : m ≤ 7) {zs : List Int} (hz : zs.length = 2 ^ m) (h : listE zs = 0) : bkL m (trL m zs) = zs := by
  refine intAt_ext (by rw [bkL_len, trL_len]) fun k hk => ?_
  rw [bkL_len, trL_len] at hk
  unfold bkL
  rw [trL_len, intAt_map _ hk, backP_same hz (b := fft PP m (intAt zs) (rootM zs.length)) (fun i hi => by unfold trL; rw [intAt_map _ hi])]
  exact back_fft hm hz _ (listE_ok h).2 hk
theorem tr_bk {m : Nat} (hm : m ≤ 7) {zs : List Int} (hz : zs.length = 2 ^ m) (h : listE zs = 0) : trL m (bkL m zs) = zs := by
  refine intAt_ext (by rw [trL_len, bkL_len]) fun k hk => ?_
  rw [trL_len, bkL_len] at hk
  unfold trL
  rw [bkL_len, intAt_map _ hk, fft_same m (b := backP zs.length m (intAt zs)) _ _ (fun i hi => by unfold bkL; rw [intAt_map _ (by omega)])]
  exact fft_back hm hz _ (listE_ok h).2 hk
/-- What is answered: a list, and no error. -/
def LiPost (xs : List Int) (w : World) (e : Ending) (w' : World) : Prop :=
  ∃ a c, e = .returned (.tuple #[.slice a xs.length c, .int .i64 0]) ∧ IntsV w' (.slice a xs.length c) xs ∧ Below w.heap.size w w'
def ListPost (xs : List Int) (w : World) (e : Ending) (w' : World) : Prop :=
  ∃ a c, e = .returned (.slice a xs.length c) ∧ IntsV w' (.slice a xs.length c) xs ∧ Below w.heap.size w w'
theorem transform_list (m : Nat) (hm : m ≤ 7) (zs : List Int) (v : Value) (w : World) (hz : zs.length = 2 ^ m) (hv : IntsV w v zs) (he : listE zs = 0) :
    Calls Tryd.prog 36 #[v] w (LiPost (trL m zs) w) := by
  have hl : zs.length ≤ 128 := by
    have hp : 2 ^ m ≤ 2 ^ 7 := Nat.pow_le_pow_right (by decide) hm
    omega
  refine (transform_ok m hm zs v w hz hv he).mono ?_
  rintro e w' ⟨g, c, rfl, -, ho, hb⟩
  unfold LiPost
  rw [trL_len]
  exact ⟨_, c, rfl, intsV_of ho (by omega), hb⟩
set_option maxHeartbeats 400000 in
theorem inverse_list (m : Nat) (hm : m ≤ 7) (zs : List Int) (v : Value) (w : World) (hz : zs.length = 2 ^ m) (hv : IntsV w v zs) (he : listE zs = 0) :
    Calls Tryd.prog 37 #[v] w (LiPost (bkL m zs) w) := by
  have hr := (listE_ok he).2
  have hl : zs.length ≤ 128 := by
    have hp : 2 ^ m ≤ 2 ^ 7 := Nat.pow_le_pow_right (by decide) hm
    omega
  have HBK := Lib.hid (show ∀ w2, Below w.heap.size w w2 → Calls Tryd.prog 96 #[v] w2 (OwnPost zs.length (backP zs.length m (intAt zs)) w2) from fun w2 hb => back_any m hm zs v w2 hz (hv.below hb) hr)
  have HV := Lib.hid hv
  have HE := Lib.hid he
  obtain ⟨hle, a, cap, rfl, -⟩ := hv
  clear hr hz he
  go_enter Tryd.func37, Tryd.ntmps37
  go_wp2_with (first | (go_at_call 92; refine (listErr_any zs _ _ (HV.out.below (by (repeat' (first | with_reducible exact Below.refl _ _ | (with_reducible refine below_later_of ?_ ?_ _) | (with_reducible refine Below.alloc ?_ ?_ _) | (with_reducible refine Below.setCell ?_ ?_ _) | (with_reducible refine Below.drew ?_) | (simp; done) | (simp; omega) | omega)))) HE.out).mono ?_; rintro e w' ⟨rfl, rfl⟩) | (go_at_call 96; (with_reducible refine (HBK.out _ (by (repeat' (first | with_reducible exact Below.refl _ _ | (with_reducible refine below_later_of ?_ ?_ _) | (with_reducible refine Below.alloc ?_ ?_ _) | (with_reducible refine Below.setCell ?_ ?_ _) | (with_reducible refine Below.drew ?_) | (simp; done) | (simp; omega) | omega)))).mono ?_); rintro e w' ⟨g, c, rfl, hgb, ho, hb⟩; have HG := Lib.hid ho; clear ho; have HB := Lib.hid hb; clear hb))
  go_ret2
  unfold LiPost
  rw [bkL_len]
  exact ⟨_, c, rfl, intsV_of HG.out (by omega), HB.out⟩
set_option maxHeartbeats 400000 in
theorem inverse_bad (zs : List Int) (v : Value) (w : World) (hv : IntsV w v zs) {e0 : Int} (he : listE zs = e0) (h0 : e0 ≠ 0) :
    Calls Tryd.prog 37 #[v] w fun e w' => e = .returned (.tuple #[.slice none 0 0, .int .i64 e0]) ∧ w = w' := by
  have HV := Lib.hid hv
  have HE := Lib.hid he
  obtain ⟨hle, a, cap, rfl, -⟩ := hv
  have hne : (e0 != 0) = true := by simpa using h0
  clear he h0
  go_enter Tryd.func37, Tryd.ntmps37
  go_wp2_with (first | (go_at_call 92; refine (listErr_any zs _ _ (HV.out.below (by (repeat' (first | with_reducible exact Below.refl _ _ | (with_reducible refine below_later_of ?_ ?_ _) | (with_reducible refine Below.alloc ?_ ?_ _) | (with_reducible refine Below.setCell ?_ ?_ _) | (with_reducible refine Below.drew ?_) | (simp; done) | (simp; omega) | omega)))) HE.out).mono ?_; rintro e w' ⟨rfl, rfl⟩))
  go_ret2
  exact ⟨rfl, rfl⟩
set_option maxHeartbeats 400000 in
theorem copyInts_none (a : Option Addr) (cap : Nat) (w : World) :
    Calls Tryd.prog 32 #[.slice a 0 cap] w fun e w' => ∃ v, e = .returned v ∧ IntsV w' v [] ∧ Below w.heap.size w w' := by
  obtain ⟨i0, hi, hz0, hz1, hz2⟩ := info_parts info3
  have HS := Lib.hid (show ∀ w : World, Src Tryd.prog i0.size 53 (.slice a 0 cap) 0 [] w from fun w => by
    refine ⟨.inl ⟨_, Tryd.underlying53⟩, fun _ => rfl, ?_, ?_, by simp, fun u hu => by simp at hu⟩ <;> cases a <;> simp [Builtin.firstCells, loadCells, loadCellsFrom])
  go_enter Tryd.func32, Tryd.ntmps32
  go_wp2_with (at_builtin; refine Lib.wpList_append_run_sl _ rfl _ _ 53 rfl _ _ rfl rfl (run_append_nothing _ _ _ _ 3 i0 Tryd.underlying53 hi _ 0 0 (Nat.le_refl _) _ (HS.out _)) ?_)
  go_wp2
  go_ret
  exact ⟨_, rfl, ⟨by simp, _, 0, rfl, fun h => absurd h (by decide)⟩, (by (repeat' (first | with_reducible exact Below.refl _ _ | (with_reducible refine below_later_of ?_ ?_ _) | (with_reducible refine Below.alloc ?_ ?_ _) | (with_reducible refine Below.setCell ?_ ?_ _) | (with_reducible refine Below.drew ?_) | (simp; done) | (simp; omega) | omega)))⟩
theorem copyInts_any (zs : List Int) (v : Value) (w : World) (hv : IntsV w v zs) : Calls Tryd.prog 32 #[v] w (ListPost zs w) := by
  obtain ⟨hl, a, cap, rfl, h4⟩ := hv
  by_cases h0 : 0 < zs.length
  · obtain ⟨b, off, rfl, hbw, hc⟩ := h4 h0
    refine (copyInts_some zs b off cap w hl h0 hbw hc).mono ?_
    rintro e w' ⟨v, rfl, hv, hb⟩
    have hv2 := hv
    obtain ⟨-, a, c, rfl, -⟩ := hv2
    exact ⟨a, c, rfl, hv, hb⟩
  · obtain rfl : zs = [] := List.length_eq_zero_iff.1 (by omega)
    refine (copyInts_none a cap w).mono ?_
    rintro e w' ⟨v, rfl, hv, hb⟩
    have hv2 := hv
    obtain ⟨-, a, c, rfl, -⟩ := hv2
    exact ⟨a, c, rfl, hv, hb⟩
end Go.Proofs.YtakohhlmomgegaaDoor
