/- Chapter 1: Correlate. -/
import Derived.Test.YtelchmimhnpkaaaU11
namespace Go.Proofs.Ytelchmimhnpkaaa
set_option linter.unusedVariables false
open Go.RowKit Ntt
theorem intAt_map {n : Nat} (f : Nat → Int) {k : Nat} (hk : k < n) : intAt ((List.range n).map f) k = f k := by
  unfold intAt
  rw [List.getElem?_map, List.getElem?_range hk]
  rfl
theorem intsV_of {W : World} {g n c : Nat} {f : Nat → Int} (h : OwnF W g n f) (hn : n ≤ 1000000000) : IntsV W (.slice (some ⟨g, 0, none⟩) n c) ((List.range n).map f) := by
  have hl : ((List.range n).map f).length = n := by simp
  refine ⟨by omega, _, c, by rw [hl], fun _ => ⟨g, 0, rfl, h.1.1, fun k hk => ?_⟩⟩
  rw [hl] at hk
  rw [Nat.zero_add, intAt_map f hk]
  exact h.1.2 k hk
/-- The correlation, as the program finds it, is the correlation. -/
theorem corr_plain {m : Nat} (hm : m ≤ 7) {n : Nat} (hn : n = 2 ^ m) (a b z : Nat → Int) (hz : ∀ j, j < n → z j = fft PP m a (rootM n) j * fft PP m b (invM (rootM n)) j % PP) (s : Nat) :
    backP n m z s = corr n a b s % PP := by
  subst hn
  have R := roots m hm
  have S := R.swap
  have h1 : Cg PP (fft PP m z (invM (rootM (2 ^ m))) s) (dft (2 ^ m) (fun k => dft (2 ^ m) a (rootM (2 ^ m)) k * dft (2 ^ m) b (invM (rootM (2 ^ m))) k) (invM (rootM (2 ^ m))) s) :=
    (fft_cg m z s S.one).trans (dft_list (fun j hj => by
      rw [hz j hj]
      exact (Cg.emod _).trans ((fft_cg m a j R.one).mul (fft_cg m b j S.one))) _ _)
  have h2 := (h1.mul (Cg.refl (p := PP) (invM ((2 ^ m : Nat) : Int))))
  rw [Int.mul_comm (dft _ _ _ _)] at h2
  have h3 := h2.trans (corr_dft R (parts m hm) a b s)
  unfold backP
  exact h3.emod_eq
set_option maxHeartbeats 1000000 in
theorem correlate_bad (zs ys : List Int) (v u : Value) (w : World) (hv : IntsV w v zs) (hu : IntsV w u ys) {e0 : Int} (he : first2 (listE zs) (listE ys) = e0) (h0 : e0 ≠ 0) :
    Calls Try.prog 15 #[v, u] w fun e w' => e = .returned (.tuple #[.slice none 0 0, .int .i64 e0]) ∧ Below w.heap.size w w' := by
  have HL1 := Lib.hid (show ∀ w2, Below w.heap.size w w2 → _ from fun w2 hb => listErr_any zs v w2 (hv.below hb) rfl)
  have HL2 := Lib.hid (show ∀ w2, Below w.heap.size w w2 → _ from fun w2 hb => listErr_any ys u w2 (hu.below hb) rfl)
  have HF := Lib.hid he
  obtain ⟨hle, a, cap, rfl, -⟩ := hv
  obtain ⟨hle2, a2, cap2, rfl, -⟩ := hu
  have hne : (e0 != 0) = true := by simpa using h0
  clear he h0
  go_enter Try.func15, Try.ntmps15
  go_wp2_with (first | (go_at_call 62; (with_reducible refine (HL1.out _ (by (repeat' (first | with_reducible exact Below.refl _ _ | (with_reducible refine below_later_of ?_ ?_ _) | (with_reducible refine Below.alloc ?_ ?_ _) | (with_reducible refine Below.setCell ?_ ?_ _) | (with_reducible refine Below.drew ?_) | (simp; done) | (simp; omega) | omega)))).mono ?_); rintro e w' ⟨rfl, rfl⟩) | (go_at_call 62; (with_reducible refine (HL2.out _ (by (repeat' (first | with_reducible exact Below.refl _ _ | (with_reducible refine below_later_of ?_ ?_ _) | (with_reducible refine Below.alloc ?_ ?_ _) | (with_reducible refine Below.setCell ?_ ?_ _) | (with_reducible refine Below.drew ?_) | (simp; done) | (simp; omega) | omega)))).mono ?_); rintro e w' ⟨rfl, rfl⟩) | (go_at_call 57; refine (first_e _ _ _ _ HF.out (by (first | (simp [go_sem]; done) | simp [go_sem, ↓IntWalk.iteOmega])) (by (first | (simp [go_sem]; done) | simp [go_sem, ↓IntWalk.iteOmega]))).mono ?_; rintro e w' ⟨rfl, rfl⟩))
  go_ret2
  exact ⟨rfl, (by (repeat' (first | with_reducible exact Below.refl _ _ | (with_reducible refine below_later_of ?_ ?_ _) | (with_reducible refine Below.alloc ?_ ?_ _) | (with_reducible refine Below.setCell ?_ ?_ _) | (with_reducible refine Below.drew ?_) | (simp; done) | (simp; omega) | omega)))⟩
set_option maxHeartbeats 1000000 in
theorem correlate_clash (zs ys : List Int) (v u : Value) (w : World) (hv : IntsV w v zs) (hu : IntsV w u ys) (he : first2 (listE zs) (listE ys) = 0) (h0 : ys.length ≠ zs.length) :
    Calls Try.prog 15 #[v, u] w fun e w' => e = .returned (.tuple #[.slice none 0 0, .int .i64 13]) ∧ Below w.heap.size w w' := by
  have HL1 := Lib.hid (show ∀ w2, Below w.heap.size w w2 → _ from fun w2 hb => listErr_any zs v w2 (hv.below hb) rfl)
  have HL2 := Lib.hid (show ∀ w2, Below w.heap.size w w2 → _ from fun w2 hb => listErr_any ys u w2 (hu.below hb) rfl)
  have HF := Lib.hid he
  obtain ⟨hle, a, cap, rfl, -⟩ := hv
  obtain ⟨hle2, a2, cap2, rfl, -⟩ := hu
  have hne : ((ys.length : Int) != (zs.length : Int)) = true := by simp; omega
  clear he h0
  go_enter Try.func15, Try.ntmps15
  go_wp2_with (first | (go_at_call 62; (with_reducible refine (HL1.out _ (by (repeat' (first | with_reducible exact Below.refl _ _ | (with_reducible refine below_later_of ?_ ?_ _) | (with_reducible refine Below.alloc ?_ ?_ _) | (with_reducible refine Below.setCell ?_ ?_ _) | (with_reducible refine Below.drew ?_) | (simp; done) | (simp; omega) | omega)))).mono ?_); rintro e w' ⟨rfl, rfl⟩) | (go_at_call 62; (with_reducible refine (HL2.out _ (by (repeat' (first | with_reducible exact Below.refl _ _ | (with_reducible refine below_later_of ?_ ?_ _) | (with_reducible refine Below.alloc ?_ ?_ _) | (with_reducible refine Below.setCell ?_ ?_ _) | (with_reducible refine Below.drew ?_) | (simp; done) | (simp; omega) | omega)))).mono ?_); rintro e w' ⟨rfl, rfl⟩) | (go_at_call 57; refine (first_e _ _ _ _ HF.out (by (first | (simp [go_sem]; done) | simp [go_sem, ↓IntWalk.iteOmega])) (by (first | (simp [go_sem]; done) | simp [go_sem, ↓IntWalk.iteOmega]))).mono ?_; rintro e w' ⟨rfl, rfl⟩))
  go_ret2
  exact ⟨rfl, (by (repeat' (first | with_reducible exact Below.refl _ _ | (with_reducible refine below_later_of ?_ ?_ _) | (with_reducible refine Below.alloc ?_ ?_ _) | (with_reducible refine Below.setCell ?_ ?_ _) | (with_reducible refine Below.drew ?_) | (simp; done) | (simp; omega) | omega)))⟩
end Go.Proofs.Ytelchmimhnpkaaa
