/- Top: the examples of chapter 4 are as told. -/
import Derived.Test.YtcmjlfhnibjofaaX20
import Derived.Test.YtcmjlfhnibjofaaXM
namespace Go.Proofs.Ytcmjlfhnibjofaa
set_option linter.unusedVariables false
set_option linter.unusedSimpArgs false
open Go.RowKit Ieee Ntt
theorem turns_sq (b : Nat) (w : World) (hv : IntsV w (.slice (some ⟨b, 0, none⟩) 4 4) sqZ) : Calls Try.prog 69 #[.agg #[.int .i64 2, .int .i64 2, .slice (some ⟨b, 0, none⟩) 4 4], .agg #[.int .i64 0, .int .i64 0, .int .i64 1, .int .i64 1]] w fun e w' => e = .returned (.tuple #[.int .i64 1, .int .i64 0]) ∧ Below w.heap.size w w' := by
  have := fTurns_in 2 2 0 0 1 1 sqZ _ w sqZ_ok hv (by decide) (by decide) (by decide) (by decide)
  have e1 : taV (zAt 2 (intAt sqZ)) 0 0 1 1 = 1 := by decide +kernel
  have e2 : taE (zAt 2 (intAt sqZ)) 0 0 1 1 = 0 := by decide +kernel
  rw [e1, e2] at this
  exact this
theorem dif_xw (b b' : Nat) (w : World) (h1 : IntsV w (.slice (some ⟨b, 0, none⟩) 1 1) [2047]) (h2 : IntsV w (.slice (some ⟨b', 0, none⟩) 1 1) [-2]) :
    Calls Try.prog 71 #[.agg #[.int .i64 1, .int .i64 1, .slice (some ⟨b, 0, none⟩) 1 1], .agg #[.int .i64 1, .int .i64 1, .slice (some ⟨b', 0, none⟩) 1 1]] w fun e w' => ∃ q cc, e = .returned (.tuple #[.agg #[.int .i64 1, .int .i64 1, .slice q 1 cc], .int .i64 0]) ∧ OwnIV w.heap.size w' (.slice q 1 cc) [-2047] ∧ Below w.heap.size w w' := by
  refine (dif_det 1 1 [2047] _ 1 1 [-2] _ w h1 (by decide) h2 (by decide) (e0 := 0) (by decide +kernel)).mono ?_
  rintro e w' ⟨r, c, k, q, cc, rfl, hs, hb⟩
  obtain ⟨rfl, rfl, rfl, ho⟩ := hs.1 rfl
  have e3 : combL [2047] [-2] (-1) = [-2047] := by decide +kernel
  rw [e3] at ho
  exact ⟨q, cc, rfl, ho, hb⟩
theorem dif_new (W : World) (t t' : TypeId) {b b' : Nat} (hb : W.heap.size = b) (hb' : W.heap.size + 1 = b') :
    Calls Try.prog 71 #[.agg #[.int .i64 1, .int .i64 1, .slice (some ⟨b, 0, none⟩) 1 1], .agg #[.int .i64 1, .int .i64 1, .slice (some ⟨b', 0, none⟩) 1 1]] ((W.alloc (.cells #[.int .i64 2047] t)).alloc (.cells #[.int .i64 (-2)] t')) fun e w' => ∃ q cc, e = .returned (.tuple #[.agg #[.int .i64 1, .int .i64 1, .slice q 1 cc], .int .i64 0]) ∧ IntsV w' (.slice q 1 cc) [-2047] ∧ Below ((W.alloc (.cells #[.int .i64 2047] t)).alloc (.cells #[.int .i64 (-2)] t')).heap.size ((W.alloc (.cells #[.int .i64 2047] t)).alloc (.cells #[.int .i64 (-2)] t')) w' := by
  subst hb hb'
  refine (dif_xw _ _ _ ((ints_new W [2047] t 1 rfl (by decide) rfl).below ((Below.refl _ _).alloc (Nat.le_refl _) _)) (ints_new _ [-2] t' 1 rfl (by decide) (by simp))).mono ?_
  rintro e w' ⟨q, cc, rfl, ho, hb⟩
  exact ⟨q, cc, rfl, ho.ints, hb⟩
theorem ints_m (W : World) (t : TypeId) (v : Value) {b : Nat} (hb : W.heap.size = b) (hv : IntsV W v [-2047]) :
    Calls Try.prog 56 #[v, .slice (some ⟨b, 0, none⟩) 1 1] (W.alloc (.cells #[.int .i64 (-2047)] t)) fun e w' => e = .returned (.bool true) ∧ Below (W.alloc (.cells #[.int .i64 (-2047)] t)).heap.size (W.alloc (.cells #[.int .i64 (-2047)] t)) w' := by
  subst hb
  exact bInts [-2047] [-2047] v _ (W.alloc (.cells #[.int .i64 (-2047)] t)) (hv.below ((Below.refl _ _).alloc (Nat.le_refl _) _)) (ints_new W [-2047] t 1 rfl (by decide) rfl) (c := true) (by simp)
set_option maxRecDepth 20000 in
set_option maxHeartbeats 4000000 in
theorem fringed_any (w : World) : Calls Try.prog 24 #[] w fun e w' => e = .returned (.bool true) ∧ Below w.heap.size w w' := by
  go_enter Try.func24, Try.ntmps24
  go_wp2_with (first | (go_at_call 70; (with_reducible refine (lSquare _).mono ?_); rintro e w' ⟨b1, rfl, hv, hb⟩; have HV1 := Lib.hid hv; clear hv; obtain ⟨p1, rfl⟩ := later_of_below hb; clear hb) | (go_at_call 69; (with_reducible refine (turns_sq b1 _ (HV1.out.below (by (repeat' (first | with_reducible exact Below.refl _ _ | (with_reducible refine below_later_of ?_ ?_ _) | (with_reducible refine Below.alloc ?_ ?_ _) | (with_reducible refine Below.setCell ?_ ?_ _) | (with_reducible refine Below.drew ?_) | (simp; done) | (simp; omega) | omega))))).mono ?_); rintro e w' ⟨rfl, hb⟩; obtain ⟨p2, rfl⟩ := later_of_below hb; clear hb) | (go_at_call 71; (with_reducible refine (dif_new _ _ _ (by simp) (by simp)).mono ?_); rintro e w' ⟨q3, c3, rfl, ho, hb⟩; have HO4 := Lib.hid ho; clear ho; obtain ⟨p3, rfl⟩ := later_of_below hb; clear hb) | (go_at_call 56; (with_reducible refine (ints_m _ _ _ (by simp) (HO4.out.below (by (repeat' (first | with_reducible exact Below.refl _ _ | (with_reducible refine below_later_of ?_ ?_ _) | (with_reducible refine Below.alloc ?_ ?_ _) | (with_reducible refine Below.setCell ?_ ?_ _) | (with_reducible refine Below.drew ?_) | (simp; done) | (simp; omega) | omega))))).mono ?_); rintro e w' ⟨rfl, hb⟩; obtain ⟨p8, rfl⟩ := later_of_below hb; clear hb))
  go_ret
  exact ⟨ret_bool (by simp), (by (repeat' (first | with_reducible exact Below.refl _ _ | (with_reducible refine below_later_of ?_ ?_ _) | (with_reducible refine Below.alloc ?_ ?_ _) | (with_reducible refine Below.setCell ?_ ?_ _) | (with_reducible refine Below.drew ?_) | (simp; done) | (simp; omega) | omega)))⟩
end Go.Proofs.Ytcmjlfhnibjofaa
