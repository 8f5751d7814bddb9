/- Chapter 1's door seat: awake. -/
import Derived.Test.YtakohhlmomgegaaDoorZS
namespace Go.Proofs.YtakohhlmomgegaaDoor
set_option linter.unusedVariables false
set_option linter.unusedSimpArgs false
open Go.RowKit Ntt
theorem sumV_own {W : World} {B n c : Nat} {a : Option Addr} {f : Nat → Nat × Nat} (h : OwnS W B n f a) (hn : n ≤ 100000) : SumV W (.slice a n c) n f :=
  ⟨hn, a, c, rfl, fun hp => by obtain ⟨g, h1, -, h3, h4⟩ := h hp; exact ⟨g, 0, h1, h3, h4⟩⟩
def xaK : List UInt8 := [105, 109, 97, 103, 101, 32, 49, 32, 50, 32, 52, 52, 50, 50, 51, 10, 49, 32, 48, 32, 48, 32, 50, 10]
theorem compress_xa (g c : Nat) (b : Nat) (w : World) (hg : g < w.heap.size) (hs : SamplesAt w g 0 4 xaF) (hb : b < w.heap.size) (hc : SamplesAt w b 0 2 xaC) :
    Calls Tryd.prog 21 #[.agg #[.int .i64 1, .int .i64 4, .slice (some ⟨g, 0, none⟩) 4 c], .slice (some ⟨b, 0, none⟩) 2 2] w fun e w' => ∃ (a : Option Addr) (c : Nat), e = .returned (.tuple #[.agg #[.int .i64 1, .int .i64 3, .slice a 3 c], .int .i64 0]) ∧ SumV w' (.slice a 3 c) 3 (compB (xB xaF) (yB xaF) (xB xaC) (yB xaC) 3 4 2) ∧ Below w.heap.size w w' := by
  refine (compress_ok 1 4 4 c 2 2 xaF xaC _ _ w (by decide) (by decide) (fun _ => ⟨g, 0, rfl, hg, hs⟩) (fun _ => ⟨b, 0, rfl, hb, hc⟩) xa_err (by decide)).mono ?_
  rintro e w' ⟨a, c, D, rfl, hD, hok, hfa, hb⟩
  have hl : D.length = 3 := by omega
  refine ⟨a, c, by rw [hl]; rfl, sumV_own (OwnS.of hfa hl fun i z hz => ?_) (by decide), hb⟩
  have b := hok i z hz
  exact Prod.ext b.re b.im
theorem phase_xa (w : World) : Calls Tryd.prog 28 #[.complex .f64 13835058055282163712 4607182418800017408] w fun e w' => e = .returned (.tuple #[.int .i64 1746, .int .i64 0]) ∧ Below w.heap.size w w' := by
  refine PhaseOf_any _ _ w (by decide) (by decide) ?_ xa_phE
  unfold phV
  rw [if_pos xa_phE, show intD 13835058055282163712 = -2 by decide +kernel, show intD 4607182418800017408 = 1 by decide +kernel]
  exact xa_ph
theorem correlate_xa (b c : Nat) (w : World) (hv : IntsV w (.slice (some ⟨b, 0, none⟩) 2 2) [1, 2]) (hu : IntsV w (.slice (some ⟨c, 0, none⟩) 2 2) [3, 4]) :
    Calls Tryd.prog 31 #[.slice (some ⟨b, 0, none⟩) 2 2, .slice (some ⟨c, 0, none⟩) 2 2] w fun e w' => ∃ v, e = .returned (.tuple #[v, .int .i64 0]) ∧ IntsV w' v [11, 10] ∧ Below w.heap.size w w' := by
  refine (correlate_ok 1 (by decide) [1, 2] [3, 4] _ _ w rfl rfl hv hu (by decide +kernel) (by decide +kernel)).mono ?_
  rintro e w' ⟨g, c, rfl, -, ho, hb⟩
  refine ⟨_, rfl, ?_, hb⟩
  have := intsV_of (c := c) ho (by decide)
  rwa [show (List.range [(1 : Int), 2].length).map (fun s => corr [(1 : Int), 2].length (intAt [1, 2]) (intAt [3, 4]) s % PP) = [11, 10] from xa_corr] at this
theorem print_xa (g c : Nat) (w : World) (hc : 2 ≤ c) (hg : g < w.heap.size) (hs : SamplesAt w g 0 2 xaG) (ht : Tab w) :
    Calls Tryd.prog 73 #[.agg #[.int .i64 1, .int .i64 2, .slice (some ⟨g, 0, none⟩) 2 c]] w fun e w' => e = .returned (.tuple #[.string ⟨#[105, 109, 97, 103, 101, 32, 49, 32, 50, 32, 52, 52, 50, 50, 51, 10, 49, 32, 48, 32, 48, 32, 50, 10]⟩, .int .i64 0]) ∧ Below w.heap.size w w' := by
  have := print_ok 1 2 2 c g 0 xaG (xB xaG) (yB xaG) w rfl hc (by decide) (by decide) (by decide) (by decide) hg hs (smallS_of (by decide) (imgE_zero xa_imgE).2) xa_imgE ht
  rw [xa_print] at this
  exact this
theorem same_xa (a : Option Addr) (c b : Nat) (w : World) (h1 : SumV w (.slice a 3 c) 3 (compB (xB xaF) (yB xaF) (xB xaC) (yB xaC) 3 4 2)) (h2 : b < w.heap.size) (h3 : SumsAt w b 0 3 (fun k => xa3.getD k (0, 0))) :
    Calls Tryd.prog 27 #[.agg #[.int .i64 1, .int .i64 3, .slice a 3 c], .agg #[.int .i64 1, .int .i64 3, .slice (some ⟨b, 0, none⟩) 3 3]] w fun e w' => e = .returned (.bool true) ∧ Below w.heap.size w w' :=
  sameField_any 1 3 1 3 3 3 _ _ _ _ w h1 ⟨by decide, _, 3, rfl, fun _ => ⟨b, 0, rfl, h2, h3⟩⟩ ⟨fun _ => ⟨rfl, rfl, rfl, xa_vals⟩, fun _ => rfl⟩
theorem ints_xa (v : Value) (b : Nat) (w : World) (h1 : IntsV w v [11, 10]) (h2 : IntsV w (.slice (some ⟨b, 0, none⟩) 2 2) [11, 10]) :
    Calls Tryd.prog 34 #[v, .slice (some ⟨b, 0, none⟩) 2 2] w fun e w' => e = .returned (.bool true) ∧ Below w.heap.size w w' := bInts _ _ _ _ w h1 h2 (by decide)
set_option maxHeartbeats 4000000 in
theorem awake_any (w : World) (ht : Tab w) : Calls Tryd.prog 17 #[] w fun e w' => e = .returned (.bool true) ∧ Below w.heap.size w w' := by
  have HT := Lib.hid ht
  clear ht
  go_enter Tryd.func17, Tryd.ntmps17
  go_wp2_with (first | (go_at_call 72; (with_reducible refine (bImage 1 4 8 8 _ (fun k => xa1.getD k 0) _ (by decide) (fun _ => ⟨_, 0, rfl, by simp, parts_new _ xa1 _ rfl (by simp)⟩)).mono ?_); rintro e w' ⟨a1, c1, rfl, ha, -, hb⟩; obtain ⟨g1, rfl, -, hg1, hs1⟩ := ha (by decide); have HS1 := Lib.hid hs1; clear ha hs1; obtain ⟨pp1, rfl⟩ := later_of_below hb; clear hb) | (go_at_call 21; (with_reducible refine (compress_xa g1 c1 _ _ (by simp at hg1 ⊢; omega) (HS1.out.below hg1 (by (repeat' (first | with_reducible exact Below.refl _ _ | (with_reducible refine below_later_of ?_ ?_ _) | (with_reducible refine Below.alloc ?_ ?_ _) | (with_reducible refine Below.setCell ?_ ?_ _) | (with_reducible refine Below.drew ?_) | (simp; done) | (simp; omega) | omega)))) (by simp) (samples_new _ xa2 _ rfl (by simp))).mono ?_); rintro e w' ⟨a2, c2, rfl, hsv, hb⟩; have HSV := Lib.hid hsv; clear hsv; obtain ⟨pp2, rfl⟩ := later_of_below hb; clear hb) | (go_at_call 28; (with_reducible refine (phase_xa _).mono ?_); rintro e w' ⟨rfl, hb⟩; obtain ⟨pp3, rfl⟩ := later_of_below hb; clear hb) | (go_at_call 31; (with_reducible refine (correlate_xa _ _ _ ((ints_new _ [1, 2] _ 2 rfl (by decide) (by simp)).below ((Below.refl _ _).alloc (Nat.le_refl _) _)) (ints_new _ [3, 4] _ 2 rfl (by decide) (by simp))).mono ?_); rintro e w' ⟨v4, rfl, hv4, hb⟩; have HV4 := Lib.hid hv4; clear hv4; obtain ⟨pp4, rfl⟩ := later_of_below hb; clear hb) | (go_at_call 72; (with_reducible refine (bImage 1 2 4 4 _ (fun k => xa4.getD k 0) _ (by decide) (fun _ => ⟨_, 0, rfl, by simp, parts_new _ xa4 _ rfl (by simp)⟩)).mono ?_); rintro e w' ⟨a5, c5, rfl, ha, hc5, hb⟩; obtain ⟨g5, rfl, -, hg5, hs5⟩ := ha (by decide); have HS5 := Lib.hid (show SamplesAt _ g5 0 2 xaG from hs5); have HC5 := Lib.hid (show 2 ≤ c5 from hc5); clear ha hs5 hc5; obtain ⟨pp5, rfl⟩ := later_of_below hb; clear hb) | (go_at_call 73; (with_reducible refine (print_xa g5 c5 _ HC5.out hg5 HS5.out (HT.out.below (by (repeat' (first | with_reducible exact Below.refl _ _ | (with_reducible refine below_later_of ?_ ?_ _) | (with_reducible refine Below.alloc ?_ ?_ _) | (with_reducible refine Below.setCell ?_ ?_ _) | (with_reducible refine Below.drew ?_) | (simp; done) | (simp; omega) | omega))))).mono ?_); rintro e w' ⟨rfl, hb⟩; obtain ⟨pp6, rfl⟩ := later_of_below hb; clear hb) | (go_at_call 27; (with_reducible refine (same_xa a2 c2 _ _ (HSV.out.below (by (repeat' (first | with_reducible exact Below.refl _ _ | (with_reducible refine below_later_of ?_ ?_ _) | (with_reducible refine Below.alloc ?_ ?_ _) | (with_reducible refine Below.setCell ?_ ?_ _) | (with_reducible refine Below.drew ?_) | (simp; done) | (simp; omega) | omega)))) (by simp) (sums_new _ xa3 _ rfl (by simp))).mono ?_); rintro e w' ⟨rfl, hb⟩; obtain ⟨pp7, rfl⟩ := later_of_below hb; clear hb) | (go_at_call 34; (with_reducible refine (ints_xa v4 _ _ (HV4.out.below (by (repeat' (first | with_reducible exact Below.refl _ _ | (with_reducible refine below_later_of ?_ ?_ _) | (with_reducible refine Below.alloc ?_ ?_ _) | (with_reducible refine Below.setCell ?_ ?_ _) | (with_reducible refine Below.drew ?_) | (simp; done) | (simp; omega) | omega)))) (ints_new _ [11, 10] _ 2 rfl (by decide) (by simp))).mono ?_); rintro e w' ⟨rfl, hb⟩; obtain ⟨pp8, rfl⟩ := later_of_below hb; clear hb))
  go_ret
  exact ⟨rfl, (by (repeat' (first | with_reducible exact Below.refl _ _ | (with_reducible refine below_later_of ?_ ?_ _) | (with_reducible refine Below.alloc ?_ ?_ _) | (with_reducible refine Below.setCell ?_ ?_ _) | (with_reducible refine Below.drew ?_) | (simp; done) | (simp; omega) | omega)))⟩
end Go.Proofs.YtakohhlmomgegaaDoor
