/- Chapter 4: the examples with which each statement begins. -/
import Derived.Test.YtkoiknmijjiicaaGreatDoorXC
import Derived.Test.YtkoiknmijjiicaaGreatDoorXA
import Derived.Test.YtkoiknmijjiicaaGreatDoorXD
import Derived.Test.YtkoiknmijjiicaaGreatDoorXE
import Derived.Test.YtkoiknmijjiicaaGreatDoorZK
namespace Go.Proofs.YtkoiknmijjiicaaGreatDoor
set_option linter.unusedVariables false
set_option linter.unusedSimpArgs false
open Go.RowKit Ntt
set_option maxHeartbeats 1000000 in
theorem sameFd_any (L S L' S' : Int) (n m : Nat) (f g : Nat → Nat × Nat) (v u : Value) (w : World) (hx : SumV w v n f) (hy : SumV w u m g) {c : Bool} (hc : c = true ↔ L = L' ∧ S = S' ∧ SameF n m f g) :
    Calls Tryz.prog 33 #[.agg #[.int .i64 L, .int .i64 S, v], .agg #[.int .i64 L', .int .i64 S', u]] w fun e w' => e = .returned (.bool c) ∧ Below w.heap.size w w' := by
  have HC := Lib.hid hc
  by_cases h1 : L = L'
  · subst h1
    have d1 : (L == L) = true := by simp
    by_cases h2 : S = S'
    · subst h2
      have d2 : (S == S) = true := by simp
      have HSS := Lib.hid (show ∀ W, Below w.heap.size w W → _ from fun W hW => sameSums_any n m f g v u W (hx.below hW) (hy.below hW) (c := c) (by rw [hc]; simp))
      obtain ⟨-, a, cap, rfl, -⟩ := hx
      obtain ⟨-, a', cap', rfl, -⟩ := hy
      clear hc
      go_enter Tryz.func33, Tryz.ntmps33
      go_wp2_with (first | (go_at_call 81; (with_reducible refine (HSS.out _ (by (repeat' (first | with_reducible exact Below.refl _ _ | (with_reducible refine below_later_of ?_ ?_ _) | (with_reducible refine Below.alloc ?_ ?_ _) | (with_reducible refine Below.setCell ?_ ?_ _) | (with_reducible refine Below.drew ?_) | (simp; done) | (simp; omega) | omega)))).mono ?_); rintro e w' ⟨rfl, hb⟩; obtain ⟨pp4, rfl⟩ := later_of_below hb; clear hb))
      go_ret
      exact ⟨rfl, (by (repeat' (first | with_reducible exact Below.refl _ _ | (with_reducible refine below_later_of ?_ ?_ _) | (with_reducible refine Below.alloc ?_ ?_ _) | (with_reducible refine Below.setCell ?_ ?_ _) | (with_reducible refine Below.drew ?_) | (simp; done) | (simp; omega) | omega)))⟩
    · have d2 : (S == S') = false := by simpa using h2
      have HF := Lib.hid (show false = c by symm; rw [Bool.eq_false_iff]; intro h; exact h2 (hc.1 h).2.1)
      obtain ⟨-, a, cap, rfl, -⟩ := hx
      obtain ⟨-, a', cap', rfl, -⟩ := hy
      clear hc h2
      go_enter Tryz.func33, Tryz.ntmps33
      go_wp2
      go_ret
      exact ⟨ret_bool HF.out, (by (repeat' (first | with_reducible exact Below.refl _ _ | (with_reducible refine below_later_of ?_ ?_ _) | (with_reducible refine Below.alloc ?_ ?_ _) | (with_reducible refine Below.setCell ?_ ?_ _) | (with_reducible refine Below.drew ?_) | (simp; done) | (simp; omega) | omega)))⟩
  · have d1 : (L == L') = false := by simpa using h1
    have HF := Lib.hid (show false = c by symm; rw [Bool.eq_false_iff]; intro h; exact h1 (hc.1 h).1)
    obtain ⟨-, a, cap, rfl, -⟩ := hx
    obtain ⟨-, a', cap', rfl, -⟩ := hy
    clear hc h1
    go_enter Tryz.func33, Tryz.ntmps33
    go_wp2
    go_ret
    exact ⟨ret_bool HF.out, (by (repeat' (first | with_reducible exact Below.refl _ _ | (with_reducible refine below_later_of ?_ ?_ _) | (with_reducible refine Below.alloc ?_ ?_ _) | (with_reducible refine Below.setCell ?_ ?_ _) | (with_reducible refine Below.drew ?_) | (simp; done) | (simp; omega) | omega)))⟩

def sqZ : List Int := [0, 1024, -1024, -2048]
theorem sqZ_ok : MapOk 2 2 sqZ := ⟨rfl, by decide, by decide, by decide, by decide, by
  have : ∀ k, k < 4 → phOk (intAt sqZ k) = true := by decide
  exact this⟩
theorem sqZ_res : resM 2 2 sqZ = [⟨0, 0, 1⟩] := by rfl
def prZ : List Int := [5, 1000000000000]
theorem prZ_ok : MapOk 1 2 prZ := ⟨rfl, by decide, by decide, by decide, by decide, by
  have : ∀ k, k < 2 → phOk (intAt prZ k) = true := by decide
  exact this⟩
theorem prZ_text : printZ 1 2 prZ = [112, 104, 97, 115, 101, 115, 32, 49, 32, 50, 10, 53, 32, 42, 10] := by decide +kernel
def xw1 : List Nat := [1065353216, 0, 0, 1065353216]
def xw2 : List Nat := [1065353216, 0, 1065353216, 0]
def xw3 : List (Nat × Nat) := [(4607182418800017408, 0), (0, 4607182418800017408)]
def xwF : Nat → Nat × Nat := smp (fun k => xw1.getD k 0)
def xwG : Nat → Nat × Nat := smp (fun k => xw2.getD k 0)
theorem xw_err : pairE 1 2 2 xwF 1 2 2 xwG = 0 := by decide +kernel
theorem xw_vals : ∀ i, i < 2 → nmF (intfF (xB xwF) (yB xwF) (xB xwG) (yB xwG)) i = xw3.getD i (0, 0) := by decide +kernel
theorem sq_xw : sqR 800 5 = 550000 ∧ sqE 800 5 = 0 := by decide +kernel
theorem sumV_ownF {W : World} {B n c : Nat} {a : Option Addr} {f : Nat → Nat × Nat} (h : OwnS W B n f a) (hn : n ≤ 100000) : SumV W (.slice a n c) n f :=
  ⟨hn, a, c, rfl, fun hp => by obtain ⟨g, h1, -, h3, h4⟩ := h hp; exact ⟨g, 0, h1, h3, h4⟩⟩
set_option maxHeartbeats 1000000 in
theorem lSquare (w : World) : Calls Tryz.prog 28 #[] w fun e w' => ∃ b, e = .returned (.agg #[.int .i64 2, .int .i64 2, .slice (some ⟨b, 0, none⟩) 4 4]) ∧ IntsV w' (.slice (some ⟨b, 0, none⟩) 4 4) sqZ ∧ Below w.heap.size w w' := by
  go_enter Tryz.func28, Tryz.ntmps28
  go_wp2
  refine bodyPost_ret ?_ rfl ⟨w.heap.size + 1, rfl, ?_, (by (repeat' (first | with_reducible exact Below.refl _ _ | (with_reducible refine below_later_of ?_ ?_ _) | (with_reducible refine Below.alloc ?_ ?_ _) | (with_reducible refine Below.setCell ?_ ?_ _) | (with_reducible refine Below.drew ?_) | (simp; done) | (simp; omega) | omega)))⟩
  · first | (simp [results, Tryz.results28, go_sem]; done) | simp [results, Tryz.results28, go_sem, ↓IntWalk.iteOmega]
  · refine ⟨by decide, _, 4, rfl, fun _ => ⟨w.heap.size + 1, 0, rfl, by simp, fun k hk => ?_⟩⟩
    have hk4 : k < 4 := hk
    rcases (show k = 0 ∨ k = 1 ∨ k = 2 ∨ k = 3 by omega) with rfl | rfl | rfl | rfl <;> simp [go_sem, sqZ, intAt]
theorem residues_xw (b : Nat) (w : World) (hv : IntsV w (.slice (some ⟨b, 0, none⟩) 4 4) sqZ) : Calls Tryz.prog 27 #[.agg #[.int .i64 2, .int .i64 2, .slice (some ⟨b, 0, none⟩) 4 4]] w fun e w' => ∃ u, e = .returned (.tuple #[u, .int .i64 0]) ∧ RsV w' u [⟨0, 0, 1⟩] ∧ Below w.heap.size w w' := by
  have := fResidues_ok 2 2 sqZ _ w sqZ_ok hv
  rw [sqZ_res] at this
  exact this
theorem interfere_xw (g1 c1 g2 c2 : Nat) (w : World) (h1 : g1 < w.heap.size) (h2 : g2 < w.heap.size) (s1 : SamplesAt w g1 0 2 xwF) (s2 : SamplesAt w g2 0 2 xwG) :
    Calls Tryz.prog 29 #[.agg #[.int .i64 1, .int .i64 2, .slice (some ⟨g1, 0, none⟩) 2 c1], .agg #[.int .i64 1, .int .i64 2, .slice (some ⟨g2, 0, none⟩) 2 c2]] w fun e w' => ∃ a c, e = .returned (.tuple #[.agg #[.int .i64 1, .int .i64 2, .slice a 2 c], .int .i64 0]) ∧ SumV w' (.slice a 2 c) 2 (nmF (intfF (xB xwF) (yB xwF) (xB xwG) (yB xwG))) ∧ Below w.heap.size w w' := by
  refine (interfere_ok 1 2 2 c1 xwF _ 2 c2 xwG _ w (by decide) (by decide) (fun _ => ⟨g1, 0, rfl, h1, s1⟩) (fun _ => ⟨g2, 0, rfl, h2, s2⟩) xw_err).mono ?_
  rintro e w' ⟨a, c, rfl, ho, -, hb⟩
  exact ⟨a, c, rfl, sumV_ownF ho (by decide), hb⟩
theorem same_xw (a : Option Addr) (c b : Nat) (w : World) (h1 : SumV w (.slice a 2 c) 2 (nmF (intfF (xB xwF) (yB xwF) (xB xwG) (yB xwG)))) (h2 : b < w.heap.size) (h3 : SumsAt w b 0 2 (fun k => xw3.getD k (0, 0))) :
    Calls Tryz.prog 33 #[.agg #[.int .i64 1, .int .i64 2, .slice a 2 c], .agg #[.int .i64 1, .int .i64 2, .slice (some ⟨b, 0, none⟩) 2 2]] w fun e w' => e = .returned (.bool true) ∧ Below w.heap.size w w' :=
  sameFd_any 1 2 1 2 2 2 _ _ _ _ w h1 ⟨by decide, _, 2, rfl, fun _ => ⟨b, 0, rfl, h2, h3⟩⟩ ⟨fun _ => ⟨rfl, rfl, rfl, xw_vals⟩, fun _ => rfl⟩
theorem print_xw (b : Nat) (w : World) (hv : IntsV w (.slice (some ⟨b, 0, none⟩) 2 2) prZ) (ht : Tab w) : Calls Tryz.prog 22 #[.agg #[.int .i64 1, .int .i64 2, .slice (some ⟨b, 0, none⟩) 2 2]] w fun e w' => e = .returned (.tuple #[.string ⟨#[112, 104, 97, 115, 101, 115, 32, 49, 32, 50, 10, 53, 32, 42, 10]⟩, .int .i64 0]) ∧ Below w.heap.size w w' := by
  have := fPrint 1 2 prZ (some ⟨b, 0, none⟩) 2 w prZ_ok hv (by decide) ht
  rw [prZ_text] at this
  exact this
theorem square_xw (w : World) : Calls Tryz.prog 31 #[.int .i64 800, .int .i64 5] w fun e w' => e = .returned (.tuple #[.int .i64 550000, .int .i64 0]) ∧ w = w' := by
  have := squareOf_any 800 5 w
  rw [sq_xw.1, sq_xw.2] at this
  exact this
theorem res_xw (u : Value) (b : Nat) (w : World) (h1 : RsV w u [⟨0, 0, 1⟩]) (hb : b < w.heap.size) (c0 : w.cell? ⟨b, 0, none⟩ = some (.int .i64 0)) (c1 : w.cell? ⟨b, 1, none⟩ = some (.int .i64 0)) (c2 : w.cell? ⟨b, 2, none⟩ = some (.int .i64 1)) :
    Calls Tryz.prog 32 #[u, .slice (some ⟨b, 0, none⟩) 1 1] w fun e w' => e = .returned (.bool true) ∧ Below w.heap.size w w' := by
  refine lSameRes [⟨0, 0, 1⟩] u _ w h1 ⟨by decide, _, 1, rfl, fun _ => ⟨b, rfl, hb, fun k x hk => ?_⟩⟩
  rcases k with _ | k
  · obtain rfl : (⟨0, 0, 1⟩ : Res) = x := by simpa using hk
    exact ⟨c0, c1, c2⟩
  · simp at hk
set_option maxRecDepth 20000 in
set_option maxHeartbeats 4000000 in
theorem awake4 (w : World) (ht : Tab w) : Calls Tryz.prog 6 #[] w fun e w' => e = .returned (.bool true) ∧ Below w.heap.size w w' := by
  have HT := Lib.hid ht
  clear ht
  go_enter Tryz.func6, Tryz.ntmps6
  go_wp2_with (first | (go_at_call 28; (with_reducible refine (lSquare _).mono ?_); rintro e w' ⟨b1, rfl, hv, hb⟩; have HV1 := Lib.hid hv; clear hv; obtain ⟨p1, rfl⟩ := later_of_below hb; clear hb) | (go_at_call 27; (with_reducible refine (residues_xw b1 _ (HV1.out.below (by (repeat' (first | with_reducible exact Below.refl _ _ | (with_reducible refine below_later_of ?_ ?_ _) | (with_reducible refine Below.alloc ?_ ?_ _) | (with_reducible refine Below.setCell ?_ ?_ _) | (with_reducible refine Below.drew ?_) | (simp; done) | (simp; omega) | omega))))).mono ?_); rintro e w' ⟨u2, rfl, hr, hb⟩; have HR2 := Lib.hid hr; clear hr; obtain ⟨p2, rfl⟩ := later_of_below hb; clear hb) | (go_at_call 30; (with_reducible refine (bImage 1 2 4 4 _ (fun k => xw1.getD k 0) _ (by decide) (fun _ => ⟨_, 0, rfl, by simp, parts_new _ xw1 _ rfl (by simp)⟩)).mono ?_); rintro e w' ⟨a3, c3, rfl, ha, -, hb⟩; obtain ⟨g3, rfl, -, hg3, hs3⟩ := ha (by decide); have HS3 := Lib.hid (show SamplesAt _ g3 0 2 xwF from hs3); clear ha hs3; obtain ⟨p3, rfl⟩ := later_of_below hb; clear hb) | (go_at_call 30; (with_reducible refine (bImage 1 2 4 4 _ (fun k => xw2.getD k 0) _ (by decide) (fun _ => ⟨_, 0, rfl, by simp, parts_new _ xw2 _ rfl (by simp)⟩)).mono ?_); rintro e w' ⟨a4, c4, rfl, ha, -, hb⟩; obtain ⟨g4, rfl, -, hg4, hs4⟩ := ha (by decide); have HS4 := Lib.hid (show SamplesAt _ g4 0 2 xwG from hs4); clear ha hs4; obtain ⟨p4, rfl⟩ := later_of_below hb; clear hb) | (go_at_call 29; (with_reducible refine (interfere_xw g3 c3 g4 c4 _ (by simp at hg3 ⊢; omega) (by simp at hg4 ⊢; omega) (HS3.out.below hg3 (by (repeat' (first | with_reducible exact Below.refl _ _ | (with_reducible refine below_later_of ?_ ?_ _) | (with_reducible refine Below.alloc ?_ ?_ _) | (with_reducible refine Below.setCell ?_ ?_ _) | (with_reducible refine Below.drew ?_) | (simp; done) | (simp; omega) | omega)))) (HS4.out.below hg4 (by (repeat' (first | with_reducible exact Below.refl _ _ | (with_reducible refine below_later_of ?_ ?_ _) | (with_reducible refine Below.alloc ?_ ?_ _) | (with_reducible refine Below.setCell ?_ ?_ _) | (with_reducible refine Below.drew ?_) | (simp; done) | (simp; omega) | omega))))).mono ?_); rintro e w' ⟨a5, c5, rfl, hv, hb⟩; have HV5 := Lib.hid hv; clear hv hg3 hg4; obtain ⟨p5, rfl⟩ := later_of_below hb; clear hb) | (go_at_call 31; (with_reducible refine (square_xw _).mono ?_); rintro e w' ⟨rfl, rfl⟩) | (go_at_call 22; (with_reducible refine (print_xw _ _ (ints_new _ prZ _ 2 rfl (by decide) (by simp)) (HT.out.below (by (repeat' (first | with_reducible exact Below.refl _ _ | (with_reducible refine below_later_of ?_ ?_ _) | (with_reducible refine Below.alloc ?_ ?_ _) | (with_reducible refine Below.setCell ?_ ?_ _) | (with_reducible refine Below.drew ?_) | (simp; done) | (simp; omega) | omega))))).mono ?_); rintro e w' ⟨rfl, hb⟩; obtain ⟨p6, rfl⟩ := later_of_below hb; clear hb) | (go_at_call 32; (with_reducible refine (res_xw u2 _ _ (HR2.out.below (by (repeat' (first | with_reducible exact Below.refl _ _ | (with_reducible refine below_later_of ?_ ?_ _) | (with_reducible refine Below.alloc ?_ ?_ _) | (with_reducible refine Below.setCell ?_ ?_ _) | (with_reducible refine Below.drew ?_) | (simp; done) | (simp; omega) | omega)))) (by simp) (by (first | (simp [go_sem]; done) | simp [go_sem, ↓IntWalk.iteOmega])) (by (first | (simp [go_sem]; done) | simp [go_sem, ↓IntWalk.iteOmega])) (by (first | (simp [go_sem]; done) | simp [go_sem, ↓IntWalk.iteOmega]))).mono ?_); rintro e w' ⟨rfl, hb⟩; obtain ⟨p7, rfl⟩ := later_of_below hb; clear hb) | (go_at_call 33; (with_reducible refine (same_xw a5 c5 _ _ (HV5.out.below (by (repeat' (first | with_reducible exact Below.refl _ _ | (with_reducible refine below_later_of ?_ ?_ _) | (with_reducible refine Below.alloc ?_ ?_ _) | (with_reducible refine Below.setCell ?_ ?_ _) | (with_reducible refine Below.drew ?_) | (simp; done) | (simp; omega) | omega)))) (by simp) (sums_new _ xw3 _ rfl (by simp))).mono ?_); rintro e w' ⟨rfl, hb⟩; obtain ⟨p8, rfl⟩ := later_of_below hb; clear hb))
  go_ret
  exact ⟨rfl, (by (repeat' (first | with_reducible exact Below.refl _ _ | (with_reducible refine below_later_of ?_ ?_ _) | (with_reducible refine Below.alloc ?_ ?_ _) | (with_reducible refine Below.setCell ?_ ?_ _) | (with_reducible refine Below.drew ?_) | (simp; done) | (simp; omega) | omega)))⟩
end Go.Proofs.YtkoiknmijjiicaaGreatDoor
