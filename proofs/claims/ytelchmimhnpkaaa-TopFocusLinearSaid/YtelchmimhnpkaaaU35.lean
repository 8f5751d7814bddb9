/- Chapter 1: the examples of top01: compressed. -/
import Derived.Test.YtelchmimhnpkaaaU34
namespace Go.Proofs.Ytelchmimhnpkaaa
set_option linter.unusedVariables false
open Go.RowKit Ntt
def ex1 : List Nat := [0, 0, 1065353216, 0, 1065353216, 0, 3212836864, 0, 0, 0]
def ex2 : List (Nat × Nat) := [(1065353216, 0), (1065353216, 0), (3212836864, 0)]
def ex3 : List (Nat × Nat) := [(0, 0), (4613937818241073152, 0), (0, 0)]
def exF : Nat → Nat × Nat := smp (fun k => ex1.getD k 0)
def exC : Nat → Nat × Nat := fun k => ex2.getD k (0, 0)
theorem ex_err : first2 (imgE 1 5 5 exF).2 (codeE 3 exC).2 = 0 := by decide +kernel
theorem ex_vals : ∀ i, i < 3 → (f64I (reP (xB exF) (yB exF) (xB exC) (yB exC) (i / 3 * 5 + i % 3) 3), f64I (imP (xB exF) (yB exF) (xB exC) (yB exC) (i / 3 * 5 + i % 3) 3)) = ex3.getD i (0, 0) := by decide +kernel
theorem ex_same {D : List (Nat × Nat)} (hD : D.length = 1 * 3) (h : DOk (xB exF) (yB exF) (xB exC) (yB exC) 3 5 3 D) : SameF D.length 3 (fun k => D.getD k (0, 0)) (fun k => ex3.getD k (0, 0)) := by
  refine ⟨by omega, fun k hk => ?_⟩
  have e : D[k]? = some (D.getD k (0, 0)) := by simp [hk]
  have b := h k _ e
  show D.getD k (0, 0) = ex3.getD k (0, 0)
  rw [← ex_vals k (by omega), ← b.re, ← b.im]
theorem compress_ex (g c : Nat) (b : Nat) (w : World) (hg : g < w.heap.size) (hs : SamplesAt w g 0 5 exF) (hb : b < w.heap.size) (hc : SamplesAt w b 0 3 exC) :
    Calls Try.prog 13 #[.agg #[.int .i64 1, .int .i64 5, .slice (some ⟨g, 0, none⟩) 5 c], .slice (some ⟨b, 0, none⟩) 3 3] w fun e w' => ∃ (a : Option Addr) (c : Nat) (D : List (Nat × Nat)), e = .returned (.tuple #[.agg #[.int .i64 1, .int .i64 3, .slice a D.length c], .int .i64 0]) ∧ D.length = 3 ∧ SumV w' (.slice a D.length c) D.length (fun k => D.getD k (0, 0)) ∧ SameF D.length 3 (fun k => D.getD k (0, 0)) (fun k => ex3.getD k (0, 0)) ∧ Below w.heap.size w w' := by
  refine (compress_ok 1 5 5 c 3 3 exF exC _ _ w (by decide) (by decide) (fun _ => ⟨g, 0, rfl, hg, hs⟩) (fun _ => ⟨b, 0, rfl, hb, hc⟩) ex_err (by decide)).mono ?_
  rintro e w' ⟨a, c, D, rfl, hD, hok, hfa, hb⟩
  exact ⟨a, c, D, rfl, hD, sumV_field hfa (by omega), ex_same hD hok, hb⟩
theorem transform_ex (b : Nat) (w : World) (hv : IntsV w (.slice (some ⟨b, 0, none⟩) 2 2) [1, 2]) :
    Calls Try.prog 54 #[.slice (some ⟨b, 0, none⟩) 2 2] w fun e w' => ∃ v, e = .returned (.tuple #[v, .int .i64 0]) ∧ IntsV w' v [3, 998244352] ∧ Below w.heap.size w w' := by
  refine (transform_ok 1 (by decide) [1, 2] _ w rfl hv (by decide +kernel)).mono ?_
  rintro e w' ⟨g, c, rfl, -, hf, hb⟩
  refine ⟨_, rfl, ?_, hb⟩
  have := intsV_of (c := c) hf (by decide)
  have e2 : (List.range [(1 : Int), 2].length).map (fft PP 1 (intAt [1, 2]) (rootM [(1 : Int), 2].length)) = [3, 998244352] := by decide +kernel
  rwa [e2] at this
theorem same_ex (a : Option Addr) (c b : Nat) (D : List (Nat × Nat)) (w : World) (h1 : SumV w (.slice a D.length c) D.length (fun k => D.getD k (0, 0))) (h2 : b < w.heap.size) (h3 : SumsAt w b 0 3 (fun k => ex3.getD k (0, 0))) (hs : SameF D.length 3 (fun k => D.getD k (0, 0)) (fun k => ex3.getD k (0, 0))) :
    Calls Try.prog 55 #[.slice a D.length c, .slice (some ⟨b, 0, none⟩) 3 3] w fun e w' => e = .returned (.bool true) ∧ Below w.heap.size w w' :=
  sameSums_any D.length 3 _ _ _ _ w h1 ⟨by decide, _, 3, rfl, fun _ => ⟨b, 0, rfl, h2, h3⟩⟩ ⟨fun _ => hs, fun _ => rfl⟩
theorem ints_ex (v : Value) (b : Nat) (w : World) (h1 : IntsV w v [3, 998244352]) (h2 : IntsV w (.slice (some ⟨b, 0, none⟩) 2 2) [3, 998244352]) :
    Calls Try.prog 56 #[v, .slice (some ⟨b, 0, none⟩) 2 2] w fun e w' => e = .returned (.bool true) ∧ Below w.heap.size w w' := bInts _ _ _ _ w h1 h2 (by decide)
set_option maxHeartbeats 2000000 in
theorem compressed_any (w : World) : Calls Try.prog 9 #[] w fun e w' => e = .returned (.bool true) ∧ Below w.heap.size w w' := by
  go_enter Try.func9, Try.ntmps9
  go_wp2_with (first | (go_at_call 19; (with_reducible refine (bImage 1 5 10 10 _ (fun k => ex1.getD k 0) _ (by decide) (fun _ => ⟨_, 0, rfl, by simp, parts_new _ ex1 _ rfl (by simp)⟩)).mono ?_); rintro e w' ⟨a1, c1, rfl, ha, -, hb⟩; obtain ⟨g1, rfl, -, hg1, hs1⟩ := ha (by decide); have HS1 := Lib.hid hs1; clear ha hs1; obtain ⟨pp1, rfl⟩ := later_of_below hb; clear hb) | (go_at_call 13; (with_reducible refine (compress_ex g1 c1 _ _ (by simp at hg1 ⊢; omega) (HS1.out.below hg1 (by (repeat' (first | with_reducible exact Below.refl _ _ | (with_reducible refine below_later_of ?_ ?_ _) | (with_reducible refine Below.alloc ?_ ?_ _) | (with_reducible refine Below.setCell ?_ ?_ _) | (with_reducible refine Below.drew ?_) | (simp; done) | (simp; omega) | omega)))) (by simp) (samples_new _ ex2 _ rfl (by simp))).mono ?_); rintro e w' ⟨a2, c2, D, rfl, hD, hsv, hsm, hb⟩; have HD := Lib.hid hD; have HSV := Lib.hid hsv; have HSM := Lib.hid hsm; clear hD hsv hsm; obtain ⟨pp2, rfl⟩ := later_of_below hb; clear hb) | (go_at_call 54; (with_reducible refine (transform_ex _ _ (ints_new _ [1, 2] _ 2 rfl (by decide) (by simp))).mono ?_); rintro e w' ⟨v3, rfl, hv3, hb⟩; have HV3 := Lib.hid hv3; clear hv3; obtain ⟨pp3, rfl⟩ := later_of_below hb; clear hb) | (go_at_call 55; (with_reducible refine (same_ex a2 c2 _ D _ (HSV.out.below (by (repeat' (first | with_reducible exact Below.refl _ _ | (with_reducible refine below_later_of ?_ ?_ _) | (with_reducible refine Below.alloc ?_ ?_ _) | (with_reducible refine Below.setCell ?_ ?_ _) | (with_reducible refine Below.drew ?_) | (simp; done) | (simp; omega) | omega)))) (by simp) (sums_new _ ex3 _ rfl (by simp)) HSM.out).mono ?_); rintro e w' ⟨rfl, hb⟩; obtain ⟨pp4, rfl⟩ := later_of_below hb; clear hb) | (go_at_call 56; (with_reducible refine (ints_ex v3 _ _ (HV3.out.below (by (repeat' (first | with_reducible exact Below.refl _ _ | (with_reducible refine below_later_of ?_ ?_ _) | (with_reducible refine Below.alloc ?_ ?_ _) | (with_reducible refine Below.setCell ?_ ?_ _) | (with_reducible refine Below.drew ?_) | (simp; done) | (simp; omega) | omega)))) (ints_new _ [3, 998244352] _ 2 rfl (by decide) (by simp))).mono ?_); rintro e w' ⟨rfl, hb⟩; obtain ⟨pp5, rfl⟩ := later_of_below hb; clear hb))
  go_ret
  exact ⟨rfl, (by (repeat' (first | with_reducible exact Below.refl _ _ | (with_reducible refine below_later_of ?_ ?_ _) | (with_reducible refine Below.alloc ?_ ?_ _) | (with_reducible refine Below.setCell ?_ ?_ _) | (with_reducible refine Below.drew ?_) | (simp; done) | (simp; omega) | omega)))⟩
end Go.Proofs.Ytelchmimhnpkaaa
