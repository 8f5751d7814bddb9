/- Chapter 1: scenes: their images, their codes, whether they are small. -/
import Derived.Test.YtelchmimhnpkaaaU32
namespace Go.Proofs.Ytelchmimhnpkaaa
set_option linter.unusedVariables false
open Go.RowKit Ntt
/-- A scene: its size, its parts, its code's parts, and where they lie. -/
structure Scn where
  L : Int
  S : Int
  pa : Option Addr
  m : Nat
  pc : Nat
  p : Nat → Nat
  ca : Option Addr
  mc : Nat
  cc : Nat
  q : Nat → Nat
def SrcP (W : World) (a : Option Addr) (m : Nat) (p : Nat → Nat) : Prop := 0 < m → ∃ b off, a = some ⟨b, off, none⟩ ∧ b < W.heap.size ∧ PartsAt W b off m p
theorem SrcP.below {W W' : World} {a : Option Addr} {m : Nat} {p : Nat → Nat} (h : SrcP W a m p) (hb : Below W.heap.size W W') : SrcP W' a m p := fun h0 => by
  obtain ⟨b, off, h1, h2, h3⟩ := h h0
  exact ⟨b, off, h1, by have := hb.size; omega, h3.below h2 hb⟩
/-- The samples of parts. -/
def smp (p : Nat → Nat) (j : Nat) : Nat × Nat := (p (2 * j), p (2 * j + 1))
def Scn.At (W : World) (x : Scn) : Prop := SrcP W x.pa x.m x.p ∧ SrcP W x.ca x.mc x.q
theorem Scn.At.below {W W' : World} {x : Scn} (h : x.At W) (hb : Below W.heap.size W W') : x.At W' := ⟨h.1.below hb, h.2.below hb⟩
def smallB (x : Scn) : Bool := (decide (x.m ≤ 500) || decide (8192 < x.m) && decide (x.m ≤ 8196)) && decide (x.mc ≤ 70)
theorem smallB_ok {x : Scn} (h : smallB x = true) : (x.m ≤ 500 ∨ 8192 < x.m ∧ x.m ≤ 8196) ∧ x.mc ≤ 70 := by unfold smallB at h; simpa using h
@[go_sem] theorem field_image2 (a b c : Value) (w : World) : (Instr.field 29 (.agg #[a, b, c]) 2).run Try.prog w = .ok c w := by kernel_rfl
set_option maxHeartbeats 1000000 in
theorem lSmall (x : Scn) (w : World) {c : Bool} (hc : smallB x = c) : Calls Try.prog 10 #[.agg #[.int .i64 x.L, .int .i64 x.S, .slice x.pa x.m x.pc, .slice x.ca x.mc x.cc]] w fun e w' => e = .returned (.bool c) ∧ Below w.heap.size w w' := by
  subst hc
  by_cases c1 : x.m ≤ 500
  · have d1 : decide ((x.m : Int) ≤ 500) = true := by simp; omega
    have HF := Lib.hid (show decide ((x.mc : Int) ≤ 70) = smallB x by unfold smallB; rw [Bool.eq_iff_iff]; simp; omega)
    go_enter Try.func10, Try.ntmps10
    go_wp2
    go_ret
    exact ⟨ret_boolE HF.out, (by (repeat' (first | with_reducible exact Below.refl _ _ | (with_reducible refine below_later_of ?_ ?_ _) | (with_reducible refine Below.alloc ?_ ?_ _) | (with_reducible refine Below.setCell ?_ ?_ _) | (with_reducible refine Below.drew ?_) | (simp; done) | (simp; omega) | omega)))⟩
  · have d1 : decide ((x.m : Int) ≤ 500) = false := by simp; omega
    by_cases c2 : 8192 < x.m
    · have d2 : decide ((8192 : Int) < (x.m : Int)) = true := by simp; omega
      by_cases c3 : x.m ≤ 8196
      · have d3 : decide ((x.m : Int) ≤ 8196) = true := by simp; omega
        have HF := Lib.hid (show decide ((x.mc : Int) ≤ 70) = smallB x by unfold smallB; rw [Bool.eq_iff_iff]; simp; omega)
        go_enter Try.func10, Try.ntmps10
        go_wp2
        go_ret
        exact ⟨ret_boolE HF.out, (by (repeat' (first | with_reducible exact Below.refl _ _ | (with_reducible refine below_later_of ?_ ?_ _) | (with_reducible refine Below.alloc ?_ ?_ _) | (with_reducible refine Below.setCell ?_ ?_ _) | (with_reducible refine Below.drew ?_) | (simp; done) | (simp; omega) | omega)))⟩
      · have d3 : decide ((x.m : Int) ≤ 8196) = false := by simp; omega
        have HF := Lib.hid (show false = smallB x by unfold smallB; rw [Bool.eq_iff_iff]; simp; omega)
        go_enter Try.func10, Try.ntmps10
        go_wp2
        go_ret
        exact ⟨ret_boolE HF.out, (by (repeat' (first | with_reducible exact Below.refl _ _ | (with_reducible refine below_later_of ?_ ?_ _) | (with_reducible refine Below.alloc ?_ ?_ _) | (with_reducible refine Below.setCell ?_ ?_ _) | (with_reducible refine Below.drew ?_) | (simp; done) | (simp; omega) | omega)))⟩
    · have d2 : decide ((8192 : Int) < (x.m : Int)) = false := by simp; omega
      have HF := Lib.hid (show false = smallB x by unfold smallB; rw [Bool.eq_iff_iff]; simp; omega)
      go_enter Try.func10, Try.ntmps10
      go_wp2
      go_ret
      exact ⟨ret_boolE HF.out, (by (repeat' (first | with_reducible exact Below.refl _ _ | (with_reducible refine below_later_of ?_ ?_ _) | (with_reducible refine Below.alloc ?_ ?_ _) | (with_reducible refine Below.setCell ?_ ?_ _) | (with_reducible refine Below.drew ?_) | (simp; done) | (simp; omega) | omega)))⟩
theorem own_set {W : World} {B n : Nat} {a : Option Addr} {f : Nat → Nat × Nat} (h : 0 < n → ∃ g, a = some ⟨g, 0, none⟩ ∧ B ≤ g ∧ g < W.heap.size ∧ SamplesAt W g 0 n f) {p : Addr} (hp : p.block < B) (v : Value) : 0 < n → ∃ g, a = some ⟨g, 0, none⟩ ∧ B ≤ g ∧ g < (W.setCell p v).heap.size ∧ SamplesAt (W.setCell p v) g 0 n f := fun h0 => by
  obtain ⟨g, h1, h2, h3, h4⟩ := h h0
  refine ⟨g, h1, h2, by simpa using h3, fun k hk => ?_⟩
  rw [World.cell?_setCell_other _ _ _ _ (by intro e; rw [e] at hp; simp at hp; omega)]
  exact h4 k hk
theorem own_mono {W : World} {B B' n : Nat} {a : Option Addr} {f : Nat → Nat × Nat} (h : 0 < n → ∃ g, a = some ⟨g, 0, none⟩ ∧ B ≤ g ∧ g < W.heap.size ∧ SamplesAt W g 0 n f) (hb : B' ≤ B) : 0 < n → ∃ g, a = some ⟨g, 0, none⟩ ∧ B' ≤ g ∧ g < W.heap.size ∧ SamplesAt W g 0 n f := fun h0 => by
  obtain ⟨g, h1, h2, h3, h4⟩ := h h0
  exact ⟨g, h1, by omega, h3, h4⟩
set_option maxHeartbeats 1000000 in
theorem lImage (x : Scn) (w : World) (hm : x.m ≤ 100000) (hs : x.At w) : Calls Try.prog 11 #[.agg #[.int .i64 x.L, .int .i64 x.S, .slice x.pa x.m x.pc, .slice x.ca x.mc x.cc]] w (ImPost x.L x.S (x.m / 2) (smp x.p) w) := by
  have HI := Lib.hid (show ∀ W, Below w.heap.size w W → Calls Try.prog 19 #[.int .i64 x.L, .int .i64 x.S, .slice x.pa x.m x.pc] W (ImPost x.L x.S (x.m / 2) (smp x.p) W) from fun W hW => bImage x.L x.S x.m x.pc x.pa x.p W hm (hs.1.below hW))
  clear hs
  go_enter Try.func11, Try.ntmps11
  go_wp2_with (first | (go_at_call 19; (with_reducible refine (HI.out _ (by (repeat' (first | with_reducible exact Below.refl _ _ | (with_reducible refine below_later_of ?_ ?_ _) | (with_reducible refine Below.alloc ?_ ?_ _) | (with_reducible refine Below.setCell ?_ ?_ _) | (with_reducible refine Below.drew ?_) | (simp; done) | (simp; omega) | omega)))).mono ?_); rintro e w' ⟨a', c', rfl, ha, hcap, hb⟩; have HAA := Lib.hid ha; clear ha; obtain ⟨pp, rfl⟩ := later_of_below hb; clear hb))
  refine bodyPost_ret ?_ rfl ⟨a', c', rfl, own_mono (own_set (own_set (own_set HAA.out ?_ _) ?_ _) ?_ _) ?_, hcap, (by (repeat' (first | with_reducible exact Below.refl _ _ | (with_reducible refine below_later_of ?_ ?_ _) | (with_reducible refine Below.alloc ?_ ?_ _) | (with_reducible refine Below.setCell ?_ ?_ _) | (with_reducible refine Below.drew ?_) | (simp; done) | (simp; omega) | omega)))⟩
  · first | (simp [results, Try.results11, go_sem]; done) | simp [results, Try.results11, go_sem, ↓IntWalk.iteOmega]
  all_goals (simp <;> omega)
/-- A code, in memory of its own. -/
def CdPost (n : Nat) (f : Nat → Nat × Nat) (w : World) (e : Ending) (w' : World) : Prop :=
  ∃ a c, e = .returned (.slice a n c) ∧ (0 < n → ∃ g, a = some ⟨g, 0, none⟩ ∧ w.heap.size ≤ g ∧ g < w'.heap.size ∧ SamplesAt w' g 0 n f) ∧ Below w.heap.size w w'
set_option maxHeartbeats 1000000 in
theorem lCode (x : Scn) (w : World) (hm : x.mc ≤ 100000) (hs : x.At w) : Calls Try.prog 12 #[.agg #[.int .i64 x.L, .int .i64 x.S, .slice x.pa x.m x.pc, .slice x.ca x.mc x.cc]] w (CdPost (x.mc / 2) (smp x.q) w) := by
  have HI := Lib.hid (show ∀ W, Below w.heap.size w W → Calls Try.prog 19 #[.int .i64 0, .int .i64 0, .slice x.ca x.mc x.cc] W (ImPost 0 0 (x.mc / 2) (smp x.q) W) from fun W hW => bImage 0 0 x.mc x.cc x.ca x.q W hm (hs.2.below hW))
  clear hs
  go_enter Try.func12, Try.ntmps12
  go_wp2_with (first | (go_at_call 19; (with_reducible refine (HI.out _ (by (repeat' (first | with_reducible exact Below.refl _ _ | (with_reducible refine below_later_of ?_ ?_ _) | (with_reducible refine Below.alloc ?_ ?_ _) | (with_reducible refine Below.setCell ?_ ?_ _) | (with_reducible refine Below.drew ?_) | (simp; done) | (simp; omega) | omega)))).mono ?_); rintro e w' ⟨a', c', rfl, ha, hcap, hb⟩; have HAA := Lib.hid ha; clear ha; obtain ⟨pp, rfl⟩ := later_of_below hb; clear hb))
  go_ret
  exact ⟨a', c', rfl, own_mono HAA.out (by simp), (by (repeat' (first | with_reducible exact Below.refl _ _ | (with_reducible refine below_later_of ?_ ?_ _) | (with_reducible refine Below.alloc ?_ ?_ _) | (with_reducible refine Below.setCell ?_ ?_ _) | (with_reducible refine Below.drew ?_) | (simp; done) | (simp; omega) | omega)))⟩
end Go.Proofs.Ytelchmimhnpkaaa
