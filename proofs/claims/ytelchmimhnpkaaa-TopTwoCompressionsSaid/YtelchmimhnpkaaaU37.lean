/- Chapter 1: the calls of TopTwoCompressions, one contract each. -/
import Derived.Test.YtelchmimhnpkaaaU36
import Derived.Test.YtelchmimhnpkaaaU35
namespace Go.Proofs.Ytelchmimhnpkaaa
set_option linter.unusedVariables false
open Go.RowKit Ntt
def rowL (F : Nat → Int) : List Int := (List.range 128).map F
theorem rowL_len (F : Nat → Int) : (rowL F).length = 128 := by unfold rowL; simp
theorem rowL_at (F : Nat → Int) {k : Nat} (h : k < 128) : intAt (rowL F) k = F k := intAt_map F h
theorem rowL_ok {F : Nat → Int} (h : ∀ k, 0 ≤ F k ∧ F k < 998244353) : listE (rowL F) = 0 := by
  unfold listE
  rw [rowL_len, if_pos (by decide), if_pos]
  rw [List.all_eq_true]
  intro z hz
  unfold rowL at hz
  obtain ⟨k, -, rfl⟩ := List.mem_map.1 hz
  have := h k
  unfold inE
  simp
  omega
theorem partF_bd (n : Nat) (x y : Nat → Int) (c : Bool) (k : Nat) : 0 ≤ partF n x y c k ∧ partF n x y c k < 998244353 := by
  unfold partF
  split
  · exact ⟨Int.emod_nonneg _ (by decide), Int.emod_lt_of_pos _ (by decide)⟩
  · decide
theorem corr_rowL (F G : Nat → Int) (s : Nat) : corr 128 (intAt (rowL F)) (intAt (rowL G)) s = corr 128 F G s := by
  unfold corr
  exact sum_eq fun i hi => by rw [rowL_at F (Nat.mod_lt _ (by decide)), rowL_at G hi]
def CorPost (F G : Nat → Int) (w : World) (e : Ending) (w' : World) : Prop :=
  ∃ g c, e = .returned (.tuple #[.slice (some ⟨g, 0, none⟩) 128 c, .int .i64 0]) ∧ IntsAtF w' g 128 (fun s => corr 128 F G s % PP) ∧ Below w.heap.size w w'
theorem corr_law (F G : Nat → Int) (v u : Value) (w : World) (hv : IntsV w v (rowL F)) (hu : IntsV w u (rowL G)) (hF : ∀ k, 0 ≤ F k ∧ F k < 998244353) (hG : ∀ k, 0 ≤ G k ∧ G k < 998244353) :
    Calls Try.prog 15 #[v, u] w (CorPost F G w) := by
  refine (correlate_ok 7 (by decide) (rowL F) (rowL G) v u w (rowL_len F) (by rw [rowL_len, rowL_len]) hv hu (rowL_ok hF) (rowL_ok hG)).mono ?_
  rintro e w' ⟨g, c, rfl, -, ho, hb⟩
  rw [rowL_len] at ho ⊢
  exact ⟨g, c, rfl, (ho.same (fun s _ => by rw [corr_rowL])).1, hb⟩
def PartPost (F : Nat → Int) (w : World) (e : Ending) (w' : World) : Prop := ∃ v, e = .returned v ∧ IntsV w' v (rowL F) ∧ Below w.heap.size w w'
theorem partsOf_small {n : Nat} {f : Nat → Nat × Nat} {m : Int} {X Y : Nat → Int} (hm : m ≤ 1000000) (h : SmallS n f X Y m) : PartsOf n f X Y := fun k hk => by
  obtain ⟨⟨h1, h2, h3, h4⟩, -, -⟩ := h k hk
  exact ⟨flI_single h1 (by omega) (by omega), flI_single h2 (by omega) (by omega), h3, h4⟩
theorem parted_law (n b off cap : Nat) (f : Nat → Nat × Nat) (x y : Nat → Int) (c : Bool) (w : World) (hn : n ≤ 128) (hbw : b < w.heap.size) (hc : SamplesAt w b off n f) (hp : PartsOf n f x y) :
    Calls Try.prog 14 #[.slice (some ⟨b, off, none⟩) n cap, .bool c] w (PartPost (partF n x y c) w) := by
  refine (parted_any n b off cap f x y c w hn hbw hc hp).mono ?_
  rintro e w' ⟨g, c', rfl, -, ho, hb⟩
  exact ⟨_, rfl, intsV_of ho (by decide), hb⟩
theorem copy_law (F : Nat → Int) (v : Value) (w : World) (hv : IntsV w v (rowL F)) : Calls Try.prog 16 #[v] w (PartPost F w) := by
  have hv2 := hv
  obtain ⟨h1, a, cap, rfl, h4⟩ := hv
  obtain ⟨b, off, rfl, h5, h6⟩ := h4 (by rw [rowL_len]; decide)
  exact copyInts_some (rowL F) b off cap w h1 (by rw [rowL_len]; decide) h5 h6
end Go.Proofs.Ytelchmimhnpkaaa
