/- Chapter 1: copies of lists of integers. -/
import Derived.Test.YtelchmimhnpkaaaU22
namespace Go.Proofs.Ytelchmimhnpkaaa
set_option linter.unusedVariables false
open Go.RowKit Ntt
theorem ownsRow_new1 (w : World) (e : TypeId) (base B : Nat) (hB : B = w.heap.size) (h : base ≤ w.heap.size) : (w.alloc (.cells #[] e)).ownsRow base e 1 (.slice (some ⟨B, 0, none⟩) 0 0) 0 [] := by
  subst hB
  exact ⟨rfl, Or.inr ⟨w.heap.size, 0, #[], rfl, h, heap_alloc_new w _, Nat.le_refl _, by unfold maxLen; omega, rfl, rfl⟩⟩
theorem intVals_at (zs : List Int) {j : Nat} {u : Value} (h : (zs.map (Value.int .i64))[j]? = some u) : j < zs.length ∧ u = .int .i64 (intAt zs j) := by
  rw [List.getElem?_map] at h
  cases hz : zs[j]? with
  | none => rw [hz] at h; cases h
  | some z =>
    rw [hz] at h
    refine ⟨(List.getElem?_eq_some_iff.1 hz).1, ?_⟩
    unfold intAt
    rw [hz]
    exact (Option.some.inj h).symm
set_option maxHeartbeats 1000000 in
theorem copyInts_some (zs : List Int) (b off cap : Nat) (w : World) (hl : zs.length ≤ 1000000000) (hp : 0 < zs.length) (hbw : b < w.heap.size) (hc : ∀ k, k < zs.length → w.cell? ⟨b, off + k, none⟩ = some (.int .i64 (intAt zs k))) :
    Calls Try.prog 16 #[.slice (some ⟨b, off, none⟩) zs.length cap] w fun e w' => ∃ v, e = .returned v ∧ IntsV w' v zs ∧ Below w.heap.size w w' := by
  obtain ⟨i0, hi, hz0, hz1, hz2⟩ := info_parts info3
  have HC := Lib.hid (show ∀ W, Below w.heap.size w W → ∀ j u, (zs.map (Value.int .i64))[j]? = some u → W.cell? ((⟨b, off, none⟩ : Addr).add j) = some u from fun W hW j u hu => by
    obtain ⟨h1, rfl⟩ := intVals_at zs hu
    have e : (⟨b, off, none⟩ : Addr).add j = ⟨b, off + j, none⟩ := by simp [Addr.add] <;> omega
    rw [e]
    exact (hW.cell (p := ⟨b, off + j, none⟩) hbw).trans (hc j h1))
  clear hc
  go_enter Try.func16, Try.ntmps16
  go_wp2_with (at_builtin; refine wpList_append_own _ rfl _ _ 38 rfl w.heap.size 3 i0 (.int .i64 0) 1 8 Try.underlying38 hi hz0 hz1 hz2 rfl (by decide) _ 0 [] rfl (ownsRow_new1 _ _ _ _ (by simp) (by simp)) ⟨b, off, none⟩ zs.length cap (zs.map (.int .i64)) rfl ?c1 ?c2 ?c3 ?c4 ?c5 ?c6 ?_)
  case c1 => simp
  case c2 => exact HC.out _ (by (repeat' (first | with_reducible exact Below.refl _ _ | (with_reducible refine below_later_of ?_ ?_ _) | (with_reducible refine Below.alloc ?_ ?_ _) | (with_reducible refine Below.setCell ?_ ?_ _) | (with_reducible refine Below.drew ?_) | (simp; done) | (simp; omega) | omega)))
  case c3 => intro u hu; simp at hu; obtain ⟨z, _, rfl⟩ := hu; rfl
  case c4 => unfold maxLen; omega
  case c5 => omega
  case c6 => simp
  intro v' w1 hown hgrow _
  have hown2 : w1.ownsRow w.heap.size 3 1 v' zs.length (zs.map (.int .i64)) := by simpa using hown
  obtain ⟨g, c, rfl⟩ := row_slice hown2 hp
  have HPV := Lib.hid (intsV_own hown2 hl)
  have HB := Lib.hid (show Below w.heap.size w w1 from (show Below w.heap.size w _ from (by (repeat' (first | with_reducible exact Below.refl _ _ | (with_reducible refine below_later_of ?_ ?_ _) | (with_reducible refine Below.alloc ?_ ?_ _) | (with_reducible refine Below.setCell ?_ ?_ _) | (with_reducible refine Below.drew ?_) | (simp; done) | (simp; omega) | omega)))).grown hgrow (by simp) (fun g hg => by simp [Value.ownBlock] at hg; omega))
  clear hown hown2 hgrow
  go_wp2
  go_ret
  exact ⟨_, rfl, HPV.out, HB.out⟩
end Go.Proofs.Ytelchmimhnpkaaa
