/- Chapter 1: lists of integers; the errors of those that are transformed. -/
import Derived.Test.YtelchmimhnpkaaaU6
import Derived.Below
namespace Go.Proofs.Ytelchmimhnpkaaa
set_option linter.unusedVariables false
open Go.RowKit Ntt
def intAt (zs : List Int) (k : Nat) : Int := zs[k]?.getD 0
/-- The value is a slice of these integers. -/
def IntsV (w : World) (v : Value) (zs : List Int) : Prop :=
  zs.length ≤ 1000000000 ∧ ∃ a cap, v = .slice a zs.length cap ∧ (0 < zs.length → ∃ b off, a = some ⟨b, off, none⟩ ∧ b < w.heap.size ∧ ∀ k, k < zs.length → w.cell? ⟨b, off + k, none⟩ = some (.int .i64 (intAt zs k)))
theorem IntsV.below {w w' : World} {v : Value} {zs : List Int} (h : IntsV w v zs) (hw : Below w.heap.size w w') : IntsV w' v zs := by
  obtain ⟨h1, a, cap, h3, h4⟩ := h
  refine ⟨h1, a, cap, h3, fun hp => ?_⟩
  obtain ⟨b, off, h5, h6, h7⟩ := h4 hp
  exact ⟨b, off, h5, Nat.lt_of_lt_of_le h6 hw.size, fun k hk => (hw.cell (p := ⟨b, off + k, none⟩) h6).trans (h7 k hk)⟩
theorem intsV_own {w : World} {base n cap g : Nat} {zs : List Int} (h : w.ownsRow base 3 1 (.slice (some ⟨g, 0, none⟩) n cap) n (zs.map (.int .i64))) (hm : n ≤ 1000000000) : IntsV w (.slice (some ⟨g, 0, none⟩) n cap) zs := by
  have hl : zs.length = n := by have := h.1; simpa using this
  subst hl
  refine ⟨hm, _, _, rfl, fun hp => ⟨g, 0, rfl, (h.lt g rfl).2, fun k hk => ?_⟩⟩
  rw [Nat.zero_add, h.cellAt k (by omega)]
  unfold intAt
  simp [hk]
theorem intAt_ext {xs ys : List Int} (hl : xs.length = ys.length) (h : ∀ k, k < xs.length → intAt xs k = intAt ys k) : xs = ys := by
  apply List.ext_getElem hl
  intro k h1 h2
  have := h k h1
  unfold intAt at this
  simpa [h1, h2] using this
/-- The error of a list that is transformed. -/
def listE (zs : List Int) : Int := if twoB zs.length then (if zs.all (inE 0 998244352) then 0 else 2) else 10
theorem intAt_all {zs : List Int} {f : Int → Bool} : zs.all f = true ↔ ∀ k, k < zs.length → f (intAt zs k) = true := by
  rw [List.all_eq_true]
  constructor
  · intro h k hk
    unfold intAt
    rw [List.getElem?_eq_getElem hk]
    exact h _ (List.getElem_mem hk)
  · intro h z hz
    obtain ⟨k, hk, rfl⟩ := List.getElem_of_mem hz
    have := h k hk
    unfold intAt at this
    rwa [List.getElem?_eq_getElem hk] at this
set_option maxHeartbeats 1000000 in
theorem listErr_any (zs : List Int) (v : Value) (w : World) (hv : IntsV w v zs) {e0 : Int} (he : listE zs = e0) :
    Calls Try.prog 62 #[v] w fun e w' => e = .returned (.int .i64 e0) ∧ w = w' := by
  subst he
  obtain ⟨hl, a, cap, rfl, h4⟩ := hv
  by_cases hn : zs.length ≤ 128
  · have hd : decide ((128 : Int) < (zs.length : Int)) = false := by simp; omega
    have ht := ones_two hn
    rcases (show twoB zs.length = false ∨ twoB zs.length = true by cases twoB zs.length <;> simp) with h2 | h2
    · have HF := Lib.hid (show listE zs = 10 by unfold listE; rw [h2]; rfl)
      rw [h2] at ht
      have ho : (onesE zs.length != 1) = true := by rw [ht]; rfl
      clear ht h2 h4
      go_enter Try.func62, Try.ntmps62
      go_wp2_with (first | (go_at_call 128; refine (ones_any zs.length _ (by omega)).mono ?_; rintro e w' ⟨rfl, rfl⟩))
      go_ret
      exact ⟨ret_intE HF.out.symm, rfl⟩
    · rw [h2] at ht
      have ho : (onesE zs.length != 1) = false := by rw [ht]; rfl
      have hpos : 0 < zs.length := by
        rcases Nat.eq_zero_or_pos zs.length with h | h
        · rw [h] at h2; exact absurd h2 (by decide)
        · exact h
      obtain ⟨b, off, rfl, hbw, hc⟩ := h4 hpos
      have HC := Lib.hid hc
      have HA := Lib.hid (show zs.all (inE 0 998244352) = true → listE zs = 0 from fun h => by unfold listE; rw [h2, h]; rfl)
      have HB := Lib.hid (show zs.all (inE 0 998244352) = false → listE zs = 2 from fun h => by unfold listE; rw [h2, h]; rfl)
      clear ht h2 h4 hc
      go_enter Try.func62, Try.ntmps62
      go_wp2_with (first | (go_at_call 128; refine (ones_any zs.length _ (by omega)).mono ?_; rintro e w' ⟨rfl, rfl⟩))
      go_loop [18] (fun i => ∃ k : Nat, k ≤ zs.length ∧ i = .int .i64 k ∧ ∀ j, j < k → inE 0 998244352 (intAt zs j) = true) (fun i => zs.length - (intOf i).toNat)
      case atStart => exact ⟨0, Nat.zero_le _, rfl, fun j hj => by omega⟩
      case round =>
        obtain ⟨k, hk, rfl, hz⟩ := hrel
        have HZ := Lib.hid hz
        by_cases hlt : k < zs.length
        · have hck := HC.out k hlt
          have hdk : decide ((k : Int) < (zs.length : Int)) = true := by simp; omega
          rcases (show inE 0 998244352 (intAt zs k) = false ∨ inE 0 998244352 (intAt zs k) = true by cases inE 0 998244352 (intAt zs k) <;> simp) with hi | hi
          · have HW := Lib.hid hi
            have HF := Lib.hid (show listE zs = 2 from HB.out (by
              rw [← Bool.not_eq_true]
              intro h
              rw [intAt_all] at h
              rw [h k hlt] at hi
              cases hi))
            clear hz hi
            go_wp2_with (first | (go_at_call 102; (with_reducible refine (within_e _ _ _ _ HW.out).mono ?_); rintro e w' ⟨rfl, rfl⟩))
            go_ret
            exact ⟨ret_intE HF.out.symm, rfl⟩
          · have HW := Lib.hid hi
            clear hz hi
            go_wp2_with (first | (go_at_call 102; (with_reducible refine (within_e _ _ _ _ HW.out).mono ?_); rintro e w' ⟨rfl, rfl⟩))
            go_round
            case rel => exact ⟨k + 1, by omega, by go_num, fun j hj => if e : j = k then e ▸ HW.out else HZ.out j (by omega)⟩
            case measure => simp [intOf]; omega
        · obtain rfl : k = zs.length := by omega
          have hdk : decide ((zs.length : Int) < (zs.length : Int)) = false := by simp
          have HF := Lib.hid (show listE zs = 0 from HA.out (intAt_all.2 hz))
          clear hz
          go_wp2
          go_ret
          exact ⟨ret_intE HF.out.symm, rfl⟩
  · have hd : decide ((128 : Int) < (zs.length : Int)) = true := by simp; omega
    have HF := Lib.hid (show listE zs = 10 by
      unfold listE twoB
      rw [if_neg]
      simp
      omega)
    clear h4
    go_enter Try.func62, Try.ntmps62
    go_wp2
    go_ret
    exact ⟨ret_intE HF.out.symm, rfl⟩
end Go.Proofs.Ytelchmimhnpkaaa
