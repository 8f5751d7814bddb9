/- Chapter 1: the reference's lists: CheckList, Power. -/
import Derived.Test.YtakohhlmomgegaaDoorU71
import Derived.Test.YtakohhlmomgegaaDoorU63
namespace Go.Proofs.YtakohhlmomgegaaDoor
set_option linter.unusedVariables false
set_option linter.unusedSimpArgs false
open Go.RowKit Ntt
/-- How far the reference doubles. -/
theorem doubled {l n : Nat} (hn : n ∈ [1, 2, 4, 8, 16, 32, 64, 128]) (h1 : n = 1 ∨ n / 2 < l) (h2 : l ≤ n ∨ 128 ≤ n) : (l = n ↔ twoB l = true) := by
  unfold twoB
  simp at hn ⊢
  omega
set_option maxHeartbeats 1000000 in
theorem rCheckList (zs : List Int) (v : Value) (w : World) (hv : IntsV w v zs) {e0 : Int} (he : listE zs = e0) :
    Calls Tryd.prog 33 #[v] w fun e w' => e = .returned (.int .i64 e0) ∧ Below w.heap.size w w' := by
  subst he
  obtain ⟨hl, a, cap, rfl, h4⟩ := hv
  have H4 := Lib.hid h4
  clear h4
  go_enter Tryd.func33, Tryd.ntmps33
  go_wp2
  go_loop [3] (fun n => ∃ k : Nat, n = .int .i64 k ∧ k ∈ [1, 2, 4, 8, 16, 32, 64, 128] ∧ (k = 1 ∨ k / 2 < zs.length)) (fun n => 256 - (intOf n).toNat)
  case atStart => exact ⟨1, rfl, by decide, Or.inl rfl⟩
  case round =>
    obtain ⟨n, rfl, hn, h1⟩ := hrel
    have HN := Lib.hid hn
    have H1 := Lib.hid h1
    have hn2 : 1 ≤ n ∧ n ≤ 128 := by simp at hn; omega
    obtain ⟨n1, n2⟩ := hn2
    clear hn h1
    by_cases c : n < zs.length ∧ n < 128
    · obtain ⟨c1, c2⟩ := c
      have d1 : decide ((n : Int) < (zs.length : Int)) = true := by simp; omega
      have d2 : decide ((n : Int) < 128) = true := by simp; omega
      go_wp2
      go_round
      case rel => exact ⟨2 * n, by go_num, by have := HN.out; simp at this ⊢; omega, Or.inr (by omega)⟩
      case measure => simp [intOf]; omega
    · have HD := Lib.hid (doubled HN.out H1.out (by omega))
      have dd : (n = 128 ∧ 128 < zs.length) ∨ zs.length ≤ n := by omega
      clear c
      by_cases hz : zs.length = n
      · have ht := HD.out.1 hz
        have hne : ((zs.length : Int) != (n : Int)) = false := by rw [hz]; exact bne_self_eq_false _
        obtain ⟨b, off, rfl, hbw, hc⟩ := H4.out (by omega)
        have HC := Lib.hid hc
        have HA := Lib.hid (show zs.all (inE 0 998244352) = true → listE zs = 0 from fun h => by unfold listE; rw [ht, h]; rfl)
        have HB := Lib.hid (show zs.all (inE 0 998244352) = false → listE zs = 2 from fun h => by unfold listE; rw [ht, h]; rfl)
        have d1 : zs.length ≤ n := by omega
        clear hc hz ht n1 n2 dd
        all_goals
          go_wp2
          go_loopw [4] (fun i wr => ∃ k : Nat, k ≤ zs.length ∧ i = .int .i64 k ∧ (∀ j, j < k → inE 0 998244352 (intAt zs j) = true) ∧ Below w.heap.size w wr) (fun i _ => zs.length - (intOf i).toNat)
          case atStart => exact ⟨0, Nat.zero_le _, rfl, fun j hj => by omega, (by (repeat' (first | with_reducible exact Below.refl _ _ | (with_reducible refine below_later_of ?_ ?_ _) | (with_reducible refine Below.alloc ?_ ?_ _) | (with_reducible refine Below.setCell ?_ ?_ _) | (with_reducible refine Below.drew ?_) | (simp; done) | (simp; omega) | omega)))⟩
          case round =>
            obtain ⟨k, hk, rfl, hz, hb⟩ := hrel
            have HZ := Lib.hid hz
            have HBB := Lib.hid hb
            by_cases hlt : k < zs.length
            · have hck := (hb.cell (p := ⟨b, off + k, none⟩) hbw).trans (HC.out k hlt)
              have hdk : decide ((k : Int) < (zs.length : Int)) = true := by simp; omega
              rcases (show inE 0 998244352 (intAt zs k) = false ∨ inE 0 998244352 (intAt zs k) = true by cases inE 0 998244352 (intAt zs k) <;> simp) with hi | hi
              · have HW := Lib.hid hi
                have HF := Lib.hid (show listE zs = 2 from HB.out (by
                  rw [← Bool.not_eq_true]
                  intro h
                  rw [intAt_all] at h
                  rw [h k hlt] at hi
                  cases hi))
                clear hz hi hb
                go_wp2_with (first | (go_at_call 30; (with_reducible refine (bWithin _ _ _ _ HW.out).mono ?_); rintro e w' ⟨rfl, rfl⟩))
                go_ret
                exact ⟨ret_intE HF.out.symm, HBB.out.trans (by (repeat' (first | with_reducible exact Below.refl _ _ | (with_reducible refine below_later_of ?_ ?_ _) | (with_reducible refine Below.alloc ?_ ?_ _) | (with_reducible refine Below.setCell ?_ ?_ _) | (with_reducible refine Below.drew ?_) | (simp; done) | (simp; omega) | omega)))⟩
              · have HW := Lib.hid hi
                clear hz hi hb
                go_wp2_with (first | (go_at_call 30; (with_reducible refine (bWithin _ _ _ _ HW.out).mono ?_); rintro e w' ⟨rfl, rfl⟩))
                go_roundw
                case rel => exact ⟨k + 1, by omega, by go_num, fun j hj => if e : j = k then e ▸ HW.out else HZ.out j (by omega), HBB.out.trans (by (repeat' (first | with_reducible exact Below.refl _ _ | (with_reducible refine below_later_of ?_ ?_ _) | (with_reducible refine Below.alloc ?_ ?_ _) | (with_reducible refine Below.setCell ?_ ?_ _) | (with_reducible refine Below.drew ?_) | (simp; done) | (simp; omega) | omega)))⟩
                case measure => simp [intOf]; omega
            · obtain rfl : k = zs.length := by omega
              have hdk : decide ((zs.length : Int) < (zs.length : Int)) = false := by simp
              have HF := Lib.hid (show listE zs = 0 from HA.out (intAt_all.2 hz))
              clear hz hb
              go_wp2
              go_ret
              exact ⟨ret_intE HF.out.symm, HBB.out⟩
      · have hne : ((zs.length : Int) != (n : Int)) = true := by rw [bne_iff_ne]; omega
        have HF := Lib.hid (show listE zs = 10 by
          unfold listE
          rw [if_neg (fun h => hz (HD.out.2 h))])
        clear hz n1 n2
        rcases dd with ⟨rfl, d2⟩ | d1
        all_goals
          go_wp2
          go_ret
          exact ⟨ret_intE HF.out.symm, (by (repeat' (first | with_reducible exact Below.refl _ _ | (with_reducible refine below_later_of ?_ ?_ _) | (with_reducible refine Below.alloc ?_ ?_ _) | (with_reducible refine Below.setCell ?_ ?_ _) | (with_reducible refine Below.drew ?_) | (simp; done) | (simp; omega) | omega)))⟩
set_option maxHeartbeats 1000000 in
theorem rPower (a : Int) (n : Nat) (w : World) (h1 : 0 ≤ a) (h2 : a < 998244353) (hn : n < 2147483648) :
    Calls Tryd.prog 98 #[.int .i64 a, .int .i64 n] w fun e w' => e = .returned (.int .i64 (powM a n)) ∧ w = w' := by
  go_enter Tryd.func98, Tryd.ntmps98
  go_wp2
  go_loop [0, 1, 5] (fun x m o => ∃ (f m' : Nat) (x' o' : Int), x = .int .i64 x' ∧ m = .int .i64 m' ∧ o = .int .i64 o' ∧ m' < 2 ^ f ∧ m' < 2147483648 ∧ 0 ≤ x' ∧ x' < 998244353 ∧ 0 ≤ o' ∧ o' < 998244353 ∧ powF f x' m' o' = powM a n) (fun _ m _ => (intOf m).toNat)
  case atStart => exact ⟨31, n, a, 1, rfl, rfl, rfl, by simpa using hn, hn, h1, h2, by decide, by decide, rfl⟩
  case round =>
    obtain ⟨f, m, x, o, rfl, rfl, rfl, hf, hm, x1, x2, o1, o2, hp⟩ := hrel
    by_cases h0 : 0 < m
    · cases f with
      | zero => simp at hf; omega
      | succ f =>
        obtain ⟨m1, m2⟩ := pp_mul x1 x2 x1 x2
        obtain ⟨m3, m4⟩ := pp_mul o1 o2 x1 x2
        unfold powF at hp
        rw [if_neg (by omega)] at hp
        have hd : decide ((0 : Int) < (m : Int)) = true := by simp; omega
        have hf2 : m / 2 < 2 ^ f := by rw [Nat.pow_succ] at hf; omega
        have q1 := Int.emod_nonneg (x * x) (show (998244353 : Int) ≠ 0 by decide)
        have q2 := Int.emod_lt_of_pos (x * x) (show (0 : Int) < 998244353 by decide)
        have q3 := Int.emod_nonneg (o * x) (show (998244353 : Int) ≠ 0 by decide)
        have q4 := Int.emod_lt_of_pos (o * x) (show (0 : Int) < 998244353 by decide)
        have HF := Lib.hid hf2
        clear hf2 hf
        by_cases ho : m % 2 = 1
        · rw [if_pos ho] at hp
          have hb : ((m : Int) % 2 == 1) = true := by simp; omega
          have HP := Lib.hid hp
          clear hp ho
          go_wp2
          go_round
          case rel => exact ⟨f, m / 2, x * x % 998244353, o * x % 998244353, rfl, by first | rfl | simp, rfl, HF.out, by omega, q1, q2, q3, q4, HP.out⟩
          case measure => simp [intOf]; omega
        · rw [if_neg ho] at hp
          have hb : ((m : Int) % 2 == 1) = false := by simp; omega
          have HP := Lib.hid hp
          clear hp ho
          go_wp2
          go_round
          case rel => exact ⟨f, m / 2, x * x % 998244353, o, rfl, by first | rfl | simp, rfl, HF.out, by omega, q1, q2, o1, o2, HP.out⟩
          case measure => simp [intOf]; omega
    · obtain rfl : m = 0 := by omega
      rw [powF_zero] at hp
      have HP := Lib.hid hp
      clear hp
      go_wp2
      go_ret
      exact ⟨ret_intE HP.out, rfl⟩
end Go.Proofs.YtakohhlmomgegaaDoor
