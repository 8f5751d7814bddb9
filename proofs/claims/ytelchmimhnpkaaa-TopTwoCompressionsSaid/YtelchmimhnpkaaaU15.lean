/- Chapter 1: the real, or the imaginary, parts of numbers modulo the prime. -/
import Derived.Test.YtelchmimhnpkaaaU14
namespace Go.Proofs.Ytelchmimhnpkaaa
set_option linter.unusedVariables false
open Go.RowKit Ntt
set_option maxHeartbeats 400000 in
theorem signed_any (n : Int) (w : World) (h1 : -9223372036854775808 ≤ n) (h2 : n ≤ 9223372036854775807) :
    Calls Try.prog 18 #[.int .i64 n] w fun e w' => e = .returned (.int .i64 (signedP n)) ∧ w = w' := by
  have HM := Lib.hid (fun w => bMod n 998244353 w (by decide) (by decide) h1 h2)
  have m1 := Int.emod_nonneg n (show (998244353 : Int) ≠ 0 by decide)
  have m2 := Int.emod_lt_of_pos n (show (0 : Int) < 998244353 by decide)
  have HS := Lib.hid (show signedP n = if 499122176 < n % 998244353 then n % 998244353 - 998244353 else n % 998244353 from rfl)
  generalize n % 998244353 = k at HM m1 m2 HS
  by_cases hk : 499122176 < k
  · have HF := Lib.hid (show k - 998244353 = signedP n by rw [HS.out, if_pos hk])
    go_enter Try.func18, Try.ntmps18
    go_wp2_with (first | (go_at_call 48; (with_reducible refine (HM.out _).mono ?_); rintro e w' ⟨rfl, rfl⟩))
    go_ret
    exact ⟨ret_intE HF.out, rfl⟩
  · have HF := Lib.hid (show k = signedP n by rw [HS.out, if_neg hk])
    have hd : decide ((499122176 : Int) < k) = false := by simpa using hk
    go_enter Try.func18, Try.ntmps18
    go_wp2_with (first | (go_at_call 48; (with_reducible refine (HM.out _).mono ?_); rintro e w' ⟨rfl, rfl⟩))
    go_ret
    exact ⟨ret_intE HF.out, rfl⟩
def partF (n : Nat) (x y : Nat → Int) (c : Bool) (i : Nat) : Int := if i < n then (if c then y i else x i) % 998244353 else 0
def partU (n : Nat) (x y : Nat → Int) (c : Bool) (k i : Nat) : Int := if i < k then partF n x y c i else 0
set_option maxRecDepth 20000 in
set_option maxHeartbeats 2000000 in
theorem parted_any (n b off cap : Nat) (f : Nat → Nat × Nat) (x y : Nat → Int) (c : Bool) (w : World) (hn : n ≤ 128) (hbw : b < w.heap.size) (hc : SamplesAt w b off n f) (hp : PartsOf n f x y) :
    Calls Try.prog 14 #[.slice (some ⟨b, off, none⟩) n cap, .bool c] w (OwnPost 128 (partF n x y c) w) := by
  obtain ⟨i0, hi, hz0, hz1, hz2⟩ := info_parts info3
  have HC := Lib.hid hc
  have HPO := Lib.hid hp
  clear hc hp
  go_enter Try.func14, Try.ntmps14
  go_wp2_with (first | (at_make; refine wpList_make_full _ rfl _ _ 38 rfl w.heap.size 3 i0 (.int .i64 0) 1 Try.underlying38 hi hz0 hz1 .i64 .i64 _ _ 128 rfl rfl rfl rfl ?m2 ?m3 ?m4 ?_))
  case m2 => rw [hz2]; omega
  case m3 => unfold maxLen; omega
  case m4 => omega
  intro w1 hown hgrow
  have hb1 : Below w.heap.size w w1 := (Below.refl _ _).grown hgrow (Nat.le_refl _) (fun g hg => by cases hg)
  have HO : Hid (OwnF w1 w.heap.size 128 (fun _ => 0)) := Lib.hid ⟨⟨(hown.lt _ rfl).2, fun k hk => by rw [hown.cellAt k (by omega)]; rw [toList_madeCells_one, List.getElem?_replicate, if_pos (by omega)]⟩, fun k _ => hown.frozenAt k⟩
  have HB := Lib.hid hb1
  obtain ⟨B, hB⟩ : ∃ B, B = w.heap.size := ⟨_, rfl⟩
  rw [← hB] at HO ⊢
  have HBE := Lib.hid hB
  clear hown hgrow hb1 hB
  go_wp2
  go_loopw [6] (fun i wr => ∃ k : Nat, k ≤ n ∧ i = .int .i64 k ∧ OwnF wr B 128 (partU n x y c k) ∧ Below w.heap.size w wr) (fun i _ => n - (intOf i).toNat)
  case atStart => exact ⟨0, Nat.zero_le _, rfl, HO.out.same (fun j _ => by unfold partU; simp), HB.out⟩
  case round =>
    obtain ⟨k, hk, rfl, ho, hbx⟩ := hrel
    have HO2 := Lib.hid ho
    have HBX := Lib.hid hbx
    by_cases hlt : k < n
    · have hdk : decide ((k : Int) < (n : Int)) = true := by simp; omega
      have hdk2 : decide ((k : Int) < 128) = true := by simp; omega
      have ck := (hbx.cell (p := ⟨b, off + k, none⟩) hbw).trans (HC.out k hlt)
      have cb := ho.1.2 k (by omega)
      have fb := ho.2 k (by omega)
      obtain ⟨p1, p2, ⟨p3, p4⟩, p5, p6⟩ := HPO.out k hlt
      have HP := Lib.hid (fun w => rParts (f k).1 (f k).2 (x k) (y k) w p1 p2)
      have hset : ∀ z : Int, z = (if c then y k else x k) → ∀ j, j < 128 → partU n x y c (k + 1) j = if j = k then z % 998244353 else partU n x y c k j := fun z hz j hj => by
        unfold partU
        by_cases e : j = k
        · subst e; rw [if_pos (by omega), if_pos rfl, hz]; unfold partF; rw [if_pos hlt]
        · rw [if_neg e]
          by_cases d : j < k
          · rw [if_pos d, if_pos (by omega)]
          · rw [if_neg d, if_neg (by omega)]
      have HSET := Lib.hid hset
      clear p1 p2 ho hbx hset
      cases c
      · have HM := Lib.hid (fun w => bMod (x k) 998244353 w (by decide) (by decide) (by omega) (by omega))
        go_wp2_with (first | (go_at_call 49; (with_reducible refine (HP.out _).mono ?_); rintro e w' ⟨rfl, rfl⟩) | (go_at_call 48; (with_reducible refine (HM.out _).mono ?_); rintro e w' ⟨rfl, rfl⟩))
        go_roundw
        case rel => exact ⟨k + 1, by omega, by go_num, HO2.out.set (by omega) (HSET.out _ rfl), HBX.out.trans (by have hbe := HBE.out; exact (by (repeat' (first | with_reducible exact Below.refl _ _ | (with_reducible refine below_later_of ?_ ?_ _) | (with_reducible refine Below.alloc ?_ ?_ _) | (with_reducible refine Below.setCell ?_ ?_ _) | (with_reducible refine Below.drew ?_) | (simp; done) | (simp; omega) | omega))))⟩
        case measure => simp [intOf]; omega
      · have HM := Lib.hid (fun w => bMod (y k) 998244353 w (by decide) (by decide) (by omega) (by omega))
        go_wp2_with (first | (go_at_call 49; (with_reducible refine (HP.out _).mono ?_); rintro e w' ⟨rfl, rfl⟩) | (go_at_call 48; (with_reducible refine (HM.out _).mono ?_); rintro e w' ⟨rfl, rfl⟩))
        go_roundw
        case rel => exact ⟨k + 1, by omega, by go_num, HO2.out.set (by omega) (HSET.out _ rfl), HBX.out.trans (by have hbe := HBE.out; exact (by (repeat' (first | with_reducible exact Below.refl _ _ | (with_reducible refine below_later_of ?_ ?_ _) | (with_reducible refine Below.alloc ?_ ?_ _) | (with_reducible refine Below.setCell ?_ ?_ _) | (with_reducible refine Below.drew ?_) | (simp; done) | (simp; omega) | omega))))⟩
        case measure => simp [intOf]; omega
    · obtain rfl : k = n := by omega
      have hdk : decide ((k : Int) < (k : Int)) = false := by simp
      clear ho hbx
      go_wp2
      go_ret
      refine ⟨B, 128, rfl, by rw [HBE.out]; exact Nat.le_refl _, HO2.out.same (fun j _ => ?_), HBX.out⟩
      unfold partU
      by_cases d : j < k
      · rw [if_pos d]
      · rw [if_neg d]; unfold partF; rw [if_neg d]
end Go.Proofs.Ytelchmimhnpkaaa
