/- Chapter 1: base.Number. -/
import Derived.Test.YtkoiknmijjiicaaGreatDoorU63
namespace Go.Proofs.YtkoiknmijjiicaaGreatDoor
set_option linter.unusedVariables false
set_option linter.unusedSimpArgs false
open Go.RowKit Go
/-- A byte of a text, 0 behind its end. -/
def byteAt (B : ByteArray) (i : Nat) : Nat := if h : i < B.size then (B[i]).toNat else 0
theorem byteAt_lt (B : ByteArray) (i : Nat) : byteAt B i < 256 := by
  unfold byteAt
  split
  · exact UInt8.toNat_lt _
  · decide
theorem getB (B : ByteArray) (i : Nat) {c : Nat} (h : i < B.size) (hc : byteAt B i = c) : (B[i]'h).toNat = c := by
  rw [← hc]
  unfold byteAt
  rw [dif_pos h]
/-- The number of the first k digits from a on. -/
def digsP (f : Nat → Nat) (a : Nat) : Nat → Option Nat
  | 0 => some 0
  | k + 1 => match digsP f a k with
    | none => none
    | some v => if 48 ≤ f (a + k) ∧ f (a + k) ≤ 57 then some (10 * v + (f (a + k) - 48)) else none
def numA (f : Nat → Nat) (n : Nat) : Nat := if 0 < n ∧ f 0 = 45 then 1 else 0
/-- What base.Number answers. -/
def numF (f : Nat → Nat) (n D : Nat) : Option Int :=
  if n = numA f n ∨ D < n - numA f n ∨ (f (numA f n) = 48 ∧ 1 < n) then none else (digsP f (numA f n) (n - numA f n)).map fun v => if numA f n = 1 then -(v : Int) else v
def numR : Option Int → Value
  | none => .tuple #[.int .i64 0, .bool false]
  | some v => .tuple #[.int .i64 v, .bool true]
theorem digsP_lt (f : Nat → Nat) (a : Nat) : ∀ k v, digsP f a k = some v → v < 10 ^ k
  | 0, v, h => by simp only [digsP, Option.some.injEq] at h; subst h; decide
  | k + 1, v, h => by
    unfold digsP at h
    split at h
    · exact absurd h (by simp)
    · rename_i u hu
      have := digsP_lt f a k u hu
      split at h
      · simp only [Option.some.injEq] at h
        rw [Nat.pow_succ]; omega
      · exact absurd h (by simp)
theorem digsP_none (f : Nat → Nat) (a k : Nat) (h : digsP f a k = none) : ∀ m, digsP f a (k + m) = none
  | 0 => h
  | m + 1 => by rw [← Nat.add_assoc, digsP, digsP_none f a k h m]
theorem numA_le (f : Nat → Nat) (n : Nat) : numA f n ≤ 1 ∧ numA f n ≤ n := by unfold numA; split <;> omega
set_option maxHeartbeats 2000000 in
theorem number_any (B : ByteArray) (D : Nat) (w : World) (hD : D ≤ 18) (hB : B.size ≤ 4294967296) {o : Option Int} (ho : numF (byteAt B) B.size D = o) :
    Calls Tryz.prog 60 #[.string B, .int .i64 D] w fun e w' => e = .returned (numR o) ∧ w = w' := by
  obtain ⟨a, ha⟩ : ∃ a, numA (byteAt B) B.size = a := ⟨_, rfl⟩
  obtain ⟨n, hn⟩ : ∃ n, B.size = n := ⟨_, rfl⟩
  have hal := numA_le (byteAt B) B.size
  unfold numF at ho
  rw [ha] at ho hal
  have HO := Lib.hid ho
  have HA := Lib.hid ha
  clear ho ha
  go_enter Tryz.func60, Tryz.ntmps60
  go_upto_region 2 with fail
  go_cut [6, 16] from 9 to 17 (fun v u wx => v = .int .i64 0 ∧ u = .bool (decide (a = 1)) ∧ w = wx)
  case first =>
    by_cases h0 : 0 < n
    · have hx := getB B 0 (show 0 < B.size by omega) rfl
      obtain ⟨c, hc⟩ : ∃ c, byteAt B 0 = c := ⟨_, rfl⟩
      have HAV := HA.out
      unfold numA at HAV
      rw [hc] at hx HAV
      by_cases h45 : c = 45
      · rw [if_pos ⟨by omega, h45⟩] at HAV
        subst HAV
        subst h45
        clear hc HA HO
        go_wp2
        go_meet
        exact ⟨rfl, rfl, rfl⟩
      · rw [if_neg (fun h => h45 h.2)] at HAV
        subst HAV
        have hne : ((c : Int) == 45) = false := by simp; omega
        clear hc HA HO h45
        go_wp2
        go_meet
        exact ⟨rfl, rfl, rfl⟩
    · have HAV := HA.out
      unfold numA at HAV
      rw [if_neg (fun h => h0 (hn ▸ h.1))] at HAV
      subst HAV
      obtain rfl : n = 0 := by omega
      clear HA HO
      go_wp2
      go_meet
      exact ⟨rfl, rfl, rfl⟩
  case rest =>
    obtain ⟨rfl, rfl, rfl⟩ := hcut
    by_cases ha1 : a = 1
    · subst ha1
      clear HA
      go_upto_region 4 with fail
      by_cases hna : n = 1
      · have heq : ((n : Int) == 1) = true := by simp; omega
        have HR := Lib.hid (show o = none by rw [← HO.out, if_pos (.inl (hn.trans hna))])
        clear HO hna
        go_wp2
        go_ret2
        exact ⟨by rw [HR.out]; rfl, rfl⟩
      · have heq : ((n : Int) == 1) = false := by simp; omega
        by_cases hDn : D < n - 1
        · have hgt : decide ((D : Int) < (n : Int) - 1) = true := by simp; omega
          have HR := Lib.hid (show o = none by rw [← HO.out, if_pos (.inr (.inl (by omega)))])
          clear HO hna hDn
          go_wp2
          go_ret2
          exact ⟨by rw [HR.out]; rfl, rfl⟩
        · have hgt : decide ((D : Int) < (n : Int) - 1) = false := by simp; omega
          obtain ⟨c, hc⟩ : ∃ c, byteAt B 1 = c := ⟨_, rfl⟩
          have hx := getB B 1 (show 1 < B.size by omega) hc
          by_cases h48 : c = 48 ∧ 1 < n
          · obtain ⟨rfl, h1n⟩ := h48
            have hgn : decide (1 < (n : Int)) = true := by simp; omega
            have HR := Lib.hid (show o = none by rw [← HO.out, if_pos (.inr (.inr ⟨hc, by omega⟩))])
            clear HO hc
            go_wp2
            go_ret2
            exact ⟨by rw [HR.out]; rfl, rfl⟩
          · have HR := Lib.hid (show (digsP (byteAt B) 1 (n - 1)).map (fun v => if 1 = 1 then -(v : Int) else v) = o by rw [← HO.out, if_neg (by rw [hc, hn]; omega), hn])
            clear HO
            go_cut [39] from 17 to 40 (fun u wx => u = .bool false ∧ w = wx)
            case first =>
              by_cases h4 : c = 48
              · subst h4
                have hgn : decide (1 < (n : Int)) = false := by simp; omega
                clear hc h48
                go_wp2
                go_meet
                exact ⟨rfl, rfl⟩
              · have hne : ((c : Int) == 48) = false := by simp; omega
                clear hc h48
                go_wp2
                go_meet
                exact ⟨rfl, rfl⟩
            case rest =>
              obtain ⟨rfl, rfl⟩ := hcut
              clear hc hx h48 hgt heq
              go_wp2
              go_loop [7, 8] (fun v i => ∃ j u : Nat, 1 ≤ j ∧ j ≤ n ∧ i = .int .i64 j ∧ v = .int .i64 u ∧ digsP (byteAt B) 1 (j - 1) = some u) (fun _ i => n - (intOf i).toNat)
              case atStart => exact ⟨1, 0, Nat.le_refl _, by omega, rfl, rfl, by rw [Nat.sub_self]; rfl⟩
              case round =>
                obtain ⟨j, u, haj, hjn, rfl, rfl, hdg⟩ := hrel
                have hu18 : u ≤ 1000000000000000000 := Nat.le_trans (Nat.le_of_lt (digsP_lt _ _ _ _ hdg)) (Nat.le_trans (Nat.pow_le_pow_right (by decide) (show j - 1 ≤ 18 by omega)) (by decide))
                by_cases hlt : j < n
                · have hdl : decide ((j : Int) < (n : Int)) = true := by simp; omega
                  have hu17 : u ≤ 100000000000000000 := Nat.le_trans (Nat.le_of_lt (digsP_lt _ _ _ _ hdg)) (Nat.le_trans (Nat.pow_le_pow_right (by decide) (show j - 1 ≤ 17 by omega)) (by decide))
                  obtain ⟨c2, hc2⟩ : ∃ c2, byteAt B j = c2 := ⟨_, rfl⟩
                  have hx2 := getB B j (show j < B.size by omega) hc2
                  have HS := Lib.hid (show digsP (byteAt B) 1 (j - 1 + 1) = if 48 ≤ c2 ∧ c2 ≤ 57 then some (10 * u + (c2 - 48)) else none by
                    rw [digsP, hdg]
                    simp only [show 1 + (j - 1) = j by omega, hc2])
                  clear hdg hc2 hu18
                  by_cases hok : 48 ≤ c2 ∧ c2 ≤ 57
                  · obtain ⟨d, hd⟩ : ∃ d, c2 - 48 = d := ⟨_, rfl⟩
                    have hlo : decide ((c2 : Int) < 48) = false := by simp; omega
                    have hhi : decide (57 < (c2 : Int)) = false := by simp; omega
                    have hw : IntKind.u8.wrap ((c2 : Int) - 48) = (d : Int) := by rw [IntKind.wrap_u8]; omega
                    have hd9 : d ≤ 9 := by omega
                    have HN := Lib.hid (show digsP (byteAt B) 1 (j + 1 - 1) = some (10 * u + d) by rw [show j + 1 - 1 = j - 1 + 1 by omega, HS.out, if_pos hok, hd])
                    clear HS hok hd
                    go_wp2
                    go_round
                    case rel => exact ⟨j + 1, 10 * u + d, by omega, by omega, by go_num, by go_num, HN.out⟩
                    case measure => simp [intOf]; omega
                  · have HN := Lib.hid (show o = none by
                      have h1 := HS.out
                      rw [if_neg hok] at h1
                      have h2 := digsP_none _ _ _ h1 (n - 1 - (j - 1 + 1))
                      rw [show j - 1 + 1 + (n - 1 - (j - 1 + 1)) = n - 1 by omega] at h2
                      rw [← HR.out, h2]; rfl)
                    by_cases hl48 : c2 < 48
                    · have hlo : decide ((c2 : Int) < 48) = true := by simp; omega
                      clear HS hok
                      go_wp2
                      go_ret2
                      exact ⟨by rw [HN.out]; rfl, rfl⟩
                    · have hlo : decide ((c2 : Int) < 48) = false := by simp; omega
                      have hhi : decide (57 < (c2 : Int)) = true := by simp; omega
                      clear HS hok
                      go_wp2
                      go_ret2
                      exact ⟨by rw [HN.out]; rfl, rfl⟩
                · obtain rfl : j = n := by omega
                  have hdl : decide ((j : Int) < (j : Int)) = false := by simp
                  have HN := Lib.hid (show o = some (-(u : Int)) by rw [← HR.out, hdg]; rfl)
                  clear hdg
                  go_wp2
                  go_ret2
                  exact ⟨by rw [HN.out]; rfl, rfl⟩
    · obtain rfl : a = 0 := by omega
      clear HA
      go_upto_region 4 with fail
      by_cases hna : n = 0
      · have heq : ((n : Int) == 0) = true := by simp; omega
        have HR := Lib.hid (show o = none by rw [← HO.out, if_pos (.inl (hn.trans hna))])
        clear HO hna
        go_wp2
        go_ret2
        exact ⟨by rw [HR.out]; rfl, rfl⟩
      · have heq : ((n : Int) == 0) = false := by simp; omega
        by_cases hDn : D < n - 0
        · have hgt : decide ((D : Int) < (n : Int)) = true := by simp; omega
          have hgt2 : D < n := by omega
          have HR := Lib.hid (show o = none by rw [← HO.out, if_pos (.inr (.inl (by omega)))])
          clear HO hna hDn
          go_wp2
          go_ret2
          exact ⟨by rw [HR.out]; rfl, rfl⟩
        · have hgt : decide ((D : Int) < (n : Int)) = false := by simp; omega
          have hgt2 : ¬ D < n := by omega
          obtain ⟨c, hc⟩ : ∃ c, byteAt B 0 = c := ⟨_, rfl⟩
          have hx := getB B 0 (show 0 < B.size by omega) hc
          by_cases h48 : c = 48 ∧ 1 < n
          · obtain ⟨rfl, h1n⟩ := h48
            have hgn : decide (1 < (n : Int)) = true := by simp; omega
            have HR := Lib.hid (show o = none by rw [← HO.out, if_pos (.inr (.inr ⟨hc, by omega⟩))])
            clear HO hc
            go_wp2
            go_ret2
            exact ⟨by rw [HR.out]; rfl, rfl⟩
          · have HR := Lib.hid (show (digsP (byteAt B) 0 (n - 0)).map (fun v => if 0 = 1 then -(v : Int) else v) = o by rw [← HO.out, if_neg (by rw [hc, hn]; omega), hn])
            clear HO
            go_cut [39] from 17 to 40 (fun u wx => u = .bool false ∧ w = wx)
            case first =>
              by_cases h4 : c = 48
              · subst h4
                have hgn : decide (1 < (n : Int)) = false := by simp; omega
                clear hc h48
                go_wp2
                go_meet
                exact ⟨rfl, rfl⟩
              · have hne : ((c : Int) == 48) = false := by simp; omega
                clear hc h48
                go_wp2
                go_meet
                exact ⟨rfl, rfl⟩
            case rest =>
              obtain ⟨rfl, rfl⟩ := hcut
              clear hc hx h48 hgt heq
              go_wp2
              go_loop [7, 8] (fun v i => ∃ j u : Nat, 0 ≤ j ∧ j ≤ n ∧ i = .int .i64 j ∧ v = .int .i64 u ∧ digsP (byteAt B) 0 (j - 0) = some u) (fun _ i => n - (intOf i).toNat)
              case atStart => exact ⟨0, 0, Nat.le_refl _, by omega, rfl, rfl, by rw [Nat.sub_self]; rfl⟩
              case round =>
                obtain ⟨j, u, haj, hjn, rfl, rfl, hdg⟩ := hrel
                have hu18 : u ≤ 1000000000000000000 := Nat.le_trans (Nat.le_of_lt (digsP_lt _ _ _ _ hdg)) (Nat.le_trans (Nat.pow_le_pow_right (by decide) (show j - 0 ≤ 18 by omega)) (by decide))
                by_cases hlt : j < n
                · have hdl : decide ((j : Int) < (n : Int)) = true := by simp; omega
                  have hu17 : u ≤ 100000000000000000 := Nat.le_trans (Nat.le_of_lt (digsP_lt _ _ _ _ hdg)) (Nat.le_trans (Nat.pow_le_pow_right (by decide) (show j - 0 ≤ 17 by omega)) (by decide))
                  obtain ⟨c2, hc2⟩ : ∃ c2, byteAt B j = c2 := ⟨_, rfl⟩
                  have hx2 := getB B j (show j < B.size by omega) hc2
                  have HS := Lib.hid (show digsP (byteAt B) 0 (j - 0 + 1) = if 48 ≤ c2 ∧ c2 ≤ 57 then some (10 * u + (c2 - 48)) else none by
                    rw [digsP, hdg]
                    simp only [show 0 + (j - 0) = j by omega, hc2])
                  clear hdg hc2 hu18
                  by_cases hok : 48 ≤ c2 ∧ c2 ≤ 57
                  · obtain ⟨d, hd⟩ : ∃ d, c2 - 48 = d := ⟨_, rfl⟩
                    have hlo : decide ((c2 : Int) < 48) = false := by simp; omega
                    have hhi : decide (57 < (c2 : Int)) = false := by simp; omega
                    have hw : IntKind.u8.wrap ((c2 : Int) - 48) = (d : Int) := by rw [IntKind.wrap_u8]; omega
                    have hd9 : d ≤ 9 := by omega
                    have HN := Lib.hid (show digsP (byteAt B) 0 (j + 1 - 0) = some (10 * u + d) by rw [show j + 1 - 0 = j - 0 + 1 by omega, HS.out, if_pos hok, hd])
                    clear HS hok hd
                    go_wp2
                    go_round
                    case rel => exact ⟨j + 1, 10 * u + d, by omega, by omega, by go_num, by go_num, HN.out⟩
                    case measure => simp [intOf]; omega
                  · have HN := Lib.hid (show o = none by
                      have h1 := HS.out
                      rw [if_neg hok] at h1
                      have h2 := digsP_none _ _ _ h1 (n - 0 - (j - 0 + 1))
                      rw [show j - 0 + 1 + (n - 0 - (j - 0 + 1)) = n - 0 by omega] at h2
                      rw [← HR.out, h2]; rfl)
                    by_cases hl48 : c2 < 48
                    · have hlo : decide ((c2 : Int) < 48) = true := by simp; omega
                      clear HS hok
                      go_wp2
                      go_ret2
                      exact ⟨by rw [HN.out]; rfl, rfl⟩
                    · have hlo : decide ((c2 : Int) < 48) = false := by simp; omega
                      have hhi : decide (57 < (c2 : Int)) = true := by simp; omega
                      clear HS hok
                      go_wp2
                      go_ret2
                      exact ⟨by rw [HN.out]; rfl, rfl⟩
                · obtain rfl : j = n := by omega
                  have hdl : decide ((j : Int) < (j : Int)) = false := by simp
                  have HN := Lib.hid (show o = some ((u : Int)) by rw [← HR.out, hdg]; rfl)
                  clear hdg
                  go_wp2
                  go_ret2
                  exact ⟨by rw [HN.out]; rfl, rfl⟩
end Go.Proofs.YtkoiknmijjiicaaGreatDoor
