import Derived.Test.YtkoiknmijjiicaaGreatDoorU63
import Derived.Lib.ItoaMem
import Derived.Lib.AtoiAll
import Derived.OwnWalk
import Derived.Maps.AppendAt
import Derived.Test.YtkoiknmijjiicaaGreatDoorX124
import Derived.Lib.SplitLaws
import Derived.Lib.IndexBytes
import Derived.Lib.Join
/- Chapter 1: base.Number. -/
namespace Go.Proofs.YtkoiknmijjiicaaGreatDoor
set_option linter.unusedVariables false
set_option linter.unusedSimpArgs false
open Go.RowKit Go
/-- A byte of a text, 0 behind its end. -/
def byteAt (B : ByteArray) (i : Nat) : Nat := if h : i < B.size then (B[i]).toNat else 0
theorem byteAt_lt (B : ByteArray) (i : Nat) : byteAt B i < 256 := by
  unfold byteAt
  split
  · exact UInt8.toNat_lt _
  · decide
theorem getB (B : ByteArray) (i : Nat) {c : Nat} (h : i < B.size) (hc : byteAt B i = c) : (B[i]'h).toNat = c := by
  rw [← hc]
  unfold byteAt
  rw [dif_pos h]
/-- The number of the first k digits from a on. -/
def digsP (f : Nat → Nat) (a : Nat) : Nat → Option Nat
  | 0 => some 0
  | k + 1 => match digsP f a k with
    | none => none
    | some v => if 48 ≤ f (a + k) ∧ f (a + k) ≤ 57 then some (10 * v + (f (a + k) - 48)) else none
def numA (f : Nat → Nat) (n : Nat) : Nat := if 0 < n ∧ f 0 = 45 then 1 else 0
/-- What base.Number answers. -/
def numF (f : Nat → Nat) (n D : Nat) : Option Int :=
  if n = numA f n ∨ D < n - numA f n ∨ (f (numA f n) = 48 ∧ 1 < n) then none else (digsP f (numA f n) (n - numA f n)).map fun v => if numA f n = 1 then -(v : Int) else v
def numR : Option Int → Value
  | none => .tuple #[.int .i64 0, .bool false]
  | some v => .tuple #[.int .i64 v, .bool true]
theorem digsP_lt (f : Nat → Nat) (a : Nat) : ∀ k v, digsP f a k = some v → v < 10 ^ k
  | 0, v, h => by simp only [digsP, Option.some.injEq] at h; subst h; decide
  | k + 1, v, h => by
    unfold digsP at h
    split at h
    · exact absurd h (by simp)
    · rename_i u hu
      have := digsP_lt f a k u hu
      split at h
      · simp only [Option.some.injEq] at h
        rw [Nat.pow_succ]; omega
      · exact absurd h (by simp)
theorem digsP_none (f : Nat → Nat) (a k : Nat) (h : digsP f a k = none) : ∀ m, digsP f a (k + m) = none
  | 0 => h
  | m + 1 => by rw [← Nat.add_assoc, digsP, digsP_none f a k h m]
theorem numA_le (f : Nat → Nat) (n : Nat) : numA f n ≤ 1 ∧ numA f n ≤ n := by unfold numA; split <;> omega
set_option maxHeartbeats 2000000 in
theorem number_any (B : ByteArray) (D : Nat) (w : World) (hD : D ≤ 18) (hB : B.size ≤ 4294967296) {o : Option Int} (ho : numF (byteAt B) B.size D = o) :
    Calls Tryz.prog 60 #[.string B, .int .i64 D] w fun e w' => e = .returned (numR o) ∧ w = w' := by
  obtain ⟨a, ha⟩ : ∃ a, numA (byteAt B) B.size = a := ⟨_, rfl⟩
  obtain ⟨n, hn⟩ : ∃ n, B.size = n := ⟨_, rfl⟩
  have hal := numA_le (byteAt B) B.size
  unfold numF at ho
  rw [ha] at ho hal
  have HO := Lib.hid ho
  have HA := Lib.hid ha
  clear ho ha
  go_enter Tryz.func60, Tryz.ntmps60
  go_upto_region 2 with fail
  go_cut [6, 16] from 9 to 17 (fun v u wx => v = .int .i64 0 ∧ u = .bool (decide (a = 1)) ∧ w = wx)
  case first =>
    by_cases h0 : 0 < n
    · have hx := getB B 0 (show 0 < B.size by omega) rfl
      obtain ⟨c, hc⟩ : ∃ c, byteAt B 0 = c := ⟨_, rfl⟩
      have HAV := HA.out
      unfold numA at HAV
      rw [hc] at hx HAV
      by_cases h45 : c = 45
      · rw [if_pos ⟨by omega, h45⟩] at HAV
        subst HAV
        subst h45
        clear hc HA HO
        go_wp2
        go_meet
        exact ⟨rfl, rfl, rfl⟩
      · rw [if_neg (fun h => h45 h.2)] at HAV
        subst HAV
        have hne : ((c : Int) == 45) = false := by simp; omega
        clear hc HA HO h45
        go_wp2
        go_meet
        exact ⟨rfl, rfl, rfl⟩
    · have HAV := HA.out
      unfold numA at HAV
      rw [if_neg (fun h => h0 (hn ▸ h.1))] at HAV
      subst HAV
      obtain rfl : n = 0 := by omega
      clear HA HO
      go_wp2
      go_meet
      exact ⟨rfl, rfl, rfl⟩
  case rest =>
    obtain ⟨rfl, rfl, rfl⟩ := hcut
    by_cases ha1 : a = 1
    · subst ha1
      clear HA
      go_upto_region 4 with fail
      by_cases hna : n = 1
      · have heq : ((n : Int) == 1) = true := by simp; omega
        have HR := Lib.hid (show o = none by rw [← HO.out, if_pos (.inl (hn.trans hna))])
        clear HO hna
        go_wp2
        go_ret2
        exact ⟨by rw [HR.out]; rfl, rfl⟩
      · have heq : ((n : Int) == 1) = false := by simp; omega
        by_cases hDn : D < n - 1
        · have hgt : decide ((D : Int) < (n : Int) - 1) = true := by simp; omega
          have HR := Lib.hid (show o = none by rw [← HO.out, if_pos (.inr (.inl (by omega)))])
          clear HO hna hDn
          go_wp2
          go_ret2
          exact ⟨by rw [HR.out]; rfl, rfl⟩
        · have hgt : decide ((D : Int) < (n : Int) - 1) = false := by simp; omega
          obtain ⟨c, hc⟩ : ∃ c, byteAt B 1 = c := ⟨_, rfl⟩
          have hx := getB B 1 (show 1 < B.size by omega) hc
          by_cases h48 : c = 48 ∧ 1 < n
          · obtain ⟨rfl, h1n⟩ := h48
            have hgn : decide (1 < (n : Int)) = true := by simp; omega
            have HR := Lib.hid (show o = none by rw [← HO.out, if_pos (.inr (.inr ⟨hc, by omega⟩))])
            clear HO hc
            go_wp2
            go_ret2
            exact ⟨by rw [HR.out]; rfl, rfl⟩
          · have HR := Lib.hid (show (digsP (byteAt B) 1 (n - 1)).map (fun v => if 1 = 1 then -(v : Int) else v) = o by rw [← HO.out, if_neg (by rw [hc, hn]; omega), hn])
            clear HO
            go_cut [39] from 17 to 40 (fun u wx => u = .bool false ∧ w = wx)
            case first =>
              by_cases h4 : c = 48
              · subst h4
                have hgn : decide (1 < (n : Int)) = false := by simp; omega
                clear hc h48
                go_wp2
                go_meet
                exact ⟨rfl, rfl⟩
              · have hne : ((c : Int) == 48) = false := by simp; omega
                clear hc h48
                go_wp2
                go_meet
                exact ⟨rfl, rfl⟩
            case rest =>
              obtain ⟨rfl, rfl⟩ := hcut
              clear hc hx h48 hgt heq
              go_wp2
              go_loop [7, 8] (fun v i => ∃ j u : Nat, 1 ≤ j ∧ j ≤ n ∧ i = .int .i64 j ∧ v = .int .i64 u ∧ digsP (byteAt B) 1 (j - 1) = some u) (fun _ i => n - (intOf i).toNat)
              case atStart => exact ⟨1, 0, Nat.le_refl _, by omega, rfl, rfl, by rw [Nat.sub_self]; rfl⟩
              case round =>
                obtain ⟨j, u, haj, hjn, rfl, rfl, hdg⟩ := hrel
                have hu18 : u ≤ 1000000000000000000 := Nat.le_trans (Nat.le_of_lt (digsP_lt _ _ _ _ hdg)) (Nat.le_trans (Nat.pow_le_pow_right (by decide) (show j - 1 ≤ 18 by omega)) (by decide))
                by_cases hlt : j < n
                · have hdl : decide ((j : Int) < (n : Int)) = true := by simp; omega
                  have hu17 : u ≤ 100000000000000000 := Nat.le_trans (Nat.le_of_lt (digsP_lt _ _ _ _ hdg)) (Nat.le_trans (Nat.pow_le_pow_right (by decide) (show j - 1 ≤ 17 by omega)) (by decide))
                  obtain ⟨c2, hc2⟩ : ∃ c2, byteAt B j = c2 := ⟨_, rfl⟩
                  have hx2 := getB B j (show j < B.size by omega) hc2
                  have HS := Lib.hid (show digsP (byteAt B) 1 (j - 1 + 1) = if 48 ≤ c2 ∧ c2 ≤ 57 then some (10 * u + (c2 - 48)) else none by
                    rw [digsP, hdg]
                    simp only [show 1 + (j - 1) = j by omega, hc2])
                  clear hdg hc2 hu18
                  by_cases hok : 48 ≤ c2 ∧ c2 ≤ 57
                  · obtain ⟨d, hd⟩ : ∃ d, c2 - 48 = d := ⟨_, rfl⟩
                    have hlo : decide ((c2 : Int) < 48) = false := by simp; omega
                    have hhi : decide (57 < (c2 : Int)) = false := by simp; omega
                    have hw : IntKind.u8.wrap ((c2 : Int) - 48) = (d : Int) := by rw [IntKind.wrap_u8]; omega
                    have hd9 : d ≤ 9 := by omega
                    have HN := Lib.hid (show digsP (byteAt B) 1 (j + 1 - 1) = some (10 * u + d) by rw [show j + 1 - 1 = j - 1 + 1 by omega, HS.out, if_pos hok, hd])
                    clear HS hok hd
                    go_wp2
                    go_round
                    case rel => exact ⟨j + 1, 10 * u + d, by omega, by omega, by go_num, by go_num, HN.out⟩
                    case measure => simp [intOf]; omega
                  · have HN := Lib.hid (show o = none by
                      have h1 := HS.out
                      rw [if_neg hok] at h1
                      have h2 := digsP_none _ _ _ h1 (n - 1 - (j - 1 + 1))
                      rw [show j - 1 + 1 + (n - 1 - (j - 1 + 1)) = n - 1 by omega] at h2
                      rw [← HR.out, h2]; rfl)
                    by_cases hl48 : c2 < 48
                    · have hlo : decide ((c2 : Int) < 48) = true := by simp; omega
                      clear HS hok
                      go_wp2
                      go_ret2
                      exact ⟨by rw [HN.out]; rfl, rfl⟩
                    · have hlo : decide ((c2 : Int) < 48) = false := by simp; omega
                      have hhi : decide (57 < (c2 : Int)) = true := by simp; omega
                      clear HS hok
                      go_wp2
                      go_ret2
                      exact ⟨by rw [HN.out]; rfl, rfl⟩
                · obtain rfl : j = n := by omega
                  have hdl : decide ((j : Int) < (j : Int)) = false := by simp
                  have HN := Lib.hid (show o = some (-(u : Int)) by rw [← HR.out, hdg]; rfl)
                  clear hdg
                  go_wp2
                  go_ret2
                  exact ⟨by rw [HN.out]; rfl, rfl⟩
    · obtain rfl : a = 0 := by omega
      clear HA
      go_upto_region 4 with fail
      by_cases hna : n = 0
      · have heq : ((n : Int) == 0) = true := by simp; omega
        have HR := Lib.hid (show o = none by rw [← HO.out, if_pos (.inl (hn.trans hna))])
        clear HO hna
        go_wp2
        go_ret2
        exact ⟨by rw [HR.out]; rfl, rfl⟩
      · have heq : ((n : Int) == 0) = false := by simp; omega
        by_cases hDn : D < n - 0
        · have hgt : decide ((D : Int) < (n : Int)) = true := by simp; omega
          have hgt2 : D < n := by omega
          have HR := Lib.hid (show o = none by rw [← HO.out, if_pos (.inr (.inl (by omega)))])
          clear HO hna hDn
          go_wp2
          go_ret2
          exact ⟨by rw [HR.out]; rfl, rfl⟩
        · have hgt : decide ((D : Int) < (n : Int)) = false := by simp; omega
          have hgt2 : ¬ D < n := by omega
          obtain ⟨c, hc⟩ : ∃ c, byteAt B 0 = c := ⟨_, rfl⟩
          have hx := getB B 0 (show 0 < B.size by omega) hc
          by_cases h48 : c = 48 ∧ 1 < n
          · obtain ⟨rfl, h1n⟩ := h48
            have hgn : decide (1 < (n : Int)) = true := by simp; omega
            have HR := Lib.hid (show o = none by rw [← HO.out, if_pos (.inr (.inr ⟨hc, by omega⟩))])
            clear HO hc
            go_wp2
            go_ret2
            exact ⟨by rw [HR.out]; rfl, rfl⟩
          · have HR := Lib.hid (show (digsP (byteAt B) 0 (n - 0)).map (fun v => if 0 = 1 then -(v : Int) else v) = o by rw [← HO.out, if_neg (by rw [hc, hn]; omega), hn])
            clear HO
            go_cut [39] from 17 to 40 (fun u wx => u = .bool false ∧ w = wx)
            case first =>
              by_cases h4 : c = 48
              · subst h4
                have hgn : decide (1 < (n : Int)) = false := by simp; omega
                clear hc h48
                go_wp2
                go_meet
                exact ⟨rfl, rfl⟩
              · have hne : ((c : Int) == 48) = false := by simp; omega
                clear hc h48
                go_wp2
                go_meet
                exact ⟨rfl, rfl⟩
            case rest =>
              obtain ⟨rfl, rfl⟩ := hcut
              clear hc hx h48 hgt heq
              go_wp2
              go_loop [7, 8] (fun v i => ∃ j u : Nat, 0 ≤ j ∧ j ≤ n ∧ i = .int .i64 j ∧ v = .int .i64 u ∧ digsP (byteAt B) 0 (j - 0) = some u) (fun _ i => n - (intOf i).toNat)
              case atStart => exact ⟨0, 0, Nat.le_refl _, by omega, rfl, rfl, by rw [Nat.sub_self]; rfl⟩
              case round =>
                obtain ⟨j, u, haj, hjn, rfl, rfl, hdg⟩ := hrel
                have hu18 : u ≤ 1000000000000000000 := Nat.le_trans (Nat.le_of_lt (digsP_lt _ _ _ _ hdg)) (Nat.le_trans (Nat.pow_le_pow_right (by decide) (show j - 0 ≤ 18 by omega)) (by decide))
                by_cases hlt : j < n
                · have hdl : decide ((j : Int) < (n : Int)) = true := by simp; omega
                  have hu17 : u ≤ 100000000000000000 := Nat.le_trans (Nat.le_of_lt (digsP_lt _ _ _ _ hdg)) (Nat.le_trans (Nat.pow_le_pow_right (by decide) (show j - 0 ≤ 17 by omega)) (by decide))
                  obtain ⟨c2, hc2⟩ : ∃ c2, byteAt B j = c2 := ⟨_, rfl⟩
                  have hx2 := getB B j (show j < B.size by omega) hc2
                  have HS := Lib.hid (show digsP (byteAt B) 0 (j - 0 + 1) = if 48 ≤ c2 ∧ c2 ≤ 57 then some (10 * u + (c2 - 48)) else none by
                    rw [digsP, hdg]
                    simp only [show 0 + (j - 0) = j by omega, hc2])
                  clear hdg hc2 hu18
                  by_cases hok : 48 ≤ c2 ∧ c2 ≤ 57
                  · obtain ⟨d, hd⟩ : ∃ d, c2 - 48 = d := ⟨_, rfl⟩
                    have hlo : decide ((c2 : Int) < 48) = false := by simp; omega
                    have hhi : decide (57 < (c2 : Int)) = false := by simp; omega
                    have hw : IntKind.u8.wrap ((c2 : Int) - 48) = (d : Int) := by rw [IntKind.wrap_u8]; omega
                    have hd9 : d ≤ 9 := by omega
                    have HN := Lib.hid (show digsP (byteAt B) 0 (j + 1 - 0) = some (10 * u + d) by rw [show j + 1 - 0 = j - 0 + 1 by omega, HS.out, if_pos hok, hd])
                    clear HS hok hd
                    go_wp2
                    go_round
                    case rel => exact ⟨j + 1, 10 * u + d, by omega, by omega, by go_num, by go_num, HN.out⟩
                    case measure => simp [intOf]; omega
                  · have HN := Lib.hid (show o = none by
                      have h1 := HS.out
                      rw [if_neg hok] at h1
                      have h2 := digsP_none _ _ _ h1 (n - 0 - (j - 0 + 1))
                      rw [show j - 0 + 1 + (n - 0 - (j - 0 + 1)) = n - 0 by omega] at h2
                      rw [← HR.out, h2]; rfl)
                    by_cases hl48 : c2 < 48
                    · have hlo : decide ((c2 : Int) < 48) = true := by simp; omega
                      clear HS hok
                      go_wp2
                      go_ret2
                      exact ⟨by rw [HN.out]; rfl, rfl⟩
                    · have hlo : decide ((c2 : Int) < 48) = false := by simp; omega
                      have hhi : decide (57 < (c2 : Int)) = true := by simp; omega
                      clear HS hok
                      go_wp2
                      go_ret2
                      exact ⟨by rw [HN.out]; rfl, rfl⟩
                · obtain rfl : j = n := by omega
                  have hdl : decide ((j : Int) < (j : Int)) = false := by simp
                  have HN := Lib.hid (show o = some ((u : Int)) by rw [← HR.out, hdg]; rfl)
                  clear hdg
                  go_wp2
                  go_ret2
                  exact ⟨by rw [HN.out]; rfl, rfl⟩
end Go.Proofs.YtkoiknmijjiicaaGreatDoor

/- Plain: a text is a number for base.Number just if it is what strconv.Itoa writes, and strconv.Atoi reads it. -/
namespace Go.Proofs.YtkoiknmijjiicaaGreatDoor
set_option linter.unusedVariables false
set_option linter.unusedSimpArgs false
open Go.RowKit
theorem dec_small {u : Nat} (h : u < 10) : Lib.decDigits u = [UInt8.ofNat (48 + u)] := by rw [Lib.decDigits, dif_pos h]
theorem dec_big {u : Nat} (h : ¬ u < 10) : Lib.decDigits u = Lib.decDigits (u / 10) ++ [UInt8.ofNat (48 + u % 10)] := by rw [Lib.decDigits, dif_neg h]
theorem dec_pos (u : Nat) : 0 < (Lib.decDigits u).length := by
  by_cases h : u < 10
  · rw [dec_small h]; simp
  · rw [dec_big h]; simp
/-- The digits from a on are those of u. -/
theorem dec_digs (f : Nat → Nat) (a : Nat) : ∀ (m u : Nat), u ≤ m → (∀ i c, (Lib.decDigits u)[i]? = some c → f (a + i) = c.toNat) → digsP f a (Lib.decDigits u).length = some u := by
  intro m
  induction m with
  | zero =>
    intro u hu h
    obtain rfl : u = 0 := by omega
    rw [dec_small (by decide)] at h ⊢
    have e := h 0 48 rfl
    rw [Nat.add_zero] at e
    show digsP f a 1 = some 0
    unfold digsP digsP
    rw [Nat.add_zero, e]
    rfl
  | succ m ih =>
    intro u hu h
    by_cases hs : u < 10
    · rw [dec_small hs] at h ⊢
      have e := h 0 _ rfl
      rw [Nat.add_zero, UInt8.toNat_ofNat_of_lt' (by show 48 + u < 256; omega)] at e
      show digsP f a 1 = some u
      unfold digsP digsP
      dsimp only
      rw [Nat.add_zero, e, if_pos (by omega)]
      congr 1
      omega
    · rw [dec_big hs] at h ⊢
      have h1 := ih (u / 10) (by omega) (fun i c hc => h i c (by rw [List.getElem?_append_left (List.getElem?_eq_some_iff.1 hc).1]; exact hc))
      have e := h (Lib.decDigits (u / 10)).length (UInt8.ofNat (48 + u % 10)) (by simp)
      rw [UInt8.toNat_ofNat_of_lt' (by show 48 + u % 10 < 256; omega)] at e
      rw [List.length_append, List.length_singleton, digsP, h1]
      dsimp only
      rw [e, if_pos (by omega)]
      congr 1
      omega
theorem digs_pos {f : Nat → Nat} {a : Nat} : ∀ {k u : Nat}, 1 ≤ k → f a ≠ 48 → digsP f a k = some u → 1 ≤ u
  | 0, u, h, _, _ => by omega
  | k + 1, u, _, h0, h => by
    unfold digsP at h
    split at h
    · cases h
    · rename_i v hv
      split at h
      · rename_i hc
        simp only [Option.some.injEq] at h
        rcases Nat.eq_zero_or_pos k with rfl | hk
        · simp only [Nat.add_zero] at hc h
          omega
        · have := digs_pos hk h0 hv
          omega
      · cases h
/-- Digits without a 0 ahead are those of their number. -/
theorem digs_dec {f : Nat → Nat} {a : Nat} : ∀ {k u : Nat}, 1 ≤ k → (f a ≠ 48 ∨ k = 1) → digsP f a k = some u → Lib.decDigits u = (List.range k).map fun i => UInt8.ofNat (f (a + i))
  | 0, u, h, _, _ => by omega
  | k + 1, u, _, h0, h => by
    unfold digsP at h
    split at h
    · cases h
    · rename_i v hv
      split at h
      · rename_i hc
        simp only [Option.some.injEq] at h
        rcases Nat.eq_zero_or_pos k with rfl | hk
        · simp only [digsP, Option.some.injEq] at hv
          subst hv
          simp only [Nat.add_zero] at hc h
          rw [dec_small (by omega)]
          show _ = [UInt8.ofNat (f (a + 0))]
          rw [Nat.add_zero]
          congr 2
          omega
        · have hf : f a ≠ 48 := by
            rcases h0 with h0 | h0
            · exact h0
            · omega
          have hp := digs_pos hk hf hv
          have ih := digs_dec hk (.inl hf) hv
          rw [dec_big (by omega), List.range_succ, List.map_append, ← ih]
          congr 1
          · congr 1; omega
          · show [_] = [_]
            congr 2
            omega
      · cases h
theorem bytes_range (B : ByteArray) (a k : Nat) (h : a + k = B.size) : B.data.toList.drop a = (List.range k).map fun i => UInt8.ofNat (byteAt B (a + i)) := by
  refine List.ext_getElem? fun i => ?_
  rw [List.getElem?_drop, List.getElem?_map]
  rcases Nat.lt_or_ge i k with hi | hi
  · rw [List.getElem?_range hi]
    have hs : a + i < B.size := by omega
    show _ = some (UInt8.ofNat (byteAt B (a + i)))
    unfold byteAt
    rw [dif_pos hs, UInt8.ofNat_toNat]
    have : a + i < B.data.toList.length := by simpa using hs
    rw [List.getElem?_eq_getElem this]
    rfl
  · rw [List.getElem?_eq_none (by simp; exact (show B.size ≤ a + i by omega)), List.getElem?_eq_none (by simpa using hi)]
    rfl
theorem byteAt_list (B : ByteArray) {i : Nat} {c : UInt8} (h : B.data.toList[i]? = some c) : byteAt B i = c.toNat := by
  have hi : i < B.size := by have := (List.getElem?_eq_some_iff.1 h).1; simpa using this
  unfold byteAt
  rw [dif_pos hi]
  have h2 := (List.getElem?_eq_some_iff.1 h).2
  rw [← h2]
  rfl
/-- A number that base.Number reads is what strconv.Itoa writes. -/
theorem num_itoa {B : ByteArray} {D : Nat} {v : Int} (h : numF (byteAt B) B.size D = some v) : B.data.toList = Lib.itoa v ∧ v.natAbs < 10 ^ D ∧ B.size ≤ D + 1 ∧ (0 ≤ v → B.size ≤ D) := by
  have hle := numA_le (byteAt B) B.size
  unfold numF at h
  split at h
  · cases h
  · rename_i hc
    obtain ⟨a, ha⟩ : ∃ a, numA (byteAt B) B.size = a := ⟨_, rfl⟩
    rw [ha] at h hc hle
    cases hd : digsP (byteAt B) a (B.size - a) with
    | none => rw [hd] at h; cases h
    | some u =>
      rw [hd] at h
      replace h := Option.some.inj (show some (if a = 1 then -((u : Nat) : Int) else ((u : Nat) : Int)) = some v from h)
      have hlt := digsP_lt _ _ _ _ hd
      have hk : 1 ≤ B.size - a := by omega
      have hpw : u < 10 ^ D := Nat.lt_of_lt_of_le hlt (Nat.pow_le_pow_right (by decide) (by omega))
      have hr := bytes_range B a (B.size - a) (by omega)
      have h0 : byteAt B a ≠ 48 ∨ B.size - a = 1 := by
        rcases Nat.lt_or_ge 1 B.size with h1 | h1
        · exact .inl fun e => hc (.inr (.inr ⟨e, h1⟩))
        · exact .inr (by omega)
      have hdec := digs_dec hk h0 hd
      rw [← hdec] at hr
      rcases (show a = 0 ∨ a = 1 by omega) with rfl | rfl
      · rw [if_neg (by decide)] at h
        subst h
        refine ⟨?_, by simpa using hpw, by omega, fun _ => by omega⟩
        rw [Lib.itoa_nonneg]
        exact hr
      · rw [if_pos rfl] at h
        subst h
        have hs : 1 < B.size := by omega
        have hf : byteAt B 1 ≠ 48 := fun e => hc (.inr (.inr ⟨e, hs⟩))
        have hp := digs_pos hk hf hd
        refine ⟨?_, by simpa using hpw, by omega, fun e => by omega⟩
        rw [Lib.itoa_neg u hp, ← hr]
        have h45 : byteAt B 0 = 45 := by
          unfold numA at ha
          split at ha
          · rename_i hh; exact hh.2
          · cases ha
        have hl : 0 < B.data.toList.length := by simpa using (show 0 < B.size by omega)
        obtain ⟨c, r, hcr⟩ := List.exists_cons_of_length_pos hl
        have : byteAt B 0 = c.toNat := byteAt_list B (by rw [hcr]; rfl)
        rw [hcr]
        show c :: r = 45 :: r
        have hc45 : c = 45 := by
          apply UInt8.toNat_inj.1
          rw [← this, h45]
          rfl
        rw [hc45]
theorem dec_head {u : Nat} {c : UInt8} : ∀ (m : Nat), u ≤ m → (Lib.decDigits u)[0]? = some c → (48 ≤ c.toNat ∧ c.toNat ≤ 57) ∧ (c.toNat = 48 → (Lib.decDigits u).length = 1) := by
  intro m
  induction m generalizing u with
  | zero =>
    intro hu h
    obtain rfl : u = 0 := by omega
    rw [dec_small (by decide)] at h ⊢
    simp only [List.getElem?_cons_zero, Option.some.injEq] at h
    subst h
    decide
  | succ m ih =>
    intro hu h
    by_cases hs : u < 10
    · rw [dec_small hs] at h ⊢
      simp only [List.getElem?_cons_zero, Option.some.injEq] at h
      subst h
      rw [UInt8.toNat_ofNat_of_lt' (by show 48 + u < 256; omega)]
      exact ⟨by omega, fun _ => rfl⟩
    · rw [dec_big hs] at h
      rw [List.getElem?_append_left (dec_pos _)] at h
      obtain ⟨h1, h2⟩ := ih (u := u / 10) (by omega) h
      refine ⟨h1, fun e => ?_⟩
      exfalso
      have hl := h2 e
      have hsm : u / 10 < 10 := by
        by_cases hh : u / 10 < 10
        · exact hh
        · rw [dec_big hh, List.length_append] at hl
          have := dec_pos (u / 10 / 10)
          rw [List.length_singleton] at hl
          omega
      rw [dec_small hsm] at h
      simp only [List.getElem?_cons_zero, Option.some.injEq] at h
      subst h
      rw [UInt8.toNat_ofNat_of_lt' (by show 48 + u / 10 < 256; omega)] at e
      omega
/-- What strconv.Itoa writes, with few digits, is a number for base.Number. -/
theorem itoa_num {B : ByteArray} {D : Nat} {v : Int} (h : B.data.toList = Lib.itoa v) (hD : (Lib.decDigits v.natAbs).length ≤ D) : numF (byteAt B) B.size D = some v := by
  have hsz : B.size = (Lib.itoa v).length := by rw [← h]; simp
  have hpos := dec_pos v.natAbs
  obtain ⟨c, hc⟩ : ∃ c, (Lib.decDigits v.natAbs)[0]? = some c := ⟨_, List.getElem?_eq_getElem hpos⟩
  obtain ⟨⟨c1, c2⟩, c3⟩ := dec_head _ (Nat.le_refl _) hc
  rcases Int.lt_or_le v 0 with hv | hv
  · have e : Lib.itoa v = 45 :: Lib.decDigits v.natAbs := by unfold Lib.itoa; rw [if_pos hv]
    rw [e] at h hsz
    have b0 : byteAt B 0 = 45 := byteAt_list B (c := 45) (by rw [h]; rfl)
    have b1 : byteAt B 1 = c.toNat := byteAt_list B (by rw [h]; exact hc)
    have ha : numA (byteAt B) B.size = 1 := by unfold numA; rw [if_pos ⟨by rw [hsz]; simp, b0⟩]
    have hs : B.size - 1 = (Lib.decDigits v.natAbs).length := by rw [hsz]; simp
    have hd : digsP (byteAt B) 1 (B.size - 1) = some v.natAbs := by
      rw [hs]
      refine dec_digs _ 1 _ _ (Nat.le_refl _) fun i c hc => byteAt_list B ?_
      rw [h, Nat.add_comm]
      exact hc
    have h48 : byteAt B 1 ≠ 48 := by
      rw [b1]
      intro e48
      have hl := c3 e48
      have hv1 : 1 ≤ v.natAbs := by omega
      have hsm : v.natAbs < 10 := by
        by_cases hh : v.natAbs < 10
        · exact hh
        · rw [dec_big hh, List.length_append] at hl
          have := dec_pos (v.natAbs / 10)
          rw [List.length_singleton] at hl
          omega
      rw [dec_small hsm] at hc
      simp only [List.getElem?_cons_zero, Option.some.injEq] at hc
      rw [← hc, UInt8.toNat_ofNat_of_lt' (by show 48 + v.natAbs < 256; omega)] at e48
      omega
    unfold numF
    rw [ha, if_neg (by omega), hd]
    show some (if (1 : Nat) = 1 then -((v.natAbs : Nat) : Int) else _) = some v
    rw [if_pos rfl]
    congr 1
    omega
  · have e : Lib.itoa v = Lib.decDigits v.natAbs := by unfold Lib.itoa; rw [if_neg (by omega)]; congr 1; omega
    rw [e] at h hsz
    have b0 : byteAt B 0 = c.toNat := byteAt_list B (by rw [h]; exact hc)
    have ha : numA (byteAt B) B.size = 0 := by unfold numA; rw [if_neg (by omega)]
    have hd : digsP (byteAt B) 0 (B.size - 0) = some v.natAbs := by
      rw [Nat.sub_zero, hsz]
      refine dec_digs _ 0 _ _ (Nat.le_refl _) fun i c hc => byteAt_list B ?_
      rw [h, Nat.zero_add]
      exact hc
    unfold numF
    rw [ha, if_neg (by
      rintro (h1 | h1 | ⟨h1, h2⟩)
      · omega
      · omega
      · have := c3 (by rw [← b0]; exact h1); omega), hd]
    show some (if (0 : Nat) = 1 then _ else ((v.natAbs : Nat) : Int)) = some v
    rw [if_neg (by decide)]
    congr 1
    omega
theorem parse_snoc (c : UInt8) : ∀ (l : List UInt8) (acc : Nat), Lib.parseUint10 acc (l ++ [c]) = match Lib.parseUint10 acc l with | .ok m => Lib.parseUint10 m [c] | .syntax => .syntax | .range => .range
  | [], acc => rfl
  | d :: l, acc => by
    rw [List.cons_append]
    simp only [Lib.parseUint10]
    split
    · split
      · rfl
      · split
        · rfl
        · exact parse_snoc c l _
    · rfl
theorem parse_dec : ∀ (m u : Nat), u ≤ m → u < 1000000000000000000 → Lib.parseUint10 0 (Lib.decDigits u) = .ok u := by
  intro m
  induction m with
  | zero =>
    intro u hu _
    obtain rfl : u = 0 := by omega
    rw [dec_small (by decide)]
    rfl
  | succ m ih =>
    intro u hu hb
    by_cases hs : u < 10
    · rw [dec_small hs]
      have e : (UInt8.ofNat (48 + u)).toNat = 48 + u := UInt8.toNat_ofNat_of_lt' (by show 48 + u < 256; omega)
      simp only [Lib.parseUint10]
      rw [e, if_pos (by omega), if_neg (by decide), if_neg (by omega)]
      congr 1
      omega
    · rw [dec_big hs, parse_snoc, ih (u / 10) (by omega) (by omega)]
      have e : (UInt8.ofNat (48 + u % 10)).toNat = 48 + u % 10 := UInt8.toNat_ofNat_of_lt' (by show 48 + u % 10 < 256; omega)
      simp only [Lib.parseUint10]
      rw [e, if_pos (by omega), if_neg (by omega), if_neg (by omega)]
      congr 1
      omega
/-- strconv.Atoi reads what strconv.Itoa writes. -/
theorem atoi_itoa {v : Int} (h : v.natAbs < 1000000000000000000) : Lib.atoiAll (Lib.itoa v) = .ok v := by
  have hp := parse_dec _ v.natAbs (Nat.le_refl _) h
  have hpos := dec_pos v.natAbs
  rcases Int.lt_or_le v 0 with hv | hv
  · have e : Lib.itoa v = 45 :: Lib.decDigits v.natAbs := by unfold Lib.itoa; rw [if_pos hv]
    rw [e]
    have hm : Lib.parseMag (Lib.decDigits v.natAbs) = .ok v.natAbs := by
      unfold Lib.parseMag
      rw [if_neg (by intro e; rw [e] at hpos; cases hpos)]
      exact hp
    have hi : (if (45 : UInt8).toNat = 43 ∨ (45 : UInt8).toNat = 45 then Lib.decDigits v.natAbs else 45 :: Lib.decDigits v.natAbs) = Lib.decDigits v.natAbs := if_pos (by decide)
    unfold Lib.atoiAll
    dsimp only
    rw [hi, hm]
    dsimp only
    rw [if_neg (fun h => h.1 rfl), if_neg (fun h => by omega), if_pos (show (45 : UInt8).toNat = 45 by decide)]
    congr 1
    omega
  · have e : Lib.itoa v = Lib.decDigits v.natAbs := by unfold Lib.itoa; rw [if_neg (by omega)]; congr 1; omega
    rw [e]
    obtain ⟨c, r, hcr⟩ := List.exists_cons_of_length_pos hpos
    obtain ⟨⟨c1, c2⟩, -⟩ := dec_head (c := c) _ (Nat.le_refl _) (by rw [hcr]; rfl)
    rw [hcr] at hp ⊢
    have hm : Lib.parseMag (c :: r) = .ok v.natAbs := by
      unfold Lib.parseMag
      rw [if_neg (by simp)]
      exact hp
    have hi : (if c.toNat = 43 ∨ c.toNat = 45 then r else c :: r) = c :: r := if_neg (by omega)
    unfold Lib.atoiAll
    dsimp only
    rw [hi, hm]
    dsimp only
    rw [if_neg (by omega), if_neg (by omega), if_neg (by omega)]
    congr 1
    omega
end Go.Proofs.YtkoiknmijjiicaaGreatDoor

/- Chapter 1: base.Cut. -/
namespace Go.Proofs.YtkoiknmijjiicaaGreatDoor
set_option linter.unusedVariables false
set_option linter.unusedSimpArgs false
open Go.RowKit Go
/-- Texts as cells. -/
def strC (ws : List ByteArray) : List Value := ws.map .string
theorem infoStr : (Tryz.prog.info? 9).map (fun i => (i.zero, i.size, i.bytes)) = some (some (.string ⟨#[]⟩), 1, 16) := by kernel_rfl
theorem strC_snoc (ws : List ByteArray) (s : ByteArray) : strC (ws ++ [s]) = strC ws ++ [.string s] := by unfold strC; rw [List.map_append]; rfl
/-- The pieces of the first bytes, and where the next one begins. -/
def cutSt (B : ByteArray) (c : Nat) : Nat → List ByteArray × Nat
  | 0 => ([], 0)
  | i + 1 => if byteAt B i = c then ((cutSt B c i).1 ++ [B.extract (cutSt B c i).2 i], i + 1) else cutSt B c i
/-- What base.Cut answers. -/
def cutW (B : ByteArray) (c : Nat) : List ByteArray := (cutSt B c B.size).1 ++ [B.extract (cutSt B c B.size).2 B.size]
theorem cutSt_le (B : ByteArray) (c : Nat) : ∀ i, (cutSt B c i).2 ≤ i ∧ (cutSt B c i).1.length ≤ i
  | 0 => ⟨Nat.le_refl _, Nat.le_refl _⟩
  | i + 1 => by
    have := cutSt_le B c i
    unfold cutSt
    split
    · refine ⟨Nat.le_refl _, ?_⟩
      rw [List.length_append]; simp; omega
    · omega
/-- A row of texts of one's own. -/
def StrR (O : Nat) (w : World) (ws : List ByteArray) (v : Value) (wr : World) : Prop := wr.ownsRow O 9 1 v ws.length (strC ws) ∧ Below O w wr
theorem cells_str (w : World) (x : Value) (T : TypeId) (j : Nat) (u : Value) (h : [x][j]? = some u) : (w.alloc (.cells #[x] T)).cell? ((⟨w.heap.size, 0, none⟩ : Addr).add j) = some u := by
  have : (⟨w.heap.size, 0, none⟩ : Addr).add j = ⟨w.heap.size, j, none⟩ := by simp [Addr.add]; omega
  rw [this, World.cell?_alloc_new]
  simpa using h
theorem strR_put {O : Nat} {w wr w1 : World} {ws : List ByteArray} {v v' : Value} {s : ByteArray} {o : Obj} (h : StrR O w ws v wr) (hB : O ≤ wr.heap.size) {m : Nat} (hm : ws.length = m) (ho : w1.ownsRow O 9 1 v' (m + 1) (strC ws ++ [.string s])) (hg : (wr.alloc o).grownBy w1 v.ownBlock) : StrR O w (ws ++ [s]) v' w1 := by
  subst hm
  refine ⟨?_, h.2.trans ((((Below.refl O wr).alloc hB o)).grown hg (by simp; omega) (fun g hg => (h.1.lt g hg).1))⟩
  rw [strC_snoc, List.length_append]
  exact ho
theorem strR_slice {O : Nat} {w wr : World} {ws : List ByteArray} {v : Value} (h : StrR O w ws v wr) : ∃ a c, v = .slice a ws.length c := by
  obtain ⟨-, ⟨rfl, h1⟩ | ⟨g, cap, cur, rfl, h2, h3, -⟩⟩ := h.1
  · exact ⟨none, 0, by rw [h1]⟩
  · exact ⟨_, cap, rfl⟩
set_option maxRecDepth 20000 in
set_option maxHeartbeats 2000000 in
theorem cut_any (B : ByteArray) (c : Nat) (w : World) (hB : B.size ≤ 4294967296) :
    Calls Tryz.prog 59 #[.string B, .int .u8 c] w fun e w' => ∃ v, e = .returned v ∧ StrR w.heap.size w (cutW B c) v w' := by
  obtain ⟨i0, hi0, hz0, hz1, hz2⟩ := info_parts infoStr
  obtain ⟨n, hn⟩ : ∃ n, B.size = n := ⟨_, rfl⟩
  go_enter Tryz.func59, Tryz.ntmps59
  go_wp2
  go_loopw [5, 6, 7] (fun v p i wr => ∃ k : Nat, k ≤ n ∧ i = .int .i64 k ∧ p = .int .i64 (cutSt B c k).2 ∧ StrR w.heap.size w (cutSt B c k).1 v wr) (fun _ _ i _ => n - (intOf i).toNat)
  case atStart => exact ⟨0, Nat.zero_le _, rfl, rfl, World.ownsRow_nil _ _ _ _, Below.refl _ _⟩
  case round =>
    obtain ⟨i, hi, rfl, rfl, hg⟩ := hrel
    obtain ⟨hp, hl⟩ := cutSt_le B c i
    have hsz := hg.2.size
    have HG := Lib.hid hg
    have HST := Lib.hid (show cutSt B c (i + 1) = if byteAt B i = c then ((cutSt B c i).1 ++ [B.extract (cutSt B c i).2 i], i + 1) else cutSt B c i from rfl)
    have HE := Lib.hid (show cutW B c = (cutSt B c n).1 ++ [B.extract (cutSt B c n).2 n] by rw [← hn]; rfl)
    obtain ⟨a, cc, hv⟩ := strR_slice hg
    clear hg
    by_cases hlt : i < n
    · have hdl : decide ((i : Int) < (n : Int)) = true := by simp; omega
      obtain ⟨b, hb⟩ : ∃ b, byteAt B i = b := ⟨_, rfl⟩
      have hx := getB B i (show i < B.size by omega) hb
      rw [hb] at HST
      generalize cutSt B c i = Y at *
      obtain ⟨ws, p⟩ := Y
      obtain ⟨m, hm⟩ : ∃ m, ws.length = m := ⟨_, rfl⟩
      by_cases hbc : b = c
      · subst hbc
        have HS := Lib.hid (show cutSt B b (i + 1) = (ws ++ [B.extract p i], i + 1) by rw [HST.out, if_pos rfl])
        have HK := Lib.hid hm
        clear hb HST HE
        simp only at hp hl HG hv ⊢
        unfold StrR at HG
        rw [hm] at HG hv hl
        subst hv
        have hpi : (p : Int) ≤ (i : Int) := by omega
        have hiB : (i : Int) ≤ (B.size : Int) := by omega
        go_wp2_with (first | (at_builtin; refine wpList_append_own _ rfl _ _ 110 rfl w.heap.size 9 i0 (.string ⟨#[]⟩) 1 16 Tryz.underlying110 hi0 hz0 hz1 hz2 rfl (by decide) _ _ _ rfl (HG.out.1.alloc _) ⟨wr.heap.size, 0, none⟩ 1 1 [.string (B.extract p i)] rfl rfl ?d1 ?d2 ?d3 ?d4 ?d5 ?_))
        first | (case d1 => exact cells_str _ _ _) | skip
        case d2 => first | rfl | (intro u hu; simp at hu; subst hu; rfl)
        case d3 => unfold maxLen; omega
        case d4 => omega
        case d5 => first | omega | (simp; omega)
        intro v' w1 hown' hgrow _
        have HN := Lib.hid (strR_put (by unfold StrR; rw [HK.out]; exact HG.out) (by omega) HK.out hown' hgrow)
        clear hown' hgrow
        go_wp2
        go_roundw
        case rel => exact ⟨i + 1, by omega, by go_num, (by rw [HS.out]; exact congrArg (Value.int .i64) (Int.natCast_succ i).symm), by rw [HS.out]; exact HN.out⟩
        case measure => simp [intOf]; omega
      · have hne : ((b : Int) == (c : Int)) = false := by simp; omega
        have HS := Lib.hid (show cutSt B c (i + 1) = (ws, p) by rw [HST.out, if_neg hbc])
        clear hb HST HE
        go_wp2
        go_roundw
        case rel => exact ⟨i + 1, by omega, by go_num, by rw [HS.out], by rw [HS.out]; exact HG.out⟩
        case measure => simp [intOf]; omega
    · obtain rfl : i = n := by omega
      have hdl : decide ((i : Int) < (i : Int)) = false := by simp
      generalize cutSt B c i = Y at *
      obtain ⟨ws, p⟩ := Y
      obtain ⟨m, hm⟩ : ∃ m, ws.length = m := ⟨_, rfl⟩
      have HK := Lib.hid hm
      clear HST
      simp only at hp hl HG hv HE ⊢
      unfold StrR at HG
      rw [hm] at HG hv hl
      subst hv
      have hpi : (p : Int) ≤ (i : Int) := by omega
      have hiB : (i : Int) ≤ (B.size : Int) := by omega
      go_wp2_with (first | (at_builtin; refine wpList_append_own _ rfl _ _ 110 rfl w.heap.size 9 i0 (.string ⟨#[]⟩) 1 16 Tryz.underlying110 hi0 hz0 hz1 hz2 rfl (by decide) _ _ _ rfl (HG.out.1.alloc _) ⟨wr.heap.size, 0, none⟩ 1 1 [.string (B.extract p i)] rfl rfl ?d1 ?d2 ?d3 ?d4 ?d5 ?_))
      first | (case d1 => exact cells_str _ _ _) | skip
      case d2 => first | rfl | (intro u hu; simp at hu; subst hu; rfl)
      case d3 => unfold maxLen; omega
      case d4 => omega
      case d5 => first | omega | (simp; omega)
      intro v' w1 hown' hgrow _
      have HN := Lib.hid (strR_put (by unfold StrR; rw [HK.out]; exact HG.out) (by omega) HK.out hown' hgrow)
      clear hown' hgrow
      go_wp2
      go_ret
      exact ⟨v', rfl, by rw [HE.out]; exact HN.out⟩
end Go.Proofs.YtkoiknmijjiicaaGreatDoor

/- Plain: texts cut at a byte: base.Cut, strings.Split and strings.Lines agree. No program in sight. -/
namespace Go.Proofs.YtkoiknmijjiicaaGreatDoor
set_option linter.unusedVariables false
set_option linter.unusedSimpArgs false
open Go.RowKit Go
/-- A list of bytes cut at a byte. -/
def cutL (c : UInt8) : List UInt8 → List (List UInt8)
  | [] => [[]]
  | x :: r => if x = c then [] :: cutL c r else match cutL c r with
    | [] => [[x]]
    | h :: t => (x :: h) :: t
theorem cutL_ne (c : UInt8) : ∀ l, cutL c l ≠ []
  | [] => by simp [cutL]
  | x :: r => by
    unfold cutL
    split
    · simp
    · split <;> simp
theorem cutL_snoc (c x : UInt8) : ∀ (l : List UInt8) (ps : List (List UInt8)) (q : List UInt8), cutL c l = ps ++ [q] → cutL c (l ++ [x]) = if x = c then ps ++ [q] ++ [[]] else ps ++ [q ++ [x]]
  | [], ps, q, h => by
    have h1 : ps = [] ∧ q = [] := by
      rcases ps with _ | ⟨p, ps⟩
      · simp [cutL] at h; exact ⟨rfl, h⟩
      · simp [cutL] at h
    obtain ⟨rfl, rfl⟩ := h1
    by_cases hx : x = c <;> simp [cutL, hx]
  | y :: r, ps, q, h => by
    rw [List.cons_append]
    unfold cutL at h ⊢
    by_cases hy : y = c
    · rw [if_pos hy] at h ⊢
      rcases ps with _ | ⟨p, ps⟩
      · exfalso
        simp at h
        exact cutL_ne c r h.2
      · simp only [List.cons_append, List.cons.injEq] at h
        obtain ⟨rfl, h⟩ := h
        rw [cutL_snoc c x r ps q h]
        split <;> simp
    · rw [if_neg hy] at h ⊢
      obtain ⟨ps', q', hr⟩ : ∃ ps' q', cutL c r = ps' ++ [q'] := ⟨_, _, (List.dropLast_concat_getLast (cutL_ne c r)).symm⟩
      rw [cutL_snoc c x r ps' q' hr]
      rw [hr] at h
      rcases ps' with _ | ⟨p, ps'⟩
      · simp only [List.nil_append] at h
        rcases ps with _ | ⟨p', ps⟩
        · simp at h
          subst h
          by_cases hx : x = c <;> simp [hx]
        · simp at h
      · simp only [List.cons_append] at h
        rcases ps with _ | ⟨p', ps⟩
        · simp at h
        · simp only [List.cons_append, List.cons.injEq] at h
          obtain ⟨rfl, h⟩ := h
          have := List.append_inj' h rfl
          obtain ⟨rfl, h2⟩ := this
          simp at h2
          subst h2
          by_cases hx : x = c <;> simp [hx]
theorem cutL_miss (c : UInt8) : ∀ (l : List UInt8), Lib.indexByte l c = -1 → cutL c l = [l]
  | [], _ => rfl
  | x :: r, h => by
    unfold Lib.indexByte at h
    split at h
    · cases h
    · next hx =>
      have hx' : ¬ x = c := fun e => hx (by simp [e])
      split at h
      · next hr =>
        unfold cutL
        rw [if_neg hx', cutL_miss c r (by simpa using hr)]
      · next hr =>
        have := Lib.indexByte_ge r c
        omega
theorem cutL_hit (c : UInt8) : ∀ (l : List UInt8) (i : Nat), Lib.indexByte l c = i → cutL c l = l.take i :: cutL c (l.drop (i + 1))
  | [], i, h => by unfold Lib.indexByte at h; omega
  | x :: r, i, h => by
    unfold Lib.indexByte at h
    split at h
    · next hx =>
      have hx' : x = c := by simpa using hx
      have : i = 0 := by omega
      subst this
      unfold cutL
      rw [if_pos hx']
      simp
      cases r <;> rfl
    · next hx =>
      have hx' : ¬ x = c := fun e => hx (by simp [e])
      split at h
      · omega
      · next hr =>
        obtain ⟨j, rfl⟩ : ∃ j, i = j + 1 := ⟨i - 1, by have := Lib.indexByte_ge r c; have : Lib.indexByte r c ≠ -1 := fun e => hr (by simp [e]); omega⟩
        have hj : Lib.indexByte r c = (j : Int) := by omega
        have := cutL_hit c r j hj
        rw [cutL, if_neg hx', this]
        simp
/-- strings.Split at a byte. -/
theorem splitK_cut (c : UInt8) : ∀ (k : Nat) (l : List UInt8), l.count c ≤ k → Lib.splitK [c] 0 k l = cutL c l
  | 0, l, h => by
    have : Lib.indexByte l c = -1 := by
      apply Classical.byContradiction
      intro hn
      have h0 := Lib.indexByte_ge l c
      obtain ⟨i, hi⟩ : ∃ i : Nat, Lib.indexByte l c = i := ⟨(Lib.indexByte l c).toNat, by omega⟩
      have h1 := (Lib.indexByte_some hi).1
      have := List.count_pos_iff.2 (List.mem_of_getElem? h1)
      omega
    rw [cutL_miss c l this]
    rfl
  | k + 1, l, h => by
    unfold Lib.splitK
    rw [Lib.index_one]
    by_cases hi : Lib.indexByte l c = -1
    · rw [if_pos (by rw [hi]; rfl), cutL_miss c l hi]
    · have h0 := Lib.indexByte_ge l c
      obtain ⟨i, hi'⟩ : ∃ i : Nat, Lib.indexByte l c = i := ⟨(Lib.indexByte l c).toNat, by omega⟩
      rw [if_neg (by simpa using hi), hi', cutL_hit c l i hi']
      have e : ((i : Int).toNat + 0) = i := by omega
      have e2 : (i : Int).toNat + [c].length = i + 1 := by simp
      rw [e, e2]
      congr 1
      refine splitK_cut c k _ ?_
      have h1 := (Lib.indexByte_some hi').1
      have h2 := (List.getElem?_eq_some_iff.1 h1)
      obtain ⟨h3, h4⟩ := h2
      have h5 : l = l.take i ++ (c :: l.drop (i + 1)) := by
        conv => lhs; rw [← List.take_append_drop i l, List.drop_eq_getElem_cons h3, h4]
      have h6 : l.count c = (l.take i).count c + ((l.drop (i + 1)).count c + 1) := by
        conv => lhs; rw [h5, List.count_append, List.count_cons_self]
      omega
theorem bytes_inj {a b : List ByteArray} (h : a.map (·.data.toList) = b.map (·.data.toList)) : a = b := by
  refine (List.map_inj_right ?_).1 h
  intro x y e
  apply ByteArray.ext
  apply Array.toList_inj.1
  exact e
theorem split_cut (B : ByteArray) (c : UInt8) : (Lib.splitB ⟨#[c]⟩ 0 (Lib.countB B ⟨#[c]⟩) B).map (·.data.toList) = cutL c B.data.toList := by
  rw [Lib.splitB_data]
  refine splitK_cut c _ _ ?_
  show _ ≤ Lib.count B.data.toList [c]
  rw [Lib.count_one]
  exact Nat.le_refl _
/-- base.Cut. -/
theorem cutSt_list (B : ByteArray) (c : Nat) (hc : c < 256) : ∀ i, i ≤ B.size → cutL (UInt8.ofNat c) (B.data.toList.take i) = (cutSt B c i).1.map (·.data.toList) ++ [(B.data.toList.drop (cutSt B c i).2).take (i - (cutSt B c i).2)]
  | 0, _ => by simp [cutSt, cutL]
  | i + 1, h => by
    have ih := cutSt_list B c hc i (by omega)
    obtain ⟨hp, -⟩ := cutSt_le B c i
    have hz : i < B.data.toList.length := by rw [← Lib.size_eq]; omega
    have hx : B.data.toList[i]? = some (B.data.toList[i]) := List.getElem?_eq_getElem hz
    have hb := byteAt_list B hx
    rw [List.take_add_one, hx, Option.toList_some, cutL_snoc _ _ _ _ _ ih]
    have hiff : B.data.toList[i] = UInt8.ofNat c ↔ byteAt B i = c := by
      rw [hb]
      constructor
      · intro e; rw [e]; exact UInt8.toNat_ofNat_of_lt' hc
      · intro e; rw [← e]; simp
    have HS : cutSt B c (i + 1) = if byteAt B i = c then ((cutSt B c i).1 ++ [B.extract (cutSt B c i).2 i], i + 1) else cutSt B c i := rfl
    rw [HS]
    by_cases he : byteAt B i = c
    · rw [if_pos he, if_pos (hiff.2 he)]
      simp only [List.map_append, List.map_cons, List.map_nil, Lib.extract_data, Nat.sub_self, List.take_zero]
    · rw [if_neg he, if_neg (fun e => he (hiff.1 e))]
      congr 2
      rw [show i + 1 - (cutSt B c i).2 = (i - (cutSt B c i).2) + 1 by omega, List.take_add_one, List.getElem?_drop, show (cutSt B c i).2 + (i - (cutSt B c i).2) = i by omega, hx, Option.toList_some]
theorem cutW_list (B : ByteArray) (c : Nat) (hc : c < 256) : (cutW B c).map (·.data.toList) = cutL (UInt8.ofNat c) B.data.toList := by
  have h := cutSt_list B c hc B.size (Nat.le_refl _)
  rw [show B.data.toList.take B.size = B.data.toList by rw [Lib.size_eq, List.take_length]] at h
  rw [h]
  unfold cutW
  rw [List.map_append, List.map_cons, List.map_nil, Lib.extract_data]
theorem split_cutW (B : ByteArray) : Lib.splitB ⟨#[32]⟩ 0 (Lib.countB B ⟨#[32]⟩) B = cutW B 32 := by
  apply bytes_inj
  rw [split_cut, cutW_list B 32 (by decide)]
  rfl
end Go.Proofs.YtkoiknmijjiicaaGreatDoor

/- Plain: the lines that strings.Lines yields are the pieces of base.Cut. No program in sight. -/
namespace Go.Proofs.YtkoiknmijjiicaaGreatDoor
set_option linter.unusedVariables false
set_option linter.unusedSimpArgs false
open Go.RowKit Go
def pieces (s : ByteArray) : List (List UInt8) := cutL 10 s.data.toList
/-- How many line ends a text has. -/
def endsN (s : ByteArray) : Nat := (pieces s).length - 1
theorem pieces_pos (s : ByteArray) : (pieces s).length = endsN s + 1 := by
  have := List.length_pos_iff.2 (cutL_ne 10 s.data.toList)
  unfold endsN pieces
  omega
/-- How many lines strings.Lines yields. -/
def linesN (s : ByteArray) : Nat := if (pieces s).getD (endsN s) [] = [] then endsN s else endsN s + 1
theorem rest_piece (s : ByteArray) : ∀ k, k ≤ endsN s → cutL 10 (rests s k).data.toList = (pieces s).drop k
  | 0, _ => rfl
  | k + 1, h => by
    have ih := rest_piece s k (by omega)
    have hl := pieces_pos s
    rcases index_cases (rests s k) with hix | ⟨i, hix, hil⟩
    · exfalso
      rw [cutL_miss _ _ hix] at ih
      have := congrArg List.length ih
      simp at this
      omega
    · have hE : lnE (rests s k) = i + 1 := by unfold lnE; rw [if_neg (by omega), hix]; omega
      have hd : (rests s (k + 1)).data.toList = (rests s k).data.toList.drop (i + 1) := by
        rw [rests, hE, Lib.extract_data, List.take_of_length_le]
        rw [List.length_drop, Lib.size_eq]
        exact Nat.le_refl _
      rw [cutL_hit _ _ i hix] at ih
      rw [hd, show (pieces s).drop (k + 1) = ((pieces s).drop k).drop 1 by rw [List.drop_drop], ← ih]
      rfl
theorem rest_last (s : ByteArray) : (rests s (endsN s)).data.toList = (pieces s).getD (endsN s) [] ∧ Lib.indexByte (rests s (endsN s)).data.toList 10 = -1 := by
  have ih := rest_piece s (endsN s) (Nat.le_refl _)
  have hl := pieces_pos s
  rcases index_cases (rests s (endsN s)) with hix | ⟨i, hix, hil⟩
  · refine ⟨?_, hix⟩
    rw [cutL_miss _ _ hix] at ih
    rw [List.getD_eq_getElem?_getD, show (pieces s)[endsN s]? = ((pieces s).drop (endsN s))[0]? by rw [List.getElem?_drop, Nat.add_zero], ← ih]
    rfl
  · exfalso
    rw [cutL_hit _ _ i hix] at ih
    have h1 := congrArg List.length ih
    rw [List.length_cons, List.length_drop, hl] at h1
    have := List.length_pos_iff.2 (cutL_ne 10 ((rests s (endsN s)).data.toList.drop (i + 1)))
    omega
/-- Line number k ahead of the last piece. -/
theorem line_full (s : ByteArray) (k : Nat) (h : k < endsN s) : (lineK s k).data.toList = (pieces s).getD k [] ++ [10] ∧ 0 < (rests s k).size := by
  have ih := rest_piece s k (by omega)
  have hl := pieces_pos s
  rcases index_cases (rests s k) with hix | ⟨i, hix, hil⟩
  · exfalso
    rw [cutL_miss _ _ hix] at ih
    have := congrArg List.length ih
    simp at this
    omega
  · refine ⟨?_, by omega⟩
    have hE : lnE (rests s k) = i + 1 := by unfold lnE; rw [if_neg (by omega), hix]; omega
    rw [cutL_hit _ _ i hix] at ih
    have h0 : (pieces s).getD k [] = (rests s k).data.toList.take i := by
      rw [List.getD_eq_getElem?_getD, show (pieces s)[k]? = ((pieces s).drop k)[0]? by rw [List.getElem?_drop, Nat.add_zero], ← ih]
      rfl
    rw [h0]
    unfold lineK
    rw [hE, Lib.extract_data, List.drop_zero, Nat.sub_zero, List.take_add_one, (Lib.indexByte_some hix).1]
    rfl
theorem line_last (s : ByteArray) : (lineK s (endsN s)).data.toList = (pieces s).getD (endsN s) [] ∧ (rests s (endsN s + 1)).size = 0 := by
  obtain ⟨h1, h2⟩ := rest_last s
  have hE : lnE (rests s (endsN s)) = (rests s (endsN s)).size := by unfold lnE; rw [if_pos (by omega)]
  refine ⟨?_, ?_⟩
  · unfold lineK
    rw [hE, ext_all, h1]
  · rw [rests, hE, ext_none]
    rfl
theorem linesN_end (s : ByteArray) : (rests s (linesN s)).size = 0 := by
  unfold linesN
  split
  · next h =>
    rw [Lib.size_eq, (rest_last s).1, h]
    rfl
  · exact (line_last s).2
theorem linesN_pos (s : ByteArray) (k : Nat) (h : k < linesN s) : 0 < (rests s k).size := by
  by_cases hk : k < endsN s
  · exact (line_full s k hk).2
  · unfold linesN at h
    split at h
    · omega
    · next hn =>
      obtain rfl : k = endsN s := by omega
      rw [Lib.size_eq, (rest_last s).1]
      exact List.length_pos_iff.2 hn
/-- What strings.CutSuffix makes of a line. -/
theorem line_cut (s : ByteArray) (k : Nat) (h : k < linesN s) : Lib.trimSuffix (lineK s k).data.toList [10] = (pieces s).getD k [] ∧ Lib.hasSuffix (lineK s k).data.toList [10] = decide (k < endsN s) := by
  by_cases hk : k < endsN s
  · rw [(line_full s k hk).1]
    have h1 : Lib.hasSuffix ((pieces s).getD k [] ++ [10]) [10] = true := by
      unfold Lib.hasSuffix
      exact List.isSuffixOf_iff_suffix.2 (List.suffix_append _ _)
    refine ⟨?_, by rw [h1]; simp [hk]⟩
    unfold Lib.trimSuffix
    rw [if_pos h1]
    simp
  · unfold linesN at h
    split at h
    · omega
    · obtain rfl : k = endsN s := by omega
      obtain ⟨h1, h2⟩ := rest_last s
      have h3 : Lib.hasSuffix (lineK s (endsN s)).data.toList [10] = false := by
        rw [(line_last s).1, ← h1]
        apply Bool.eq_false_iff.2
        intro hc
        unfold Lib.hasSuffix at hc
        obtain ⟨t, ht⟩ := List.isSuffixOf_iff_suffix.1 hc
        have := Lib.indexByte_none h2 t.length
        rw [← ht] at this
        simp at this
      refine ⟨?_, by rw [h3]; simp⟩
      unfold Lib.trimSuffix
      rw [h3]
      exact (line_last s).1
theorem pieces_cutW (s : ByteArray) : (cutW s 10).map (·.data.toList) = pieces s := cutW_list s 10 (by decide)
def textAt (L : List ByteArray) (k : Nat) : ByteArray := L.getD k ⟨#[]⟩
theorem textAt_piece (s : ByteArray) (k : Nat) : (textAt (cutW s 10) k).data.toList = (pieces s).getD k [] := by
  rw [← pieces_cutW]
  unfold textAt
  rw [List.getD_eq_getElem?_getD, List.getD_eq_getElem?_getD, List.getElem?_map]
  cases (cutW s 10)[k]? <;> rfl
/-- The text of line k, as the walk has it. -/
theorem line_text (s : ByteArray) (k : Nat) (h : k < linesN s) : (⟨(Lib.trimSuffix (lineK s k).data.toList [10]).toArray⟩ : ByteArray) = textAt (cutW s 10) k ∧ Lib.hasSuffix (lineK s k).data.toList [10] = decide (k < endsN s) := by
  obtain ⟨h1, h2⟩ := line_cut s k h
  refine ⟨?_, h2⟩
  apply ByteArray.ext
  apply Array.toList_inj.1
  rw [textAt_piece, h1]
theorem cutW_len (s : ByteArray) : (cutW s 10).length = endsN s + 1 := by rw [← pieces_pos, ← pieces_cutW, List.length_map]
theorem linesN_eq (s : ByteArray) : linesN s = if (textAt (cutW s 10) (endsN s)).size = 0 then endsN s else endsN s + 1 := by
  unfold linesN
  rw [← textAt_piece, Lib.size_eq]
  simp only [List.length_eq_zero_iff]
end Go.Proofs.YtkoiknmijjiicaaGreatDoor

/- Plain: words joined by blanks, lines ended by line feeds, cut again. No program in sight. -/
namespace Go.Proofs.YtkoiknmijjiicaaGreatDoor
set_option linter.unusedVariables false
set_option linter.unusedSimpArgs false
open Go.RowKit Go
theorem cutL_no (c : UInt8) : ∀ (a : List UInt8), (∀ x ∈ a, x ≠ c) → cutL c a = [a]
  | [], _ => rfl
  | x :: r, h => by
    unfold cutL
    rw [if_neg (h x (List.mem_cons_self ..)), cutL_no c r (fun y hy => h y (List.mem_cons_of_mem _ hy))]
theorem cutL_app (c : UInt8) : ∀ (a r : List UInt8), (∀ x ∈ a, x ≠ c) → cutL c (a ++ c :: r) = a :: cutL c r
  | [], r, _ => by
    rw [List.nil_append]
    conv => lhs; unfold cutL
    rw [if_pos rfl]
  | x :: a, r, h => by
    rw [List.cons_append]
    conv => lhs; unfold cutL
    rw [if_neg (h x (List.mem_cons_self ..)), cutL_app c a r (fun y hy => h y (List.mem_cons_of_mem _ hy))]
theorem join_two (x y : List UInt8) (r : List (List UInt8)) (c : UInt8) : Lib.join (x :: y :: r) [c] = x ++ c :: Lib.join (y :: r) [c] := by
  simp [Lib.join, List.intercalate]
theorem cutL_join (c : UInt8) : ∀ (ws : List (List UInt8)), ws ≠ [] → (∀ a ∈ ws, ∀ x ∈ a, x ≠ c) → cutL c (Lib.join ws [c]) = ws
  | [], h, _ => absurd rfl h
  | [x], _, h => by
    rw [Lib.join_one, cutL_no c x (h x (List.mem_cons_self ..))]
  | x :: y :: r, _, h => by
    rw [join_two, cutL_app c x _ (h x (List.mem_cons_self ..)), cutL_join c (y :: r) (by simp) (fun a ha => h a (List.mem_cons_of_mem _ ha))]
/-- Lines, each with its end. -/
def linesL : List (List UInt8) → List UInt8
  | [] => []
  | l :: r => l ++ 10 :: linesL r
theorem linesL_app : ∀ (a b : List (List UInt8)), linesL (a ++ b) = linesL a ++ linesL b
  | [], _ => rfl
  | l :: r, b => by
    rw [List.cons_append, linesL, linesL, linesL_app r b, List.append_assoc]
    rfl
theorem cutL_lines : ∀ (ls : List (List UInt8)), (∀ a ∈ ls, ∀ x ∈ a, x ≠ 10) → cutL 10 (linesL ls) = ls ++ [[]]
  | [], _ => rfl
  | l :: r, h => by
    rw [linesL, cutL_app 10 l _ (h l (List.mem_cons_self ..)), cutL_lines r (fun a ha => h a (List.mem_cons_of_mem _ ha))]
    rfl
theorem dec_bytes : ∀ (m u : Nat), u ≤ m → ∀ c ∈ Lib.decDigits u, 48 ≤ c.toNat ∧ c.toNat ≤ 57 := by
  intro m
  induction m with
  | zero =>
    intro u hu c hc
    rw [dec_small (by omega)] at hc
    simp only [List.mem_singleton] at hc
    subst hc
    obtain rfl : u = 0 := by omega
    decide
  | succ m ih =>
    intro u hu c hc
    by_cases h : u < 10
    · rw [dec_small h, List.mem_singleton] at hc
      subst hc
      rw [UInt8.toNat_ofNat_of_lt' (show 48 + u < UInt8.size by simp only [UInt8.size]; omega)]
      omega
    · rw [dec_big h] at hc
      rcases List.mem_append.1 hc with hc | hc
      · exact ih (u / 10) (by omega) c hc
      · rw [List.mem_singleton] at hc
        subst hc
        rw [UInt8.toNat_ofNat_of_lt' (show 48 + u % 10 < UInt8.size by simp only [UInt8.size]; omega)]
        omega
theorem dec_le : ∀ (k u : Nat), 0 < k → u < 10 ^ k → (Lib.decDigits u).length ≤ k
  | 0, _, h, _ => absurd h (by decide)
  | k + 1, u, _, h => by
    by_cases hu : u < 10
    · rw [dec_small hu]
      simp
    · have hk : 0 < k := by
        rcases k with _ | k
        · simp at h; omega
        · omega
      rw [dec_big hu, List.length_append, List.length_singleton]
      have := dec_le k (u / 10) hk (by rw [Nat.pow_succ] at h; omega)
      omega
/-- A number's letters are no blank and no line feed. -/
theorem itoa_bytes (v : Int) : ∀ c ∈ Lib.itoa v, c ≠ 32 ∧ c ≠ 10 := by
  intro c hc
  unfold Lib.itoa at hc
  have key : ∀ c : UInt8, 48 ≤ c.toNat → c ≠ 32 ∧ c ≠ 10 := fun c h => ⟨fun e => by rw [e] at h; exact absurd h (by decide), fun e => by rw [e] at h; exact absurd h (by decide)⟩
  split at hc
  · rcases List.mem_cons.1 hc with rfl | hc
    · exact ⟨by decide, by decide⟩
    · exact key c (dec_bytes _ _ (Nat.le_refl _) c hc).1
  · exact key c (dec_bytes _ _ (Nat.le_refl _) c hc).1
theorem join_mem (c : UInt8) : ∀ (ws : List (List UInt8)) (x : UInt8), x ∈ Lib.join ws [c] → x = c ∨ ∃ a ∈ ws, x ∈ a
  | [], x, h => by simp [Lib.join, List.intercalate] at h
  | [a], x, h => by
    rw [Lib.join_one] at h
    exact .inr ⟨a, List.mem_cons_self .., h⟩
  | a :: b :: r, x, h => by
    rw [join_two] at h
    rcases List.mem_append.1 h with h | h
    · exact .inr ⟨a, List.mem_cons_self .., h⟩
    · rcases List.mem_cons.1 h with rfl | h
      · exact .inl rfl
      · rcases join_mem c (b :: r) x h with h | ⟨d, hd, hx⟩
        · exact .inl h
        · exact .inr ⟨d, List.mem_cons_of_mem _ hd, hx⟩
theorem join_last (c : UInt8) (x : List UInt8) : ∀ (ws : List (List UInt8)), Lib.join (ws ++ [x]) [c] = (ws.map (· ++ [c])).flatten ++ x
  | [] => by rw [List.nil_append, Lib.join_one]; rfl
  | [a] => by rw [List.cons_append, List.nil_append, join_two, Lib.join_one]; simp
  | a :: b :: r => by
    rw [List.cons_append, List.cons_append, join_two]
    have := join_last c x (b :: r)
    rw [List.cons_append] at this
    rw [this]
    simp
end Go.Proofs.YtkoiknmijjiicaaGreatDoor
