/- Plain: a text is a number for base.Number just if it is what strconv.Itoa writes, and strconv.Atoi reads it. -/
import Derived.Test.YtkoiknmijjiicaaGreatDoorU119
import Derived.Lib.ItoaMem
import Derived.Lib.AtoiAll
namespace Go.Proofs.YtkoiknmijjiicaaGreatDoor
set_option linter.unusedVariables false
set_option linter.unusedSimpArgs false
open Go.RowKit
theorem dec_small {u : Nat} (h : u < 10) : Lib.decDigits u = [UInt8.ofNat (48 + u)] := by rw [Lib.decDigits, dif_pos h]
theorem dec_big {u : Nat} (h : ¬ u < 10) : Lib.decDigits u = Lib.decDigits (u / 10) ++ [UInt8.ofNat (48 + u % 10)] := by rw [Lib.decDigits, dif_neg h]
theorem dec_pos (u : Nat) : 0 < (Lib.decDigits u).length := by
  by_cases h : u < 10
  · rw [dec_small h]; simp
  · rw [dec_big h]; simp
/-- The digits from a on are those of u. -/
theorem dec_digs (f : Nat → Nat) (a : Nat) : ∀ (m u : Nat), u ≤ m → (∀ i c, (Lib.decDigits u)[i]? = some c → f (a + i) = c.toNat) → digsP f a (Lib.decDigits u).length = some u := by
  intro m
  induction m with
  | zero =>
    intro u hu h
    obtain rfl : u = 0 := by omega
    rw [dec_small (by decide)] at h ⊢
    have e := h 0 48 rfl
    rw [Nat.add_zero] at e
    show digsP f a 1 = some 0
    unfold digsP digsP
    rw [Nat.add_zero, e]
    rfl
  | succ m ih =>
    intro u hu h
    by_cases hs : u < 10
    · rw [dec_small hs] at h ⊢
      have e := h 0 _ rfl
      rw [Nat.add_zero, UInt8.toNat_ofNat_of_lt' (by show 48 + u < 256; omega)] at e
      show digsP f a 1 = some u
      unfold digsP digsP
      dsimp only
      rw [Nat.add_zero, e, if_pos (by omega)]
      congr 1
      omega
    · rw [dec_big hs] at h ⊢
      have h1 := ih (u / 10) (by omega) (fun i c hc => h i c (by rw [List.getElem?_append_left (List.getElem?_eq_some_iff.1 hc).1]; exact hc))
      have e := h (Lib.decDigits (u / 10)).length (UInt8.ofNat (48 + u % 10)) (by simp)
      rw [UInt8.toNat_ofNat_of_lt' (by show 48 + u % 10 < 256; omega)] at e
      rw [List.length_append, List.length_singleton, digsP, h1]
      dsimp only
      rw [e, if_pos (by omega)]
      congr 1
      omega
theorem digs_pos {f : Nat → Nat} {a : Nat} : ∀ {k u : Nat}, 1 ≤ k → f a ≠ 48 → digsP f a k = some u → 1 ≤ u
  | 0, u, h, _, _ => by omega
  | k + 1, u, _, h0, h => by
    unfold digsP at h
    split at h
    · cases h
    · rename_i v hv
      split at h
      · rename_i hc
        simp only [Option.some.injEq] at h
        rcases Nat.eq_zero_or_pos k with rfl | hk
        · simp only [Nat.add_zero] at hc h
          omega
        · have := digs_pos hk h0 hv
          omega
      · cases h
/-- Digits without a 0 ahead are those of their number. -/
theorem digs_dec {f : Nat → Nat} {a : Nat} : ∀ {k u : Nat}, 1 ≤ k → (f a ≠ 48 ∨ k = 1) → digsP f a k = some u → Lib.decDigits u = (List.range k).map fun i => UInt8.ofNat (f (a + i))
  | 0, u, h, _, _ => by omega
  | k + 1, u, _, h0, h => by
    unfold digsP at h
    split at h
    · cases h
    · rename_i v hv
      split at h
      · rename_i hc
        simp only [Option.some.injEq] at h
        rcases Nat.eq_zero_or_pos k with rfl | hk
        · simp only [digsP, Option.some.injEq] at hv
          subst hv
          simp only [Nat.add_zero] at hc h
          rw [dec_small (by omega)]
          show _ = [UInt8.ofNat (f (a + 0))]
          rw [Nat.add_zero]
          congr 2
          omega
        · have hf : f a ≠ 48 := by
            rcases h0 with h0 | h0
            · exact h0
            · omega
          have hp := digs_pos hk hf hv
          have ih := digs_dec hk (.inl hf) hv
          rw [dec_big (by omega), List.range_succ, List.map_append, ← ih]
          congr 1
          · congr 1; omega
          · show [_] = [_]
            congr 2
            omega
      · cases h
theorem bytes_range (B : ByteArray) (a k : Nat) (h : a + k = B.size) : B.data.toList.drop a = (List.range k).map fun i => UInt8.ofNat (byteAt B (a + i)) := by
  refine List.ext_getElem? fun i => ?_
  rw [List.getElem?_drop, List.getElem?_map]
  rcases Nat.lt_or_ge i k with hi | hi
  · rw [List.getElem?_range hi]
    have hs : a + i < B.size := by omega
    show _ = some (UInt8.ofNat (byteAt B (a + i)))
    unfold byteAt
    rw [dif_pos hs, UInt8.ofNat_toNat]
    have : a + i < B.data.toList.length := by simpa using hs
    rw [List.getElem?_eq_getElem this]
    rfl
  · rw [List.getElem?_eq_none (by simp; exact (show B.size ≤ a + i by omega)), List.getElem?_eq_none (by simpa using hi)]
    rfl
theorem byteAt_list (B : ByteArray) {i : Nat} {c : UInt8} (h : B.data.toList[i]? = some c) : byteAt B i = c.toNat := by
  have hi : i < B.size := by have := (List.getElem?_eq_some_iff.1 h).1; simpa using this
  unfold byteAt
  rw [dif_pos hi]
  have h2 := (List.getElem?_eq_some_iff.1 h).2
  rw [← h2]
  rfl
/-- A number that base.Number reads is what strconv.Itoa writes. -/
theorem num_itoa {B : ByteArray} {D : Nat} {v : Int} (h : numF (byteAt B) B.size D = some v) : B.data.toList = Lib.itoa v ∧ v.natAbs < 10 ^ D ∧ B.size ≤ D + 1 ∧ (0 ≤ v → B.size ≤ D) := by
  have hle := numA_le (byteAt B) B.size
  unfold numF at h
  split at h
  · cases h
  · rename_i hc
    obtain ⟨a, ha⟩ : ∃ a, numA (byteAt B) B.size = a := ⟨_, rfl⟩
    rw [ha] at h hc hle
    cases hd : digsP (byteAt B) a (B.size - a) with
    | none => rw [hd] at h; cases h
    | some u =>
      rw [hd] at h
      replace h := Option.some.inj (show some (if a = 1 then -((u : Nat) : Int) else ((u : Nat) : Int)) = some v from h)
      have hlt := digsP_lt _ _ _ _ hd
      have hk : 1 ≤ B.size - a := by omega
      have hpw : u < 10 ^ D := Nat.lt_of_lt_of_le hlt (Nat.pow_le_pow_right (by decide) (by omega))
      have hr := bytes_range B a (B.size - a) (by omega)
      have h0 : byteAt B a ≠ 48 ∨ B.size - a = 1 := by
        rcases Nat.lt_or_ge 1 B.size with h1 | h1
        · exact .inl fun e => hc (.inr (.inr ⟨e, h1⟩))
        · exact .inr (by omega)
      have hdec := digs_dec hk h0 hd
      rw [← hdec] at hr
      rcases (show a = 0 ∨ a = 1 by omega) with rfl | rfl
      · rw [if_neg (by decide)] at h
        subst h
        refine ⟨?_, by simpa using hpw, by omega, fun _ => by omega⟩
        rw [Lib.itoa_nonneg]
        exact hr
      · rw [if_pos rfl] at h
        subst h
        have hs : 1 < B.size := by omega
        have hf : byteAt B 1 ≠ 48 := fun e => hc (.inr (.inr ⟨e, hs⟩))
        have hp := digs_pos hk hf hd
        refine ⟨?_, by simpa using hpw, by omega, fun e => by omega⟩
        rw [Lib.itoa_neg u hp, ← hr]
        have h45 : byteAt B 0 = 45 := by
          unfold numA at ha
          split at ha
          · rename_i hh; exact hh.2
          · cases ha
        have hl : 0 < B.data.toList.length := by simpa using (show 0 < B.size by omega)
        obtain ⟨c, r, hcr⟩ := List.exists_cons_of_length_pos hl
        have : byteAt B 0 = c.toNat := byteAt_list B (by rw [hcr]; rfl)
        rw [hcr]
        show c :: r = 45 :: r
        have hc45 : c = 45 := by
          apply UInt8.toNat_inj.1
          rw [← this, h45]
          rfl
        rw [hc45]
theorem dec_head {u : Nat} {c : UInt8} : ∀ (m : Nat), u ≤ m → (Lib.decDigits u)[0]? = some c → (48 ≤ c.toNat ∧ c.toNat ≤ 57) ∧ (c.toNat = 48 → (Lib.decDigits u).length = 1) := by
  intro m
  induction m generalizing u with
  | zero =>
    intro hu h
    obtain rfl : u = 0 := by omega
    rw [dec_small (by decide)] at h ⊢
    simp only [List.getElem?_cons_zero, Option.some.injEq] at h
    subst h
    decide
  | succ m ih =>
    intro hu h
    by_cases hs : u < 10
    · rw [dec_small hs] at h ⊢
      simp only [List.getElem?_cons_zero, Option.some.injEq] at h
      subst h
      rw [UInt8.toNat_ofNat_of_lt' (by show 48 + u < 256; omega)]
      exact ⟨by omega, fun _ => rfl⟩
    · rw [dec_big hs] at h
      rw [List.getElem?_append_left (dec_pos _)] at h
      obtain ⟨h1, h2⟩ := ih (u := u / 10) (by omega) h
      refine ⟨h1, fun e => ?_⟩
      exfalso
      have hl := h2 e
      have hsm : u / 10 < 10 := by
        by_cases hh : u / 10 < 10
        · exact hh
        · rw [dec_big hh, List.length_append] at hl
          have := dec_pos (u / 10 / 10)
          rw [List.length_singleton] at hl
          omega
      rw [dec_small hsm] at h
      simp only [List.getElem?_cons_zero, Option.some.injEq] at h
      subst h
      rw [UInt8.toNat_ofNat_of_lt' (by show 48 + u / 10 < 256; omega)] at e
      omega
/-- What strconv.Itoa writes, with few digits, is a number for base.Number. -/
theorem itoa_num {B : ByteArray} {D : Nat} {v : Int} (h : B.data.toList = Lib.itoa v) (hD : (Lib.decDigits v.natAbs).length ≤ D) : numF (byteAt B) B.size D = some v := by
  have hsz : B.size = (Lib.itoa v).length := by rw [← h]; simp
  have hpos := dec_pos v.natAbs
  obtain ⟨c, hc⟩ : ∃ c, (Lib.decDigits v.natAbs)[0]? = some c := ⟨_, List.getElem?_eq_getElem hpos⟩
  obtain ⟨⟨c1, c2⟩, c3⟩ := dec_head _ (Nat.le_refl _) hc
  rcases Int.lt_or_le v 0 with hv | hv
  · have e : Lib.itoa v = 45 :: Lib.decDigits v.natAbs := by unfold Lib.itoa; rw [if_pos hv]
    rw [e] at h hsz
    have b0 : byteAt B 0 = 45 := byteAt_list B (c := 45) (by rw [h]; rfl)
    have b1 : byteAt B 1 = c.toNat := byteAt_list B (by rw [h]; exact hc)
    have ha : numA (byteAt B) B.size = 1 := by unfold numA; rw [if_pos ⟨by rw [hsz]; simp, b0⟩]
    have hs : B.size - 1 = (Lib.decDigits v.natAbs).length := by rw [hsz]; simp
    have hd : digsP (byteAt B) 1 (B.size - 1) = some v.natAbs := by
      rw [hs]
      refine dec_digs _ 1 _ _ (Nat.le_refl _) fun i c hc => byteAt_list B ?_
      rw [h, Nat.add_comm]
      exact hc
    have h48 : byteAt B 1 ≠ 48 := by
      rw [b1]
      intro e48
      have hl := c3 e48
      have hv1 : 1 ≤ v.natAbs := by omega
      have hsm : v.natAbs < 10 := by
        by_cases hh : v.natAbs < 10
        · exact hh
        · rw [dec_big hh, List.length_append] at hl
          have := dec_pos (v.natAbs / 10)
          rw [List.length_singleton] at hl
          omega
      rw [dec_small hsm] at hc
      simp only [List.getElem?_cons_zero, Option.some.injEq] at hc
      rw [← hc, UInt8.toNat_ofNat_of_lt' (by show 48 + v.natAbs < 256; omega)] at e48
      omega
    unfold numF
    rw [ha, if_neg (by omega), hd]
    show some (if (1 : Nat) = 1 then -((v.natAbs : Nat) : Int) else _) = some v
    rw [if_pos rfl]
    congr 1
    omega
  · have e : Lib.itoa v = Lib.decDigits v.natAbs := by unfold Lib.itoa; rw [if_neg (by omega)]; congr 1; omega
    rw [e] at h hsz
    have b0 : byteAt B 0 = c.toNat := byteAt_list B (by rw [h]; exact hc)
    have ha : numA (byteAt B) B.size = 0 := by unfold numA; rw [if_neg (by omega)]
    have hd : digsP (byteAt B) 0 (B.size - 0) = some v.natAbs := by
      rw [Nat.sub_zero, hsz]
      refine dec_digs _ 0 _ _ (Nat.le_refl _) fun i c hc => byteAt_list B ?_
      rw [h, Nat.zero_add]
      exact hc
    unfold numF
    rw [ha, if_neg (by
      rintro (h1 | h1 | ⟨h1, h2⟩)
      · omega
      · omega
      · have := c3 (by rw [← b0]; exact h1); omega), hd]
    show some (if (0 : Nat) = 1 then _ else ((v.natAbs : Nat) : Int)) = some v
    rw [if_neg (by decide)]
    congr 1
    omega
theorem parse_snoc (c : UInt8) : ∀ (l : List UInt8) (acc : Nat), Lib.parseUint10 acc (l ++ [c]) = match Lib.parseUint10 acc l with | .ok m => Lib.parseUint10 m [c] | .syntax => .syntax | .range => .range
  | [], acc => rfl
  | d :: l, acc => by
    rw [List.cons_append]
    simp only [Lib.parseUint10]
    split
    · split
      · rfl
      · split
        · rfl
        · exact parse_snoc c l _
    · rfl
theorem parse_dec : ∀ (m u : Nat), u ≤ m → u < 1000000000000000000 → Lib.parseUint10 0 (Lib.decDigits u) = .ok u := by
  intro m
  induction m with
  | zero =>
    intro u hu _
    obtain rfl : u = 0 := by omega
    rw [dec_small (by decide)]
    rfl
  | succ m ih =>
    intro u hu hb
    by_cases hs : u < 10
    · rw [dec_small hs]
      have e : (UInt8.ofNat (48 + u)).toNat = 48 + u := UInt8.toNat_ofNat_of_lt' (by show 48 + u < 256; omega)
      simp only [Lib.parseUint10]
      rw [e, if_pos (by omega), if_neg (by decide), if_neg (by omega)]
      congr 1
      omega
    · rw [dec_big hs, parse_snoc, ih (u / 10) (by omega) (by omega)]
      have e : (UInt8.ofNat (48 + u % 10)).toNat = 48 + u % 10 := UInt8.toNat_ofNat_of_lt' (by show 48 + u % 10 < 256; omega)
      simp only [Lib.parseUint10]
      rw [e, if_pos (by omega), if_neg (by omega), if_neg (by omega)]
      congr 1
      omega
/-- strconv.Atoi reads what strconv.Itoa writes. -/
theorem atoi_itoa {v : Int} (h : v.natAbs < 1000000000000000000) : Lib.atoiAll (Lib.itoa v) = .ok v := by
  have hp := parse_dec _ v.natAbs (Nat.le_refl _) h
  have hpos := dec_pos v.natAbs
  rcases Int.lt_or_le v 0 with hv | hv
  · have e : Lib.itoa v = 45 :: Lib.decDigits v.natAbs := by unfold Lib.itoa; rw [if_pos hv]
    rw [e]
    have hm : Lib.parseMag (Lib.decDigits v.natAbs) = .ok v.natAbs := by
      unfold Lib.parseMag
      rw [if_neg (by intro e; rw [e] at hpos; cases hpos)]
      exact hp
    have hi : (if (45 : UInt8).toNat = 43 ∨ (45 : UInt8).toNat = 45 then Lib.decDigits v.natAbs else 45 :: Lib.decDigits v.natAbs) = Lib.decDigits v.natAbs := if_pos (by decide)
    unfold Lib.atoiAll
    dsimp only
    rw [hi, hm]
    dsimp only
    rw [if_neg (fun h => h.1 rfl), if_neg (fun h => by omega), if_pos (show (45 : UInt8).toNat = 45 by decide)]
    congr 1
    omega
  · have e : Lib.itoa v = Lib.decDigits v.natAbs := by unfold Lib.itoa; rw [if_neg (by omega)]; congr 1; omega
    rw [e]
    obtain ⟨c, r, hcr⟩ := List.exists_cons_of_length_pos hpos
    obtain ⟨⟨c1, c2⟩, -⟩ := dec_head (c := c) _ (Nat.le_refl _) (by rw [hcr]; rfl)
    rw [hcr] at hp ⊢
    have hm : Lib.parseMag (c :: r) = .ok v.natAbs := by
      unfold Lib.parseMag
      rw [if_neg (by simp)]
      exact hp
    have hi : (if c.toNat = 43 ∨ c.toNat = 45 then r else c :: r) = c :: r := if_neg (by omega)
    unfold Lib.atoiAll
    dsimp only
    rw [hi, hm]
    dsimp only
    rw [if_neg (by omega), if_neg (by omega), if_neg (by omega)]
    congr 1
    omega
end Go.Proofs.YtkoiknmijjiicaaGreatDoor
