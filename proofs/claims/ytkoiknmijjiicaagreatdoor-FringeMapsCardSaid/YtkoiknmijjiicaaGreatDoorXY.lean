import Derived.Test.YtkoiknmijjiicaaGreatDoorU118
import Derived.Test.YtkoiknmijjiicaaGreatDoorXD
import Derived.Test.YtkoiknmijjiicaaGreatDoorXA
import Derived.Test.YtkoiknmijjiicaaGreatDoorXU
import Derived.Test.YtkoiknmijjiicaaGreatDoorXV
/- Chapter 4: the reference's Print. -/
namespace Go.Proofs.YtkoiknmijjiicaaGreatDoor
set_option linter.unusedVariables false
set_option linter.unusedSimpArgs false
open Go.RowKit Go
/-- The reference's map as a text. -/
def bodyZ (z : Nat → Int) (C : Nat) : Nat → List UInt8
  | 0 => []
  | k + 1 => bodyZ z C k ++ (wordZ (z k)).data.toList ++ [if (k + 1) % C = 0 then 10 else 32]
theorem bodyZ_len {z : Nat → Int} (C : Nat) (h : ∀ k, Fits (z k)) : ∀ k, (bodyZ z C k).length ≤ 22 * k
  | 0 => Nat.le_refl _
  | k + 1 => by
    have ih := bodyZ_len C h k
    have h1 := wordZ_size (h k)
    unfold bodyZ
    simp only [List.length_append, List.length_cons, List.length_nil]
    omega
set_option maxHeartbeats 400000 in
theorem rWord (p : Int) (w : World) (hf : Fits p) : Calls Tryz.prog 77 #[.int .i64 p] w fun e w' => e = .returned (.string (wordZ p)) ∧ Below w.heap.size w w' := by
  by_cases h : p = 1000000000000
  · have hw : wordZ p = ⟨#[42]⟩ := by unfold wordZ nvB; rw [if_neg (by simpa using h)]
    subst h
    rw [hw]
    go_enter Tryz.func77, Tryz.ntmps77
    go_wp2
    go_ret
    exact ⟨rfl, (by (repeat' (first | with_reducible exact Below.refl _ _ | (with_reducible refine below_later_of ?_ ?_ _) | (with_reducible refine Below.alloc ?_ ?_ _) | (with_reducible refine Below.setCell ?_ ?_ _) | (with_reducible refine Below.drew ?_) | (simp; done) | (simp; omega) | omega)))⟩
  · have hw : wordZ p = itoaS p := by unfold wordZ nvB; rw [if_pos (by simpa using h)]
    have hd : (p == 1000000000000) = false := by simpa using h
    have HD := Lib.hid (fun w => decimal_any p hf.1 hf.2 w)
    simp only [show (⟨(Lib.itoa p).toArray⟩ : ByteArray) = itoaS p from rfl] at HD
    rw [hw]
    clear h hw
    go_enter Tryz.func77, Tryz.ntmps77
    go_wp2_with (first | (go_at_call 76; (with_reducible refine (HD.out _).mono ?_); rintro e w' ⟨rfl, hb⟩; obtain ⟨p1, rfl⟩ := later_of_below hb; clear hb))
    go_ret
    exact ⟨rfl, (by (repeat' (first | with_reducible exact Below.refl _ _ | (with_reducible refine below_later_of ?_ ?_ _) | (with_reducible refine Below.alloc ?_ ?_ _) | (with_reducible refine Below.setCell ?_ ?_ _) | (with_reducible refine Below.drew ?_) | (simp; done) | (simp; omega) | omega)))⟩
theorem any_world138 {G : World → Prop} {w : World} (F : World → Prop) (hf : F w) (h : ∀ W, F W → G W) : G w := h w hf
set_option maxRecDepth 20000 in
set_option maxHeartbeats 2000000 in
theorem rPrint4 (R C : Nat) (zs : List Int) (v : Value) (w : World) (hm : MapOk R C zs) (hv : IntsV w v zs) :
    Calls Tryz.prog 26 #[.agg #[.int .i64 R, .int .i64 C, v]] w fun e w' => e = .returned (.string ⟨(headZ R C ++ bodyZ (intAt zs) C zs.length).toArray⟩) ∧ Below w.heap.size w w' := by
  have hsz := hm.size
  have l1 := hm.r1
  have l2 := hm.r2
  have s1 := hm.c1
  have s2 := hm.c2
  have hpos : 0 < zs.length := by rw [hm.len]; exact Nat.mul_pos (by omega) (by omega)
  have HF := Lib.hid hm.fits
  obtain ⟨-, a, cap, rfl, h4⟩ := hv
  obtain ⟨b, off, rfl, hbw, hs⟩ := h4 hpos
  have HS := Lib.hid hs
  obtain ⟨n, hn⟩ : ∃ n, zs.length = n := ⟨_, rfl⟩
  rw [hn] at hsz HS hpos ⊢
  have HBL := Lib.hid (bodyZ_len C HF.out)
  generalize intAt zs = z at *
  clear h4 hs hm hn
  have HD1 := Lib.hid (fun w => decimal_any (R : Int) (by omega) (by omega) w)
  have HD2 := Lib.hid (fun w => decimal_any (C : Int) (by omega) (by omega) w)
  simp only [show (⟨(Lib.itoa (R : Int)).toArray⟩ : ByteArray) = itoaS R from rfl] at HD1
  simp only [show (⟨(Lib.itoa (C : Int)).toArray⟩ : ByteArray) = itoaS C from rfl] at HD2
  have z1 := itoaS_size (R : Int) (by omega) (by omega)
  have z2 := itoaS_size (C : Int) (by omega) (by omega)
  have y1 : ¬ 9223372036854775807 < 7 + (itoaS (R : Int)).size := by omega
  have y2 : ¬ 9223372036854775807 < 7 + (itoaS (R : Int)).size + 1 := by omega
  have y3 : ¬ 9223372036854775807 < 7 + (itoaS (R : Int)).size + 1 + (itoaS (C : Int)).size := by omega
  have y4 : ¬ 9223372036854775807 < 7 + (itoaS (R : Int)).size + 1 + (itoaS (C : Int)).size + 1 := by omega
  clear z1 z2
  go_enter Tryz.func26, Tryz.ntmps26
  go_upto_region 1 with fail
  refine wp_region_calm (by kernel_rfl) (by kernel_rfl) ?_
  repeat (go_big_quiet_step (first | (go_at_call 76; with_reducible exact calm_of (HD1.out _)) | (go_at_call 76; with_reducible exact calm_of (HD2.out _))))
  refine wpQuiet_nil ?_
  rintro _ ⟨pz, rfl⟩
  refine any_world138 (fun W => W.cell? ⟨w.heap.size, 0, none⟩ = some (.int .i64 R) ∧ W.cell? ⟨w.heap.size, 1, none⟩ = some (.int .i64 C) ∧ W.cell? ⟨w.heap.size, 2, none⟩ = some (.slice (some ⟨b, off, none⟩) n cap) ∧ Below w.heap.size w W ∧ w.heap.size < W.heap.size) ⟨by simp [go_sem], by simp [go_sem], by simp [go_sem], (by (repeat' (first | with_reducible exact Below.refl _ _ | (with_reducible refine below_later_of ?_ ?_ _) | (with_reducible refine Below.alloc ?_ ?_ _) | (with_reducible refine Below.setCell ?_ ?_ _) | (with_reducible refine Below.drew ?_) | (simp; done) | (simp; omega) | omega))), by simp; omega⟩ ?_
  rintro W1 ⟨a0, a1, a2, hb1, hs1⟩
  have HA := Lib.hid (And.intro a0 (And.intro a1 a2))
  have HB1 := Lib.hid hb1
  clear a0 a1 a2 hb1
  have HT0 : Hid ((⟨#[112, 104, 97, 115, 101, 115, 32]⟩ ++ itoaS R ++ ⟨#[32]⟩ ++ itoaS C ++ ⟨#[10]⟩ : ByteArray) = ⟨(headZ R C).toArray⟩) := Lib.hid (by unfold itoaS headZ; simp only [badd4]; simp)
  have htl := headZ_len (R := (R : Int)) (C := (C : Int)) (by omega) (by omega)
  simp only [HT0.out]
  clear y1 y2 y3 y4 HT0
  go_wp2
  go_loopw [3, 4] (fun t i wr => ∃ k : Nat, k ≤ n ∧ i = .int .i64 k ∧ t = .string ⟨(headZ R C ++ bodyZ z C k).toArray⟩ ∧ Below W1.heap.size W1 wr) (fun _ i _ => n - (intOf i).toNat)
  case atStart => exact ⟨0, Nat.zero_le _, rfl, by simp [bodyZ], Below.refl _ _⟩
  case round =>
    obtain ⟨k, hk, rfl, rfl, hb⟩ := hrel
    have hsz := hb.size
    have x1 := (hb.cell (p := ⟨w.heap.size, 1, none⟩) (show w.heap.size < W1.heap.size from hs1)).trans HA.out.2.1
    have x2 := (hb.cell (p := ⟨w.heap.size, 2, none⟩) (show w.heap.size < W1.heap.size from hs1)).trans HA.out.2.2
    have HB := Lib.hid hb
    by_cases hlt : k < n
    · have hdk : decide ((k : Int) < (n : Int)) = true := by simp; omega
      have hk0 : (0 : Int) ≤ (k : Int) := by omega
      have hk1 : (k : Int) < (n : Int) := by omega
      have ck := (hb.cell (p := ⟨b, off + k, none⟩) (show b < W1.heap.size by omega)).trans ((HB1.out.cell (p := ⟨b, off + k, none⟩) hbw).trans (HS.out k hlt))
      have HWO := Lib.hid (fun w => rWord (z k) w (HF.out k))
      have z1 := wordZ_size (HF.out k)
      have hbl := HBL.out k
      obtain ⟨T, hT⟩ : ∃ T : ByteArray, (⟨(headZ R C ++ bodyZ z C k).toArray⟩ : ByteArray) = T := ⟨_, rfl⟩
      have hTs : T.size ≤ 300000 := by
        rw [← hT]
        show (headZ R C ++ bodyZ z C k).toArray.size ≤ 300000
        simp; omega
      have hS0 : C ≠ 0 := by omega
      obtain ⟨r, hr⟩ : ∃ r, (k + 1) % C = r := ⟨_, rfl⟩
      have hrm : ((k : Int) + 1).tmod (C : Int) = (r : Int) := by
        rw [Int.tmod_eq_emod_of_nonneg (by omega), ← hr]; rfl
      have hTN : T ++ wordZ (z k) ++ ⟨#[if r = 0 then 10 else 32]⟩ = (⟨(headZ R C ++ bodyZ z C (k + 1)).toArray⟩ : ByteArray) := by
        rw [← hT, ← hr, show bodyZ z C (k + 1) = bodyZ z C k ++ (wordZ (z k)).data.toList ++ [if (k + 1) % C = 0 then 10 else 32] from rfl]
        rw [show wordZ (z k) = ⟨(wordZ (z k)).data⟩ from rfl]
        simp only [badd4]
        simp
      have hTN := Lib.hid hTN
      rw [hT]
      have z2 : (wordZ (z k)).size ≤ 21 := by rw [Lib.size_eq]; exact z1
      generalize wordZ (z k) = bx at HWO hTN z2
      generalize z k = p at ck HWO
      have y1 : ¬ 9223372036854775807 < T.size + bx.size := by omega
      have y2 : ¬ 9223372036854775807 < T.size + bx.size + 1 := by omega
      clear hb hbl htl hT hr z1 z2 hTs
      by_cases hr0 : r = 0
      · subst hr0
        go_wp2_with (first | (go_at_call 77; (with_reducible refine (HWO.out _).mono ?_); rintro e w' ⟨rfl, hb9⟩; obtain ⟨px, rfl⟩ := later_of_below hb9; clear hb9))
        go_roundw
        case rel => exact ⟨k + 1, by omega, by go_num, (by have h := hTN.out; rw [if_pos True.intro] at h; rw [← h]), HB.out.trans (by (repeat' (first | with_reducible exact Below.refl _ _ | (with_reducible refine below_later_of ?_ ?_ _) | (with_reducible refine Below.alloc ?_ ?_ _) | (with_reducible refine Below.setCell ?_ ?_ _) | (with_reducible refine Below.drew ?_) | (simp; done) | (simp; omega) | omega)))⟩
        case measure => simp [intOf]; omega
      · have hrb : ((r : Int) == 0) = false := by simp; omega
        go_wp2_with (first | (go_at_call 77; (with_reducible refine (HWO.out _).mono ?_); rintro e w' ⟨rfl, hb9⟩; obtain ⟨px, rfl⟩ := later_of_below hb9; clear hb9))
        go_roundw
        case rel => exact ⟨k + 1, by omega, by go_num, (by have h := hTN.out; rw [if_neg hr0] at h; rw [← h]), HB.out.trans (by (repeat' (first | with_reducible exact Below.refl _ _ | (with_reducible refine below_later_of ?_ ?_ _) | (with_reducible refine Below.alloc ?_ ?_ _) | (with_reducible refine Below.setCell ?_ ?_ _) | (with_reducible refine Below.drew ?_) | (simp; done) | (simp; omega) | omega)))⟩
        case measure => simp [intOf]; omega
    · obtain rfl : k = n := by omega
      have hdk : decide ((k : Int) < (k : Int)) = false := by simp
      go_wp2
      go_ret
      exact ⟨rfl, HB1.out.trans (HB.out.mono HB1.out.size)⟩
end Go.Proofs.YtkoiknmijjiicaaGreatDoor

/- Plain: what Print writes of a map is read again. No program in sight. -/
namespace Go.Proofs.YtkoiknmijjiicaaGreatDoor
set_option linter.unusedVariables false
set_option linter.unusedSimpArgs false
open Go.RowKit Go
def headL (R C : Int) : List UInt8 := Lib.join [phases.data.toList, Lib.itoa R, Lib.itoa C] [32]
def lineL (z : Nat → Int) (i0 s : Nat) : List UInt8 := Lib.join ((lineZ z i0 s).map (·.data.toList)) [32]
def lineLs (z : Nat → Int) (C R : Nat) : List (List UInt8) := (List.range R).map fun l => lineL z (l * C) C
theorem headZ_eq (R C : Int) : headZ R C = headL R C ++ [10] := by
  unfold headZ headL
  rw [join_two, join_two, Lib.join_one]
  simp [phases]
theorem linesZ_eq (z : Nat → Int) (C : Nat) : ∀ R, linesZ z C R = linesL (lineLs z C R)
  | 0 => rfl
  | R + 1 => by
    unfold lineLs
    rw [List.range_succ, List.map_append, linesL_app, linesZ, linesZ_eq z C R]
    rfl
theorem printZ_eq (R C : Nat) (zs : List Int) : printZ R C zs = linesL (headL R C :: lineLs (intAt zs) C R) := by
  unfold printZ
  rw [headZ_eq, linesZ_eq, linesL, List.append_assoc]
  rfl
/-- The reference's text is the program's. -/
theorem body_part (z : Nat → Int) (C l : Nat) (ih : bodyZ z C (l * C) = linesZ z C l) : ∀ s, s < C → bodyZ z C (l * C + s) = linesZ z C l ++ (((lineZ z (l * C) s).map (·.data.toList)).map (· ++ [32])).flatten
  | 0, _ => by simp [lineZ, ih]
  | s + 1, h => by
    rw [← Nat.add_assoc, bodyZ, body_part z C l ih s (by omega), lineZ]
    have hm : (l * C + s + 1) % C ≠ 0 := by
      rw [Nat.add_assoc, Nat.add_comm, Nat.add_mul_mod_self_right, Nat.mod_eq_of_lt h]
      omega
    rw [if_neg hm]
    simp
theorem bodyZ_eq (z : Nat → Int) (C : Nat) (hC : 0 < C) : ∀ R, bodyZ z C (R * C) = linesZ z C R
  | 0 => by rw [Nat.zero_mul]; rfl
  | R + 1 => by
    have ih := bodyZ_eq z C hC R
    obtain ⟨s, rfl⟩ : ∃ s, C = s + 1 := ⟨C - 1, by omega⟩
    rw [Nat.add_mul, Nat.one_mul, ← Nat.add_assoc, bodyZ, body_part z (s + 1) R ih s (by omega)]
    have hm : (R * (s + 1) + s + 1) % (s + 1) = 0 := by
      rw [Nat.add_assoc, Nat.add_comm, Nat.add_mul_mod_self_right, Nat.mod_self]
    rw [if_pos hm, linesZ]
    unfold lineB
    rw [lineZ, List.map_append, List.map_cons, List.map_nil, join_last]
    simp
theorem print_same (R C : Nat) (zs : List Int) (hC : 0 < C) (hl : zs.length = R * C) : headZ R C ++ bodyZ (intAt zs) C zs.length = printZ R C zs := by
  rw [hl, bodyZ_eq _ _ hC]
  rfl
theorem print_size (R C : Nat) (zs : List Int) (hm : MapOk R C zs) (hl : zs.length ≤ 150) : (⟨(printZ R C zs).toArray⟩ : ByteArray).size ≤ 60000 := by
  rw [← print_same R C zs hm.c1 hm.len]
  have h1 := bodyZ_len C hm.fits zs.length
  have h2 := headZ_len (R := (R : Int)) (C := (C : Int)) ⟨by omega, by have := hm.r2; omega⟩ ⟨by omega, by have := hm.c2; omega⟩
  show (headZ R C ++ bodyZ (intAt zs) C zs.length).toArray.size ≤ 60000
  simp
  omega
/-- A word is read again. -/
theorem numW_itoa {v : Int} (h : v.natAbs < 1000000000) : numW (itoaS v) = some v := itoa_num rfl (dec_le 9 _ (by decide) h)
theorem word_star {p : Int} (h : p ≠ 1000000000000) : wordZ p = itoaS p := by unfold wordZ nvB; rw [if_pos (by simpa using h)]
theorem phW_word {p : Int} (h : phOk p = true) : phW (wordZ p) true = some p := by
  by_cases hp : p = 1000000000000
  · have : wordZ p = ⟨#[42]⟩ := by unfold wordZ nvB; rw [if_neg (by simpa using hp)]
    rw [this, hp]
    rfl
  · have hb : -100000000 ≤ p ∧ p ≤ 100000000 := by
      unfold phOk at h
      rw [Bool.or_eq_true] at h
      rcases h with h | h
      · exact absurd (of_decide_eq_true h) hp
      · exact inE_iff.1 h
    rw [word_star hp, phW_of, numW_itoa (by omega)]
    rintro ⟨h1, -⟩
    have h2 := numW_itoa (v := p) (by omega)
    rw [h1] at h2
    have h3 : numW (⟨#[42]⟩ : ByteArray) = none := by decide +kernel
    rw [h3] at h2
    cases h2
theorem word_bytes (p : Int) : ∀ c ∈ (wordZ p).data.toList, c ≠ 32 ∧ c ≠ 10 := by
  intro c hc
  unfold wordZ at hc
  split at hc
  · exact itoa_bytes p c hc
  · simp at hc
    subst hc
    exact ⟨by decide, by decide⟩
theorem lineZ_mem {z : Nat → Int} {i0 : Nat} : ∀ {s : Nat} {x : ByteArray}, x ∈ lineZ z i0 s → ∃ j, j < s ∧ x = wordZ (z (i0 + j))
  | 0, x, h => by simp [lineZ] at h
  | s + 1, x, h => by
    rw [lineZ] at h
    rcases List.mem_append.1 h with h | h
    · obtain ⟨j, hj, e⟩ := lineZ_mem h
      exact ⟨j, by omega, e⟩
    · exact ⟨s, by omega, by simpa using h⟩
theorem lineL_no10 (z : Nat → Int) (i0 s : Nat) : ∀ x ∈ lineL z i0 s, x ≠ 10 := by
  intro x hx
  rcases join_mem 32 _ x hx with rfl | ⟨a, ha, hxa⟩
  · decide
  · obtain ⟨b, hb, rfl⟩ := List.mem_map.1 ha
    obtain ⟨j, -, rfl⟩ := lineZ_mem hb
    exact (word_bytes _ x hxa).2
theorem headL_no10 (R C : Int) : ∀ x ∈ headL R C, x ≠ 10 := by
  intro x hx
  rcases join_mem 32 _ x hx with rfl | ⟨a, ha, hxa⟩
  · decide
  · simp only [List.mem_cons, List.mem_nil_iff, or_false] at ha
    rcases ha with rfl | rfl | rfl
    · intro e
      subst e
      revert hxa
      decide
    · exact (itoa_bytes _ x hxa).2
    · exact (itoa_bytes _ x hxa).2
theorem print_pieces (R C : Nat) (zs : List Int) : pieces ⟨(printZ R C zs).toArray⟩ = headL R C :: lineLs (intAt zs) C R ++ [[]] := by
  unfold pieces
  rw [show (⟨(printZ R C zs).toArray⟩ : ByteArray).data.toList = printZ R C zs by simp, printZ_eq]
  refine cutL_lines _ fun a ha => ?_
  rcases List.mem_cons.1 ha with rfl | ha
  · exact headL_no10 _ _
  · obtain ⟨l, -, rfl⟩ := List.mem_map.1 ha
    exact lineL_no10 _ _ _
theorem print_ends (R C : Nat) (zs : List Int) : endsN ⟨(printZ R C zs).toArray⟩ = R + 1 := by
  unfold endsN
  rw [print_pieces]
  unfold lineLs
  simp
/-- The words of a text that is joined. -/
theorem words_join (T : ByteArray) (ws : List ByteArray) (h : T.data.toList = Lib.join (ws.map (·.data.toList)) [32]) (h0 : ws ≠ []) (hb : ∀ a ∈ ws, ∀ x ∈ a.data.toList, x ≠ 32) : wordsT T = ws := by
  unfold wordsT
  apply bytes_inj
  rw [cutW_list T 32 (by decide), h]
  refine cutL_join 32 _ (by simpa using h0) ?_
  intro a ha
  obtain ⟨b, hb', rfl⟩ := List.mem_map.1 ha
  exact hb b hb'
theorem lineZ_nums {z : Nat → Int} {i0 i : Nat} (hi : 0 < i) : ∀ s, (∀ j, j < s → phOk (z (i0 + j)) = true) → allO ((lineZ z i0 s).map (wordP i)) = some ((List.range s).map fun j => z (i0 + j))
  | 0, _ => rfl
  | s + 1, h => by
    rw [lineZ, List.map_append, List.map_cons, List.map_nil, allO_snoc, lineZ_nums hi s (fun j hj => h j (by omega))]
    have : wordP i (wordZ (z (i0 + s))) = some (z (i0 + s)) := by
      unfold wordP
      rw [decide_eq_true hi]
      exact phW_word (h s (by omega))
    rw [this, List.range_succ, List.map_append]
    rfl
theorem line_nums (T : ByteArray) (z : Nat → Int) (i0 i C : Nat) (hC : 0 < C) (hi : 0 < i) (h : T.data.toList = lineL z i0 C) (hz : ∀ j, j < C → phOk (z (i0 + j)) = true) : numsT i T = some ((List.range C).map fun j => z (i0 + j)) := by
  have hw : wordsT T = lineZ z i0 C := words_join T _ h (fun e => by have := lineZ_len z i0 C; rw [e] at this; simp at this; omega) (fun a ha x hx => by
    obtain ⟨j, -, rfl⟩ := lineZ_mem ha
    exact (word_bytes _ x hx).1)
  unfold numsT numsK lookW
  rw [hw, if_neg (by omega), List.take_length]
  exact lineZ_nums hi C hz
theorem head_words (T : ByteArray) (R C : Nat) (h : T.data.toList = headL R C) : wordsT T = [phases, itoaS R, itoaS C] := by
  refine words_join T _ ?_ (by simp) ?_
  · rw [h]; rfl
  · intro a ha x hx
    simp only [List.mem_cons, List.mem_nil_iff, or_false] at ha
    rcases ha with rfl | rfl | rfl
    · intro e
      subst e
      revert hx
      decide
    · exact (itoa_bytes (R : Int) x hx).1
    · exact (itoa_bytes (C : Int) x hx).1
theorem head_step (T : ByteArray) (R C : Nat) (hR : R ≤ 64) (hC : C ≤ 64) (h : T.data.toList = headL R C) (st : PSt) : stepL 0 T st = some ⟨R, C, [], true⟩ := by
  have hw := head_words T R C h
  have hp : ∀ n : Nat, n ≤ 64 → wordP 0 (itoaS n) = some (n : Int) := fun n hn => by
    have h1 := numW_itoa (v := (n : Int)) (by omega)
    unfold wordP
    rw [phW_of (fun h => by simp at h)]
    exact h1
  have hn : numsT 0 T = some [(R : Int), (C : Int)] := by
    unfold numsT numsK lookW
    rw [hw, if_pos rfl]
    show allO [wordP 0 (itoaS R), wordP 0 (itoaS C)] = _
    rw [hp R hR, hp C hC]
    rfl
  unfold stepL
  rw [hn, hw]
  simp only
  rw [if_pos trivial, if_pos ⟨rfl, rfl⟩]
  rfl
theorem take_line (zs : List Int) (l C : Nat) (h : (l + 1) * C ≤ zs.length) : zs.take (l * C) ++ ((List.range C).map fun j => intAt zs (l * C + j)) = zs.take ((l + 1) * C) := by
  rw [Nat.add_mul, Nat.one_mul] at h ⊢
  rw [List.take_add]
  congr 1
  apply List.ext_getElem?
  intro j
  by_cases hj : j < C
  · rw [List.getElem?_map, List.getElem?_range hj, List.getElem?_take_of_lt hj, List.getElem?_drop]
    unfold intAt
    simp only [Option.map_some]
    rw [List.getElem?_eq_getElem (by omega)]
    rfl
  · rw [List.getElem?_eq_none (by simp; omega), List.getElem?_eq_none (by simp; omega)]
theorem print_run (R C : Nat) (zs : List Int) (hm : MapOk R C zs) : ∀ k, k ≤ R → runL (cutW ⟨(printZ R C zs).toArray⟩ 10) (k + 1) = some ⟨R, C, zs.take (k * C), true⟩
  | 0, _ => by
    have h0 : (textAt (cutW ⟨(printZ R C zs).toArray⟩ 10) 0).data.toList = headL R C := by rw [textAt_piece, print_pieces]; rfl
    rw [runL, Nat.zero_mul, List.take_zero]
    exact head_step _ R C hm.r2 hm.c2 h0 _
  | k + 1, hk => by
    have ih := print_run R C zs hm k (by omega)
    have h0 : (textAt (cutW ⟨(printZ R C zs).toArray⟩ 10) (k + 1)).data.toList = lineL (intAt zs) (k * C) C := by
      rw [textAt_piece, print_pieces]
      unfold lineLs
      rw [List.getD_eq_getElem?_getD, List.cons_append, List.getElem?_cons_succ, List.getElem?_append_left (by simp; omega), List.getElem?_map, List.getElem?_range (by omega)]
      rfl
    have hb : (k + 1) * C ≤ zs.length := by rw [hm.len]; exact Nat.mul_le_mul_right _ hk
    have hn := line_nums _ (intAt zs) (k * C) (k + 1) C hm.c1 (by omega) h0 (fun j hj => hm.ok _ (by rw [Nat.add_mul, Nat.one_mul] at hb; omega))
    rw [runL, ih]
    simp only
    unfold stepL
    rw [hn]
    simp only
    rw [if_neg (by omega), take_line zs k C hb]
    simp
/-- What is printed is read again. -/
theorem print_read (R C : Nat) (zs : List Int) (hm : MapOk R C zs) (hl : zs.length ≤ 150) : ansP ⟨(printZ R C zs).toArray⟩ = ⟨R, C, zs, 0, 0⟩ := by
  have hs := print_size R C zs hm hl
  have hr := print_run R C zs hm R (Nat.le_refl _)
  have he := print_ends R C zs
  have ht : textAt (cutW ⟨(printZ R C zs).toArray⟩ 10) (R + 1) = ⟨#[]⟩ := by
    have : (textAt (cutW ⟨(printZ R C zs).toArray⟩ 10) (R + 1)).data.toList = [] := by
      rw [textAt_piece, print_pieces]
      unfold lineLs
      rw [List.getD_eq_getElem?_getD, List.getElem?_append_right (by simp)]
      simp
    apply ByteArray.ext
    apply Array.toList_inj.1
    exact this
  rw [← hm.len, List.take_length] at hr
  unfold ansP
  rw [if_neg (by omega), he, badL_run _ _ _ hr, hr]
  simp only
  rw [if_neg (fun h => h.elim (fun h => h ht) (fun h => by omega)), if_neg (fun h => h.elim (fun h => by cases h) (fun h => h (by omega))), hm.err]
  rfl
end Go.Proofs.YtkoiknmijjiicaaGreatDoor
