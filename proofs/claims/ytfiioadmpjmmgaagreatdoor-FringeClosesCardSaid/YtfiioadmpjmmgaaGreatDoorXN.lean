import Derived.Test.YtfiioadmpjmmgaaGreatDoorXM
import Derived.Laws.MakeOwn
/- Chapter 4: histograms. -/
namespace Go.Proofs.YtfiioadmpjmmgaaGreatDoor
set_option linter.unusedVariables false
set_option linter.unusedSimpArgs false
open Go.RowKit Ntt
/-- How many of the first j phases are in part k. -/
def histF (zs : List Int) (d : Int) : Nat → Nat → Int
  | 0, _ => 0
  | j + 1, k => histF zs d j k + if intAt zs j ≠ 1000000000000 ∧ (wrP (intAt zs j) + 2048) / d = k then 1 else 0
theorem histF_bd (zs : List Int) (d : Int) (k : Nat) : ∀ j, 0 ≤ histF zs d j k ∧ histF zs d j k ≤ j
  | 0 => by simp [histF]
  | j + 1 => by
    have := histF_bd zs d k j
    rw [histF]
    split <;> omega
def histL (zs : List Int) (n : Nat) (d : Int) : List Int := (List.range n).map (histF zs d zs.length)
def hisE (n : Int) : Int := if inE 1 4096 n then (if (4096 : Int).tmod n = 0 then 0 else 10) else 2
theorem hisE_zero {n : Int} (h : hisE n = 0) : ∃ m d : Nat, n = m ∧ 1 ≤ m ∧ m ≤ 4096 ∧ 1 ≤ d ∧ d ≤ 4096 ∧ m * d = 4096 ∧ (4096 : Int).tdiv n = d := by
  unfold hisE at h
  split at h
  · rename_i h1
    obtain ⟨a1, a2⟩ := inE_iff.1 h1
    split at h
    · rename_i h2
      obtain ⟨m, rfl⟩ : ∃ m : Nat, n = m := ⟨n.toNat, by omega⟩
      have e1 : (4096 : Int).tmod (m : Int) = ((4096 % m : Nat) : Int) := by rw [Int.tmod_eq_emod_of_nonneg (by omega)]; rfl
      have e2 : (4096 : Int).tdiv (m : Int) = ((4096 / m : Nat) : Int) := by rw [Int.tdiv_eq_ediv_of_nonneg (by omega)]; rfl
      have h3 : 4096 % m = 0 := by omega
      have h4 : m * (4096 / m) = 4096 := by have := Nat.div_add_mod 4096 m; omega
      have h5 : 1 ≤ 4096 / m := Nat.div_pos (by omega) (by omega)
      exact ⟨m, 4096 / m, rfl, by omega, by omega, h5, Nat.div_le_self _ _, h4, e2⟩
    · exact absurd h (by decide)
  · exact absurd h (by decide)
theorem his_idx {x : Int} {n d : Nat} (h1 : -2048 ≤ x) (h2 : x ≤ 2047) (hd : 1 ≤ d) (hnd : n * d = 4096) : ∃ i : Nat, i < n ∧ (x + 2048) / (d : Int) = i ∧ (x + 2048).tdiv (d : Int) = i := by
  have e : (x + 2048).tdiv (d : Int) = (x + 2048) / (d : Int) := Int.tdiv_eq_ediv_of_nonneg (by omega)
  have h3 : 0 ≤ (x + 2048) / (d : Int) := Int.ediv_nonneg (by omega) (by omega)
  have h4 : (x + 2048) / (d : Int) < n := Int.ediv_lt_of_lt_mul (by omega) (by rw [← Int.natCast_mul, hnd]; omega)
  exact ⟨((x + 2048) / (d : Int)).toNat, by omega, by omega, by omega⟩
theorem ownF_made2 (W : World) (e : TypeId) (n : Nat) : OwnF (W.alloc (.cells (madeCells #[.int .i64 0] n) e)) W.heap.size n (fun _ => 0) := by
  refine ⟨⟨by simp, fun k hk => ?_⟩, fun k hk => by simp [go_sem]⟩
  simp [go_sem, madeCells, hk, Nat.mod_one]
theorem ownF_made3 (W : World) (e : TypeId) (n G : Nat) (h : G = W.heap.size) : OwnF (W.alloc (.cells (madeCells #[.int .i64 0] n) e)) G n (fun _ => 0) := by subst h; exact ownF_made2 W e n
set_option maxHeartbeats 1000000 in
theorem hist_map (R C n : Int) (zs : List Int) (v : Value) (w : World) (hl : zs.length ≤ 100000) (hv : IntsV w v zs) {e0 : Int} (he : (mapE R C zs).2 = e0) (h0 : e0 ≠ 0) :
    Calls Tryz.prog 29 #[.agg #[.int .i64 R, .int .i64 C, v], .int .i64 n] w fun e w' => e = .returned (.tuple #[.slice none 0 0, .int .i64 e0]) ∧ Below w.heap.size w w' := by
  have HME := Lib.hid (show ∀ W, Below w.heap.size w W → _ from fun W hW => mapErr_any R C zs v W hl (hv.below hW) he)
  obtain ⟨-, a, cap, rfl, -⟩ := hv
  have d0 : (e0 != 0) = true := by simpa using h0
  clear he h0
  go_enter Tryz.func29, Tryz.ntmps29
  go_wp2_with (first | (go_at_call 88; (with_reducible refine (HME.out _ (by (repeat' (first | with_reducible exact Below.refl _ _ | (with_reducible refine below_later_of ?_ ?_ _) | (with_reducible refine Below.alloc ?_ ?_ _) | (with_reducible refine Below.setCell ?_ ?_ _) | (with_reducible refine Below.drew ?_) | (simp; done) | (simp; omega) | omega)))).mono ?_); rintro e w' ⟨rfl, hb⟩; obtain ⟨p1, rfl⟩ := later_of_below hb; clear hb))
  go_ret2
  exact ⟨rfl, (by (repeat' (first | with_reducible exact Below.refl _ _ | (with_reducible refine below_later_of ?_ ?_ _) | (with_reducible refine Below.alloc ?_ ?_ _) | (with_reducible refine Below.setCell ?_ ?_ _) | (with_reducible refine Below.drew ?_) | (simp; done) | (simp; omega) | omega)))⟩
set_option maxHeartbeats 1000000 in
theorem hist_bins (R C n : Int) (zs : List Int) (v : Value) (w : World) (hl : zs.length ≤ 100000) (hv : IntsV w v zs) (he : (mapE R C zs).2 = 0) {e0 : Int} (hE : hisE n = e0) (h0 : e0 ≠ 0) :
    Calls Tryz.prog 29 #[.agg #[.int .i64 R, .int .i64 C, v], .int .i64 n] w fun e w' => e = .returned (.tuple #[.slice none 0 0, .int .i64 e0]) ∧ Below w.heap.size w w' := by
  have HME := Lib.hid (show ∀ W, Below w.heap.size w W → _ from fun W hW => mapErr_any R C zs v W hl (hv.below hW) he)
  obtain ⟨-, a, cap, rfl, -⟩ := hv
  unfold hisE at hE
  rcases (show inE 1 4096 n = false ∨ inE 1 4096 n = true by cases inE 1 4096 n <;> simp) with hw | hw
  · rw [hw, if_neg (by decide)] at hE
    subst hE
    have HW := Lib.hid hw
    clear he h0 hw
    go_enter Tryz.func29, Tryz.ntmps29
    go_wp2_with (first | (go_at_call 88; (with_reducible refine (HME.out _ (by (repeat' (first | with_reducible exact Below.refl _ _ | (with_reducible refine below_later_of ?_ ?_ _) | (with_reducible refine Below.alloc ?_ ?_ _) | (with_reducible refine Below.setCell ?_ ?_ _) | (with_reducible refine Below.drew ?_) | (simp; done) | (simp; omega) | omega)))).mono ?_); rintro e w' ⟨rfl, hb⟩; obtain ⟨p1, rfl⟩ := later_of_below hb; clear hb) | (go_at_call 89; (with_reducible refine (fWithin _ _ _ _ HW.out).mono ?_); rintro e w' ⟨rfl, rfl⟩))
    go_ret2
    exact ⟨rfl, (by (repeat' (first | with_reducible exact Below.refl _ _ | (with_reducible refine below_later_of ?_ ?_ _) | (with_reducible refine Below.alloc ?_ ?_ _) | (with_reducible refine Below.setCell ?_ ?_ _) | (with_reducible refine Below.drew ?_) | (simp; done) | (simp; omega) | omega)))⟩
  · obtain ⟨a1, a2⟩ := inE_iff.1 hw
    rw [hw, if_pos rfl] at hE
    obtain ⟨m, hm⟩ : ∃ m, (4096 : Int).tmod n = m := ⟨_, rfl⟩
    rw [hm] at hE
    have h1 : m ≠ 0 := by intro h; rw [if_pos h] at hE; exact h0 hE.symm
    rw [if_neg h1] at hE
    subst hE
    have HW := Lib.hid hw
    have d1 : (m != 0) = true := by simpa using h1
    have hb1 : -4096 ≤ m ∧ m ≤ 4096 := by
      have := Int.tmod_lt_of_pos 4096 (show 0 < n by omega)
      have := Int.tmod_nonneg n (show (0 : Int) ≤ 4096 by decide)
      omega
    obtain ⟨b1, b2⟩ := hb1
    have hn0 : ¬ n = 0 := by omega
    have hn1 : ¬ n = -1 := by omega
    clear he h0 hw h1
    go_enter Tryz.func29, Tryz.ntmps29
    go_wp2_with (first | (go_at_call 88; (with_reducible refine (HME.out _ (by (repeat' (first | with_reducible exact Below.refl _ _ | (with_reducible refine below_later_of ?_ ?_ _) | (with_reducible refine Below.alloc ?_ ?_ _) | (with_reducible refine Below.setCell ?_ ?_ _) | (with_reducible refine Below.drew ?_) | (simp; done) | (simp; omega) | omega)))).mono ?_); rintro e w' ⟨rfl, hb⟩; obtain ⟨p1, rfl⟩ := later_of_below hb; clear hb) | (go_at_call 89; (with_reducible refine (fWithin _ _ _ _ HW.out).mono ?_); rintro e w' ⟨rfl, rfl⟩))
    go_ret2
    exact ⟨rfl, (by (repeat' (first | with_reducible exact Below.refl _ _ | (with_reducible refine below_later_of ?_ ?_ _) | (with_reducible refine Below.alloc ?_ ?_ _) | (with_reducible refine Below.setCell ?_ ?_ _) | (with_reducible refine Below.drew ?_) | (simp; done) | (simp; omega) | omega)))⟩
/-- A list that is returned without an error. -/
def HiPost (L : List Int) (w : World) (e : Ending) (w' : World) : Prop :=
  ∃ a c, e = .returned (.tuple #[.slice a L.length c, .int .i64 0]) ∧ OwnIV w.heap.size w' (.slice a L.length c) L ∧ Below w.heap.size w w'
set_option maxRecDepth 20000 in
set_option maxHeartbeats 4000000 in
theorem hist_ok (R C n d : Nat) (zs : List Int) (v : Value) (w : World) (hm : MapOk R C zs) (hv : IntsV w v zs) (hn1 : 1 ≤ n) (hn2 : n ≤ 4096) (hd1 : 1 ≤ d) (hd2 : d ≤ 4096) (hnd : n * d = 4096) :
    Calls Tryz.prog 29 #[.agg #[.int .i64 R, .int .i64 C, v], .int .i64 n] w (HiPost (histL zs n d) w) := by
  have hsz := hm.size
  have hpos : 0 < zs.length := by rw [hm.len]; exact Nat.mul_pos hm.r1 hm.c1
  have HME := Lib.hid (show ∀ W, Below w.heap.size w W → _ from fun W hW => mapErr_any R C zs v W (by omega) (hv.below hW) (e0 := 0) (by rw [hm.err]))
  have HBD := Lib.hid (fun k => hm.bd k)
  obtain ⟨-, a, cap, rfl, h4⟩ := hv
  obtain ⟨b, off, rfl, hbw, hc⟩ := h4 hpos
  have HCZ := Lib.hid hc
  have HW := Lib.hid (show inE 1 4096 (n : Int) = true from inE_iff.2 (by omega))
  have e1 : (4096 : Int).tmod (n : Int) = 0 := by
    rw [show (4096 : Int) = ((n * d : Nat) : Int) by rw [hnd]; rfl, Int.tmod_eq_emod_of_nonneg (by omega), Int.natCast_mul, Int.mul_emod_right]
  have e2 : (4096 : Int).tdiv (n : Int) = d := by
    rw [show (4096 : Int) = ((n * d : Nat) : Int) by rw [hnd]; rfl, Int.natCast_mul, Int.mul_tdiv_cancel_left _ (by omega)]
  have hn0 : ¬ (n : Int) = 0 := by omega
  have hnm : ¬ (n : Int) = -1 := by omega
  have hd0 : ¬ (d : Int) = 0 := by omega
  have hnN : ¬ n = 0 := by omega
  have hdN : ¬ d = 0 := by omega
  have hdm : ¬ (d : Int) = -1 := by omega
  have HIX := Lib.hid (fun (x : Int) h1 h2 => his_idx (x := x) (n := n) (d := d) h1 h2 hd1 hnd)
  have HHL := Lib.hid (show histL zs n d = (List.range n).map (histF zs d zs.length) from rfl)
  obtain ⟨m, hmz⟩ : ∃ m, zs.length = m := ⟨_, rfl⟩
  rw [hmz] at hsz hpos HCZ HHL HME ⊢
  have hmk : ∀ w : World, (Instr.makeSlice 22 (.int .i64 n) (.int .i64 n)).run Tryz.prog w = .ok (.slice (some ⟨w.heap.size, 0, none⟩) n n) (w.alloc (.cells (madeCells #[.int .i64 0] n) 3)) := fun w => by
    obtain ⟨i0, hi0, hz0, hz1, hz2⟩ := info_parts info3
    have := run_make w 22 3 i0 (.int .i64 0) Tryz.underlying22 hi0 hz0 .i64 .i64 n n (by omega) (Int.le_refl _) (by rw [hz2]; omega) (by omega)
    simp only [Int.toNat_natCast, hz1, Nat.mul_one] at this
    exact this
  clear hm h4 hc hmz
  go_enter Tryz.func29, Tryz.ntmps29
  go_wp2_with (first | (go_at_call 88; (with_reducible refine (HME.out _ (by (repeat' (first | with_reducible exact Below.refl _ _ | (with_reducible refine below_later_of ?_ ?_ _) | (with_reducible refine Below.alloc ?_ ?_ _) | (with_reducible refine Below.setCell ?_ ?_ _) | (with_reducible refine Below.drew ?_) | (simp; done) | (simp; omega) | omega)))).mono ?_); rintro e w' ⟨rfl, hb⟩; obtain ⟨p1, rfl⟩ := later_of_below hb; clear hb) | (go_at_call 89; (with_reducible refine (fWithin _ _ _ _ HW.out).mono ?_); rintro e w' ⟨rfl, rfl⟩))
  obtain ⟨G, hG⟩ : ∃ G, G = w.heap.size + 1 + p1.os.size := ⟨_, rfl⟩
  refine any_worldF (fun W => OwnF W G n (histF zs d 0) ∧ Below w.heap.size w W ∧ w.heap.size ≤ G) ⟨by rw [hG]; exact (ownF_made3 _ _ n _ (by simp)).same (fun _ _ => rfl), (by (repeat' (first | with_reducible exact Below.refl _ _ | (with_reducible refine below_later_of ?_ ?_ _) | (with_reducible refine Below.alloc ?_ ?_ _) | (with_reducible refine Below.setCell ?_ ?_ _) | (with_reducible refine Below.drew ?_) | (simp; done) | (simp; omega) | omega))), by omega⟩ ?_
  rintro W1 ⟨hown, hb1, hwG⟩
  simp only [← hG]
  have HO1 := Lib.hid hown
  have HB1 := Lib.hid hb1
  clear hown hb1 hG hmk
  go_loopw [28] (fun ii wr => ∃ j : Nat, j ≤ m ∧ ii = .int .i64 j ∧ OwnF wr G n (histF zs d j) ∧ Below w.heap.size w wr) (fun ii _ => m - (intOf ii).toNat)
  case atStart => exact ⟨0, Nat.zero_le _, rfl, HO1.out, HB1.out⟩
  case round =>
    obtain ⟨j, hj, rfl, hown, hbr⟩ := hrel
    have HO := Lib.hid hown
    have HB := Lib.hid hbr
    have hsr := hbr.size
    by_cases hlt : j < m
    · have hdj : decide ((j : Int) < (m : Int)) = true := by simp; omega
      have hj0 : (0 : Int) ≤ (j : Int) := by omega
      have hj1 : (j : Int) < (m : Int) := by omega
      have x1 := (hbr.cell (p := ⟨b, off + j, none⟩) hbw).trans (HCZ.out j hlt)
      have hbr2 : b < wr.heap.size := by omega
      obtain ⟨bz1, bz2⟩ := HBD.out j
      have hGr := hown.1.1
      by_cases h1 : intAt zs j = 1000000000000
      · have HN := Lib.hid (show ∀ k, k < n → histF zs d j k = histF zs d (j + 1) k from fun k _ => by rw [histF, if_neg (fun h => h.1 h1)]; omega)
        have d1 : (intAt zs j != 1000000000000) = false := by simpa using h1
        clear hown hbr h1
        generalize intAt zs j = z at *
        go_wp2
        go_roundw
        case rel => exact ⟨j + 1, by omega, by go_num, HO.out.same HN.out, HB.out.trans (below_mono_of hsr (by (repeat' (first | with_reducible exact Below.refl _ _ | (with_reducible refine below_later_of ?_ ?_ _) | (with_reducible refine Below.alloc ?_ ?_ _) | (with_reducible refine Below.setCell ?_ ?_ _) | (with_reducible refine Below.drew ?_) | (simp; done) | (simp; omega) | omega))))⟩
        case measure => simp [intOf]; omega
      · have d1 : (intAt zs j != 1000000000000) = true := by simpa using h1
        obtain ⟨y, hy⟩ : ∃ y, wrP (intAt zs j) = y := ⟨_, rfl⟩
        obtain ⟨y1, y2⟩ := wrP_bd (intAt zs j)
        rw [hy] at y1 y2
        obtain ⟨i, hi, hq1, hq2⟩ := HIX.out y y1 y2
        have HWR := Lib.hid (fun w => fWrap (intAt zs j) w (by omega) (by omega) hy)
        have HN := Lib.hid (show ∀ k, k < n → histF zs d (j + 1) k = if k = i then histF zs d j i + 1 else histF zs d j k from fun k _ => by
          rw [histF, hy, hq1]
          by_cases hk : k = i
          · subst hk
            rw [if_pos ⟨h1, rfl⟩, if_pos rfl]
          · rw [if_neg (fun h => hk (by omega)), if_neg hk]
            omega)
        have ci := hown.1.2 i hi
        have fi := hown.2 i hi
        obtain ⟨hh1, hh2⟩ := histF_bd zs d i j
        have hi0 : (0 : Int) ≤ (i : Int) := by omega
        have hw1 : IntKind.i64.wrap (y + 2048) = y + 2048 := IntWalk.i64_in _ (by omega)
        have hw2 : IntKind.i64.wrap (d : Int) = (d : Int) := IntWalk.i64_in _ (by omega)
        have hw3 : IntKind.i64.wrap (i : Int) = (i : Int) := IntWalk.i64_in _ (by omega)
        have hi1 : (i : Int) < (n : Int) := by omega
        clear hown hbr h1 hy hq1
        generalize histF zs d j i = hv at *
        generalize intAt zs j = z at *
        go_wp2_with fail
        go_region_law (first | (go_simp; (go_at_call 90; (with_reducible refine (HWR.out _).mono ?_); rintro e w' ⟨rfl, rfl⟩)))
        all_goals
          go_wp2
          go_roundw
          case rel => exact ⟨j + 1, by omega, by go_num, HO.out.drew.set hi HN.out, (HB.out.drew).setCell (p := ⟨G, i, none⟩) hwG _⟩
          case measure => simp [intOf]; omega
    · obtain rfl : j = m := by omega
      have hdj : decide ((j : Int) < (j : Int)) = false := by simp
      have hll : (histL zs n d).length = n := by simp [histL]
      clear hown hbr
      go_wp2
      refine bodyPost_ret (v := .tuple #[.slice (some ⟨G, 0, none⟩) n n, .int .i64 0]) ?_ rfl ⟨some ⟨G, 0, none⟩, n, by rw [hll], ?_, HB.out⟩
      · first | (simp [results, Tryz.results29, go_sem]; done) | simp [results, Tryz.results29, go_sem, ↓IntWalk.iteOmega]
      · rw [hll, HHL.out]
        exact ownIV_of HO.out hwG (by omega)
end Go.Proofs.YtfiioadmpjmmgaaGreatDoor

/- Chapter 4: the reference's Histogram. -/
namespace Go.Proofs.YtfiioadmpjmmgaaGreatDoor
set_option linter.unusedVariables false
set_option linter.unusedSimpArgs false
open Go.RowKit Ntt
set_option maxHeartbeats 1000000 in
theorem rHist_bad (R C n : Int) (k cap : Nat) (a : Option Addr) (w : World) {e0 : Int} (hE : hisE n = e0) (h0 : e0 ≠ 0) :
    Calls Tryz.prog 31 #[.agg #[.int .i64 R, .int .i64 C, .slice a k cap], .int .i64 n] w fun e w' => e = .returned (.tuple #[.slice none 0 0, .int .i64 e0]) ∧ Below w.heap.size w w' := by
  unfold hisE at hE
  rcases (show inE 1 4096 n = false ∨ inE 1 4096 n = true by cases inE 1 4096 n <;> simp) with hw | hw
  · rw [hw, if_neg (by decide)] at hE
    subst hE
    have HW := Lib.hid hw
    clear h0 hw
    go_enter Tryz.func31, Tryz.ntmps31
    go_wp2_with (first | (go_at_call 47; (with_reducible refine (bWithin _ _ _ _ HW.out).mono ?_); rintro e w' ⟨rfl, rfl⟩))
    go_ret2
    exact ⟨rfl, (by (repeat' (first | with_reducible exact Below.refl _ _ | (with_reducible refine below_later_of ?_ ?_ _) | (with_reducible refine Below.alloc ?_ ?_ _) | (with_reducible refine Below.setCell ?_ ?_ _) | (with_reducible refine Below.drew ?_) | (simp; done) | (simp; omega) | omega)))⟩
  · obtain ⟨a1, a2⟩ := inE_iff.1 hw
    rw [hw, if_pos rfl] at hE
    obtain ⟨m, hm⟩ : ∃ m, (4096 : Int).tmod n = m := ⟨_, rfl⟩
    rw [hm] at hE
    have h1 : m ≠ 0 := by intro h; rw [if_pos h] at hE; exact h0 hE.symm
    rw [if_neg h1] at hE
    subst hE
    have HW := Lib.hid hw
    have d1 : (m != 0) = true := by simpa using h1
    have hb1 : -4096 ≤ m ∧ m ≤ 4096 := by
      have := Int.tmod_lt_of_pos 4096 (show 0 < n by omega)
      have := Int.tmod_nonneg n (show (0 : Int) ≤ 4096 by decide)
      omega
    obtain ⟨b1, b2⟩ := hb1
    have hn0 : ¬ n = 0 := by omega
    have hn1 : ¬ n = -1 := by omega
    clear h0 hw h1
    go_enter Tryz.func31, Tryz.ntmps31
    go_wp2_with (first | (go_at_call 47; (with_reducible refine (bWithin _ _ _ _ HW.out).mono ?_); rintro e w' ⟨rfl, rfl⟩))
    go_ret2
    exact ⟨rfl, (by (repeat' (first | with_reducible exact Below.refl _ _ | (with_reducible refine below_later_of ?_ ?_ _) | (with_reducible refine Below.alloc ?_ ?_ _) | (with_reducible refine Below.setCell ?_ ?_ _) | (with_reducible refine Below.drew ?_) | (simp; done) | (simp; omega) | omega)))⟩
set_option maxRecDepth 20000 in
set_option maxHeartbeats 4000000 in
theorem rHist_ok (R C n d : Nat) (zs : List Int) (v : Value) (w : World) (hm : MapOk R C zs) (hv : IntsV w v zs) (hn1 : 1 ≤ n) (hn2 : n ≤ 4096) (hd1 : 1 ≤ d) (hd2 : d ≤ 4096) (hnd : n * d = 4096) :
    Calls Tryz.prog 31 #[.agg #[.int .i64 R, .int .i64 C, v], .int .i64 n] w (HiPost (histL zs n d) w) := by
  have hsz := hm.size
  have hpos : 0 < zs.length := by rw [hm.len]; exact Nat.mul_pos hm.r1 hm.c1
  have HBD := Lib.hid (fun k => hm.bd k)
  obtain ⟨-, a, cap, rfl, h4⟩ := hv
  obtain ⟨b, off, rfl, hbw, hc⟩ := h4 hpos
  have HCZ := Lib.hid hc
  have HW := Lib.hid (show inE 1 4096 (n : Int) = true from inE_iff.2 (by omega))
  have e1 : (4096 : Int).tmod (n : Int) = 0 := by
    rw [show (4096 : Int) = ((n * d : Nat) : Int) by rw [hnd]; rfl, Int.tmod_eq_emod_of_nonneg (by omega), Int.natCast_mul, Int.mul_emod_right]
  have e2 : (4096 : Int).tdiv (n : Int) = d := by
    rw [show (4096 : Int) = ((n * d : Nat) : Int) by rw [hnd]; rfl, Int.natCast_mul, Int.mul_tdiv_cancel_left _ (by omega)]
  have hn0 : ¬ (n : Int) = 0 := by omega
  have hnm : ¬ (n : Int) = -1 := by omega
  have hd0 : ¬ (d : Int) = 0 := by omega
  have hnN : ¬ n = 0 := by omega
  have hdN : ¬ d = 0 := by omega
  have hdm : ¬ (d : Int) = -1 := by omega
  have HIX := Lib.hid (fun (x : Int) h1 h2 => his_idx (x := x) (n := n) (d := d) h1 h2 hd1 hnd)
  have HHL := Lib.hid (show histL zs n d = (List.range n).map (histF zs d zs.length) from rfl)
  obtain ⟨m, hmz⟩ : ∃ m, zs.length = m := ⟨_, rfl⟩
  rw [hmz] at hsz hpos HCZ HHL ⊢
  have hmk : ∀ w : World, (Instr.makeSlice 22 (.int .i64 n) (.int .i64 n)).run Tryz.prog w = .ok (.slice (some ⟨w.heap.size, 0, none⟩) n n) (w.alloc (.cells (madeCells #[.int .i64 0] n) 3)) := fun w => by
    obtain ⟨i0, hi0, hz0, hz1, hz2⟩ := info_parts info3
    have := run_make w 22 3 i0 (.int .i64 0) Tryz.underlying22 hi0 hz0 .i64 .i64 n n (by omega) (Int.le_refl _) (by rw [hz2]; omega) (by omega)
    simp only [Int.toNat_natCast, hz1, Nat.mul_one] at this
    exact this
  clear hm h4 hc hmz
  go_enter Tryz.func31, Tryz.ntmps31
  go_wp2_with (first | (go_at_call 47; (with_reducible refine (bWithin _ _ _ _ HW.out).mono ?_); rintro e w' ⟨rfl, rfl⟩))
  obtain ⟨G, hG⟩ : ∃ G, G = w.heap.size + 1 := ⟨_, rfl⟩
  refine any_worldF (fun W => W.cell? ⟨w.heap.size, 2, none⟩ = some (.slice (some ⟨b, off, none⟩) m cap) ∧ OwnF W G n (histF zs d 0) ∧ Below w.heap.size w W ∧ w.heap.size < G) ⟨by (first | (simp [go_sem]; done) | simp [go_sem, ↓IntWalk.iteOmega]), by rw [hG]; exact (ownF_made3 _ _ n _ (by simp)).same (fun _ _ => rfl), (by (repeat' (first | with_reducible exact Below.refl _ _ | (with_reducible refine below_later_of ?_ ?_ _) | (with_reducible refine Below.alloc ?_ ?_ _) | (with_reducible refine Below.setCell ?_ ?_ _) | (with_reducible refine Below.drew ?_) | (simp; done) | (simp; omega) | omega))), by omega⟩ ?_
  rintro W1 ⟨k0, hown, hb1, hwG⟩
  simp only [← hG]
  have HO1 := Lib.hid hown
  have HB1 := Lib.hid hb1
  have K0 := Lib.hid k0
  clear hown hb1 hG hmk k0
  go_loopw [7] (fun ii wr => ∃ j : Nat, j ≤ m ∧ ii = .int .i64 j ∧ OwnF wr G n (histF zs d j) ∧ wr.cell? ⟨w.heap.size, 2, none⟩ = some (.slice (some ⟨b, off, none⟩) m cap) ∧ Below w.heap.size w wr) (fun ii _ => m - (intOf ii).toNat)
  case atStart => exact ⟨0, Nat.zero_le _, rfl, HO1.out, K0.out, HB1.out⟩
  case round =>
    obtain ⟨j, hj, rfl, hown, k0, hbr⟩ := hrel
    have HO := Lib.hid hown
    have HB := Lib.hid hbr
    have K0 := Lib.hid k0
    have hsr := hbr.size
    by_cases hlt : j < m
    · have hdj : decide ((j : Int) < (m : Int)) = true := by simp; omega
      have hj0 : (0 : Int) ≤ (j : Int) := by omega
      have hj1 : (j : Int) < (m : Int) := by omega
      have x1 := (hbr.cell (p := ⟨b, off + j, none⟩) hbw).trans (HCZ.out j hlt)
      have hbr2 : b < wr.heap.size := by omega
      obtain ⟨bz1, bz2⟩ := HBD.out j
      have hGr := hown.1.1
      by_cases h1 : intAt zs j = 1000000000000
      · have HN := Lib.hid (show ∀ k, k < n → histF zs d j k = histF zs d (j + 1) k from fun k _ => by rw [histF, if_neg (fun h => h.1 h1)]; omega)
        have d1 : (intAt zs j != 1000000000000) = false := by simpa using h1
        clear hown hbr h1
        generalize intAt zs j = z at *
        go_wp2
        go_roundw
        case rel => exact ⟨j + 1, by omega, by go_num, HO.out.same HN.out, K0.out, HB.out⟩
        case measure => simp [intOf]; omega
      · have d1 : (intAt zs j != 1000000000000) = true := by simpa using h1
        obtain ⟨y, hy⟩ : ∃ y, wrP (intAt zs j) = y := ⟨_, rfl⟩
        obtain ⟨y1, y2⟩ := wrP_bd (intAt zs j)
        rw [hy] at y1 y2
        obtain ⟨i, hi, hq1, hq2⟩ := HIX.out y y1 y2
        have HWR := Lib.hid (fun w => bWrp (intAt zs j) w (by omega) (by omega) hy)
        have HN := Lib.hid (show ∀ k, k < n → histF zs d (j + 1) k = if k = i then histF zs d j i + 1 else histF zs d j k from fun k _ => by
          rw [histF, hy, hq1]
          by_cases hk : k = i
          · subst hk
            rw [if_pos ⟨h1, rfl⟩, if_pos rfl]
          · rw [if_neg (fun h => hk (by omega)), if_neg hk]
            omega)
        have ci := hown.1.2 i hi
        have fi := hown.2 i hi
        obtain ⟨hh1, hh2⟩ := histF_bd zs d i j
        have hi0 : (0 : Int) ≤ (i : Int) := by omega
        have hw1 : IntKind.i64.wrap (y + 2048) = y + 2048 := IntWalk.i64_in _ (by omega)
        have hw2 : IntKind.i64.wrap (d : Int) = (d : Int) := IntWalk.i64_in _ (by omega)
        have hw3 : IntKind.i64.wrap (i : Int) = (i : Int) := IntWalk.i64_in _ (by omega)
        have hi1 : (i : Int) < (n : Int) := by omega
        clear hown hbr h1 hy hq1
        generalize histF zs d j i = hv at *
        generalize intAt zs j = z at *
        go_wp2_with fail
        go_region_law (first | (go_simp; (go_at_call 27; (with_reducible refine (HWR.out _).mono ?_); rintro e w' ⟨rfl, rfl⟩)))
        all_goals
          go_wp2
          go_roundw
          case rel => exact ⟨j + 1, by omega, by go_num, HO.out.drew.set hi HN.out, by simpa [go_sem, show ¬ w.heap.size = G by omega] using K0.out, (HB.out.drew).setCell (p := ⟨G, i, none⟩) (show w.heap.size ≤ G by omega) _⟩
          case measure => simp [intOf]; omega
    · obtain rfl : j = m := by omega
      have hdj : decide ((j : Int) < (j : Int)) = false := by simp
      have hll : (histL zs n d).length = n := by simp [histL]
      clear hown hbr
      go_wp2
      refine bodyPost_ret (v := .tuple #[.slice (some ⟨G, 0, none⟩) n n, .int .i64 0]) ?_ rfl ⟨some ⟨G, 0, none⟩, n, by rw [hll], ?_, HB.out⟩
      · first | (simp [results, Tryz.results31, go_sem]; done) | simp [results, Tryz.results31, go_sem, ↓IntWalk.iteOmega]
      · rw [hll, HHL.out]
        exact ownIV_of HO.out (by omega) (by omega)
/-- What both histograms say of a right map. -/
def HisSay (L : List Int) (f0 : Int) (w : World) (e : Ending) (w' : World) : Prop :=
  ∃ a c, e = .returned (.tuple #[.slice a L.length c, .int .i64 f0]) ∧ IntsV w' (.slice a L.length c) L ∧ Below w.heap.size w w'
theorem hist_both (R C : Nat) (n : Int) (zs : List Int) (hm : MapOk R C zs) : ∃ (L : List Int) (f0 : Int), (∀ W v, IntsV W v zs → Calls Tryz.prog 29 #[.agg #[.int .i64 R, .int .i64 C, v], .int .i64 n] W (HisSay L f0 W)) ∧
    (∀ W v, IntsV W v zs → Calls Tryz.prog 31 #[.agg #[.int .i64 R, .int .i64 C, v], .int .i64 n] W (HisSay L f0 W)) := by
  have hsz := hm.size
  by_cases h0 : hisE n = 0
  · obtain ⟨m, d, rfl, h1, h2, h3, h4, h5, -⟩ := hisE_zero h0
    refine ⟨histL zs m d, 0, fun W v hv => (hist_ok R C m d zs v W hm hv h1 h2 h3 h4 h5).mono ?_, fun W v hv => (rHist_ok R C m d zs v W hm hv h1 h2 h3 h4 h5).mono ?_⟩
    · rintro e w' ⟨a, c, rfl, ho, hb⟩
      exact ⟨a, c, rfl, ho.ints, hb⟩
    · rintro e w' ⟨a, c, rfl, ho, hb⟩
      exact ⟨a, c, rfl, ho.ints, hb⟩
  · have hnil : ∀ W : World, IntsV W (.slice none ([] : List Int).length 0) [] := fun W => ⟨by simp, none, 0, rfl, fun h => absurd h (by simp)⟩
    refine ⟨[], hisE n, fun W v hv => (hist_bins R C n zs v W (by omega) hv (by rw [hm.err]) rfl h0).mono ?_, fun W v hv => ?_⟩
    · rintro e w' ⟨rfl, hb⟩
      exact ⟨none, 0, rfl, hnil _, hb⟩
    · obtain ⟨-, a, cap, rfl, -⟩ := hv
      refine (rHist_bad R C n zs.length cap a W rfl h0).mono ?_
      rintro e w' ⟨rfl, hb⟩
      exact ⟨none, 0, rfl, hnil _, hb⟩
end Go.Proofs.YtfiioadmpjmmgaaGreatDoor
