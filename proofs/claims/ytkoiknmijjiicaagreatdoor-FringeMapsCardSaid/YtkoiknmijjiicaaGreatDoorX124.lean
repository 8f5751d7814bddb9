/- strings.Lines: the maker and the iterator. -/
import Derived.Test.YtkoiknmijjiicaaGreatDoorX123
import Derived.Test.YtkoiknmijjiicaaGreatDoorXO
import Derived.Test.YtkoiknmijjiicaaGreatDoorShelf
import Derived.Lib.IndexLaws
namespace Go.Proofs.YtkoiknmijjiicaaGreatDoor
set_option linter.unusedVariables false
set_option linter.unusedSimpArgs false
open Go.RowKit Go
/-- Where the first line of a text ends. -/
def lnE (R : ByteArray) : Nat := if Lib.indexByte R.data.toList 10 < 0 then R.size else (Lib.indexByte R.data.toList 10).toNat + 1
/-- What is left of a text behind its first lines; the lines. -/
def rests (s : ByteArray) : Nat → ByteArray
  | 0 => s
  | k + 1 => (rests s k).extract (lnE (rests s k)) (rests s k).size
def lineK (s : ByteArray) (k : Nat) : ByteArray := (rests s k).extract 0 (lnE (rests s k))
theorem index_cases (R : ByteArray) : Lib.indexByte R.data.toList 10 = -1 ∨ ∃ i : Nat, Lib.indexByte R.data.toList 10 = i ∧ i < R.size := by
  have h := Lib.indexByte_ge R.data.toList 10
  by_cases h1 : Lib.indexByte R.data.toList 10 = -1
  · exact .inl h1
  · obtain ⟨i, hi⟩ : ∃ i : Nat, Lib.indexByte R.data.toList 10 = i := ⟨(Lib.indexByte R.data.toList 10).toNat, by omega⟩
    refine .inr ⟨i, hi, ?_⟩
    have h2 := (Lib.indexByte_some hi).1
    have := (List.getElem?_eq_some_iff.1 h2).1
    rw [Lib.size_eq]
    exact this
theorem rests_size (s : ByteArray) : ∀ k, (rests s k).size ≤ s.size
  | 0 => Nat.le_refl _
  | k + 1 => by
    have := rests_size s k
    rw [rests, ByteArray.size_extract]
    omega
theorem rests_less (s : ByteArray) (k : Nat) (h : 0 < (rests s k).size) : (rests s (k + 1)).size < (rests s k).size := by
  rw [rests, ByteArray.size_extract]
  have : 0 < lnE (rests s k) := by
    unfold lnE
    split <;> omega
  omega
theorem lines_any (s : ByteArray) (w : World) :
    Calls Tryz.prog 52 #[.string s] w fun e w' => ∃ B, B = w.heap.size ∧ e = .returned (.func (.func 98) #[] #[.pointer (some ⟨B, 0, none⟩)]) ∧ StB w' B (.string s) ∧ B < w'.heap.size ∧ Below w.heap.size w w' := by
  go_enter Tryz.func52, Tryz.ntmps52
  go_wp2
  go_ret
  exact ⟨w.heap.size, rfl, rfl, ⟨by simp [go_sem], by simp [go_sem]⟩, by simp, (by (repeat' (first | with_reducible exact Below.refl _ _ | (with_reducible refine below_later_of ?_ ?_ _) | (with_reducible refine Below.alloc ?_ ?_ _) | (with_reducible refine Below.setCell ?_ ?_ _) | (with_reducible refine Below.drew ?_) | (simp; done) | (simp; omega) | omega)))⟩
theorem ext_none (R : ByteArray) : R.extract R.size R.size = ⟨#[]⟩ := by
  apply ByteArray.ext
  apply Array.toList_inj.1
  rw [Lib.extract_data, Nat.sub_self, List.take_zero]
theorem ext_all (R : ByteArray) : R.extract 0 R.size = R := by
  apply ByteArray.ext
  apply Array.toList_inj.1
  rw [Lib.extract_data, List.drop_zero, Nat.sub_zero, Lib.size_eq, List.take_length]
/-- How much of the text the iterator still holds. -/
def strN : Value → Nat
  | .string s => s.size
  | _ => 0
set_option maxRecDepth 20000 in
set_option maxHeartbeats 4000000 in
theorem lines_iter (T : TypeId) (q : Nat) (hq : 1 ≤ q) (B : Nat) (s : ByteArray) (hs : s.size ≤ 100000) (N : Nat) (hN : (rests s N).size = 0) (hpos : ∀ k, k < N → 0 < (rests s k).size) (W : World) (hBW : B < W.heap.size) :
    IterOkS T B (fun k => .string (rests s k)) Fence.wide q Tryz.prog 98 #[.pointer (some ⟨B, 0, none⟩)] N (fun k => #[.string (lineK s k)]) W := by
  intro l J Jx hJ hJx hJB hY h0 hst
  have HJ := Lib.hid hJ
  have HJB := Lib.hid hJB
  have HY := Lib.hid hY
  have H0 := Lib.hid h0
  have HST := Lib.hid hst
  have HN := Lib.hid hN
  have HP := Lib.hid hpos
  clear hJ hJx hY h0 hJB hst hN hpos
  refine callsIn_of_wp Tryz.func98 rfl trivial ?_ rfl
  simp only [Tryz.ntmps98, List.size_toArray, List.length_cons, List.length_nil, Nat.reduceAdd, Nat.reduceSub, Array.replicate_succ, Array.replicate_zero, List.push_toArray, List.append_toArray, List.nil_append, List.cons_append]
  gi_wp2
  gi_loopw [] (fun wr => ∃ k : Nat, k ≤ N ∧ J k wr ∧ StB wr B (.string (rests s k)) ∧ W.heap.size ≤ wr.heap.size) (fun wr => strN ((wr.cell? ⟨B, 0, none⟩).getD undef))
  case atStart => exact ⟨0, Nat.zero_le _, H0.out, HST.out, Nat.le_refl _⟩
  case round =>
    obtain ⟨k, hk, hj, hsb, hsz⟩ := hrel
    have HJI := Lib.hid hj
    have hR := rests_size s k
    obtain ⟨c1, c2⟩ := hsb
    have HSB := Lib.hid (show StB wr B (.string (rests s k)) from ⟨c1, c2⟩)
    by_cases hlt : k < N
    · have hp := HP.out k hlt
      have hle := rests_less s k hp
      have HR1 := Lib.hid (show rests s (k + 1) = (rests s k).extract (lnE (rests s k)) (rests s k).size from rfl)
      have HLK := Lib.hid (show lineK s k = (rests s k).extract 0 (lnE (rests s k)) from rfl)
      obtain ⟨R, hRd⟩ : ∃ R, rests s k = R := ⟨_, rfl⟩
      rw [hRd] at c1 hp hle hR HR1 HLK HSB
      obtain ⟨R', hR'⟩ : ∃ R', rests s (k + 1) = R' := ⟨_, rfl⟩
      rw [hR'] at HR1 hle
      have hd0 : decide ((0 : Int) < (R.size : Int)) = true := by simp; omega
      have hBr : B < wr.heap.size := by omega
      clear hj
      rcases index_cases R with hix | ⟨i, hix, hil⟩
      · have hE : lnE R = R.size := by unfold lnE; rw [if_pos (by omega)]
        have h0 : R' = ⟨#[]⟩ := by
          rw [HR1.out, hE]
          exact ext_none R
        have h1 : R.extract 0 R.size = R := ext_all R
        have hl0 : lineK s k = R := by rw [HLK.out, hE, h1]
        obtain ⟨fn, tmps, assign, body, hy, hR⟩ := HY.out k (wr.setCell ⟨B, 0, none⟩ (.string ⟨#[]⟩)) (HJB.out _ _ _ HJI.out) hlt (by simp; omega) (by rw [hR', h0]; exact HSB.out.set _)
        rw [hl0] at hy
        have HR := Lib.hid hR
        clear hR h0 h1 hl0 hE
        gi_wp2_with (first | (refine ⟨trivial, ?_⟩; gi_at_call 99; refine (callsIn_wide.2 (Tryz.strings_IndexByte R 10 wr)).mono ?_; rintro e w1 ⟨rfl, hw1⟩; obtain rfl := hw1.symm))
        refine HR.out.mono ?_
        rintro e W3 (⟨rfl, hJ3, hk3, hs3⟩ | ⟨rfl, hJx3⟩)
        · have HJ3 := Lib.hid hJ3
          have HS3 := Lib.hid hs3
          have hz3 := hk3.size
          clear hk3 hJ3 hs3 c2
          gi_wp2
          go_roundw
          case rel => exact ⟨k + 1, by omega, HJ3.out, HS3.out, by simp at hz3; omega⟩
          case measure =>
            have q1 := HS3.out.1
            have q2 := HSB.out.1
            rw [hR'] at q1
            simp only [q1, q2, Option.getD_some, strN]
            omega
        · gi_wp2
          refine bodyPost_ret (results_none rfl _ _ _) rfl ?_
          exact ⟨⟨_, rfl⟩, .inr hJx3⟩
      · have hE : lnE R = i + 1 := by unfold lnE; rw [if_neg (by omega), hix]; omega
        have hi1 : (i : Int) + 1 ≤ (R.size : Int) := by omega
        have hi0 : (0 : Int) ≤ (i : Int) + 1 := by omega
        gi_wp2_with (first | (refine ⟨trivial, ?_⟩; gi_at_call 99; refine (callsIn_wide.2 (Tryz.strings_IndexByte R 10 wr)).mono ?_; rintro e w1 ⟨rfl, hw1⟩; obtain rfl := hw1.symm))
        refine wpIn_wide.2 ?_
        refine wp_region_calm_tail 9 (by kernel_rfl) (by kernel_rfl) ?_
        simp only [List.take_succ_cons, List.take_zero, List.drop_succ_cons, List.drop_zero]
        repeat (go_big_quiet_step (fail))
        refine wpQuiet_nil ?_
        rintro _ ⟨pz, rfl⟩
        have hbz : Below wr.heap.size wr (later wr pz) := below_later wr pz
        obtain ⟨fn, tmps, assign, body, hy, hR⟩ := HY.out k ((later wr pz).setCell ⟨B, 0, none⟩ (.string R')) (HJB.out _ _ _ (HJ.out _ _ _ HJI.out (hbz.mono hsz) (CellsSame.below hbz))) hlt (by have := hbz.size; simp; omega) (by rw [hR']; exact (HSB.out.below hbz hBr).set _)
        have he' : R' = R.extract (i + 1) R.size := by rw [HR1.out, hE]
        rw [HLK.out, hE] at hy
        rw [he'] at hy hR
        have HR := Lib.hid hR
        clear hR hbz
        go_wp2
        gi_wp2
        refine HR.out.mono ?_
        rintro e W3 (⟨rfl, hJ3, hk3, hs3⟩ | ⟨rfl, hJx3⟩)
        · have HJ3 := Lib.hid hJ3
          have HS3 := Lib.hid hs3
          have hz3 := hk3.size
          clear hk3 hJ3 hs3 c2
          gi_wp2
          go_roundw
          case rel => exact ⟨k + 1, by omega, HJ3.out, HS3.out, by simp at hz3; omega⟩
          case measure =>
            have q1 := HS3.out.1
            have q2 := HSB.out.1
            rw [hR'] at q1
            simp only [q1, q2, Option.getD_some, strN]
            omega
        · gi_wp2
          refine bodyPost_ret (results_none rfl _ _ _) rfl ?_
          exact ⟨⟨_, rfl⟩, .inr hJx3⟩
    · obtain rfl : k = N := by omega
      have hd0 : decide (0 < (rests s k).size) = false := decide_eq_false (by have := HN.out; omega)
      have hd1 : ¬ 0 < (rests s k).size := by have := HN.out; omega
      clear hj
      gi_wp2
      go_end0
      exact ⟨⟨_, rfl⟩, .inl HJI.out⟩
end Go.Proofs.YtkoiknmijjiicaaGreatDoor
