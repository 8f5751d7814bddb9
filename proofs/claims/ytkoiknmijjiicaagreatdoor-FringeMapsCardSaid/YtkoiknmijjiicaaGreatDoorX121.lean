/- Chapter 4: a word of a text as a phase (fringe.phase). -/
import Derived.Test.YtkoiknmijjiicaaGreatDoorXU
import Derived.Test.YtkoiknmijjiicaaGreatDoorXD
import Derived.Lib.AtoiErrMem
namespace Go.Proofs.YtkoiknmijjiicaaGreatDoor
set_option linter.unusedVariables false
set_option linter.unusedSimpArgs false
open Go.RowKit Go
/-- What a reader of texts finds in the laid variables. -/
structure TabR (w : World) : Prop where
  tab : Tab w
  sx : ∃ tp p, w.cell? ⟨2, 0, none⟩ = some (.iface tp p)
  rg : ∃ tp p, w.cell? ⟨3, 0, none⟩ = some (.iface tp p)
  mx : ∃ m, w.cell? ⟨1, 0, none⟩ = some (.int .i64 m)
theorem TabR.below {w w' : World} (h : TabR w) (hb : Below w.heap.size w w') : TabR w' := by
  obtain ⟨h1, ⟨t2, p2, h2⟩, ⟨t3, p3, h3⟩, ⟨m, h4⟩⟩ := h
  exact ⟨h1.below hb, ⟨t2, p2, (hb.cell (p := ⟨2, 0, none⟩) (World.block_lt_of_cell? w _ h2)).trans h2⟩, ⟨t3, p3, (hb.cell (p := ⟨3, 0, none⟩) (World.block_lt_of_cell? w _ h3)).trans h3⟩, ⟨m, (hb.cell (p := ⟨1, 0, none⟩) (World.block_lt_of_cell? w _ h4)).trans h4⟩⟩
/-- strconv.Atoi, whatever the text. -/
def atoiR (l : List UInt8) : Option Int := match Lib.atoiAll l with | .ok v => some v | _ => none
theorem atoi_any (s : ByteArray) (w : World) (hs : s.size ≤ 100000) (ht : TabR w) :
    Calls Tryz.prog 102 #[.string s] w fun e w' => ∃ (p : Int) (er : Value), e = .returned (.tuple #[.int .i64 p, er]) ∧ ((∃ v, atoiR s.data.toList = some v ∧ p = v ∧ er = .nilIface) ∨ (atoiR s.data.toList = none ∧ ∃ t q, er = .iface t q)) ∧ Below w.heap.size w w' := by
  obtain ⟨h1, ⟨t2, p2, h2⟩, ⟨t3, p3, h3⟩, ⟨m, h4⟩⟩ := ht
  cases hc : Lib.atoiAll s.data.toList with
  | ok v =>
    refine (Tryz.strconv_Atoi_ok s (by omega) v hc w).mono ?_
    rintro e w' ⟨rfl, hw⟩
    refine ⟨v, _, rfl, .inl ⟨v, by unfold atoiR; rw [hc], rfl, rfl⟩, ?_⟩
    rcases hw with rfl | ⟨t, rfl⟩
    · exact Below.refl _ _
    · exact Lib.bytesWorld_below _ _ _
  | «syntax» =>
    refine (Tryz.strconv_Atoi_syntax s (by omega) hc _ w h2 (.inr ⟨_, _, rfl⟩)).mono ?_
    rintro e w' ⟨N, rfl, -, -, hb⟩
    exact ⟨0, _, rfl, .inr ⟨by unfold atoiR; rw [hc], _, _, rfl⟩, hb⟩
  | range =>
    refine (Tryz.strconv_Atoi_range s (by omega) hc _ w h3 (.inr ⟨_, _, rfl⟩)).mono ?_
    rintro e w' ⟨N, rfl, -, -, hb⟩
    exact ⟨_, _, rfl, .inr ⟨by unfold atoiR; rw [hc], _, _, rfl⟩, hb⟩
theorem atoiR_bd {l : List UInt8} {v : Int} (h : atoiR l = some v) : -9223372036854775808 ≤ v ∧ v ≤ 9223372036854775807 := by
  unfold atoiR at h
  split at h
  · next u hu =>
    simp only [Option.some.injEq] at h
    subst h
    unfold Lib.atoiAll at hu
    split at hu
    · cases hu
    · dsimp only at hu
      split at hu
      · cases hu
      · cases hu
      · split at hu
        · cases hu
        · split at hu
          · cases hu
          · injection hu with hu
            subst hu
            split <;> omega
  · cases h
/-- The number of a word: as strconv.Itoa writes it, of at most nine digits. -/
def numW (s : ByteArray) : Option Int := numF (byteAt s) s.size 9
theorem numW_atoi {s : ByteArray} {v : Int} (h : numW s = some v) : atoiR s.data.toList = some v ∧ s = ⟨(Lib.itoa v).toArray⟩ ∧ (Lib.trimPrefix s.data.toList [45]).length ≤ 9 ∧ v.natAbs < 1000000000 := by
  obtain ⟨h1, h2, h3, h4⟩ := num_itoa h
  have h5 : v.natAbs < 1000000000 := by simpa using h2
  refine ⟨?_, ?_, ?_, h5⟩
  · unfold atoiR
    rw [h1, atoi_itoa (by omega)]
  · apply ByteArray.ext
    apply Array.toList_inj.1
    rw [h1]
  · have hz : s.size = s.data.toList.length := Lib.size_eq s
    unfold Lib.trimPrefix Lib.hasPrefix
    by_cases hv : 0 ≤ v
    · split
      · rw [List.length_drop]
        have := h4 hv
        omega
      · have := h4 hv
        omega
    · rw [h1]
      unfold Lib.itoa
      rw [if_pos (show v < 0 by omega)]
      rw [h1] at hz
      unfold Lib.itoa at hz
      rw [if_pos (show v < 0 by omega), List.length_cons] at hz
      simp [List.isPrefixOf]
      omega
theorem atoi_numW {s : ByteArray} {v : Int} (hs : s = ⟨(Lib.itoa v).toArray⟩) (ht : (Lib.trimPrefix s.data.toList [45]).length ≤ 9) : numW s = some v := by
  have h1 : s.data.toList = Lib.itoa v := by rw [hs]
  refine itoa_num h1 ?_
  rw [h1] at ht
  unfold Lib.trimPrefix Lib.hasPrefix Lib.itoa at ht
  by_cases hv : v < 0
  · rw [if_pos hv] at ht
    simp [List.isPrefixOf] at ht
    exact ht
  · rw [if_neg hv] at ht
    have e : v.toNat = v.natAbs := by omega
    rw [e] at ht
    split at ht
    · next hp =>
      exfalso
      cases hd : Lib.decDigits v.natAbs with
      | nil => have := dec_pos v.natAbs; rw [hd] at this; simp at this
      | cons c r =>
        rw [hd] at hp
        simp [List.isPrefixOf] at hp
        have := (dec_head (c := c) _ (Nat.le_refl v.natAbs) (by rw [hd]; rfl)).1
        rw [← hp] at this
        simp at this
    · exact ht
/-- What fringe.phase answers. -/
def phW (s : ByteArray) (vd : Bool) : Option Int := if s = ⟨#[42]⟩ ∧ vd = true then some 1000000000000 else numW s
end Go.Proofs.YtkoiknmijjiicaaGreatDoor
