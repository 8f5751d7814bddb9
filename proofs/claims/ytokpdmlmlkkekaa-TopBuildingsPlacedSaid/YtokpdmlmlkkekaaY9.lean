/- Polygons: lists of places in memory of their own; the law's corners. -/
import Derived.Test.YtokpdmlmlkkekaaY7
import Derived.Test.YtokpdmlmlkkekaaY8
namespace Go.Proofs.Ytokpdmlmlkkekaa
set_option linter.unusedVariables false
open Go.RowKit
/-- The places of a slice, where they lie. -/
def PlSrc (w : World) (a : Option Addr) (ps : List Plc) : Prop := 0 < ps.length → ∃ b off, a = some ⟨b, off, none⟩ ∧ b < w.heap.size ∧ PlacesO w b off ps
theorem PlSrc.below {w w' : World} {a : Option Addr} {ps : List Plc} (h : PlSrc w a ps) (hw : Below w.heap.size w w') : PlSrc w' a ps := fun hp => by
  obtain ⟨b, off, h1, h2, h3⟩ := h hp
  exact ⟨b, off, h1, Nat.lt_of_lt_of_le h2 hw.size, h3.below h2 hw⟩
def plcCells (p : Plc) : List Value := [.int .i64 p.x, .int .i64 p.y, .int .i64 p.z]
def plcVals (ps : List Plc) : List Value := ps.flatMap plcCells
theorem plcVals_len : ∀ ps : List Plc, (plcVals ps).length = ps.length * 3
  | [] => rfl
  | p :: ps => by
    have := plcVals_len ps
    unfold plcVals at this ⊢
    rw [List.flatMap_cons, List.length_append, this]
    simp [plcCells]; omega
theorem plcVals_at : ∀ (ps : List Plc) (k j : Nat), k < ps.length → j < 3 → (plcVals ps)[k * 3 + j]? = (plcCells (plcAt ps k))[j]?
  | [], k, j, h, _ => by simp at h
  | p :: ps, 0, j, _, hj => by
    unfold plcVals
    rw [List.flatMap_cons, List.getElem?_append_left (by simp [plcCells]; omega), Nat.zero_mul, Nat.zero_add]
    rfl
  | p :: ps, k + 1, j, h, hj => by
    have := plcVals_at ps k j (by simpa using h) hj
    unfold plcVals at this ⊢
    rw [List.flatMap_cons, List.getElem?_append_right (by simp [plcCells]; omega), show (k + 1) * 3 + j - (plcCells p).length = k * 3 + j by simp [plcCells]; omega, this]
    rfl
theorem plcVals_one {ps : List Plc} : ∀ u ∈ plcVals ps, u.oneCell' = true := by
  intro u hu
  unfold plcVals at hu
  rw [List.mem_flatMap] at hu
  obtain ⟨p, -, hp⟩ := hu
  simp only [plcCells, List.mem_cons, List.not_mem_nil, or_false] at hp
  rcases hp with rfl | rfl | rfl <;> rfl
theorem plc_cell {w : World} {b off : Nat} {ps : List Plc} (h : PlacesO w b off ps) (j : Nat) (u : Value) (hu : (plcVals ps)[j]? = some u) : w.cell? ((⟨b, off, none⟩ : Addr).add j) = some u := by
  have hj : j < ps.length * 3 := by
    rcases Nat.lt_or_ge j (ps.length * 3) with h1 | h1
    · exact h1
    · rw [List.getElem?_eq_none (by rw [plcVals_len]; exact h1)] at hu; cases hu
  have e : (⟨b, off, none⟩ : Addr).add j = ⟨b, off + j, none⟩ := by simp [Addr.add] <;> omega
  rw [e]
  obtain ⟨k, i, hk, hi, rfl⟩ : ∃ k i, k < ps.length ∧ i < 3 ∧ j = k * 3 + i := ⟨j / 3, j % 3, by omega, by omega, by omega⟩
  rw [plcVals_at ps k i hk hi] at hu
  obtain ⟨h1, h2, h3⟩ := h k hk
  rw [← Nat.add_assoc]
  match i, hi with
  | 0, _ => simp [plcCells] at hu; rw [← hu]; exact h1
  | 1, _ => simp [plcCells] at hu; rw [← hu]; exact h2
  | 2, _ => simp [plcCells] at hu; rw [← hu]; exact h3
theorem places_own {w : World} {base : Nat} {v : Value} {ps : List Plc} (hw : Wf2 ps) (hm : ps.length ≤ 1000000000) (h : w.ownsRow base 23 3 v ps.length (plcVals ps)) : PlacesV w v ps := by
  by_cases hp : 0 < ps.length
  · obtain ⟨g, c, rfl, h1, h2, h3, h4⟩ := ownsRow_slice h hp
    refine ⟨hw, hm, _, c, rfl, fun _ => ⟨g, rfl, h2, fun k hk => ?_⟩⟩
    have hl := plcVals_len ps
    have e0 := (h.cellAt (k * 3) (by omega)).trans (plcVals_at ps k 0 hk (by omega))
    have e1 := (h.cellAt (k * 3 + 1) (by omega)).trans (plcVals_at ps k 1 hk (by omega))
    have e2 := (h.cellAt (k * 3 + 2) (by omega)).trans (plcVals_at ps k 2 hk (by omega))
    exact ⟨e0, e1, e2⟩
  · have h0 : ps.length = 0 := by omega
    rcases h.2 with ⟨rfl, h2⟩ | ⟨g, cap, cur, rfl, _⟩
    · exact ⟨hw, hm, none, 0, by rw [h0], fun hq => by omega⟩
    · exact ⟨hw, hm, _, cap, rfl, fun hq => by omega⟩
theorem info23 : (Try.prog.info? 23).map (fun i => (i.zero, i.size, i.bytes)) = some (some (.agg #[.int .i64 0, .int .i64 0, .int .i64 0]), 3, 24) := by kernel_rfl
theorem ownsRow_new3 (w : World) (e : TypeId) (base B : Nat) (hB : B = w.heap.size) (h : base ≤ w.heap.size) : (w.alloc (.cells #[] e)).ownsRow base e 3 (.slice (some ⟨B, 0, none⟩) 0 0) 0 [] := by
  subst hB
  exact ⟨rfl, Or.inr ⟨w.heap.size, 0, #[], rfl, h, heap_alloc_new w _, Nat.le_refl _, by unfold maxLen; omega, rfl, rfl⟩⟩
set_option maxHeartbeats 1000000 in
theorem own_some (ps : List Plc) (ad : Addr) (cap : Nat) (w : World) (hw : Wf2 ps) (hl : ps.length ≤ 1000000000) (hf : ∀ W, Below w.heap.size w W → ∀ j u, (plcVals ps)[j]? = some u → W.cell? (ad.add j) = some u) :
    Calls Try.prog 50 #[.slice (some ad) ps.length cap] w fun e w' => ∃ v, e = .returned v ∧ PlacesV w' v ps ∧ Below w.heap.size w w' := by
  obtain ⟨i0, hi, hz0, hz1, hz2⟩ := info_parts info23
  have HF := Lib.hid hf
  have HW := Lib.hid hw
  clear hf hw
  go_enter Try.func50, Try.ntmps50
  go_wp2_with (at_builtin; refine wpList_append_own _ rfl _ _ 85 rfl w.heap.size 23 i0 (.agg #[.int .i64 0, .int .i64 0, .int .i64 0]) 3 24 Try.underlying85 hi hz0 hz1 hz2 rfl (by decide) _ 0 [] rfl (ownsRow_new3 _ _ _ _ (by simp) (by simp)) ad ps.length cap (plcVals ps) rfl ?c1 ?c2 ?c3 ?c4 ?c5 ?c6 ?_)
  case c1 => rw [plcVals_len]
  case c2 => exact HF.out _ (by (repeat' (first | with_reducible exact Below.refl _ _ | (with_reducible refine below_later_of ?_ ?_ _) | (with_reducible refine Below.alloc ?_ ?_ _) | (with_reducible refine Below.setCell ?_ ?_ _) | (with_reducible refine Below.drew ?_) | (simp; done) | (simp; omega) | omega)))
  case c3 => exact plcVals_one
  case c4 => unfold maxLen; omega
  case c5 => omega
  case c6 => simp
  intro v' w1 hown hgrow _
  have hown2 : w1.ownsRow w.heap.size 23 3 v' ps.length (plcVals ps) := by simpa using hown
  have HPV := Lib.hid (places_own HW.out hl hown2)
  have HB := Lib.hid (show Below w.heap.size w w1 from (show Below w.heap.size w _ from (by (repeat' (first | with_reducible exact Below.refl _ _ | (with_reducible refine below_later_of ?_ ?_ _) | (with_reducible refine Below.alloc ?_ ?_ _) | (with_reducible refine Below.setCell ?_ ?_ _) | (with_reducible refine Below.drew ?_) | (simp; done) | (simp; omega) | omega)))).grown hgrow (by simp) (fun g hg => by simp [Value.ownBlock] at hg; omega))
  clear hown hown2 hgrow
  go_wp2
  go_ret
  exact ⟨_, rfl, HPV.out, HB.out⟩
set_option maxHeartbeats 1000000 in
theorem own_none (w : World) : Calls Try.prog 50 #[.slice none 0 0] w fun e w' => ∃ v, e = .returned v ∧ PlacesV w' v [] ∧ Below w.heap.size w w' := by
  obtain ⟨i0, hi, hz0, hz1, hz2⟩ := info_parts info23
  go_enter Try.func50, Try.ntmps50
  go_wp2_with (at_builtin; refine wpList_append_own_none _ _ _ 85 rfl w.heap.size 23 i0 3 Try.underlying85 hi _ 0 [] rfl (ownsRow_new3 _ _ _ _ (by simp) (by simp)) rfl ?_)
  go_wp2
  go_ret
  exact ⟨_, rfl, ⟨fun k hk => by simp at hk, by simp, _, _, rfl, fun h => by simp at h⟩, (by (repeat' (first | with_reducible exact Below.refl _ _ | (with_reducible refine below_later_of ?_ ?_ _) | (with_reducible refine Below.alloc ?_ ?_ _) | (with_reducible refine Below.setCell ?_ ?_ _) | (with_reducible refine Below.drew ?_) | (simp; done) | (simp; omega) | omega)))⟩
theorem own_any (ps : List Plc) (a : Option Addr) (cap : Nat) (w : World) (hw : Wf2 ps) (hl : ps.length ≤ 1000000000) (hs : PlSrc w a ps) (hn : a = none → cap = 0) :
    Calls Try.prog 50 #[.slice a ps.length cap] w fun e w' => ∃ v, e = .returned v ∧ PlacesV w' v ps ∧ Below w.heap.size w w' := by
  by_cases hp : 0 < ps.length
  · obtain ⟨b, off, rfl, hbw, hf⟩ := hs hp
    exact own_some ps _ cap w hw hl (fun W hW => plc_cell (hf.below hbw hW))
  · have h0 : ps = [] := List.length_eq_zero_iff.1 (by omega)
    subst h0
    cases a with
    | none =>
      obtain rfl := hn rfl
      exact own_none w
    | some ad => exact own_some [] ad cap w hw hl (fun W hW j u hu => by simp [plcVals] at hu)
def cornersB (n : Nat) : Bool := decide (n ≤ 10) || (decide (20 < n) && decide (n ≤ 22))
set_option maxHeartbeats 1000000 in
theorem corners_any (ps : List Plc) (a : Option Addr) (cap : Nat) (w : World) {c : Bool} (hc : cornersB ps.length = c) :
    Calls Try.prog 48 #[.slice a ps.length cap] w fun e w' => e = .returned (.bool c) ∧ Below w.heap.size w w' := by
  subst hc
  have HQ := Lib.hid (show cornersB ps.length = (decide (ps.length ≤ 10) || (decide (20 < ps.length) && decide (ps.length ≤ 22))) from rfl)
  by_cases h1 : ps.length ≤ 10
  · have HR := Lib.hid (show cornersB ps.length = true by rw [HQ.out, decide_eq_true h1]; rfl)
    have d1 : decide ((ps.length : Int) ≤ 10) = true := by simp; omega
    go_enter Try.func48, Try.ntmps48
    go_wp2
    go_ret
    exact ⟨ret_bool HR.out.symm, (by (repeat' (first | with_reducible exact Below.refl _ _ | (with_reducible refine below_later_of ?_ ?_ _) | (with_reducible refine Below.alloc ?_ ?_ _) | (with_reducible refine Below.setCell ?_ ?_ _) | (with_reducible refine Below.drew ?_) | (simp; done) | (simp; omega) | omega)))⟩
  · have d1 : decide ((ps.length : Int) ≤ 10) = false := by simp; omega
    by_cases h2 : 20 < ps.length
    · have d2 : decide ((20 : Int) < (ps.length : Int)) = true := by simp; omega
      by_cases h3 : ps.length ≤ 22
      · have d3 : decide ((ps.length : Int) ≤ 22) = true := by simp; omega
        have HR := Lib.hid (show cornersB ps.length = true by rw [HQ.out, decide_eq_false h1, decide_eq_true h2, decide_eq_true h3]; rfl)
        go_enter Try.func48, Try.ntmps48
        go_wp2
        go_ret
        exact ⟨ret_bool HR.out.symm, (by (repeat' (first | with_reducible exact Below.refl _ _ | (with_reducible refine below_later_of ?_ ?_ _) | (with_reducible refine Below.alloc ?_ ?_ _) | (with_reducible refine Below.setCell ?_ ?_ _) | (with_reducible refine Below.drew ?_) | (simp; done) | (simp; omega) | omega)))⟩
      · have d3 : decide ((ps.length : Int) ≤ 22) = false := by simp; omega
        have HR := Lib.hid (show cornersB ps.length = false by rw [HQ.out, decide_eq_false h1, decide_eq_true h2, decide_eq_false h3]; rfl)
        go_enter Try.func48, Try.ntmps48
        go_wp2
        go_ret
        exact ⟨ret_bool HR.out.symm, (by (repeat' (first | with_reducible exact Below.refl _ _ | (with_reducible refine below_later_of ?_ ?_ _) | (with_reducible refine Below.alloc ?_ ?_ _) | (with_reducible refine Below.setCell ?_ ?_ _) | (with_reducible refine Below.drew ?_) | (simp; done) | (simp; omega) | omega)))⟩
    · have d2 : decide ((20 : Int) < (ps.length : Int)) = false := by simp; omega
      have HR := Lib.hid (show cornersB ps.length = false by rw [HQ.out, decide_eq_false h1, decide_eq_false h2]; rfl)
      go_enter Try.func48, Try.ntmps48
      go_wp2
      go_ret
      exact ⟨ret_bool HR.out.symm, (by (repeat' (first | with_reducible exact Below.refl _ _ | (with_reducible refine below_later_of ?_ ?_ _) | (with_reducible refine Below.alloc ?_ ?_ _) | (with_reducible refine Below.setCell ?_ ?_ _) | (with_reducible refine Below.drew ?_) | (simp; done) | (simp; omega) | omega)))⟩
end Go.Proofs.Ytokpdmlmlkkekaa
