/- Chapter 4: a word of a text as a phase, the walk. -/
import Derived.Test.YtkoiknmijjiicaaGreatDoorX121
namespace Go.Proofs.YtkoiknmijjiicaaGreatDoor
set_option linter.unusedVariables false
set_option linter.unusedSimpArgs false
open Go.RowKit Go
theorem phW_of {s : ByteArray} {vd : Bool} (h : ¬ (s = ⟨#[42]⟩ ∧ vd = true)) : phW s vd = numW s := by unfold phW; rw [if_neg h]
theorem bytes_ne {a b : ByteArray} (h : a ≠ b) : (a.toList == b.toList) = false := by
  rw [Go.ByteArray.toList_eq, Go.ByteArray.toList_eq]
  refine beq_false_of_ne fun e => h ?_
  apply ByteArray.ext
  apply Array.toList_inj.1
  exact e
theorem numW_none {s : ByteArray} (h : atoiR s.data.toList = none) : numW s = none := by
  cases hc : numW s with
  | none => rfl
  | some v => rw [(numW_atoi hc).1] at h; cases h
theorem numW_other {s : ByteArray} {p : Int} (h : atoiR s.data.toList = some p) (hn : ¬ (s = ⟨(Lib.itoa p).toArray⟩ ∧ (Lib.trimPrefix s.data.toList [45]).length ≤ 9)) : numW s = none := by
  cases hc : numW s with
  | none => rfl
  | some v =>
    obtain ⟨h1, h2, h3, -⟩ := numW_atoi hc
    rw [h1] at h
    injection h with h
    subst h
    exact absurd ⟨h2, h3⟩ hn
theorem trim_size (s : ByteArray) : (⟨(Lib.trimPrefix s.data.toList [45]).toArray⟩ : ByteArray).size = (Lib.trimPrefix s.data.toList [45]).length := by simp [ByteArray.size]
theorem atoi_some {s : ByteArray} {v : Int} (w : World) (hs : s.size ≤ 100000) (ht : TabR w) (h : atoiR s.data.toList = some v) :
    Calls Tryz.prog 102 #[.string s] w fun e w' => e = .returned (.tuple #[.int .i64 v, .nilIface]) ∧ Below w.heap.size w w' := by
  refine (atoi_any s w hs ht).mono ?_
  rintro e w' ⟨p, er, rfl, ⟨u, h1, rfl, rfl⟩ | ⟨h1, -⟩, hb⟩
  · rw [h] at h1
    injection h1 with h1
    subst h1
    exact ⟨rfl, hb⟩
  · rw [h] at h1; cases h1
theorem atoi_none {s : ByteArray} (w : World) (hs : s.size ≤ 100000) (ht : TabR w) (h : atoiR s.data.toList = none) :
    Calls Tryz.prog 102 #[.string s] w fun e w' => (∃ (p : Int) (t : TypeId) (q : Value), e = .returned (.tuple #[.int .i64 p, .iface t q])) ∧ Below w.heap.size w w' := by
  refine (atoi_any s w hs ht).mono ?_
  rintro e w' ⟨p, er, rfl, ⟨u, h1, -, -⟩ | ⟨-, t, q, rfl⟩, hb⟩
  · rw [h] at h1; cases h1
  · exact ⟨⟨p, t, q, rfl⟩, hb⟩
set_option maxRecDepth 20000 in
set_option maxHeartbeats 2000000 in
theorem phase_num (s : ByteArray) (vd : Bool) (w : World) (hs : s.size ≤ 100000) (ht : TabR w) (hn : ¬ (s = ⟨#[42]⟩ ∧ vd = true)) :
    Calls Tryz.prog 55 #[.string s, .bool vd] w fun e w' =>
      ∃ p : Int, e = .returned (.tuple #[.int .i64 p, .bool (phW s vd).isSome]) ∧ (∀ v, phW s vd = some v → p = v) ∧ Below w.heap.size w w' := by
  rw [phW_of hn]
  obtain ⟨o, ho⟩ : ∃ o, numW s = o := ⟨_, rfl⟩
  rw [ho]
  have hbb : (s.toList = [42] ∧ vd = false) ∨ ¬ s.toList = [42] := by
    by_cases h : s.toList = [42]
    · refine .inl ⟨h, ?_⟩
      cases vd with
      | false => rfl
      | true =>
        refine absurd ⟨?_, rfl⟩ hn
        apply ByteArray.ext
        apply Array.toList_inj.1
        rw [← Go.ByteArray.toList_eq, h]
    · exact .inr h
  clear hn
  have hu : Tryz.prog.underlying 129 = some (.interface (Tryz.prog.methodsAt 129)) := by kernel_rfl
  have hnn : ∀ w, (binOp .eql 129 .nilIface .nilIface).run Tryz.prog w = .ok (.bool true) w := fun w => run_eql_nil_nil w _ hu
  have hnh : ∀ (t : TypeId) (q : Value) w, (binOp .eql 129 (.iface t q) .nilIface).run Tryz.prog w = .ok (.bool false) w := fun t q w => run_eql_held_nil w _ _ _ hu
  have HT := Lib.hid ht
  cases hc : atoiR s.data.toList with
  | some p =>
    have HA := Lib.hid (atoi_some w hs ht hc)
    obtain ⟨B1, B2⟩ := atoiR_bd hc
    by_cases hk : s = ⟨(Lib.itoa p).toArray⟩
    · have hd : (⟨(Lib.itoa p).toArray⟩ : ByteArray).toList = s.toList := by rw [← hk]
      by_cases hl : (Lib.trimPrefix s.data.toList [45]).length ≤ 9
      · have hz : o = some p := by rw [← ho]; exact atoi_numW hk hl
        subst hz
        clear ht ho hs hc hk
        have hdl : decide ((((Lib.trimPrefix s.data.toList [45]).length : Nat) : Int) ≤ 9) = true := by simp; omega
        go_enter Tryz.func55, Tryz.ntmps55
        rcases hbb with ⟨hq, rfl⟩ | hq
        all_goals
          go_wp2_with (first | (go_at_call 102; refine HA.out.mono ?_; rintro e w1 ⟨rfl, hb⟩; have HT1 := Lib.hid (HT.out.below hb); have HB1 := Lib.hid hb; clear hb) | (go_at_call 70; refine (itoa_any p B1 B2 w1 HT1.out.tab).mono ?_; rintro e w2 ⟨rfl, hb2⟩; have HB2 := Lib.hid hb2; clear hb2) | (go_at_call 103; refine (Tryz.strings_TrimPrefix s _ w2).mono ?_; rintro e w3 ⟨rfl, rfl⟩))
          all_goals (go_ret2; exact ⟨p, rfl, fun v h => (by injection h), HB1.out.trans (HB2.out.mono HB1.out.size)⟩)
      · have hz : o = none := by rw [← ho]; exact numW_other hc (fun h => hl h.2)
        subst hz
        clear ht ho hs hc hk
        have hdl : decide ((((Lib.trimPrefix s.data.toList [45]).length : Nat) : Int) ≤ 9) = false := by simp; omega
        go_enter Tryz.func55, Tryz.ntmps55
        rcases hbb with ⟨hq, rfl⟩ | hq
        all_goals
          go_wp2_with (first | (go_at_call 102; refine HA.out.mono ?_; rintro e w1 ⟨rfl, hb⟩; have HT1 := Lib.hid (HT.out.below hb); have HB1 := Lib.hid hb; clear hb) | (go_at_call 70; refine (itoa_any p B1 B2 w1 HT1.out.tab).mono ?_; rintro e w2 ⟨rfl, hb2⟩; have HB2 := Lib.hid hb2; clear hb2) | (go_at_call 103; refine (Tryz.strings_TrimPrefix s _ w2).mono ?_; rintro e w3 ⟨rfl, rfl⟩))
          all_goals (go_ret2; exact ⟨p, (by first | rfl | (rw [hdl]; rfl)), fun v h => (by cases h), HB1.out.trans (HB2.out.mono HB1.out.size)⟩)
    · have hz : o = none := by rw [← ho]; exact numW_other hc (fun h => hk h.1)
      subst hz
      have hd : ¬ (⟨(Lib.itoa p).toArray⟩ : ByteArray).toList = s.toList := fun e => by have := bytes_ne (fun e => hk e.symm); rw [e] at this; simp at this
      have hd2 : ¬ Lib.itoa p = s.toList := fun e => hk (by apply ByteArray.ext; apply Array.toList_inj.1; rw [← Go.ByteArray.toList_eq, ← e])
      clear ht ho hs hc hk hd
      go_enter Tryz.func55, Tryz.ntmps55
      rcases hbb with ⟨hq, rfl⟩ | hq
      all_goals
        (try rw [hq] at hd2)
        go_wp2_with (first | (go_at_call 102; refine HA.out.mono ?_; rintro e w1 ⟨rfl, hb⟩; have HT1 := Lib.hid (HT.out.below hb); have HB1 := Lib.hid hb; clear hb) | (go_at_call 70; refine (itoa_any p B1 B2 w1 HT1.out.tab).mono ?_; rintro e w2 ⟨rfl, hb2⟩; have HB2 := Lib.hid hb2; clear hb2) | (go_at_call 103; refine (Tryz.strings_TrimPrefix s _ w2).mono ?_; rintro e w3 ⟨rfl, rfl⟩))
        all_goals (go_ret2; exact ⟨p, rfl, fun v h => (by cases h), HB1.out.trans (HB2.out.mono HB1.out.size)⟩)
  | none =>
    have HA := Lib.hid (atoi_none w hs ht hc)
    have hz : o = none := by rw [← ho]; exact numW_none hc
    subst hz
    clear ht ho hs hc
    go_enter Tryz.func55, Tryz.ntmps55
    rcases hbb with ⟨hq, rfl⟩ | hq
    all_goals
      go_wp2_with (first | (go_at_call 102; refine HA.out.mono ?_; rintro e w1 ⟨⟨p, t, q, rfl⟩, hb⟩; have HB1 := Lib.hid hb; clear hb))
      all_goals (go_ret2; exact ⟨p, rfl, fun v h => (by cases h), HB1.out⟩)
theorem phase_any (s : ByteArray) (vd : Bool) (w : World) (hs : s.size ≤ 100000) (ht : TabR w) :
    Calls Tryz.prog 55 #[.string s, .bool vd] w fun e w' =>
      ∃ p : Int, e = .returned (.tuple #[.int .i64 p, .bool (phW s vd).isSome]) ∧ (∀ v, phW s vd = some v → p = v) ∧ Below w.heap.size w w' := by
  by_cases h : s = ⟨#[42]⟩ ∧ vd = true
  · have hp : phW s vd = some 1000000000000 := by unfold phW; rw [if_pos h]
    obtain ⟨rfl, rfl⟩ := h
    rw [hp]
    go_enter Tryz.func55, Tryz.ntmps55
    have hq : (⟨#[42]⟩ : ByteArray).toList = [42] := by rw [Go.ByteArray.toList_eq]
    go_wp2
    go_ret2
    exact ⟨_, rfl, fun v h => (by injection h), Below.refl _ _⟩
  · exact phase_num s vd w hs ht h
end Go.Proofs.YtkoiknmijjiicaaGreatDoor
