import Derived.Test.YtkoiknmijjiicaaGreatDoorX121
import Derived.Test.YtkoiknmijjiicaaGreatDoorXU
import Derived.Test.YtkoiknmijjiicaaGreatDoorXA
/- Chapter 4: a word of a text as a phase, the walk. -/
namespace Go.Proofs.YtkoiknmijjiicaaGreatDoor
set_option linter.unusedVariables false
set_option linter.unusedSimpArgs false
open Go.RowKit Go
theorem phW_of {s : ByteArray} {vd : Bool} (h : ¬ (s = ⟨#[42]⟩ ∧ vd = true)) : phW s vd = numW s := by unfold phW; rw [if_neg h]
theorem bytes_ne {a b : ByteArray} (h : a ≠ b) : (a.toList == b.toList) = false := by
  rw [Go.ByteArray.toList_eq, Go.ByteArray.toList_eq]
  refine beq_false_of_ne fun e => h ?_
  apply ByteArray.ext
  apply Array.toList_inj.1
  exact e
theorem numW_none {s : ByteArray} (h : atoiR s.data.toList = none) : numW s = none := by
  cases hc : numW s with
  | none => rfl
  | some v => rw [(numW_atoi hc).1] at h; cases h
theorem numW_other {s : ByteArray} {p : Int} (h : atoiR s.data.toList = some p) (hn : ¬ (s = ⟨(Lib.itoa p).toArray⟩ ∧ (Lib.trimPrefix s.data.toList [45]).length ≤ 9)) : numW s = none := by
  cases hc : numW s with
  | none => rfl
  | some v =>
    obtain ⟨h1, h2, h3, -⟩ := numW_atoi hc
    rw [h1] at h
    injection h with h
    subst h
    exact absurd ⟨h2, h3⟩ hn
theorem trim_size (s : ByteArray) : (⟨(Lib.trimPrefix s.data.toList [45]).toArray⟩ : ByteArray).size = (Lib.trimPrefix s.data.toList [45]).length := by simp [ByteArray.size]
theorem atoi_some {s : ByteArray} {v : Int} (w : World) (hs : s.size ≤ 100000) (ht : TabR w) (h : atoiR s.data.toList = some v) :
    Calls Tryz.prog 102 #[.string s] w fun e w' => e = .returned (.tuple #[.int .i64 v, .nilIface]) ∧ Below w.heap.size w w' := by
  refine (atoi_any s w hs ht).mono ?_
  rintro e w' ⟨p, er, rfl, ⟨u, h1, rfl, rfl⟩ | ⟨h1, -⟩, hb⟩
  · rw [h] at h1
    injection h1 with h1
    subst h1
    exact ⟨rfl, hb⟩
  · rw [h] at h1; cases h1
theorem atoi_none {s : ByteArray} (w : World) (hs : s.size ≤ 100000) (ht : TabR w) (h : atoiR s.data.toList = none) :
    Calls Tryz.prog 102 #[.string s] w fun e w' => (∃ (p : Int) (t : TypeId) (q : Value), e = .returned (.tuple #[.int .i64 p, .iface t q])) ∧ Below w.heap.size w w' := by
  refine (atoi_any s w hs ht).mono ?_
  rintro e w' ⟨p, er, rfl, ⟨u, h1, -, -⟩ | ⟨-, t, q, rfl⟩, hb⟩
  · rw [h] at h1; cases h1
  · exact ⟨⟨p, t, q, rfl⟩, hb⟩
set_option maxRecDepth 20000 in
set_option maxHeartbeats 2000000 in
theorem phase_num (s : ByteArray) (vd : Bool) (w : World) (hs : s.size ≤ 100000) (ht : TabR w) (hn : ¬ (s = ⟨#[42]⟩ ∧ vd = true)) :
    Calls Tryz.prog 55 #[.string s, .bool vd] w fun e w' =>
      ∃ p : Int, e = .returned (.tuple #[.int .i64 p, .bool (phW s vd).isSome]) ∧ (∀ v, phW s vd = some v → p = v) ∧ Below w.heap.size w w' := by
  rw [phW_of hn]
  obtain ⟨o, ho⟩ : ∃ o, numW s = o := ⟨_, rfl⟩
  rw [ho]
  have hbb : (s.toList = [42] ∧ vd = false) ∨ ¬ s.toList = [42] := by
    by_cases h : s.toList = [42]
    · refine .inl ⟨h, ?_⟩
      cases vd with
      | false => rfl
      | true =>
        refine absurd ⟨?_, rfl⟩ hn
        apply ByteArray.ext
        apply Array.toList_inj.1
        rw [← Go.ByteArray.toList_eq, h]
    · exact .inr h
  clear hn
  have hu : Tryz.prog.underlying 129 = some (.interface (Tryz.prog.methodsAt 129)) := by kernel_rfl
  have hnn : ∀ w, (binOp .eql 129 .nilIface .nilIface).run Tryz.prog w = .ok (.bool true) w := fun w => run_eql_nil_nil w _ hu
  have hnh : ∀ (t : TypeId) (q : Value) w, (binOp .eql 129 (.iface t q) .nilIface).run Tryz.prog w = .ok (.bool false) w := fun t q w => run_eql_held_nil w _ _ _ hu
  have HT := Lib.hid ht
  cases hc : atoiR s.data.toList with
  | some p =>
    have HA := Lib.hid (atoi_some w hs ht hc)
    obtain ⟨B1, B2⟩ := atoiR_bd hc
    by_cases hk : s = ⟨(Lib.itoa p).toArray⟩
    · have hd : (⟨(Lib.itoa p).toArray⟩ : ByteArray).toList = s.toList := by rw [← hk]
      by_cases hl : (Lib.trimPrefix s.data.toList [45]).length ≤ 9
      · have hz : o = some p := by rw [← ho]; exact atoi_numW hk hl
        subst hz
        clear ht ho hs hc hk
        have hdl : decide ((((Lib.trimPrefix s.data.toList [45]).length : Nat) : Int) ≤ 9) = true := by simp; omega
        go_enter Tryz.func55, Tryz.ntmps55
        rcases hbb with ⟨hq, rfl⟩ | hq
        all_goals
          go_wp2_with (first | (go_at_call 102; refine HA.out.mono ?_; rintro e w1 ⟨rfl, hb⟩; have HT1 := Lib.hid (HT.out.below hb); have HB1 := Lib.hid hb; clear hb) | (go_at_call 70; refine (itoa_any p B1 B2 w1 HT1.out.tab).mono ?_; rintro e w2 ⟨rfl, hb2⟩; have HB2 := Lib.hid hb2; clear hb2) | (go_at_call 103; refine (Tryz.strings_TrimPrefix s _ w2).mono ?_; rintro e w3 ⟨rfl, rfl⟩))
          all_goals (go_ret2; exact ⟨p, rfl, fun v h => (by injection h), HB1.out.trans (HB2.out.mono HB1.out.size)⟩)
      · have hz : o = none := by rw [← ho]; exact numW_other hc (fun h => hl h.2)
        subst hz
        clear ht ho hs hc hk
        have hdl : decide ((((Lib.trimPrefix s.data.toList [45]).length : Nat) : Int) ≤ 9) = false := by simp; omega
        go_enter Tryz.func55, Tryz.ntmps55
        rcases hbb with ⟨hq, rfl⟩ | hq
        all_goals
          go_wp2_with (first | (go_at_call 102; refine HA.out.mono ?_; rintro e w1 ⟨rfl, hb⟩; have HT1 := Lib.hid (HT.out.below hb); have HB1 := Lib.hid hb; clear hb) | (go_at_call 70; refine (itoa_any p B1 B2 w1 HT1.out.tab).mono ?_; rintro e w2 ⟨rfl, hb2⟩; have HB2 := Lib.hid hb2; clear hb2) | (go_at_call 103; refine (Tryz.strings_TrimPrefix s _ w2).mono ?_; rintro e w3 ⟨rfl, rfl⟩))
          all_goals (go_ret2; exact ⟨p, (by first | rfl | (rw [hdl]; rfl)), fun v h => (by cases h), HB1.out.trans (HB2.out.mono HB1.out.size)⟩)
    · have hz : o = none := by rw [← ho]; exact numW_other hc (fun h => hk h.1)
      subst hz
      have hd : ¬ (⟨(Lib.itoa p).toArray⟩ : ByteArray).toList = s.toList := fun e => by have := bytes_ne (fun e => hk e.symm); rw [e] at this; simp at this
      have hd2 : ¬ Lib.itoa p = s.toList := fun e => hk (by apply ByteArray.ext; apply Array.toList_inj.1; rw [← Go.ByteArray.toList_eq, ← e])
      clear ht ho hs hc hk hd
      go_enter Tryz.func55, Tryz.ntmps55
      rcases hbb with ⟨hq, rfl⟩ | hq
      all_goals
        (try rw [hq] at hd2)
        go_wp2_with (first | (go_at_call 102; refine HA.out.mono ?_; rintro e w1 ⟨rfl, hb⟩; have HT1 := Lib.hid (HT.out.below hb); have HB1 := Lib.hid hb; clear hb) | (go_at_call 70; refine (itoa_any p B1 B2 w1 HT1.out.tab).mono ?_; rintro e w2 ⟨rfl, hb2⟩; have HB2 := Lib.hid hb2; clear hb2) | (go_at_call 103; refine (Tryz.strings_TrimPrefix s _ w2).mono ?_; rintro e w3 ⟨rfl, rfl⟩))
        all_goals (go_ret2; exact ⟨p, rfl, fun v h => (by cases h), HB1.out.trans (HB2.out.mono HB1.out.size)⟩)
  | none =>
    have HA := Lib.hid (atoi_none w hs ht hc)
    have hz : o = none := by rw [← ho]; exact numW_none hc
    subst hz
    clear ht ho hs hc
    go_enter Tryz.func55, Tryz.ntmps55
    rcases hbb with ⟨hq, rfl⟩ | hq
    all_goals
      go_wp2_with (first | (go_at_call 102; refine HA.out.mono ?_; rintro e w1 ⟨⟨p, t, q, rfl⟩, hb⟩; have HB1 := Lib.hid hb; clear hb))
      all_goals (go_ret2; exact ⟨p, rfl, fun v h => (by cases h), HB1.out⟩)
theorem phase_any (s : ByteArray) (vd : Bool) (w : World) (hs : s.size ≤ 100000) (ht : TabR w) :
    Calls Tryz.prog 55 #[.string s, .bool vd] w fun e w' =>
      ∃ p : Int, e = .returned (.tuple #[.int .i64 p, .bool (phW s vd).isSome]) ∧ (∀ v, phW s vd = some v → p = v) ∧ Below w.heap.size w w' := by
  by_cases h : s = ⟨#[42]⟩ ∧ vd = true
  · have hp : phW s vd = some 1000000000000 := by unfold phW; rw [if_pos h]
    obtain ⟨rfl, rfl⟩ := h
    rw [hp]
    go_enter Tryz.func55, Tryz.ntmps55
    have hq : (⟨#[42]⟩ : ByteArray).toList = [42] := by rw [Go.ByteArray.toList_eq]
    go_wp2
    go_ret2
    exact ⟨_, rfl, fun v h => (by injection h), Below.refl _ _⟩
  · exact phase_num s vd w hs ht h
end Go.Proofs.YtkoiknmijjiicaaGreatDoor

/- Plain: what a Parse of a map answers. No program in sight. -/
namespace Go.Proofs.YtkoiknmijjiicaaGreatDoor
set_option linter.unusedVariables false
set_option linter.unusedSimpArgs false
open Go.RowKit Go
/-- All of some answers. -/
def allO : List (Option Int) → Option (List Int)
  | [] => some []
  | o :: r => match o with
    | none => none
    | some v => (allO r).map (v :: ·)
theorem allO_snoc : ∀ (l : List (Option Int)) (o : Option Int), allO (l ++ [o]) = match allO l, o with | some ns, some v => some (ns ++ [v]) | _, _ => none
  | [], o => by cases o <;> rfl
  | none :: r, o => by simp [allO]
  | some v :: r, o => by
    have := allO_snoc r o
    rw [List.cons_append, allO, this, allO]
    cases allO r <;> cases o <;> rfl
theorem allO_none : ∀ (l m : List (Option Int)), allO l = none → allO (l ++ m) = none
  | [], m, h => by cases h
  | none :: r, m, h => rfl
  | some v :: r, m, h => by
    rw [allO, Option.map_eq_none_iff] at h
    rw [List.cons_append, allO, allO_none r m h]
    rfl
theorem allO_len : ∀ (l : List (Option Int)) (ns : List Int), allO l = some ns → ns.length = l.length
  | [], ns, h => by simp [allO] at h; subst h; rfl
  | none :: r, ns, h => by cases h
  | some v :: r, ns, h => by
    rw [allO] at h
    obtain ⟨ms, h1, rfl⟩ := Option.map_eq_some_iff.1 h
    rw [List.length_cons, List.length_cons, allO_len r ms h1]
/-- A word of line i. -/
def wordP (i : Nat) (x : ByteArray) : Option Int := phW x (decide (0 < i))
def wordsT (T : ByteArray) : List ByteArray := cutW T 32
theorem wordsT_pos (T : ByteArray) : 0 < (wordsT T).length := by unfold wordsT cutW; rw [List.length_append]; simp
/-- The words of line i that are numbers: the first k words looked at. -/
def lookW (i : Nat) (ws : List ByteArray) (k : Nat) : List ByteArray := if i = 0 then (ws.take k).drop 1 else ws.take k
def numsK (i : Nat) (ws : List ByteArray) (k : Nat) : Option (List Int) := allO ((lookW i ws k).map (wordP i))
theorem numsK_zero (i : Nat) (ws : List ByteArray) : numsK i ws 0 = some [] := by
  unfold numsK lookW
  split <;> simp [allO]
theorem lookW_skip (ws : List ByteArray) : lookW 0 ws 1 = [] := by
  unfold lookW
  rw [if_pos rfl]
  cases ws <;> simp
theorem lookW_succ (i : Nat) (ws : List ByteArray) (k : Nat) (hk : k < ws.length) (h : ¬ (i = 0 ∧ k = 0)) : lookW i ws (k + 1) = lookW i ws k ++ [textAt ws k] := by
  have h1 : ws.take (k + 1) = ws.take k ++ [textAt ws k] := by
    rw [List.take_add_one, List.getElem?_eq_getElem hk]
    unfold textAt
    rw [List.getD_eq_getElem?_getD, List.getElem?_eq_getElem hk]
    rfl
  unfold lookW
  split
  · rw [h1, List.drop_append_of_le_length]
    rw [List.length_take]
    omega
  · exact h1
theorem numsK_succ (i : Nat) (ws : List ByteArray) (k : Nat) (hk : k < ws.length) (h : ¬ (i = 0 ∧ k = 0)) : numsK i ws (k + 1) = match numsK i ws k, wordP i (textAt ws k) with | some ns, some v => some (ns ++ [v]) | _, _ => none := by
  unfold numsK
  rw [lookW_succ i ws k hk h, List.map_append, List.map_cons, List.map_nil, allO_snoc]
/-- All numbers of line i. -/
def numsT (i : Nat) (T : ByteArray) : Option (List Int) := numsK i (wordsT T) (wordsT T).length
theorem numsT_none (i : Nat) (T : ByteArray) (k : Nat) (h : numsK i (wordsT T) k = none) : numsT i T = none := by
  unfold numsT numsK at *
  obtain ⟨m, hm⟩ : ∃ m, lookW i (wordsT T) (wordsT T).length = lookW i (wordsT T) k ++ m := by
    unfold lookW
    split
    · rw [List.take_length]
      by_cases hk : k = 0
      · subst hk; exact ⟨(wordsT T).drop 1, by simp⟩
      · refine ⟨(wordsT T).drop k, ?_⟩
        by_cases hl : k ≤ (wordsT T).length
        · conv => lhs; rw [← List.take_append_drop k (wordsT T)]
          rw [List.drop_append_of_le_length]
          rw [List.length_take]
          omega
        · rw [List.take_of_length_le (by omega), List.drop_of_length_le (by omega : (wordsT T).length ≤ k), List.append_nil]
    · rw [List.take_length]
      exact ⟨(wordsT T).drop k, (List.take_append_drop k _).symm⟩
  rw [hm, List.map_append]
  exact allO_none _ _ h
/-- What has been read. -/
structure PSt where
  rows : Int
  cols : Int
  zs : List Int
  fits : Bool
def phases : ByteArray := ⟨#[112, 104, 97, 115, 101, 115]⟩
def stepL (i : Nat) (T : ByteArray) (st : PSt) : Option PSt :=
  match numsT i T with
  | none => none
  | some ns => if i = 0 then (if textAt (wordsT T) 0 = phases ∧ ns.length = 2 then some ⟨intAt ns 0, intAt ns 1, [], true⟩ else none)
    else some ⟨st.rows, st.cols, st.zs ++ ns, st.fits && decide ((ns.length : Int) = st.cols)⟩
def runL (L : List ByteArray) : Nat → Option PSt
  | 0 => some ⟨0, 0, [], true⟩
  | k + 1 => match runL L k with
    | none => none
    | some st => stepL k (textAt L k) st
/-- The first line that is wrong. -/
def badL (L : List ByteArray) : Nat → Option Nat
  | 0 => none
  | k + 1 => match badL L k with
    | some j => some j
    | none => if (runL L (k + 1)).isNone then some k else none
theorem badL_run (L : List ByteArray) : ∀ k st, runL L k = some st → badL L k = none
  | 0, _, _ => rfl
  | k + 1, st, h => by
    have h1 : ∃ s0, runL L k = some s0 := by
      unfold runL at h
      split at h
      · cases h
      · next s0 hs => exact ⟨s0, hs⟩
    obtain ⟨s0, hs⟩ := h1
    unfold badL
    rw [badL_run L k s0 hs]
    simp only
    rw [h]
    rfl
theorem badL_stop (L : List ByteArray) (k : Nat) {st : PSt} (h : runL L k = some st) (hn : runL L (k + 1) = none) : ∀ m, k < m → badL L m = some k
  | 0, hm => by omega
  | m + 1, hm => by
    unfold badL
    by_cases he : m = k
    · subst he
      rw [badL_run L m st h]
      simp only
      rw [hn]
      rfl
    · rw [badL_stop L k h hn m (by omega)]
/-- What Parse answers: the map's parts, the line, the error. -/
structure PAns where
  rows : Int
  cols : Int
  zs : List Int
  line : Nat
  err : Int
def ansP (s : ByteArray) : PAns :=
  if 60000 < s.size then ⟨0, 0, [], 0, 8⟩
  else match badL (cutW s 10) (endsN s), runL (cutW s 10) (endsN s) with
    | some k, _ => ⟨0, 0, [], k + 1, 7⟩
    | none, none => ⟨0, 0, [], 0, 7⟩
    | none, some st => if textAt (cutW s 10) (endsN s) ≠ ⟨#[]⟩ ∨ endsN s = 0 then ⟨0, 0, [], endsN s + 1, 7⟩
      else if st.fits = false ∨ (endsN s : Int) - 1 ≠ st.rows then ⟨0, 0, [], 0, 10⟩
      else if (mapE st.rows st.cols st.zs).2 ≠ 0 then ⟨0, 0, [], 0, (mapE st.rows st.cols st.zs).2⟩
      else ⟨st.rows, st.cols, st.zs, 0, 0⟩
/-- How long the lists get. -/
def wsum (l : List (List UInt8)) : Nat := (l.map fun p => p.length + 1).sum
theorem cutL_sum (c : UInt8) : ∀ l, wsum (cutL c l) = l.length + 1
  | [] => rfl
  | x :: r => by
    have ih := cutL_sum c r
    unfold cutL
    split
    · unfold wsum at ih ⊢
      rw [List.map_cons, List.sum_cons, ih]
      simp; omega
    · split
      · next h => exact absurd h (cutL_ne c r)
      · next h t ht =>
        rw [ht] at ih
        unfold wsum at ih ⊢
        simp only [List.map_cons, List.sum_cons, List.length_cons] at ih ⊢
        omega
theorem wsum_len : ∀ l : List (List UInt8), l.length ≤ wsum l
  | [] => Nat.zero_le _
  | p :: r => by
    have := wsum_len r
    unfold wsum at this ⊢
    simp only [List.map_cons, List.sum_cons, List.length_cons]
    omega
theorem mem_wsum : ∀ (l : List (List UInt8)) (p : List UInt8), p ∈ l → p.length + 1 ≤ wsum l
  | q :: r, p, h => by
    have e : wsum (q :: r) = (q.length + 1) + wsum r := by unfold wsum; rw [List.map_cons, List.sum_cons]
    rw [e]
    rcases List.mem_cons.1 h with rfl | h
    · omega
    · have := mem_wsum r p h
      omega
theorem words_le (T : ByteArray) : (wordsT T).length ≤ T.size + 1 := by
  have h1 := congrArg List.length (cutW_list T 32 (by decide))
  rw [List.length_map] at h1
  have h2 := wsum_len (cutL (UInt8.ofNat 32) T.data.toList)
  rw [cutL_sum] at h2
  have h3 : T.size = T.data.toList.length := Lib.size_eq T
  unfold wordsT
  omega
theorem word_size (T : ByteArray) (k : Nat) : (textAt (wordsT T) k).size ≤ T.size := by
  unfold textAt
  rw [List.getD_eq_getElem?_getD]
  cases h : (wordsT T)[k]? with
  | none => exact Nat.zero_le _
  | some x =>
    have hm := List.mem_of_getElem? h
    unfold wordsT cutW at hm
    show x.size ≤ T.size
    have gen : ∀ i, ∀ y ∈ (cutSt T 32 i).1, y.size ≤ T.size := by
      intro i
      induction i with
      | zero => intro y hy; cases hy
      | succ i ih =>
        intro y hy
        unfold cutSt at hy
        split at hy
        · rcases List.mem_append.1 hy with hy | hy
          · exact ih y hy
          · rw [List.mem_singleton] at hy
            subst hy
            rw [ByteArray.size_extract]
            omega
        · exact ih y hy
    rcases List.mem_append.1 hm with hy | hy
    · exact gen _ x hy
    · rw [List.mem_singleton] at hy
      subst hy
      rw [ByteArray.size_extract]
      omega
theorem piece_size (s : ByteArray) (k : Nat) : (textAt (cutW s 10) k).size ≤ s.size := by
  have h1 := textAt_piece s k
  have h2 := congrArg List.length h1
  rw [← Lib.size_eq] at h2
  rw [h2]
  by_cases hk : k < (pieces s).length
  · have h3 : wsum (pieces s) = s.data.toList.length + 1 := cutL_sum 10 _
    have h4 : ((pieces s).getD k []).length + 1 ≤ wsum (pieces s) := by
      rw [List.getD_eq_getElem?_getD, List.getElem?_eq_getElem hk]
      exact mem_wsum _ _ (List.getElem_mem hk)
    rw [← Lib.size_eq] at h3
    omega
  · rw [List.getD_eq_getElem?_getD, List.getElem?_eq_none (by omega)]
    exact Nat.zero_le _
theorem look_len (i : Nat) (ws : List ByteArray) (k : Nat) : (lookW i ws k).length ≤ k := by
  unfold lookW
  split <;> simp <;> omega
theorem nums_len {i : Nat} {ws : List ByteArray} {k : Nat} {ns : List Int} (h : numsK i ws k = some ns) : ns.length ≤ k ∧ ns.length ≤ ws.length := by
  have h1 := allO_len _ _ h
  rw [List.length_map] at h1
  have h2 := look_len i ws k
  have h3 : (lookW i ws k).length ≤ ws.length := by unfold lookW; split <;> simp <;> omega
  omega
theorem run_len (s : ByteArray) : ∀ (k : Nat) (st : PSt), k ≤ endsN s → runL (cutW s 10) k = some st → st.zs.length ≤ wsum ((pieces s).take k)
  | 0, st, _, h => by simp [runL] at h; subst h; exact Nat.zero_le _
  | k + 1, st, hk, h => by
    unfold runL at h
    split at h
    · cases h
    · next s0 hs =>
      have ih := run_len s k s0 (by omega) hs
      have hp := pieces_pos s
      have h1 : wsum ((pieces s).take (k + 1)) = wsum ((pieces s).take k) + (((pieces s).getD k []).length + 1) := by
        rw [List.take_add_one, List.getD_eq_getElem?_getD, List.getElem?_eq_getElem (by omega)]
        unfold wsum
        rw [List.map_append, List.sum_append]
        simp
      have h2 := congrArg List.length (textAt_piece s k)
      rw [← Lib.size_eq] at h2
      unfold stepL at h
      split at h
      · cases h
      · next ns hn =>
        have h3 := (nums_len hn).2
        have h4 := words_le (textAt (cutW s 10) k)
        split at h
        · split at h
          · simp only [Option.some.injEq] at h
            subst h
            exact Nat.zero_le _
          · cases h
        · simp only [Option.some.injEq] at h
          subst h
          simp only [List.length_append]
          omega
theorem run_bound (s : ByteArray) (k : Nat) (st : PSt) (hk : k ≤ endsN s) (h : runL (cutW s 10) k = some st) : st.zs.length ≤ s.size + 1 := by
  have h1 := run_len s k st hk h
  have h2 : wsum (pieces s) = s.data.toList.length + 1 := cutL_sum 10 _
  have h3 : wsum ((pieces s).take k) + wsum ((pieces s).drop k) = wsum (pieces s) := by
    unfold wsum
    rw [← List.sum_append, ← List.map_append, List.take_append_drop]
  rw [← Lib.size_eq] at h2
  omega
end Go.Proofs.YtkoiknmijjiicaaGreatDoor
