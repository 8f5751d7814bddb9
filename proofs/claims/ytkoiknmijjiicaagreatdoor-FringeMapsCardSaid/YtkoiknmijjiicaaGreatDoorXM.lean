import Derived.Test.YtkoiknmijjiicaaGreatDoorXA
import Derived.Test.YtkoiknmijjiicaaGreatDoorXB
import Derived.Test.YtkoiknmijjiicaaGreatDoorXE
import Derived.Test.YtkoiknmijjiicaaGreatDoorXF
/- Chapter 4, plain: what is made of the phases of all pixels of some maps. -/
namespace Go.Proofs.YtkoiknmijjiicaaGreatDoor
set_option linter.unusedVariables false
set_option linter.unusedSimpArgs false
open Go.RowKit Ntt
/-- A map, and where it lies. -/
structure MapD where
  R : Int
  C : Int
  zs : List Int
  v : Value
/-- The error of the first wrong map of n ones. -/
def errTo (M : Nat → MapD) : Nat → Int
  | 0 => 0
  | k + 1 => if errTo M k ≠ 0 then errTo M k else (mapE (M k).R (M k).C (M k).zs).2
def otherB (M : Nat → MapD) (k : Nat) : Bool := decide ((M k).R ≠ (M 0).R) || decide ((M k).C ≠ (M 0).C)
def difT (M : Nat → MapD) (n : Nat) : Bool := (List.range n).any (otherB M)
/-- The error of n maps together. -/
def togE (M : Nat → MapD) (n : Nat) : Int := if errTo M n ≠ 0 then errTo M n else if difT M n then 13 else 0
theorem errTo_zero {M : Nat → MapD} : ∀ {n : Nat}, errTo M n = 0 → ∀ k, k < n → (mapE (M k).R (M k).C (M k).zs).2 = 0
  | 0, _, k, hk => by omega
  | n + 1, h, k, hk => by
    rw [errTo] at h
    split at h
    · exact absurd h ‹_›
    · rename_i h0
      rcases Nat.lt_succ_iff_lt_or_eq.1 hk with h1 | rfl
      · exact errTo_zero (by simpa using h0) k h1
      · exact h
theorem errTo_ok {M : Nat → MapD} : ∀ {n : Nat}, (∀ k, k < n → (mapE (M k).R (M k).C (M k).zs).2 = 0) → errTo M n = 0
  | 0, _ => rfl
  | n + 1, h => by
    rw [errTo, errTo_ok (n := n) (fun k hk => h k (by omega))]
    simpa using h n (Nat.lt_succ_self n)
theorem errTo_hit {M : Nat → MapD} {k : Nat} (h0 : errTo M k = 0) (h : (mapE (M k).R (M k).C (M k).zs).2 ≠ 0) : ∀ {n : Nat}, k < n → errTo M n = (mapE (M k).R (M k).C (M k).zs).2
  | 0, hk => by omega
  | n + 1, hk => by
    rcases Nat.lt_succ_iff_lt_or_eq.1 hk with h1 | rfl
    · rw [errTo, errTo_hit h0 h h1, if_pos h]
    · rw [errTo, h0]; simp
theorem difT_hit {M : Nat → MapD} {n k : Nat} (hk : k < n) (h : otherB M k = true) : difT M n = true := by
  unfold difT
  rw [List.any_eq_true]
  exact ⟨k, List.mem_range.2 hk, h⟩
theorem difT_no {M : Nat → MapD} {n : Nat} (h : ∀ k, k < n → otherB M k = false) : difT M n = false := by
  unfold difT
  rw [List.any_eq_false]
  intro k hk
  rw [h k (List.mem_range.1 hk)]
  decide
theorem difT_off {M : Nat → MapD} {n k : Nat} (h : difT M n = false) (hk : k < n) : (M k).R = (M 0).R ∧ (M k).C = (M 0).C := by
  unfold difT at h
  rw [List.any_eq_false] at h
  have := h k (List.mem_range.2 hk)
  unfold otherB at this
  simpa using this
theorem togE_zero {M : Nat → MapD} {n : Nat} (h : togE M n = 0) (h0 : 0 < n) : ∃ R C : Nat, ∀ k, k < n → (M k).R = R ∧ (M k).C = C ∧ MapOk R C (M k).zs := by
  unfold togE at h
  split at h
  · exact absurd h ‹_›
  · rename_i h1
    split at h
    · exact absurd h (by decide)
    · rename_i h2
      have he := errTo_zero (by simpa using h1 : errTo M n = 0)
      have hd : ∀ k, k < n → _ := fun k hk => difT_off (by simpa using h2 : difT M n = false) hk
      obtain ⟨R, C, hR, hC, -⟩ := mapE_zero (he 0 h0)
      refine ⟨R, C, fun k hk => ?_⟩
      obtain ⟨R', C', hR', hC', hm⟩ := mapE_zero (he k hk)
      obtain ⟨e1, e2⟩ := hd k hk
      have q1 : R' = R := by omega
      have q2 : C' = C := by omega
      subst q1 q2
      exact ⟨hR', hC', hm⟩
/-- The phases of pixel i. -/
def colP (Z : Nat → List Int) (n i : Nat) : List Int := (List.range n).map fun k => intAt (Z k) i
theorem colP_len (Z : Nat → List Int) (n i : Nat) : (colP Z n i).length = n := by simp [colP]
theorem colP_succ (Z : Nat → List Int) (n i : Nat) : colP Z (n + 1) i = colP Z n i ++ [intAt (Z n) i] := by simp [colP, List.range_succ]
theorem colP_at (Z : Nat → List Int) {n i k : Nat} (h : k < n) : intAt (colP Z n i) k = intAt (Z k) i := by
  unfold colP
  show ((List.range n).map _)[k]?.getD 0 = _
  simp [h]
def voidL (l : List Int) : Bool := decide (1000000000000 ∈ l)
def eachF (G : List Int → Int) (Z : Nat → List Int) (n i : Nat) : Int := if voidL (colP Z n i) then 1000000000000 else G (colP Z n i)
def eachL (G : List Int → Int) (Z : Nat → List Int) (n N : Nat) : List Int := (List.range N).map (eachF G Z n)
theorem eachL_len (G : List Int → Int) (Z : Nat → List Int) (n N : Nat) : (eachL G Z n N).length = N := by simp [eachL]
theorem eachL_succ (G : List Int → Int) (Z : Nat → List Int) (n N : Nat) : eachL G Z n (N + 1) = eachL G Z n N ++ [eachF G Z n N] := by simp [eachL, List.range_succ]
theorem intAt_range (F : Nat → Int) {N i : Nat} (h : i < N) : intAt ((List.range N).map F) i = F i := by
  unfold intAt
  simp [h]
/-- The wrapped sum of a phase, and of another one times a number. -/
def combF (xs ys : List Int) (t : Int) (i : Nat) : Int := if intAt xs i = 1000000000000 ∨ intAt ys i = 1000000000000 then 1000000000000 else wrP (intAt xs i + t * intAt ys i)
def combL (xs ys : List Int) (t : Int) : List Int := (List.range xs.length).map (combF xs ys t)
theorem combL_len (xs ys : List Int) (t : Int) : (combL xs ys t).length = xs.length := by simp [combL]
theorem combL_at {xs ys : List Int} {t : Int} {i : Nat} (h : i < xs.length) : intAt (combL xs ys t) i = combF xs ys t i := intAt_range _ h
theorem wrP_ok (n : Int) : phOk (wrP n) = true := by
  have := wrP_bd n
  unfold phOk inE
  simp
  omega
theorem combF_ok (xs ys : List Int) (t : Int) (i : Nat) : phOk (combF xs ys t i) = true := by
  unfold combF
  split
  · decide
  · exact wrP_ok _
theorem comb_ok {R C : Nat} {xs : List Int} (h : MapOk R C xs) (ys : List Int) (t : Int) : MapOk R C (combL xs ys t) :=
  ⟨by rw [combL_len]; exact h.len, h.r1, h.r2, h.c1, h.c2, fun k hk => by rw [combL_len] at hk; rw [combL_at hk]; exact combF_ok _ _ _ _⟩
theorem wrP_nv (n : Int) : wrP n ≠ 1000000000000 := by have := wrP_bd n; omega
theorem combF_nv {xs ys : List Int} {t : Int} {i : Nat} : combF xs ys t i = 1000000000000 ↔ intAt xs i = 1000000000000 ∨ intAt ys i = 1000000000000 := by
  unfold combF
  split
  · rename_i h; exact ⟨fun _ => h, fun _ => rfl⟩
  · rename_i h; exact ⟨fun e => absurd e (wrP_nv _), fun e => absurd e h⟩
theorem comb_back (xs ys : List Int) {i : Nat} (h : i < xs.length) : combF (combL xs ys (-1)) ys 1 i = if intAt xs i = 1000000000000 ∨ intAt ys i = 1000000000000 then 1000000000000 else wrP (intAt xs i) := by
  unfold combF
  rw [combL_at h]
  by_cases h1 : intAt xs i = 1000000000000 ∨ intAt ys i = 1000000000000
  · rw [if_pos (Or.inl (combF_nv.2 h1)), if_pos h1]
  · rw [if_neg (fun h => h.elim (fun e => h1 (combF_nv.1 e)) (fun e => h1 (Or.inr e))), if_neg h1]
    unfold combF
    rw [if_neg h1]
    unfold wrP
    omega
theorem comb_three (xs ys us : List Int) {i : Nat} (h : i < xs.length) : combF (combL xs ys 1) us (-1) i = if (intAt xs i = 1000000000000 ∨ intAt ys i = 1000000000000) ∨ intAt us i = 1000000000000 then 1000000000000 else wrP (intAt xs i + intAt ys i - intAt us i) := by
  unfold combF
  rw [combL_at h]
  by_cases h1 : (intAt xs i = 1000000000000 ∨ intAt ys i = 1000000000000) ∨ intAt us i = 1000000000000
  · rw [if_pos (h1.elim (fun e => Or.inl (combF_nv.2 e)) Or.inr), if_pos h1]
  · rw [if_neg (fun h => h1 (h.elim (fun e => Or.inl (combF_nv.1 e)) Or.inr)), if_neg h1]
    unfold combF
    rw [if_neg (fun e => h1 (Or.inl e))]
    unfold wrP
    omega
/-- What the closures of Difference, Total and Closure make of phases. -/
def gDif (p : List Int) : Int := wrP (intAt p 0 - intAt p 1)
def gTot (p : List Int) : Int := wrP (intAt p 0 + intAt p 1)
def gClo (p : List Int) : Int := wrP (intAt p 0 + intAt p 1 - intAt p 2)
def gOne (p : List Int) : Int := wrP (intAt p 0)
theorem col1 (Z : Nat → List Int) (i : Nat) : colP Z 1 i = [intAt (Z 0) i] := rfl
theorem col2 (Z : Nat → List Int) (i : Nat) : colP Z 2 i = [intAt (Z 0) i, intAt (Z 1) i] := rfl
theorem col3 (Z : Nat → List Int) (i : Nat) : colP Z 3 i = [intAt (Z 0) i, intAt (Z 1) i, intAt (Z 2) i] := rfl
theorem range_ext {N : Nat} {f g : Nat → Int} (h : ∀ i, i < N → f i = g i) : (List.range N).map f = (List.range N).map g := List.map_congr_left fun i hi => h i (List.mem_range.1 hi)
theorem each_dif {Z : Nat → List Int} {N : Nat} (h : (Z 0).length = N) : eachL gDif Z 2 N = combL (Z 0) (Z 1) (-1) := by
  subst h
  refine range_ext fun i _ => ?_
  unfold eachF combF voidL gDif
  rw [col2]
  simp only [List.mem_cons, List.not_mem_nil, or_false, decide_eq_true_eq, eq_comm (a := (1000000000000 : Int))]
  split
  · rfl
  · show wrP (intAt (Z 0) i - intAt (Z 1) i) = _
    congr 1
    omega
theorem each_tot {Z : Nat → List Int} {N : Nat} (h : (Z 0).length = N) : eachL gTot Z 2 N = combL (Z 0) (Z 1) 1 := by
  subst h
  refine range_ext fun i _ => ?_
  unfold eachF combF voidL gTot
  rw [col2]
  simp only [List.mem_cons, List.not_mem_nil, or_false, decide_eq_true_eq, eq_comm (a := (1000000000000 : Int))]
  split
  · rfl
  · show wrP (intAt (Z 0) i + intAt (Z 1) i) = _
    congr 1
    omega
theorem each_clo {Z : Nat → List Int} {N : Nat} (h : (Z 0).length = N) : eachL gClo Z 3 N = combL (combL (Z 0) (Z 1) 1) (Z 2) (-1) := by
  subst h
  unfold combL
  rw [show ((List.range (Z 0).length).map (combF (Z 0) (Z 1) 1)).length = (Z 0).length by simp]
  refine range_ext fun i hi => ?_
  have := comb_three (Z 0) (Z 1) (Z 2) hi
  unfold combL at this
  rw [this]
  unfold eachF voidL gClo
  rw [col3]
  simp only [List.mem_cons, List.not_mem_nil, or_false, decide_eq_true_eq, eq_comm (a := (1000000000000 : Int)), or_assoc]
  split
  · rfl
  · rfl
def wrapL (xs : List Int) : List Int := (List.range xs.length).map fun i => if intAt xs i = 1000000000000 then 1000000000000 else wrP (intAt xs i)
theorem each_one {Z : Nat → List Int} {N : Nat} (h : (Z 0).length = N) : eachL gOne Z 1 N = wrapL (Z 0) := by
  subst h
  refine range_ext fun i _ => ?_
  unfold eachF voidL gOne
  rw [col1]
  simp only [List.mem_cons, List.not_mem_nil, or_false, decide_eq_true_eq, eq_comm (a := (1000000000000 : Int))]
  split
  · rfl
  · rfl
theorem each_ok {R C : Nat} {G : List Int → Int} {Z : Nat → List Int} {n : Nat} (hG : ∀ p, phOk (G p) = true) (h : MapOk R C (Z 0)) : MapOk R C (eachL G Z n (R * C)) :=
  ⟨eachL_len _ _ _ _, h.r1, h.r2, h.c1, h.c2, fun k hk => by
    rw [eachL_len] at hk
    rw [show intAt (eachL G Z n (R * C)) k = eachF G Z n k from intAt_range _ hk]
    unfold eachF
    split
    · decide
    · exact hG _⟩
end Go.Proofs.YtkoiknmijjiicaaGreatDoor

/- Chapter 4: some maps together. -/
namespace Go.Proofs.YtkoiknmijjiicaaGreatDoor
set_option linter.unusedVariables false
set_option linter.unusedSimpArgs false
open Go.RowKit Ntt
def hasP (l : List Int) (x : Int) : Bool := decide (x ∈ l)
theorem hasP_hit {l : List Int} {x : Int} {k : Nat} (hk : k < l.length) (h : x = intAt l k) : hasP l x = true := by
  unfold hasP
  have : l[k]? = some (intAt l k) := by unfold intAt; simp [hk]
  rw [decide_eq_true_eq, h]
  exact List.mem_of_getElem? this
theorem hasP_no {l : List Int} {x : Int} (h : ∀ k, k < l.length → x ≠ intAt l k) : hasP l x = false := by
  unfold hasP
  rw [decide_eq_false_iff_not]
  intro hm
  obtain ⟨k, hk, rfl⟩ := List.mem_iff_getElem.1 hm
  exact h k hk (by unfold intAt; simp [hk])
set_option maxHeartbeats 1000000 in
theorem index_i (zs : List Int) (v : Value) (x : Int) (w : World) (hl : zs.length ≤ 100000) (hv : IntsV w v zs) :
    Calls Tryz.prog 154 #[v, .int .i64 x] w fun e w' => ∃ i : Int, e = .returned (.int .i64 i) ∧ decide (0 ≤ i) = hasP zs x ∧ (-1 ≤ i ∧ i ≤ 100000) ∧ w = w' := by
  obtain ⟨-, a, cap, rfl, h4⟩ := hv
  have H4 := Lib.hid h4
  have HN := Lib.hid (hasP_no (l := zs) (x := x))
  have HH := Lib.hid (fun k => hasP_hit (l := zs) (x := x) (k := k))
  obtain ⟨n, hn⟩ : ∃ n, zs.length = n := ⟨_, rfl⟩
  rw [hn] at hl H4 HN HH ⊢
  clear h4
  go_enter Tryz.func154, Tryz.ntmps154
  go_wp2
  go_loop [8] (fun i => ∃ k : Nat, k ≤ n ∧ i = .int .i64 k ∧ ∀ j, j < k → x ≠ intAt zs j) (fun i => n - (intOf i).toNat)
  case atStart => exact ⟨0, Nat.zero_le _, rfl, fun j hj => absurd hj (Nat.not_lt_zero _)⟩
  case round =>
    obtain ⟨k, hk, rfl, hz⟩ := hrel
    have HZ := Lib.hid hz
    clear hz
    by_cases hlt : k < n
    · have hdk : decide ((k : Int) < (n : Int)) = true := by simp; omega
      obtain ⟨b, off, rfl, hbw, hc⟩ := H4.out (by omega)
      have ck := hc k hlt
      clear hc
      by_cases h0 : x = intAt zs k
      · have HT := Lib.hid (HH.out k hlt h0)
        have hq : (x == intAt zs k) = true := by simpa using h0
        clear h0 HZ
        generalize intAt zs k = p at *
        go_wp2
        go_ret
        exact ⟨k, rfl, by rw [HT.out]; simp, by omega, rfl⟩
      · have H0 := Lib.hid h0
        have hq : (x == intAt zs k) = false := by simpa using h0
        clear h0
        generalize intAt zs k = p at ck hq
        go_wp2
        go_round
        case rel => exact ⟨k + 1, by omega, by go_num, fun j hj => by rcases Nat.lt_succ_iff_lt_or_eq.1 hj with h | rfl; exact HZ.out j h; exact H0.out⟩
        case measure => simp [intOf]; omega
    · obtain rfl : k = n := by omega
      have hdk : decide ((k : Int) < (k : Int)) = false := by simp
      have HT := Lib.hid (HN.out HZ.out)
      clear HZ
      go_wp2
      go_ret
      exact ⟨-1, rfl, by rw [HT.out]; decide, by omega, rfl⟩
set_option maxHeartbeats 1000000 in
theorem contains_i (zs : List Int) (v : Value) (x : Int) (w : World) (hl : zs.length ≤ 100000) (hv : IntsV w v zs) {c : Bool} (hc : hasP zs x = c) :
    Calls Tryz.prog 132 #[v, .int .i64 x] w fun e w' => e = .returned (.bool c) ∧ w = w' := by
  have HI := Lib.hid (index_i zs v x w hl hv)
  rw [hc] at HI
  obtain ⟨-, a, cap, rfl, -⟩ := hv
  clear hc
  go_enter Tryz.func132, Tryz.ntmps132
  go_wp2_with (first | (go_at_call 154; (with_reducible refine (HI.out).mono ?_); rintro e w' ⟨i, rfl, hc, ⟨hi1, hi2⟩, rfl⟩; have HC := Lib.hid hc; clear hc))
  go_ret
  exact ⟨ret_bool HC.out, rfl⟩
/-- Some maps in a row. -/
def MapsAt (W : World) (g n : Nat) (M : Nat → MapD) : Prop := ∀ k, k < n → (W.cell? ⟨g, k * 3, none⟩ = some (.int .i64 (M k).R) ∧ W.cell? ⟨g, k * 3 + 1, none⟩ = some (.int .i64 (M k).C) ∧ W.cell? ⟨g, k * 3 + 2, none⟩ = some (M k).v) ∧ IntsV W (M k).v (M k).zs ∧ (M k).zs.length ≤ 100000
theorem MapsAt.below {W W' : World} {g n : Nat} {M : Nat → MapD} (h : MapsAt W g n M) (hg : g < W.heap.size) (hb : Below W.heap.size W W') : MapsAt W' g n M := fun k hk => by
  obtain ⟨⟨h1, h2, h3⟩, h4, h5⟩ := h k hk
  exact ⟨⟨(hb.cell (p := ⟨g, k * 3, none⟩) hg).trans h1, (hb.cell (p := ⟨g, k * 3 + 1, none⟩) hg).trans h2, (hb.cell (p := ⟨g, k * 3 + 2, none⟩) hg).trans h3⟩, h4.below hb, h5⟩
set_option maxHeartbeats 1000000 in
theorem tog1 (R C R0 C0 : Int) (a : Option Addr) (m mc p g n cap : Nat) (w : World) (hp : p < w.heap.size) (hg : g < w.heap.size) (hn : 0 < n) (hn2 : n ≤ 100) (cp : w.cell? ⟨p, 0, none⟩ = some (.slice (some ⟨g, 0, none⟩) n cap)) (c0 : w.cell? ⟨g, 0, none⟩ = some (.int .i64 R0)) (c1 : w.cell? ⟨g, 1, none⟩ = some (.int .i64 C0))
    {c : Bool} (hc : (decide (R ≠ R0) || decide (C ≠ C0)) = c) : Calls Tryz.prog 131 #[.agg #[.int .i64 R, .int .i64 C, .slice a m mc], .pointer (some ⟨p, 0, none⟩)] w fun e w' => e = .returned (.bool c) ∧ Below w.heap.size w w' := by
  subst hc
  have hn0 : (0 : Int) < (n : Int) := by omega
  by_cases h1 : R = R0
  · have d1 : (R != R0) = false := by simpa using h1
    by_cases h2 : C = C0
    · have d2 : (C != C0) = false := by simpa using h2
      rw [show (decide (R ≠ R0) || decide (C ≠ C0)) = false by simp [h1, h2]]
      clear h1 h2
      go_enter Tryz.func131, Tryz.ntmps131
      go_wp2
      refine wp_region_calm (by kernel_rfl) (by kernel_rfl) ?_
      repeat (go_big_quiet_step (fail))
      refine wpQuiet_nil ?_
      rintro _ ⟨pp, rfl⟩
      go_wp2
      go_ret
      exact ⟨rfl, (by (repeat' (first | with_reducible exact Below.refl _ _ | (with_reducible refine below_later_of ?_ ?_ _) | (with_reducible refine Below.alloc ?_ ?_ _) | (with_reducible refine Below.setCell ?_ ?_ _) | (with_reducible refine Below.drew ?_) | (simp; done) | (simp; omega) | omega)))⟩
    · have d2 : (C != C0) = true := by simpa using h2
      rw [show (decide (R ≠ R0) || decide (C ≠ C0)) = true by simp [h2]]
      clear h1 h2
      go_enter Tryz.func131, Tryz.ntmps131
      go_wp2
      refine wp_region_calm (by kernel_rfl) (by kernel_rfl) ?_
      repeat (go_big_quiet_step (fail))
      refine wpQuiet_nil ?_
      rintro _ ⟨pp, rfl⟩
      go_wp2
      go_ret
      exact ⟨rfl, (by (repeat' (first | with_reducible exact Below.refl _ _ | (with_reducible refine below_later_of ?_ ?_ _) | (with_reducible refine Below.alloc ?_ ?_ _) | (with_reducible refine Below.setCell ?_ ?_ _) | (with_reducible refine Below.drew ?_) | (simp; done) | (simp; omega) | omega)))⟩
  · have d1 : (R != R0) = true := by simpa using h1
    rw [show (decide (R ≠ R0) || decide (C ≠ C0)) = true by simp [h1]]
    clear h1
    go_enter Tryz.func131, Tryz.ntmps131
    go_wp2
    refine wp_region_calm (by kernel_rfl) (by kernel_rfl) ?_
    repeat (go_big_quiet_step (fail))
    refine wpQuiet_nil ?_
    rintro _ ⟨pp, rfl⟩
    go_wp2
    go_ret
    exact ⟨rfl, (by (repeat' (first | with_reducible exact Below.refl _ _ | (with_reducible refine below_later_of ?_ ?_ _) | (with_reducible refine Below.alloc ?_ ?_ _) | (with_reducible refine Below.setCell ?_ ?_ _) | (with_reducible refine Below.drew ?_) | (simp; done) | (simp; omega) | omega)))⟩
set_option maxHeartbeats 1000000 in
theorem indexFunc_t (M : Nat → MapD) (p g n cap cap' : Nat) (w : World) (hp : p < w.heap.size) (hg : g < w.heap.size) (hn : 0 < n) (hn2 : n ≤ 100) (cp : w.cell? ⟨p, 0, none⟩ = some (.slice (some ⟨g, 0, none⟩) n cap)) (hM : MapsAt w g n M) :
    Calls Tryz.prog 153 #[.slice (some ⟨g, 0, none⟩) n cap', .func (.func 131) #[] #[.pointer (some ⟨p, 0, none⟩)]] w fun e w' => ∃ i : Int, e = .returned (.int .i64 i) ∧ decide (0 ≤ i) = difT M n ∧ (-1 ≤ i ∧ i ≤ 100000) ∧ Below w.heap.size w w' := by
  have HF := Lib.hid hM
  have CP := Lib.hid cp
  clear hM cp
  go_enter Tryz.func153, Tryz.ntmps153
  go_wp2
  go_loopw [8] (fun i wr => ∃ k : Nat, k ≤ n ∧ i = .int .i64 k ∧ Below w.heap.size w wr ∧ ∀ j, j < k → otherB M j = false) (fun i _ => n - (intOf i).toNat)
  case atStart => exact ⟨0, Nat.zero_le _, rfl, Below.refl _ _, fun j hj => absurd hj (Nat.not_lt_zero _)⟩
  case round =>
    obtain ⟨k, hk, rfl, hbe, hz⟩ := hrel
    have HZ := Lib.hid hz
    have HB := Lib.hid hbe
    have hsz := hbe.size
    by_cases hlt : k < n
    · have hdk : decide ((k : Int) < (n : Int)) = true := by simp; omega
      have hk0 : (0 : Int) ≤ (k : Int) := by omega
      have hk1 : (k : Int) < (n : Int) := by omega
      obtain ⟨⟨x0, x1, x2⟩, hv, -⟩ := HF.out k hlt
      obtain ⟨⟨y0, y1, -⟩, -, -⟩ := HF.out 0 hn
      have c1 := (hbe.cell (p := ⟨g, k * 3, none⟩) hg).trans x0
      have c2 := (hbe.cell (p := ⟨g, k * 3 + 1, none⟩) hg).trans x1
      have c3 := (hbe.cell (p := ⟨g, k * 3 + 2, none⟩) hg).trans x2
      have hgr : g < wr.heap.size := by omega
      obtain ⟨-, a, mc, hve, -⟩ := hv
      rw [hve] at c3
      obtain ⟨q, hq⟩ : ∃ q, otherB M k = q := ⟨_, rfl⟩
      have HP := Lib.hid (show ∀ W, Below wr.heap.size wr W → _ from fun W hW => tog1 (M k).R (M k).C (M 0).R (M 0).C a (M k).zs.length mc p g n cap W (by have := hW.size; omega) (by have := hW.size; omega) hn hn2
        ((hbe.trans (hW.mono hsz)).cell (p := ⟨p, 0, none⟩) hp |>.trans CP.out) ((hbe.trans (hW.mono hsz)).cell (p := ⟨g, 0, none⟩) hg |>.trans (by simpa using y0)) ((hbe.trans (hW.mono hsz)).cell (p := ⟨g, 1, none⟩) hg |>.trans (by simpa using y1)) hq)
      have HQ := Lib.hid hq
      clear hz hbe x0 x1 x2 y0 y1 hq hve
      generalize (M k).R = R at *
      generalize (M k).C = C at *
      generalize (M k).zs.length = l at *
      cases q
      · go_wp2_with (first | (go_at_call 131; (with_reducible refine (HP.out _ (by (repeat' (first | with_reducible exact Below.refl _ _ | (with_reducible refine below_later_of ?_ ?_ _) | (with_reducible refine Below.alloc ?_ ?_ _) | (with_reducible refine Below.setCell ?_ ?_ _) | (with_reducible refine Below.drew ?_) | (simp; done) | (simp; omega) | omega)))).mono ?_); rintro e w' ⟨rfl, hb⟩; obtain ⟨p1, rfl⟩ := later_of_below hb; clear hb))
        go_roundw
        case rel => exact ⟨k + 1, by omega, by go_num, HB.out.trans (below_mono_of hsz (by (repeat' (first | with_reducible exact Below.refl _ _ | (with_reducible refine below_later_of ?_ ?_ _) | (with_reducible refine Below.alloc ?_ ?_ _) | (with_reducible refine Below.setCell ?_ ?_ _) | (with_reducible refine Below.drew ?_) | (simp; done) | (simp; omega) | omega)))), fun j hj => by rcases Nat.lt_succ_iff_lt_or_eq.1 hj with h | rfl; exact HZ.out j h; exact HQ.out⟩
        case measure => simp [intOf]; omega
      · have H0 := Lib.hid (difT_hit hlt HQ.out)
        go_wp2_with (first | (go_at_call 131; (with_reducible refine (HP.out _ (by (repeat' (first | with_reducible exact Below.refl _ _ | (with_reducible refine below_later_of ?_ ?_ _) | (with_reducible refine Below.alloc ?_ ?_ _) | (with_reducible refine Below.setCell ?_ ?_ _) | (with_reducible refine Below.drew ?_) | (simp; done) | (simp; omega) | omega)))).mono ?_); rintro e w' ⟨rfl, hb⟩; obtain ⟨p1, rfl⟩ := later_of_below hb; clear hb))
        go_ret
        exact ⟨k, rfl, by rw [H0.out]; simp, by omega, HB.out.trans (below_mono_of hsz (by (repeat' (first | with_reducible exact Below.refl _ _ | (with_reducible refine below_later_of ?_ ?_ _) | (with_reducible refine Below.alloc ?_ ?_ _) | (with_reducible refine Below.setCell ?_ ?_ _) | (with_reducible refine Below.drew ?_) | (simp; done) | (simp; omega) | omega))))⟩
    · obtain rfl : k = n := by omega
      have hdk : decide ((k : Int) < (k : Int)) = false := by simp
      have H0 := Lib.hid (difT_no hz)
      clear hz hbe
      go_wp2
      go_ret
      exact ⟨-1, rfl, by rw [H0.out]; decide, by omega, HB.out⟩
set_option maxHeartbeats 1000000 in
theorem containsFunc_t (M : Nat → MapD) (p g n cap cap' : Nat) (w : World) (hp : p < w.heap.size) (hg : g < w.heap.size) (hn : 0 < n) (hn2 : n ≤ 100) (cp : w.cell? ⟨p, 0, none⟩ = some (.slice (some ⟨g, 0, none⟩) n cap)) (hM : MapsAt w g n M) {c : Bool} (hc : difT M n = c) :
    Calls Tryz.prog 130 #[.slice (some ⟨g, 0, none⟩) n cap', .func (.func 131) #[] #[.pointer (some ⟨p, 0, none⟩)]] w fun e w' => e = .returned (.bool c) ∧ Below w.heap.size w w' := by
  have HI := Lib.hid (indexFunc_t M p g n cap cap' w hp hg hn hn2 cp hM)
  rw [hc] at HI
  clear hM hc
  go_enter Tryz.func130, Tryz.ntmps130
  go_wp2_with (first | (go_at_call 153; (with_reducible refine (HI.out).mono ?_); rintro e w' ⟨i, rfl, hc, ⟨hi1, hi2⟩, hb⟩; have HC := Lib.hid hc; clear hc; obtain ⟨p1, rfl⟩ := later_of_below hb; clear hb))
  go_ret
  exact ⟨ret_bool HC.out, (by (repeat' (first | with_reducible exact Below.refl _ _ | (with_reducible refine below_later_of ?_ ?_ _) | (with_reducible refine Below.alloc ?_ ?_ _) | (with_reducible refine Below.setCell ?_ ?_ _) | (with_reducible refine Below.drew ?_) | (simp; done) | (simp; omega) | omega)))⟩
set_option maxRecDepth 20000 in
set_option maxHeartbeats 2000000 in
theorem together_any (M : Nat → MapD) (g n cap : Nat) (w : World) (hg : g < w.heap.size) (hn : 0 < n) (hn2 : n ≤ 100) (hM : MapsAt w g n M) {e0 : Int} (he : togE M n = e0) :
    Calls Tryz.prog 104 #[.slice (some ⟨g, 0, none⟩) n cap] w fun e w' => e = .returned (.int .i64 e0) ∧ Below w.heap.size w w' := by
  have HF := Lib.hid hM
  have HE := Lib.hid he
  clear hM he
  go_enter Tryz.func104, Tryz.ntmps104
  go_wp2
  refine any_worldF (fun W => W.cell? ⟨w.heap.size, 0, none⟩ = some (.slice (some ⟨g, 0, none⟩) n cap) ∧ Below w.heap.size w W ∧ w.heap.size < W.heap.size) ⟨by simp [go_sem], (by (repeat' (first | with_reducible exact Below.refl _ _ | (with_reducible refine below_later_of ?_ ?_ _) | (with_reducible refine Below.alloc ?_ ?_ _) | (with_reducible refine Below.setCell ?_ ?_ _) | (with_reducible refine Below.drew ?_) | (simp; done) | (simp; omega) | omega))), by simp⟩ ?_
  rintro W1 ⟨k0, hb1, hl1⟩
  have HB1 := Lib.hid hb1
  have K0 := Lib.hid k0
  have hs1 := hb1.size
  clear hb1
  go_wp2
  go_loopw [8] (fun i wr => ∃ k : Nat, k ≤ n ∧ i = .int .i64 k ∧ Below W1.heap.size W1 wr ∧ errTo M k = 0) (fun i _ => n - (intOf i).toNat)
  case atStart => exact ⟨0, Nat.zero_le _, rfl, Below.refl _ _, rfl⟩
  case round =>
    clear k0
    obtain ⟨k, hk, rfl, hbe, hz⟩ := hrel
    have HZ := Lib.hid hz
    have HB := Lib.hid hbe
    have hsz := hbe.size
    have hbw := HB1.out.trans (hbe.mono hs1)
    by_cases hlt : k < n
    · have hdk : decide ((k : Int) < (n : Int)) = true := by simp; omega
      have hk0 : (0 : Int) ≤ (k : Int) := by omega
      have hk1 : (k : Int) < (n : Int) := by omega
      obtain ⟨⟨x0, x1, x2⟩, hv, hln⟩ := HF.out k hlt
      have c1 := (hbw.cell (p := ⟨g, k * 3, none⟩) hg).trans x0
      have c2 := (hbw.cell (p := ⟨g, k * 3 + 1, none⟩) hg).trans x1
      have c3 := (hbw.cell (p := ⟨g, k * 3 + 2, none⟩) hg).trans x2
      have hgr : g < wr.heap.size := by omega
      have hv' := hv.below hbw
      obtain ⟨q, hq⟩ : ∃ q, (mapE (M k).R (M k).C (M k).zs).2 = q := ⟨_, rfl⟩
      have HME := Lib.hid (show ∀ W, Below wr.heap.size wr W → _ from fun W hW => mapErr_any (M k).R (M k).C (M k).zs _ W hln (hv'.below hW) hq)
      obtain ⟨-, a, mc, hve, -⟩ := hv
      rw [hve] at c3 HME
      have HQ := Lib.hid hq
      clear hz hbe x0 x1 x2 hq hve hbw hv'
      by_cases h0 : q = 0
      · subst h0
        have HS := Lib.hid (show errTo M (k + 1) = 0 by rw [errTo, HZ.out, HQ.out]; rfl)
        clear HQ
        generalize (M k).R = R at *
        generalize (M k).C = C at *
        generalize (M k).zs.length = l at *
        go_wp2_with (first | (go_at_call 58; (with_reducible refine (HME.out _ (by (repeat' (first | with_reducible exact Below.refl _ _ | (with_reducible refine below_later_of ?_ ?_ _) | (with_reducible refine Below.alloc ?_ ?_ _) | (with_reducible refine Below.setCell ?_ ?_ _) | (with_reducible refine Below.drew ?_) | (simp; done) | (simp; omega) | omega)))).mono ?_); rintro e w' ⟨rfl, hb⟩; obtain ⟨p1, rfl⟩ := later_of_below hb; clear hb))
        go_roundw
        case rel => exact ⟨k + 1, by omega, by go_num, HB.out.trans (below_mono_of hsz (by (repeat' (first | with_reducible exact Below.refl _ _ | (with_reducible refine below_later_of ?_ ?_ _) | (with_reducible refine Below.alloc ?_ ?_ _) | (with_reducible refine Below.setCell ?_ ?_ _) | (with_reducible refine Below.drew ?_) | (simp; done) | (simp; omega) | omega)))), HS.out⟩
        case measure => simp [intOf]; omega
      · have hne : (q != 0) = true := by simpa using h0
        have hE : q = e0 := by
          have h1 := errTo_hit (n := n) HZ.out (by rw [HQ.out]; exact h0) hlt
          rw [HQ.out] at h1
          have h2 := HE.out
          unfold togE at h2
          rw [h1, if_pos h0] at h2
          exact h2
        subst hE
        clear h0 HQ HE
        generalize (M k).R = R at *
        generalize (M k).C = C at *
        generalize (M k).zs.length = l at *
        go_wp2_with (first | (go_at_call 58; (with_reducible refine (HME.out _ (by (repeat' (first | with_reducible exact Below.refl _ _ | (with_reducible refine below_later_of ?_ ?_ _) | (with_reducible refine Below.alloc ?_ ?_ _) | (with_reducible refine Below.setCell ?_ ?_ _) | (with_reducible refine Below.drew ?_) | (simp; done) | (simp; omega) | omega)))).mono ?_); rintro e w' ⟨rfl, hb⟩; obtain ⟨p1, rfl⟩ := later_of_below hb; clear hb))
        go_ret
        exact ⟨rfl, HB1.out.trans ((HB.out.trans (below_mono_of hsz (by (repeat' (first | with_reducible exact Below.refl _ _ | (with_reducible refine below_later_of ?_ ?_ _) | (with_reducible refine Below.alloc ?_ ?_ _) | (with_reducible refine Below.setCell ?_ ?_ _) | (with_reducible refine Below.drew ?_) | (simp; done) | (simp; omega) | omega))))).mono hs1)⟩
    · obtain rfl : k = n := by omega
      have hdk : decide ((k : Int) < (k : Int)) = false := by simp
      have k0 := (hbe.cell (p := ⟨w.heap.size, 0, none⟩) hl1).trans K0.out
      obtain ⟨q, hq⟩ : ∃ q, difT M k = q := ⟨_, rfl⟩
      have HCF := Lib.hid (show ∀ W, Below wr.heap.size wr W → _ from fun W hW => containsFunc_t M w.heap.size g k cap cap W (by have := hW.size; omega) (by have := hW.size; omega) hn hn2 ((hW.cell (p := ⟨w.heap.size, 0, none⟩) (show w.heap.size < wr.heap.size by omega)).trans k0) (HF.out.below hg (hbw.trans (hW.mono (by omega)))) hq)
      have hE : (if q then 13 else 0 : Int) = e0 := by
        have h2 := HE.out
        unfold togE at h2
        rw [HZ.out, hq] at h2
        simpa using h2
      clear hz hbe hq hbw HE
      cases q
      · simp only [Bool.false_eq_true, if_false] at hE
        subst hE
        go_wp2_with (first | (go_at_call 130; (with_reducible refine (HCF.out _ (by (repeat' (first | with_reducible exact Below.refl _ _ | (with_reducible refine below_later_of ?_ ?_ _) | (with_reducible refine Below.alloc ?_ ?_ _) | (with_reducible refine Below.setCell ?_ ?_ _) | (with_reducible refine Below.drew ?_) | (simp; done) | (simp; omega) | omega)))).mono ?_); rintro e w' ⟨rfl, hb⟩; obtain ⟨p1, rfl⟩ := later_of_below hb; clear hb))
        go_ret
        exact ⟨rfl, HB1.out.trans ((HB.out.trans (below_mono_of hsz (by (repeat' (first | with_reducible exact Below.refl _ _ | (with_reducible refine below_later_of ?_ ?_ _) | (with_reducible refine Below.alloc ?_ ?_ _) | (with_reducible refine Below.setCell ?_ ?_ _) | (with_reducible refine Below.drew ?_) | (simp; done) | (simp; omega) | omega))))).mono hs1)⟩
      · simp only [if_true] at hE
        subst hE
        go_wp2_with (first | (go_at_call 130; (with_reducible refine (HCF.out _ (by (repeat' (first | with_reducible exact Below.refl _ _ | (with_reducible refine below_later_of ?_ ?_ _) | (with_reducible refine Below.alloc ?_ ?_ _) | (with_reducible refine Below.setCell ?_ ?_ _) | (with_reducible refine Below.drew ?_) | (simp; done) | (simp; omega) | omega)))).mono ?_); rintro e w' ⟨rfl, hb⟩; obtain ⟨p1, rfl⟩ := later_of_below hb; clear hb))
        go_ret
        exact ⟨rfl, HB1.out.trans ((HB.out.trans (below_mono_of hsz (by (repeat' (first | with_reducible exact Below.refl _ _ | (with_reducible refine below_later_of ?_ ?_ _) | (with_reducible refine Below.alloc ?_ ?_ _) | (with_reducible refine Below.setCell ?_ ?_ _) | (with_reducible refine Below.drew ?_) | (simp; done) | (simp; omega) | omega))))).mono hs1)⟩
end Go.Proofs.YtkoiknmijjiicaaGreatDoor

/- Chapter 4: rows of integers that grow by appends. -/
namespace Go.Proofs.YtkoiknmijjiicaaGreatDoor
set_option linter.unusedVariables false
set_option linter.unusedSimpArgs false
open Go.RowKit Ntt
/-- A row of numbers of one's own. -/
def SiR (O : Nat) (w : World) (l : List Int) (v : Value) (wr : World) : Prop := wr.ownsRow O 3 1 v l.length (l.map (.int .i64)) ∧ Below O w wr
theorem siR_below {B : Nat} {w wr W : World} {D : List Int} {v : Value} (h : SiR B w D v wr) (hB : B ≤ wr.heap.size) (hb : Below wr.heap.size wr W) : SiR B w D v W :=
  ⟨h.1.kept (row := none) ⟨hb.os, hb.tape, hb.output, hb.size, fun k hk _ => hb.block k hk⟩ (Classical.em _), h.2.trans (hb.mono hB)⟩
theorem siR_slice {B : Nat} {w wr : World} {D : List Int} {v : Value} (h : SiR B w D v wr) : ∃ a c, v = .slice a D.length c := by
  obtain ⟨-, ⟨rfl, h1⟩ | ⟨g, cap, cur, rfl, h2, h3, -⟩⟩ := h.1
  · exact ⟨none, 0, by rw [h1]⟩
  · exact ⟨_, cap, rfl⟩
theorem siR_put {O : Nat} {w wr w1 : World} {l : List Int} {v v' : Value} {x : Int} {o : Obj} (h : SiR O w l v wr) (hB : O ≤ wr.heap.size) {m : Nat} (hm : l.length = m) (ho : w1.ownsRow O 3 1 v' (m + 1) (l.map (.int .i64) ++ [.int .i64 x])) (hg : (wr.alloc o).grownBy w1 v.ownBlock) : SiR O w (l ++ [x]) v' w1 := by
  subst hm
  refine ⟨?_, h.2.trans ((((Below.refl O wr).alloc hB o)).grown hg (by simp; omega) (fun g hg => (h.1.lt g hg).1))⟩
  rw [List.map_append, List.length_append]
  exact ho
theorem cells_si (w : World) (x : Value) (T : TypeId) (j : Nat) (u : Value) (h : [x][j]? = some u) : (w.alloc (.cells #[x] T)).cell? ((⟨w.heap.size, 0, none⟩ : Addr).add j) = some u := by
  have : (⟨w.heap.size, 0, none⟩ : Addr).add j = ⟨w.heap.size, j, none⟩ := by simp [Addr.add]; omega
  rw [this, World.cell?_alloc_new]
  simpa using h
theorem siR_ints {O : Nat} {w wr : World} {l : List Int} {v : Value} (h : SiR O w l v wr) (hl : l.length ≤ 1000000000) : IntsV wr v l := by
  obtain ⟨h1, h2⟩ := h
  by_cases h0 : 0 < l.length
  · obtain ⟨g, c, rfl⟩ := row_slice h1 h0
    exact (ownIV_own h1 hl).ints
  · obtain rfl : l = [] := List.length_eq_zero_iff.1 (by omega)
    obtain ⟨a, c, rfl⟩ := siR_slice ⟨h1, h2⟩
    exact ⟨by simp, a, c, rfl, fun h => absurd h (by simp)⟩
end Go.Proofs.YtkoiknmijjiicaaGreatDoor

/- Chapter 4: each, for the closure that combined hands it. -/
namespace Go.Proofs.YtkoiknmijjiicaaGreatDoor
set_option linter.unusedVariables false
set_option linter.unusedSimpArgs false
open Go.RowKit Ntt
/-- A row of one's own, as it is read. -/
theorem siR_own {W : World} {base n c : Nat} {a : Option Addr} {l : List Int} (h : W.ownsRow base 3 1 (.slice a n c) n (l.map (.int .i64))) (hl : l.length = n) (hn : n ≤ 1000000000) : OwnIV base W (.slice a n c) l := by
  by_cases h0 : 0 < n
  · obtain ⟨g, c', he⟩ := row_slice h h0
    rw [he] at h ⊢
    exact ownIV_own h hn
  · obtain rfl : n = 0 := by omega
    obtain rfl : l = [] := List.length_eq_zero_iff.1 hl
    exact ⟨by simp, a, c, rfl, fun h => absurd h (by simp)⟩
set_option maxRecDepth 20000 in
set_option maxHeartbeats 4000000 in
theorem each_any (G : List Int → Int) (M : Nat → MapD) (Rn Cn : Nat) (pf g n cap : Nat) (w : World) (hg : g < w.heap.size) (hn : 0 < n) (hn2 : n ≤ 100) (hM : MapsAt w g n M) (hok : ∀ k, k < n → (M k).R = Rn ∧ (M k).C = Cn ∧ MapOk Rn Cn (M k).zs)
    (hc : ∀ W, Below w.heap.size w W → ∀ i u, i < Rn * Cn → IntsV W u (colP (fun k => (M k).zs) n i) → voidL (colP (fun k => (M k).zs) n i) = false →
      Calls Tryz.prog 106 #[u, .pointer (some ⟨pf, 0, none⟩)] W fun e w' => e = .returned (.int .i64 (G (colP (fun k => (M k).zs) n i))) ∧ Below W.heap.size W w') :
    Calls Tryz.prog 105 #[.func (.func 106) #[] #[.pointer (some ⟨pf, 0, none⟩)], .slice (some ⟨g, 0, none⟩) n cap] w (MapPost Rn Cn (eachL G (fun k => (M k).zs) n (Rn * Cn)) w) := by
  obtain ⟨i0, hi0, hz0, hz1, hz2⟩ := info_parts info3
  have HF := Lib.hid hM
  have HC := Lib.hid hc
  have HOK := Lib.hid hok
  obtain ⟨o1, o2, om⟩ := hok 0 hn
  obtain ⟨⟨y0, y1, y2⟩, hv0, -⟩ := hM 0 hn
  have hNsz := om.size
  have hNlen := om.len
  obtain ⟨-, a0, mc0, hve0, -⟩ := hv0
  rw [hve0] at y2
  rw [o1] at y0
  rw [o2] at y1
  obtain ⟨Z, hZ⟩ : ∃ Z : Nat → List Int, (fun k => (M k).zs) = Z := ⟨_, rfl⟩
  have HZ := Lib.hid (show ∀ k, (M k).zs = Z k from fun k => by rw [← hZ])
  rw [hZ] at HC ⊢
  rw [HZ.out 0] at y2 hNlen hNsz
  rw [hNlen] at y2
  obtain ⟨N, hN⟩ : ∃ N, Rn * Cn = N := ⟨_, rfl⟩
  rw [hN] at y2 hNlen HC ⊢
  rw [hNlen] at hNsz
  rw [Nat.zero_mul] at y0
  rw [show 0 * 3 + 1 = 1 from rfl] at y1
  rw [show 0 * 3 + 2 = 2 from rfl] at y2
  have HNL := Lib.hid (show ∀ k, k < n → (Z k).length = N from fun k hk => by rw [← HZ.out k, (HOK.out k hk).2.2.len, hN])
  have hn0 : (0 : Int) < (n : Int) := by omega
  clear hM hc hok om hve0 hZ hN
  go_enter Tryz.func105, Tryz.ntmps105
  go_wp2
  go_region
  all_goals
    refine any_worldF (fun W => TriN w w.heap.size (w.heap.size + 1) Rn Cn 3 1 (.slice none 0 0) 0 ((eachL G Z n 0).map (.int .i64)) W)
      ⟨by simp [go_sem], by simp [go_sem], by simp [go_sem], by simp [go_sem], by simp [go_sem], by simp [go_sem], by simp [go_sem], by simp [go_sem], by simp [go_sem], by simp [go_sem], World.ownsRow_nil _ _ _ _, (by (repeat' (first | with_reducible exact Below.refl _ _ | (with_reducible refine below_later_of ?_ ?_ _) | (with_reducible refine Below.alloc ?_ ?_ _) | (with_reducible refine Below.setCell ?_ ?_ _) | (with_reducible refine Below.drew ?_) | (simp; done) | (simp; omega) | omega))), by simp, by omega⟩ ?_
    rintro W2 hst
    have HST := Lib.hid hst
    have y2' := (hst.bel.cell (p := ⟨g, 2, none⟩) hg).trans y2
    have hg2 : g < W2.heap.size := by have := hst.bel.size; omega
    clear hst y0 y1 y2
    go_wp2
    go_loopw [24] (fun ii wr => ∃ (i : Nat) (v : Value), i ≤ N ∧ ii = .int .i64 i ∧ TriN w w.heap.size (w.heap.size + 1) Rn Cn 3 1 v i ((eachL G Z n i).map (.int .i64)) wr) (fun ii _ => N - (intOf ii).toNat)
    case atStart => exact ⟨0, _, Nat.zero_le _, rfl, HST.out⟩
    case round =>
      clear y2'
      obtain ⟨i, v, hi, rfl, hst⟩ := hrel
      have HS2 := Lib.hid hst
      by_cases hlt : i < N
      · have hdi : decide ((i : Int) < (N : Int)) = true := by simp; omega
        have hi0' : (0 : Int) ≤ (i : Int) := by omega
        have hi1' : (i : Int) < (N : Int) := by omega
        obtain ⟨Wi, hWi⟩ : ∃ Wi, Wi = wr := ⟨_, rfl⟩
        subst hWi
        have HMW := Lib.hid (HF.out.below hg (hst.bel.mono (Nat.le_refl _)))
        have hgW : g < Wi.heap.size := by have := hst.bel.size; omega
        clear hst
        go_wp2
        go_loopw [7, 29] (fun vv kk wr => ∃ (k : Nat) (u : Value), k ≤ n ∧ kk = .int .i64 k ∧ u = vv ∧ SiR Wi.heap.size Wi (colP Z k i) u wr) (fun _ kk _ => n - (intOf kk).toNat)
        case atStart => exact ⟨0, _, Nat.zero_le _, rfl, rfl, World.ownsRow_nil _ _ _ _, Below.refl _ _⟩
        case round =>
          obtain ⟨k, u, hk, rfl, rfl, hg1⟩ := hrel
          have HG := Lib.hid hg1
          have hbz := hg1.2.size
          by_cases hlk : k < n
          · have hdk : decide ((k : Int) < (n : Int)) = true := by simp; omega
            have hk0' : (0 : Int) ≤ (k : Int) := by omega
            have hk1' : (k : Int) < (n : Int) := by omega
            obtain ⟨⟨x0, x1, x2⟩, hv, -⟩ := HMW.out.below hgW hg1.2 k hlk
            obtain ⟨-, a, mc, hve, h4⟩ := hv
            have hzk : (M k).zs.length = N := by rw [HZ.out k]; exact HNL.out k hlk
            obtain ⟨b, off, rfl, hbw, hcell⟩ := h4 (by omega)
            have ci := hcell i (by omega)
            rw [hve, hzk] at x2
            rw [HZ.out k] at ci
            have HCS := Lib.hid (colP_succ Z k i)
            have hgr : g < wr.heap.size := by omega
            obtain ⟨D, hD⟩ : ∃ D, colP Z k i = D := ⟨_, rfl⟩
            have hDl : D.length = k := by rw [← hD, colP_len]
            rw [hD] at HG HCS hg1
            obtain ⟨ua, uc, rfl⟩ := siR_slice hg1
            rw [hDl]
            clear hg1 h4 hve hzk hcell hD
            generalize (M k).R = r at *
            generalize (M k).C = c at *
            generalize intAt (Z k) i = x at *
            have HG5 := Lib.hid (show SiR Wi.heap.size Wi D (.slice ua D.length uc) (wr.alloc (.cells #[.int .i64 r, .int .i64 c, .slice (some ⟨b, off, none⟩) N mc] 44)) from siR_below HG.out hbz (by (repeat' (first | with_reducible exact Below.refl _ _ | (with_reducible refine below_later_of ?_ ?_ _) | (with_reducible refine Below.alloc ?_ ?_ _) | (with_reducible refine Below.setCell ?_ ?_ _) | (with_reducible refine Below.drew ?_) | (simp; done) | (simp; omega) | omega))))
            have HO5 := Lib.hid (show (wr.alloc (.cells #[.int .i64 r, .int .i64 c, .slice (some ⟨b, off, none⟩) N mc] 44)).ownsRow Wi.heap.size 3 1 (.slice ua k uc) k (D.map (.int .i64)) by have := HG5.out.1; rw [hDl] at this; exact this)
            go_wp2_with (at_builtin; refine wpList_append_own _ rfl _ _ 42 rfl Wi.heap.size 3 i0 (.int .i64 0) 1 8 Tryz.underlying42 hi0 hz0 hz1 hz2 rfl (by decide) _ _ _ rfl (HO5.out.alloc _) ⟨wr.heap.size + 1, 0, none⟩ 1 1 [.int .i64 x] rfl rfl ?d1 ?d2 ?d3 ?d4 ?d5 ?_)
            case d1 => first | exact cells_si _ _ _ | exact (by intro j u hj; rcases j with _ | j; (focus (simp at hj; subst hj; (first | (simp [Addr.add, go_sem]; done) | simp [Addr.add, go_sem, ↓IntWalk.iteOmega]))); (focus (simp at hj)))
            case d2 => intro u hu; simp at hu; subst hu; rfl
            case d3 => unfold maxLen; omega
            case d4 => omega
            case d5 => first | omega | (simp; omega)
            intro v' w1 hown' hgrow _
            have HN := Lib.hid (siR_put (x := x) HG5.out (by first | omega | (simp; omega)) hDl hown' (by rw [hDl]; exact hgrow))
            clear hown' hgrow
            go_wp2
            go_roundw
            case rel => exact ⟨k + 1, _, by omega, by go_num, rfl, by rw [HCS.out]; exact HN.out⟩
            case measure => simp [intOf]; omega
          · obtain rfl : k = n := by omega
            have hdk : decide ((k : Int) < (k : Int)) = false := by simp
            have HS3 := Lib.hid (HS2.out.below hg1.2)
            have hcl := colP_len Z k i
            have HIV := Lib.hid (siR_ints hg1 (by omega))
            have HCL := Lib.hid (show voidL (colP Z k i) = false → ∀ W, Below wr.heap.size wr W → _ from fun hq W hW => HC.out W (HS3.out.bel.trans (hW.mono HS3.out.bel.size)) i u hlt (HIV.out.below hW) hq)
            obtain ⟨q, hq⟩ : ∃ q, hasP (colP Z k i) 1000000000000 = q := ⟨_, rfl⟩
            have HCN := Lib.hid (contains_i (colP Z k i) u 1000000000000 wr (by omega) HIV.out hq)
            have hes := eachL_succ G Z k i
            have hvl : voidL (colP Z k i) = q := hq
            obtain ⟨ua, uc, rfl⟩ := siR_slice hg1
            have hltO := HS3.out.lt
            have c2 := HS3.out.c2
            have f2 := HS3.out.f2
            clear hg1 hq HIV
            rw [hcl] at HCN HCL ⊢
            cases q
            · have hef : eachF G Z k i = G (colP Z k i) := by unfold eachF; rw [hvl]; rfl
              have HCL := Lib.hid (HCL.out hvl)
              obtain ⟨x, hx⟩ : ∃ x, G (colP Z k i) = x := ⟨_, rfl⟩
              rw [hx] at HCL hef
              have HPN := Lib.hid (show (eachL G Z k (i + 1)).map (Value.int .i64) = (eachL G Z k i).map (.int .i64) ++ [.int .i64 x] by rw [hes, hef, List.map_append]; rfl)
              clear hes hef hvl hx
              go_wp2_with (first | (go_at_call 132; (with_reducible refine (HCN.out).mono ?_); rintro e w' ⟨rfl, rfl⟩))
              go_region_law (first | (refine step_append_lies _ rfl (.tmp 50) (.tmp 54) 42 rfl (w.heap.size + 1 + 1) 3 i0 (.int .i64 0) 1 8 Tryz.underlying42 hi0 hz0 hz1 hz2 rfl (by decide) v i ((eachL G Z k i).map (.int .i64)) (by simp [Act.eval, Act.put]) (HSW.out.own.alloc _) ⟨wc.heap.size, 0, none⟩ 1 1 [.int .i64 x] (by simp [Act.eval, Act.put]) rfl (by intro j u hj; rcases j with _ | j; (focus (simp at hj; subst hj; (first | (simp [Addr.add, go_sem]; done) | simp [Addr.add, go_sem, ↓IntWalk.iteOmega]))); (focus (simp at hj))) (by intro u hu; simp at hu; subst hu; rfl) (by decide) (by unfold maxLen; omega) (by omega) (by first | omega | (simp; omega)) _ rfl ?_; intro g' cc' w1 hown' hgrow _ _; have HN2 := Lib.hid (HSW.out.put hown' hgrow); obtain ⟨hcb, hfb⟩ := HSW.out.still hgrow; clear hown' hgrow) | (go_simp; (go_at_call 106; (with_reducible refine (HCL.out _ (by (repeat' (first | with_reducible exact Below.refl _ _ | (with_reducible refine below_later_of ?_ ?_ _) | (with_reducible refine Below.alloc ?_ ?_ _) | (with_reducible refine Below.setCell ?_ ?_ _) | (with_reducible refine Below.drew ?_) | (simp; done) | (simp; omega) | omega)))).mono ?_); rintro e wc ⟨rfl, hb⟩; have HSW := Lib.hid ((HS3.out.below (Below.refl _ _).drew).below hb); have c2w := HSW.out.c2; have f2w := HSW.out.f2; have hltw := HSW.out.lt; clear hb)))
              all_goals
                go_wp2
                go_roundw
                case rel => exact ⟨i + 1, _, by omega, by go_num, by rw [HPN.out]; exact HN2.out⟩
                case measure => simp [intOf]; omega
            · have hef : eachF G Z k i = 1000000000000 := by unfold eachF; rw [hvl]; rfl
              have HPN := Lib.hid (show (eachL G Z k (i + 1)).map (Value.int .i64) = (eachL G Z k i).map (.int .i64) ++ [.int .i64 1000000000000] by rw [hes, hef, List.map_append]; rfl)
              clear hes hef hvl HCL
              go_wp2_with (first | (go_at_call 132; (with_reducible refine (HCN.out).mono ?_); rintro e w' ⟨rfl, rfl⟩) | (at_builtin; refine wpList_append_own _ rfl _ _ 42 rfl (w.heap.size + 1 + 1) 3 i0 (.int .i64 0) 1 8 Tryz.underlying42 hi0 hz0 hz1 hz2 rfl (by decide) _ _ _ rfl (HS3.out.own.alloc _) ⟨_, 0, none⟩ 1 1 [.int .i64 1000000000000] rfl rfl ?d1 ?d2 ?d3 ?d4 ?d5 ?_))
              case d1 => first | exact cells_si _ _ _ | exact (by intro j u hj; rcases j with _ | j; (focus (simp at hj; subst hj; (first | (simp [Addr.add, go_sem]; done) | simp [Addr.add, go_sem, ↓IntWalk.iteOmega]))); (focus (simp at hj)))
              case d2 => intro u hu; simp at hu; subst hu; rfl
              case d3 => unfold maxLen; omega
              case d4 => omega
              case d5 => first | omega | (simp; omega)
              intro v' w1 hown' hgrow _
              obtain ⟨va, vc, rfl⟩ := own_slice2 hown'
              have HN2 := Lib.hid (HS3.out.put hown' hgrow)
              obtain ⟨hcb, hfb⟩ := HS3.out.still hgrow
              clear hown' hgrow
              go_wp2
              go_roundw
              case rel => exact ⟨i + 1, _, by omega, by go_num, by rw [HPN.out]; exact HN2.out⟩
              case measure => simp [intOf]; omega
      · obtain rfl : i = N := by omega
        have hdi : decide ((i : Int) < (i : Int)) = false := by simp
        obtain ⟨a', c', rfl⟩ := own_slice2 hst.own
        obtain ⟨e0, e1, e2, -, r0, r1, r2, g0, g1, g2, hown, hbel, -, -⟩ := hst
        have hel := eachL_len G Z n i
        have HOW := Lib.hid hown
        have HBE := Lib.hid hbel
        clear hown hbel
        go_wp2
        refine bodyPost_ret (v := .agg #[.int .i64 Rn, .int .i64 Cn, .slice a' i c']) ?_ rfl ⟨a', c', by rw [hel], ?_, HBE.out.trans (by (repeat' (first | with_reducible exact Below.refl _ _ | (with_reducible refine below_later_of ?_ ?_ _) | (with_reducible refine Below.alloc ?_ ?_ _) | (with_reducible refine Below.setCell ?_ ?_ _) | (with_reducible refine Below.drew ?_) | (simp; done) | (simp; omega) | omega)))⟩
        · first | (simp [results, Tryz.results105, go_sem, r0, r1, r2]; done) | simp [results, Tryz.results105, go_sem, r0, r1, r2, ↓IntWalk.iteOmega]
        · rw [hel]
          have h0 := siR_own HOW.out hel (by omega)
          refine OwnIV.mono (OwnIV.set (OwnIV.set (OwnIV.set h0 ?_ _) ?_ _) ?_ _) ?_
          all_goals first | omega | (simp <;> omega)
end Go.Proofs.YtkoiknmijjiicaaGreatDoor

/- Chapter 4: combined; Difference, Total, Closure, Wrapped. -/
namespace Go.Proofs.YtkoiknmijjiicaaGreatDoor
set_option linter.unusedVariables false
set_option linter.unusedSimpArgs false
open Go.RowKit Ntt
set_option maxHeartbeats 1000000 in
theorem comb1 (hf : FuncId) (u : Value) (pf : Nat) (y : Int) (w : World) (eg : ∀ args w, (callFunc hf args).run Tryz.prog w = .ok (.enter hf args) w) (hp : pf < w.heap.size) (cp : w.cell? ⟨pf, 0, none⟩ = some (.func (.func hf) #[] #[]))
    (hc : ∀ W, Below w.heap.size w W → Calls Tryz.prog hf #[u] W fun e w' => e = .returned (.int .i64 y) ∧ Below W.heap.size W w') (h1 : -1000000000000000 ≤ y) (h2 : y ≤ 1000000000000000) {v : Int} (hv : wrP y = v) :
    Calls Tryz.prog 106 #[u, .pointer (some ⟨pf, 0, none⟩)] w fun e w' => e = .returned (.int .i64 v) ∧ Below w.heap.size w w' := by
  have HC := Lib.hid hc
  have HW := Lib.hid (fun w => fWrap y w h1 h2 hv)
  clear hc hv
  go_enter Tryz.func106, Tryz.ntmps106
  go_wp2_with (first | (go_at_fn hf; (with_reducible refine (HC.out _ (by (repeat' (first | with_reducible exact Below.refl _ _ | (with_reducible refine below_later_of ?_ ?_ _) | (with_reducible refine Below.alloc ?_ ?_ _) | (with_reducible refine Below.setCell ?_ ?_ _) | (with_reducible refine Below.drew ?_) | (simp; done) | (simp; omega) | omega)))).mono ?_); rintro e w' ⟨rfl, hb⟩; obtain ⟨p1, rfl⟩ := later_of_below hb; clear hb) | (go_at_call 107; (with_reducible refine (HW.out _).mono ?_); rintro e w' ⟨rfl, rfl⟩))
  go_ret
  exact ⟨rfl, (by (repeat' (first | with_reducible exact Below.refl _ _ | (with_reducible refine below_later_of ?_ ?_ _) | (with_reducible refine Below.alloc ?_ ?_ _) | (with_reducible refine Below.setCell ?_ ?_ _) | (with_reducible refine Below.drew ?_) | (simp; done) | (simp; omega) | omega)))⟩
/-- What a closure makes of the phases of the pixels of n maps. -/
def Makes (hf : FuncId) (gv : List Int → Int) (M : Nat → MapD) (n : Nat) (w : World) : Prop :=
  ∀ W, Below w.heap.size w W → ∀ i u, i < (M 0).zs.length → IntsV W u (colP (fun k => (M k).zs) n i) → voidL (colP (fun k => (M k).zs) n i) = false →
    (Calls Tryz.prog hf #[u] W fun e w' => e = .returned (.int .i64 (gv (colP (fun k => (M k).zs) n i))) ∧ Below W.heap.size W w') ∧ -1000000000000000 ≤ gv (colP (fun k => (M k).zs) n i) ∧ gv (colP (fun k => (M k).zs) n i) ≤ 1000000000000000
set_option maxRecDepth 20000 in
set_option maxHeartbeats 2000000 in
theorem combined_det (hf : FuncId) (gv : List Int → Int) (M : Nat → MapD) (g n cap : Nat) (w : World) (eg : ∀ args w, (callFunc hf args).run Tryz.prog w = .ok (.enter hf args) w) (hg : g < w.heap.size) (hn : 0 < n) (hn2 : n ≤ 100) (hM : MapsAt w g n M)
    (hc : togE M n = 0 → Makes hf gv M n w) {e0 : Int} (he : togE M n = e0) :
    Calls Tryz.prog 67 #[.func (.func hf) #[] #[], .slice (some ⟨g, 0, none⟩) n cap] w fun e w' => ∃ r c k a cc, e = .returned (.tuple #[.agg #[.int .i64 r, .int .i64 c, .slice a k cc], .int .i64 e0]) ∧
      MkSay w' w.heap.size (M 0).R (M 0).C (M 0).zs.length (eachL (fun p => wrP (gv p)) (fun k => (M k).zs) n (M 0).zs.length) e0 r c k a cc ∧ Below w.heap.size w w' := by
  have HTG := Lib.hid (show ∀ W, Below w.heap.size w W → _ from fun W hW => together_any M g n cap W (by have := hW.size; omega) hn hn2 (hM.below hg hW) he)
  by_cases h0 : e0 = 0
  · subst h0
    obtain ⟨Rn, Cn, hok⟩ := togE_zero he hn
    have HMK := Lib.hid (hc he)
    obtain ⟨o1, o2, om⟩ := hok 0 hn
    have hN := om.len
    have HEA := Lib.hid (show ∀ W, Below (w.heap.size + 1) ((w.alloc (.cells #[.func (.func hf) #[] #[]] 123))) W → _ from fun W hW =>
      have hbw : Below w.heap.size w W := (show Below w.heap.size w _ from (by (repeat' (first | with_reducible exact Below.refl _ _ | (with_reducible refine below_later_of ?_ ?_ _) | (with_reducible refine Below.alloc ?_ ?_ _) | (with_reducible refine Below.setCell ?_ ?_ _) | (with_reducible refine Below.drew ?_) | (simp; done) | (simp; omega) | omega)))).trans (hW.mono (Nat.le_succ _))
      each_any (fun p => wrP (gv p)) M Rn Cn w.heap.size g n cap W (by have := hbw.size; omega) hn hn2 (hM.below hg hbw) hok
        (fun W' hW' i u hi hu hv => by
          obtain ⟨h1, h2, h3⟩ := HMK.out W' (hbw.trans (hW'.mono hbw.size)) i u (by omega) hu hv
          refine comb1 hf u w.heap.size _ W' eg ?_ ?_ (fun W'' hW'' => (HMK.out W'' ((hbw.trans (hW'.mono hbw.size)).trans (hW''.mono ?_)) i u (by omega) (hu.below hW'') hv).1) h2 h3 rfl
          · have := hW.size; have := hW'.size; simp at *; omega
          · have e1 := hW.cell (p := ⟨w.heap.size, 0, none⟩) (Nat.lt_succ_self _)
            have e2 := hW'.cell (p := ⟨w.heap.size, 0, none⟩) (show w.heap.size < W.heap.size by have := hW.size; simp at *; omega)
            rw [e2, e1]
            simp [go_sem]
          · have := hbw.size; have := hW'.size; omega))
    rw [o1, o2, hN]
    clear hM hc he hok om hN o1 o2 HMK
    go_enter Tryz.func67, Tryz.ntmps67
    go_wp2_with (first | (go_at_call 104; (with_reducible refine (HTG.out _ (by (repeat' (first | with_reducible exact Below.refl _ _ | (with_reducible refine below_later_of ?_ ?_ _) | (with_reducible refine Below.alloc ?_ ?_ _) | (with_reducible refine Below.setCell ?_ ?_ _) | (with_reducible refine Below.drew ?_) | (simp; done) | (simp; omega) | omega)))).mono ?_); rintro e w' ⟨rfl, hb⟩; obtain ⟨p1, rfl⟩ := later_of_below hb; clear hb) | (go_at_call 105; (with_reducible refine (HEA.out _ (by (repeat' (first | with_reducible exact Below.refl _ _ | (with_reducible refine below_later_of ?_ ?_ _) | (with_reducible refine Below.alloc ?_ ?_ _) | (with_reducible refine Below.setCell ?_ ?_ _) | (with_reducible refine Below.drew ?_) | (simp; done) | (simp; omega) | omega)))).mono ?_); rintro e w' ⟨a1, c1, rfl, hv, hb⟩; have HV := Lib.hid hv; clear hv; obtain ⟨p2, rfl⟩ := later_of_below hb; clear hb))
    refine bodyPost_ret (v := .tuple #[.agg #[.int .i64 Rn, .int .i64 Cn, .slice a1 (eachL (fun p => wrP (gv p)) (fun k => (M k).zs) n (Rn * Cn)).length c1], .int .i64 0]) ?_ rfl ⟨Rn, Cn, _, a1, c1, rfl, ⟨fun _ => ⟨rfl, rfl, eachL_len (fun p => wrP (gv p)) (fun k => (M k).zs) n (Rn * Cn), ?_⟩, fun h => absurd rfl h⟩, (by (repeat' (first | with_reducible exact Below.refl _ _ | (with_reducible refine below_later_of ?_ ?_ _) | (with_reducible refine Below.alloc ?_ ?_ _) | (with_reducible refine Below.setCell ?_ ?_ _) | (with_reducible refine Below.drew ?_) | (simp; done) | (simp; omega) | omega)))⟩
    · first | (simp [results, Tryz.results67, go_sem]; done) | simp [results, Tryz.results67, go_sem, ↓IntWalk.iteOmega]
    · refine OwnIV.mono (OwnIV.set (OwnIV.set (OwnIV.set HV.out ?_ _) ?_ _) ?_ _) ?_ <;> first | omega | (simp <;> omega)
  · have hne : (e0 != 0) = true := by simpa using h0
    have HNE := Lib.hid h0
    clear hM hc he h0
    go_enter Tryz.func67, Tryz.ntmps67
    go_wp2_with (first | (go_at_call 104; (with_reducible refine (HTG.out _ (by (repeat' (first | with_reducible exact Below.refl _ _ | (with_reducible refine below_later_of ?_ ?_ _) | (with_reducible refine Below.alloc ?_ ?_ _) | (with_reducible refine Below.setCell ?_ ?_ _) | (with_reducible refine Below.drew ?_) | (simp; done) | (simp; omega) | omega)))).mono ?_); rintro e w' ⟨rfl, hb⟩; obtain ⟨p1, rfl⟩ := later_of_below hb; clear hb))
    refine bodyPost_ret (v := .tuple #[.agg #[.int .i64 0, .int .i64 0, .slice none 0 0], .int .i64 e0]) ?_ rfl ⟨0, 0, 0, none, 0, rfl, ⟨fun h => absurd h HNE.out, fun _ => ⟨rfl, rfl, rfl⟩⟩, (by (repeat' (first | with_reducible exact Below.refl _ _ | (with_reducible refine below_later_of ?_ ?_ _) | (with_reducible refine Below.alloc ?_ ?_ _) | (with_reducible refine Below.setCell ?_ ?_ _) | (with_reducible refine Below.drew ?_) | (simp; done) | (simp; omega) | omega)))⟩
    first | (simp [results, Tryz.results67, go_sem]; done) | simp [results, Tryz.results67, go_sem, ↓IntWalk.iteOmega]
/-- Maps as a function of their number. -/
def mapsOf (l : List MapD) (k : Nat) : MapD := l.getD k ⟨0, 0, [], .slice none 0 0⟩
theorem col_nv {Z : Nat → List Int} {n i : Nat} (h : voidL (colP Z n i) = false) {k : Nat} (hk : k < n) : intAt (Z k) i ≠ 1000000000000 := by
  intro he
  unfold voidL at h
  rw [decide_eq_false_iff_not] at h
  exact h (by unfold colP; rw [List.mem_map]; exact ⟨k, List.mem_range.2 hk, he⟩)
set_option maxHeartbeats 1000000 in
theorem one1 (ps : List Int) (v : Value) (w : World) (hv : IntsV w v ps) (hl : ps.length = 1) :
    Calls Tryz.prog 68 #[v] w fun e w' => e = .returned (.int .i64 (intAt ps 0)) ∧ Below w.heap.size w w' := by
  obtain ⟨-, a, cap, rfl, h4⟩ := hv
  obtain ⟨b, off, rfl, hbw, hc⟩ := h4 (by omega)
  have z0 : (0 : Int) < (ps.length : Int) := by omega
  have c0 := hc 0 (by omega)
  rw [Nat.add_zero] at c0
  rw [hl] at z0 ⊢
  clear hc h4
  generalize intAt ps 0 = x at *
  go_enter Tryz.func68, Tryz.ntmps68
  go_wp2
  go_ret
  exact ⟨rfl, (by (repeat' (first | with_reducible exact Below.refl _ _ | (with_reducible refine below_later_of ?_ ?_ _) | (with_reducible refine Below.alloc ?_ ?_ _) | (with_reducible refine Below.setCell ?_ ?_ _) | (with_reducible refine Below.drew ?_) | (simp; done) | (simp; omega) | omega)))⟩
end Go.Proofs.YtkoiknmijjiicaaGreatDoor

/- Chapter 4: Difference, Total, Closure, Wrapped. -/
namespace Go.Proofs.YtkoiknmijjiicaaGreatDoor
set_option linter.unusedVariables false
set_option linter.unusedSimpArgs false
open Go.RowKit Ntt
/-- The error of two maps, and of three ones. -/
def twoE (R C : Int) (zs : List Int) (R' C' : Int) (ys : List Int) : Int :=
  if (mapE R C zs).2 ≠ 0 then (mapE R C zs).2 else if (mapE R' C' ys).2 ≠ 0 then (mapE R' C' ys).2 else if R' = R ∧ C' = C then 0 else 13
def threeE (R C : Int) (zs : List Int) (R' C' : Int) (ys : List Int) (R'' C'' : Int) (us : List Int) : Int :=
  if (mapE R C zs).2 ≠ 0 then (mapE R C zs).2 else if (mapE R' C' ys).2 ≠ 0 then (mapE R' C' ys).2 else if (mapE R'' C'' us).2 ≠ 0 then (mapE R'' C'' us).2 else if (R' = R ∧ C' = C) ∧ (R'' = R ∧ C'' = C) then 0 else 13
theorem dif_two {R C : Int} {zs : List Int} {v : Value} {R' C' : Int} {ys : List Int} {u : Value} : difT (mapsOf [⟨R, C, zs, v⟩, ⟨R', C', ys, u⟩]) 2 = !(decide (R' = R ∧ C' = C)) := by
  show (otherB _ 0 || (otherB _ 1 || false)) = _
  unfold otherB mapsOf
  simp [Bool.decide_and]
theorem dif_three {R C : Int} {zs : List Int} {v : Value} {R' C' : Int} {ys : List Int} {u : Value} {R'' C'' : Int} {us : List Int} {t : Value} : difT (mapsOf [⟨R, C, zs, v⟩, ⟨R', C', ys, u⟩, ⟨R'', C'', us, t⟩]) 3 = !(decide ((R' = R ∧ C' = C) ∧ (R'' = R ∧ C'' = C))) := by
  show (otherB _ 0 || (otherB _ 1 || (otherB _ 2 || false))) = _
  unfold otherB mapsOf
  simp [Bool.decide_and]
theorem togE_two (R C : Int) (zs : List Int) (v : Value) (R' C' : Int) (ys : List Int) (u : Value) : togE (mapsOf [⟨R, C, zs, v⟩, ⟨R', C', ys, u⟩]) 2 = twoE R C zs R' C' ys := by
  unfold togE twoE
  rw [dif_two]
  have e : errTo (mapsOf [⟨R, C, zs, v⟩, ⟨R', C', ys, u⟩]) 2 = if (mapE R C zs).2 ≠ 0 then (mapE R C zs).2 else (mapE R' C' ys).2 := by
    show (if (if (0 : Int) ≠ 0 then (0 : Int) else (mapE R C zs).2) ≠ 0 then (if (0 : Int) ≠ 0 then (0 : Int) else (mapE R C zs).2) else (mapE R' C' ys).2) = _
    simp
  rw [e]
  by_cases h1 : (mapE R C zs).2 = 0
  · by_cases h2 : (mapE R' C' ys).2 = 0
    · simp only [h1, h2, ne_eq, not_true_eq_false, if_false]
      by_cases h3 : R' = R ∧ C' = C <;> simp [h3]
    · simp [h1, h2]
  · simp [h1]
theorem togE_three (R C : Int) (zs : List Int) (v : Value) (R' C' : Int) (ys : List Int) (u : Value) (R'' C'' : Int) (us : List Int) (t : Value) : togE (mapsOf [⟨R, C, zs, v⟩, ⟨R', C', ys, u⟩, ⟨R'', C'', us, t⟩]) 3 = threeE R C zs R' C' ys R'' C'' us := by
  unfold togE threeE
  rw [dif_three]
  have e : errTo (mapsOf [⟨R, C, zs, v⟩, ⟨R', C', ys, u⟩, ⟨R'', C'', us, t⟩]) 3 = if (mapE R C zs).2 ≠ 0 then (mapE R C zs).2 else if (mapE R' C' ys).2 ≠ 0 then (mapE R' C' ys).2 else (mapE R'' C'' us).2 := by
    show (if errTo (mapsOf [⟨R, C, zs, v⟩, ⟨R', C', ys, u⟩, ⟨R'', C'', us, t⟩]) 2 ≠ 0 then errTo (mapsOf [⟨R, C, zs, v⟩, ⟨R', C', ys, u⟩, ⟨R'', C'', us, t⟩]) 2 else (mapE R'' C'' us).2) = _
    have e2 : errTo (mapsOf [⟨R, C, zs, v⟩, ⟨R', C', ys, u⟩, ⟨R'', C'', us, t⟩]) 2 = if (mapE R C zs).2 ≠ 0 then (mapE R C zs).2 else (mapE R' C' ys).2 := by
      show (if (if (0 : Int) ≠ 0 then (0 : Int) else (mapE R C zs).2) ≠ 0 then (if (0 : Int) ≠ 0 then (0 : Int) else (mapE R C zs).2) else (mapE R' C' ys).2) = _
      simp
    rw [e2]
    by_cases h1 : (mapE R C zs).2 = 0
    · by_cases h2 : (mapE R' C' ys).2 = 0 <;> simp [h1, h2]
    · simp [h1]
  rw [e]
  by_cases h1 : (mapE R C zs).2 = 0
  · by_cases h2 : (mapE R' C' ys).2 = 0
    · by_cases h4 : (mapE R'' C'' us).2 = 0
      · simp only [h1, h2, h4, ne_eq, not_true_eq_false, if_false]
        by_cases h3 : (R' = R ∧ C' = C) ∧ (R'' = R ∧ C'' = C) <;> simp [h3]
      · simp [h1, h2, h4]
    · simp [h1, h2]
  · simp [h1]
theorem togE_one (R C : Int) (zs : List Int) (v : Value) : togE (mapsOf [⟨R, C, zs, v⟩]) 1 = (mapE R C zs).2 := by
  have e : errTo (mapsOf [⟨R, C, zs, v⟩]) 1 = (mapE R C zs).2 := by
    show (if (0 : Int) ≠ 0 then (0 : Int) else (mapE R C zs).2) = _
    simp
  have d : difT (mapsOf [⟨R, C, zs, v⟩]) 1 = false := by
    show (otherB _ 0 || false) = _
    unfold otherB
    simp
  unfold togE
  rw [e, d]
  by_cases h : (mapE R C zs).2 = 0 <;> simp [h]
theorem makes_one (M : Nat → MapD) (w : World) (h0 : togE M 1 = 0) : Makes 68 (fun p => intAt p 0) M 1 w := fun W hW i u hi hu hv => by
  obtain ⟨R, C, hok⟩ := togE_zero h0 (by decide)
  have b0 := (hok 0 (by decide)).2.2.bd i
  have e0 : intAt (colP (fun k => (M k).zs) 1 i) 0 = intAt (M 0).zs i := colP_at _ (by decide)
  rw [← e0] at b0
  exact ⟨one1 _ u W hu (colP_len _ _ _) , by dsimp only; omega, by dsimp only; omega⟩
set_option maxRecDepth 20000 in
set_option maxHeartbeats 2000000 in
theorem one_det (R C : Int) (zs : List Int) (v : Value) (w : World) (hv : IntsV w v zs) (lv : zs.length ≤ 100000) {e0 : Int} (he : (mapE R C zs).2 = e0) :
    Calls Tryz.prog 21 #[.agg #[.int .i64 R, .int .i64 C, v]] w fun e w' => ∃ r c k qa cc, e = .returned (.tuple #[.agg #[.int .i64 r, .int .i64 c, .slice qa k cc], .int .i64 e0]) ∧ MkSay w' w.heap.size R C zs.length (wrapL zs) e0 r c k qa cc ∧ Below w.heap.size w w' := by
  have HCO := Lib.hid (show ∀ W, Below w.heap.size w W → w.heap.size + 2 < W.heap.size → W.cell? ⟨w.heap.size + 2, 0, none⟩ = some (.int .i64 R) → W.cell? ⟨w.heap.size + 2, 1, none⟩ = some (.int .i64 C) → W.cell? ⟨w.heap.size + 2, 2, none⟩ = some v → _ from fun W hW hgW q0 q1 q2 =>
    combined_det 68 (fun p => intAt p 0) (mapsOf [⟨R, C, zs, v⟩]) (w.heap.size + 2) 1 1 W (enters_of Tryz.func68 (by kernel_rfl) rfl) hgW (by decide) (by decide)
      (fun k hk => by
        match k, hk with
        | 0, _ => exact ⟨⟨q0, q1, q2⟩, hv.below hW, lv⟩
        | k + 1, hk => exact absurd hk (by omega))
      (fun h0 => makes_one _ W h0) (e0 := e0) (by rw [togE_one]; exact he))
  have HL := Lib.hid (show eachL (fun p => wrP ((fun p => intAt p 0) p)) (fun k => ((mapsOf [⟨R, C, zs, v⟩]) k).zs) 1 ((mapsOf [⟨R, C, zs, v⟩]) 0).zs.length = wrapL zs from each_one (Z := fun k => ((mapsOf [⟨R, C, zs, v⟩]) k).zs) rfl)
  rw [HL.out] at HCO
  obtain ⟨-, av, mv, rfl, -⟩ := hv
  rw [show ((mapsOf [⟨R, C, zs, .slice av zs.length mv⟩]) 0).zs.length = zs.length from rfl] at HCO
  rw [show ((mapsOf [⟨R, C, zs, .slice av zs.length mv⟩]) 0).R = R from rfl, show ((mapsOf [⟨R, C, zs, .slice av zs.length mv⟩]) 0).C = C from rfl] at HCO
  clear he HL
  go_enter Tryz.func21, Tryz.ntmps21
  go_wp2_with (first | (go_at_call 67; (with_reducible refine (HCO.out _ (by (repeat' (first | with_reducible exact Below.refl _ _ | (with_reducible refine below_later_of ?_ ?_ _) | (with_reducible refine Below.alloc ?_ ?_ _) | (with_reducible refine Below.setCell ?_ ?_ _) | (with_reducible refine Below.drew ?_) | (simp; done) | (simp; omega) | omega))) (by simp) (by (first | (simp [go_sem]; done) | simp [go_sem, ↓IntWalk.iteOmega])) (by (first | (simp [go_sem]; done) | simp [go_sem, ↓IntWalk.iteOmega])) (by (first | (simp [go_sem]; done) | simp [go_sem, ↓IntWalk.iteOmega]))).mono ?_); rintro e w' ⟨r, c, k, qa, cc, rfl, hs, hb⟩; have HS := Lib.hid hs; clear hs; obtain ⟨p1, rfl⟩ := later_of_below hb; clear hb))
  refine bodyPost_ret (v := .tuple #[.agg #[.int .i64 r, .int .i64 c, .slice qa k cc], .int .i64 e0]) ?_ rfl ⟨r, c, k, qa, cc, rfl, MkSay.mono (MkSay.set (MkSay.set (MkSay.set HS.out ?_ _) ?_ _) ?_ _) ?_, (by (repeat' (first | with_reducible exact Below.refl _ _ | (with_reducible refine below_later_of ?_ ?_ _) | (with_reducible refine Below.alloc ?_ ?_ _) | (with_reducible refine Below.setCell ?_ ?_ _) | (with_reducible refine Below.drew ?_) | (simp; done) | (simp; omega) | omega)))⟩
  · first | (simp [results, Tryz.results21, go_sem]; done) | simp [results, Tryz.results21, go_sem, ↓IntWalk.iteOmega]
  all_goals first | omega | (simp <;> omega)
end Go.Proofs.YtkoiknmijjiicaaGreatDoor

/- Chapter 4: the reference's Combined; the law's errors of two maps. -/
namespace Go.Proofs.YtkoiknmijjiicaaGreatDoor
set_option linter.unusedVariables false
set_option linter.unusedSimpArgs false
open Go.RowKit Ntt
/-- A map that the reference returns. -/
def RmPost (R C : Int) (zs : List Int) (w : World) (e : Ending) (w' : World) : Prop :=
  ∃ a c, e = .returned (.agg #[.int .i64 R, .int .i64 C, .slice a zs.length c]) ∧ OwnIV w.heap.size w' (.slice a zs.length c) zs ∧ Below w.heap.size w w'
end Go.Proofs.YtkoiknmijjiicaaGreatDoor
