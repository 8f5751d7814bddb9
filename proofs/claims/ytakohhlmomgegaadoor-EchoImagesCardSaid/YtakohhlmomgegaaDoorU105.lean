/- Chapter 1: rows of ranges; base.Ranges; the reference's Gaps. -/
import Derived.Test.YtakohhlmomgegaaDoorU104
import Derived.Test.YtakohhlmomgegaaDoorU63
namespace Go.Proofs.YtakohhlmomgegaaDoor
set_option linter.unusedVariables false
set_option linter.unusedSimpArgs false
open Go.RowKit Ieee Ntt
theorem equal_struct2 {P : Program} (n : Nat) (t : TypeId) (f0 f1 : Go.Field) (x0 x1 y0 y1 : Value) (b0 b1 : Bool) (w : World) (ht : P.underlying t = some (.struct #[f0, f1])) (hp : P.stoodInHeld t = false) (xs ys : Array Value) (n0 : (f0.name == "_") = false) (n1 : (f1.name == "_") = false)
    (p0 : ∀ w, (part f0.type xs f0.offset).run P w = .ok x0 w) (p1 : ∀ w, (part f1.type xs f1.offset).run P w = .ok x1 w) (q0 : ∀ w, (part f0.type ys f0.offset).run P w = .ok y0 w) (q1 : ∀ w, (part f1.type ys f1.offset).run P w = .ok y1 w)
    (h0 : ∀ w, (Op.equalIn n f0.type x0 y0).run P w = .ok b0 w) (h1 : ∀ w, (Op.equalIn n f1.type x1 y1).run P w = .ok b1 w) :
    (Op.equalIn (n + 1) t (.agg xs) (.agg ys)).run P w = .ok (b0 && b1) w := by
  have n0' : f0.name ≠ "_" := by simpa using n0
  have n1' : f1.name ≠ "_" := by simpa using n1
  simp only [Op.equalIn, Sem.run_bind, run_underlying ht, Result.andThen_ok, run_program, hp, Bool.false_eq_true, if_false]
  cases b0 <;> cases b1 <;> simp [p0, p1, q0, q1, h0, h1, n0', n1']
noncomputable def fR0 : Go.Field := (Tryd.prog.fieldsOf 109)[0]!
noncomputable def fR1 : Go.Field := (Tryd.prog.fieldsOf 109)[1]!
theorem tyR0 : fR0.type = 3 := by kernel_rfl
theorem tyR1 : fR1.type = 3 := by kernel_rfl
theorem undR : Tryd.prog.underlying 109 = some (.struct #[fR0, fR1]) := by kernel_rfl
theorem eqRange (n : Nat) (a b c d : Int) (w : World) : (Op.equalIn (n + 2) 109 (.agg #[.int .i64 a, .int .i64 b]) (.agg #[.int .i64 c, .int .i64 d])).run Tryd.prog w = .ok (a == c && b == d) w :=
  equal_struct2 (n + 1) _ fR0 fR1 (.int .i64 a) (.int .i64 b) (.int .i64 c) (.int .i64 d) _ _ w undR (by kernel_rfl) _ _ (by kernel_rfl) (by kernel_rfl) (fun w => by kernel_rfl) (fun w => by kernel_rfl) (fun w => by kernel_rfl) (fun w => by kernel_rfl)
    (fun w => by rw [tyR0]; exact equal_int n 3 _ Tryd.underlying3 a c w) (fun w => by rw [tyR1]; exact equal_int n 3 _ Tryd.underlying3 b d w)
theorem eqR1 (a b c d : Int) (w : World) : (Op.equalIn 10000 109 (.agg #[.int .i64 a, .int .i64 b]) (.agg #[.int .i64 c, .int .i64 d])).run Tryd.prog w = .ok (a == c && b == d) w := eqRange 9998 a b c d w
attribute [go_sem] eqR1
/-- The cells of ranges. -/
def rgC : List (Int × Int) → List Value
  | [] => []
  | p :: D => .int .i64 p.1 :: .int .i64 p.2 :: rgC D
theorem rgC_len : ∀ D : List (Int × Int), (rgC D).length = D.length * 2
  | [] => rfl
  | p :: D => by simp only [rgC, List.length_cons, rgC_len D]; omega
theorem rgC_snoc (D : List (Int × Int)) (p : Int × Int) : rgC (D ++ [p]) = rgC D ++ [.int .i64 p.1, .int .i64 p.2] := by
  induction D with
  | nil => rfl
  | cons q D ih => simp only [List.cons_append, rgC, ih]
theorem rgC_at : ∀ (D : List (Int × Int)) (k : Nat), k < D.length → (rgC D)[k * 2]? = some (.int .i64 (D.getD k (0, 0)).1) ∧ (rgC D)[k * 2 + 1]? = some (.int .i64 (D.getD k (0, 0)).2)
  | [], k, h => by simp at h
  | p :: D, 0, _ => ⟨rfl, rfl⟩
  | p :: D, k + 1, h => by
    have := rgC_at D k (by simpa using h)
    rw [show (k + 1) * 2 = k * 2 + 1 + 1 by omega]
    simpa [rgC] using this
theorem rgC_set : ∀ (D : List (Int × Int)) (k : Nat) (x : Int), k < D.length → (rgC D).set (k * 2 + 1) (.int .i64 x) = rgC (D.set k ((D.getD k (0, 0)).1, x))
  | [], k, x, h => by simp at h
  | p :: D, 0, x, _ => rfl
  | p :: D, k + 1, x, h => by
    have := rgC_set D k x (by simpa using h)
    rw [show (k + 1) * 2 + 1 = k * 2 + 1 + 1 + 1 by omega]
    simp only [rgC, List.set_cons_succ, this]
    simp
/-- A line is added to the gaps. -/
def gapStep (D : List (Int × Int)) (l : Int) : List (Int × Int) := if 0 < D.length ∧ (D.getD (D.length - 1) (0, 0)).2 = l - 1 then D.set (D.length - 1) ((D.getD (D.length - 1) (0, 0)).1, l) else D ++ [(l, l)]
/-- The gaps of the first lines. -/
def gapsP (em : Nat → Bool) : Nat → List (Int × Int)
  | 0 => []
  | l + 1 => if em l then gapStep (gapsP em l) l else gapsP em l
theorem gapsP_len (em : Nat → Bool) : ∀ l, (gapsP em l).length ≤ l
  | 0 => Nat.le_refl _
  | l + 1 => by
    have := gapsP_len em l
    unfold gapsP gapStep
    split
    · split
      · rw [List.length_set]; omega
      · rw [List.length_append]; simp; omega
    · omega
theorem gapsP_last (em : Nat → Bool) : ∀ l, ∀ p ∈ gapsP em l, (0 ≤ p.1 ∧ p.1 ≤ l) ∧ 0 ≤ p.2 ∧ p.2 ≤ l
  | 0, p, h => by cases h
  | l + 1, p, h => by
    have ih := gapsP_last em l
    unfold gapsP gapStep at h
    split at h
    · split at h
      · rename_i hc
        rcases List.mem_or_eq_of_mem_set h with h | rfl
        · have := ih p h; omega
        · have hm : (gapsP em l).getD ((gapsP em l).length - 1) (0, 0) ∈ gapsP em l := by
            rw [List.getD_eq_getElem?_getD, List.getElem?_eq_getElem (by omega)]
            exact List.getElem_mem _
          have := ih _ hm
          simp only
          omega
      · rcases List.mem_append.1 h with h | h
        · have := ih p h; omega
        · simp at h; subst h; simp only; omega
    · have := ih p h; omega
/-- The value is a slice of these ranges. -/
def RgV (w : World) (v : Value) (D : List (Int × Int)) : Prop := D.length ≤ 100000 ∧ ∃ a cap, v = .slice a D.length cap ∧ (0 < D.length → ∃ b, a = some ⟨b, 0, none⟩ ∧ b < w.heap.size ∧ ∀ k, k < D.length → w.cell? ⟨b, k * 2, none⟩ = some (.int .i64 (D.getD k (0, 0)).1) ∧ w.cell? ⟨b, k * 2 + 1, none⟩ = some (.int .i64 (D.getD k (0, 0)).2))
theorem RgV.below {w w' : World} {v : Value} {D : List (Int × Int)} (h : RgV w v D) (hb : Below w.heap.size w w') : RgV w' v D := by
  obtain ⟨h1, a, cap, h2, h3⟩ := h
  refine ⟨h1, a, cap, h2, fun h0 => ?_⟩
  obtain ⟨b, h4, h5, h6⟩ := h3 h0
  exact ⟨b, h4, Nat.lt_of_lt_of_le h5 hb.size, fun k hk => ⟨(hb.cell (p := ⟨b, k * 2, none⟩) h5).trans (h6 k hk).1, (hb.cell (p := ⟨b, k * 2 + 1, none⟩) h5).trans (h6 k hk).2⟩⟩
theorem rgV_own {W : World} {base : Nat} {e : TypeId} {v : Value} {D : List (Int × Int)} (h : W.ownsRow base e 2 v D.length (rgC D)) (hl : D.length ≤ 100000) : RgV W v D := by
  refine ⟨hl, ?_⟩
  have h0 := h
  obtain ⟨-, ⟨rfl, h1⟩ | ⟨g, cap, cur, rfl, h2, h3, -⟩⟩ := h0
  · exact ⟨none, 0, by rw [h1], fun hp => by omega⟩
  · refine ⟨_, cap, rfl, fun hp => ⟨g, rfl, (Array.getElem?_eq_some_iff.1 h3).1, fun k hk => ?_⟩⟩
    obtain ⟨r1, r2⟩ := rgC_at D k hk
    rw [h.cellAt (k * 2) (by omega), h.cellAt (k * 2 + 1) (by omega)]
    exact ⟨r1, r2⟩
set_option maxHeartbeats 2000000 in
theorem ranges_same (D : List (Int × Int)) (v u : Value) (w : World) (hx : RgV w v D) (hy : RgV w u D) :
    Calls Tryd.prog 57 #[v, u] w fun e w' => e = .returned (.bool true) ∧ Below w.heap.size w w' := by
  obtain ⟨x1, a, cap, rfl, x4⟩ := hx
  obtain ⟨-, a', cap', rfl, y4⟩ := hy
  have hl' : ((D.length : Int) != (D.length : Int)) = false := bne_self_eq_false _
  by_cases h0 : 0 < D.length
  · obtain ⟨b, rfl, hbw, hcx⟩ := x4 h0
    obtain ⟨b', rfl, hbw', hcy⟩ := y4 h0
    have HCX := Lib.hid hcx
    have HCY := Lib.hid hcy
    clear x4 y4 hcx hcy
    generalize D.length = n at *
    go_enter Tryd.func57, Tryd.ntmps57
    go_wp2
    go_loopw [5] (fun i wr => ∃ k : Nat, k ≤ n ∧ i = .int .i64 k ∧ Below w.heap.size w wr) (fun i _ => n - (intOf i).toNat)
    case atStart => exact ⟨0, Nat.zero_le _, rfl, Below.refl _ _⟩
    case round =>
      obtain ⟨k, hk, rfl, hnx⟩ := hrel
      have HX := Lib.hid hnx
      have hsz := hnx.size
      by_cases hlt : k < n
      · have cx1 := (hnx.cell (p := ⟨b, k * 2, none⟩) hbw).trans (HCX.out k hlt).1
        have cx2 := (hnx.cell (p := ⟨b, k * 2 + 1, none⟩) hbw).trans (HCX.out k hlt).2
        have cy1 := (hnx.cell (p := ⟨b', k * 2, none⟩) hbw').trans (HCY.out k hlt).1
        have cy2 := (hnx.cell (p := ⟨b', k * 2 + 1, none⟩) hbw').trans (HCY.out k hlt).2
        have hbr : b < wr.heap.size := by omega
        have hbr' : b' < wr.heap.size := by omega
        have hdk : decide ((k : Int) < (n : Int)) = true := by simp; omega
        have hk0 : (0 : Int) ≤ (k : Int) := by omega
        have hk1 : (k : Int) < (n : Int) := by omega
        generalize (D.getD k (0, 0)).1 = p at *
        generalize (D.getD k (0, 0)).2 = q at *
        have d1 : (p == p) = true := by simp
        have d2 : (q == q) = true := by simp
        clear hnx
        go_wp2
        refine wp_region_calm (by kernel_rfl) (by kernel_rfl) ?_
        repeat (go_big_quiet_step (fail))
        refine wpQuiet_nil ?_
        rintro _ ⟨pp, rfl⟩
        go_wp2
        go_roundw
        case rel => exact ⟨k + 1, by omega, by go_num, HX.out.trans (below_mono_of hsz (by (repeat' (first | with_reducible exact Below.refl _ _ | (with_reducible refine below_later_of ?_ ?_ _) | (with_reducible refine Below.alloc ?_ ?_ _) | (with_reducible refine Below.setCell ?_ ?_ _) | (with_reducible refine Below.drew ?_) | (simp; done) | (simp; omega) | omega))))⟩
        case measure => simp [intOf]; omega
      · obtain rfl : k = n := by omega
        have hdk : decide ((k : Int) < (k : Int)) = false := by simp
        clear hnx
        go_wp2
        go_ret
        exact ⟨rfl, HX.out⟩
  · have h1 : D.length = 0 := by omega
    clear x4 y4 h0 hl' x1
    rw [h1]
    go_enter Tryd.func57, Tryd.ntmps57
    go_wp2
    refine wp_loop_rounds 1 ?_
    rw [rounds_succ]
    go_wp2
    go_ret
    exact ⟨rfl, Below.refl _ _⟩
end Go.Proofs.YtakohhlmomgegaaDoor
