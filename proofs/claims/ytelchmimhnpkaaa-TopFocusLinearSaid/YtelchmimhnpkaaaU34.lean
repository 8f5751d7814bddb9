/- Chapter 1: base.Ints, base.SameSums. -/
import Derived.Test.YtelchmimhnpkaaaU33
namespace Go.Proofs.Ytelchmimhnpkaaa
set_option linter.unusedVariables false
open Go.RowKit Ntt
theorem below_mono_of {B B' : Nat} {w w' : World} (h : B' ≤ B) (hb : Below B w w') : Below B' w w' := hb.mono h
set_option maxHeartbeats 1000000 in
theorem bInts (xs ys : List Int) (v u : Value) (w : World) (hx : IntsV w v xs) (hy : IntsV w u ys) {c : Bool} (hc : decide (xs = ys) = c) :
    Calls Try.prog 56 #[v, u] w fun e w' => e = .returned (.bool c) ∧ Below w.heap.size w w' := by
  subst hc
  obtain ⟨x1, a, cap, rfl, x4⟩ := hx
  obtain ⟨y1, a', cap', rfl, y4⟩ := hy
  by_cases hl : xs.length = ys.length
  · by_cases h0 : 0 < xs.length
    · obtain ⟨b, off, rfl, hbw, hcx⟩ := x4 h0
      obtain ⟨b', off', rfl, hbw', hcy⟩ := y4 (by omega)
      have HCX := Lib.hid hcx
      have HCY := Lib.hid hcy
      have HL := Lib.hid hl
      have hl' : ((xs.length : Int) != (ys.length : Int)) = false := by rw [hl]; exact bne_self_eq_false _
      have hle : xs.length ≤ ys.length := by omega
      have hge : ys.length ≤ xs.length := by omega
      clear x4 y4 hcx hcy hl
      go_enter Try.func56, Try.ntmps56
      go_wp2
      go_loopw [5] (fun i wr => ∃ k : Nat, k ≤ xs.length ∧ i = .int .i64 k ∧ Below w.heap.size w wr ∧ ∀ j, j < k → intAt xs j = intAt ys j) (fun i _ => xs.length - (intOf i).toNat)
      case atStart => exact ⟨0, Nat.zero_le _, rfl, Below.refl _ _, fun j hj => by omega⟩
      case round =>
        obtain ⟨k, hk, rfl, hnx, hz⟩ := hrel
        have HX := Lib.hid hnx
        have HZ := Lib.hid hz
        have hsz := hnx.size
        by_cases hlt : k < xs.length
        · have cx := (hnx.cell (p := ⟨b, off + k, none⟩) hbw).trans (HCX.out k hlt)
          have cy := (hnx.cell (p := ⟨b', off' + k, none⟩) hbw').trans (HCY.out k (by omega))
          have hbr : b < wr.heap.size := by omega
          have hbr' : b' < wr.heap.size := by omega
          clear hnx hz
          by_cases he : intAt xs k = intAt ys k
          · have he' : (intAt xs k != intAt ys k) = false := by simpa using he
            have HE := Lib.hid he
            clear he
            generalize intAt xs k = p at cx he'
            generalize intAt ys k = q at cy he'
            go_wp2
            refine wp_region_calm (by kernel_rfl) (by kernel_rfl) ?_
            repeat (go_big_quiet_step (fail))
            refine wpQuiet_nil ?_
            rintro _ ⟨p3, rfl⟩
            go_wp2
            go_roundw
            case rel => exact ⟨k + 1, by omega, by go_num, HX.out.trans (below_mono_of hsz (by (repeat' (first | with_reducible exact Below.refl _ _ | (with_reducible refine below_later_of ?_ ?_ _) | (with_reducible refine Below.alloc ?_ ?_ _) | (with_reducible refine Below.setCell ?_ ?_ _) | (with_reducible refine Below.drew ?_) | (simp; done) | (simp; omega) | omega)))), fun j hj => if e : j = k then (by rw [e]; exact HE.out) else HZ.out j (by omega)⟩
            case measure => simp [intOf]; omega
          · have he' : (intAt xs k != intAt ys k) = true := by simpa using he
            have HF := Lib.hid (show decide (xs = ys) = false by rw [decide_eq_false_iff_not]; rintro rfl; exact he rfl)
            clear he
            generalize intAt xs k = p at cx he'
            generalize intAt ys k = q at cy he'
            go_wp2
            refine wp_region_calm (by kernel_rfl) (by kernel_rfl) ?_
            repeat (go_big_quiet_step (fail))
            refine wpQuiet_nil ?_
            rintro _ ⟨p3, rfl⟩
            go_wp2
            go_ret
            exact ⟨ret_bool HF.out.symm, HX.out.trans (below_mono_of hsz (by (repeat' (first | with_reducible exact Below.refl _ _ | (with_reducible refine below_later_of ?_ ?_ _) | (with_reducible refine Below.alloc ?_ ?_ _) | (with_reducible refine Below.setCell ?_ ?_ _) | (with_reducible refine Below.drew ?_) | (simp; done) | (simp; omega) | omega))))⟩
        · have HF := Lib.hid (show decide (xs = ys) = true by rw [decide_eq_true_iff]; exact intAt_ext HL.out (fun j hj => HZ.out j (by omega)))
          clear hnx hz
          go_wp2
          go_ret
          exact ⟨ret_bool HF.out.symm, HX.out⟩
    · have e1 : xs = [] := List.length_eq_zero_iff.1 (by omega)
      have e2 : ys = [] := List.length_eq_zero_iff.1 (by omega)
      subst e1 e2
      clear x4 y4 hl h0 x1 y1
      go_enter Try.func56, Try.ntmps56
      go_wp2
      refine wp_loop_rounds 1 ?_
      rw [rounds_succ]
      go_wp2
      go_ret
      exact ⟨rfl, Below.refl _ _⟩
  · have hl' : ((xs.length : Int) != (ys.length : Int)) = true := by rw [bne_iff_ne]; intro h; exact hl (Int.ofNat_inj.1 h)
    have HF := Lib.hid (show decide (xs = ys) = false by rw [decide_eq_false_iff_not]; rintro rfl; exact hl rfl)
    clear x4 y4 hl
    go_enter Try.func56, Try.ntmps56
    go_wp2
    go_ret
    exact ⟨ret_bool HF.out.symm, Below.refl _ _⟩
/-- The value is a slice of these numbers of a field. -/
def SumV (w : World) (v : Value) (n : Nat) (f : Nat → Nat × Nat) : Prop :=
  n ≤ 100000 ∧ ∃ a cap, v = .slice a n cap ∧ (0 < n → ∃ b off, a = some ⟨b, off, none⟩ ∧ b < w.heap.size ∧ SumsAt w b off n f)
theorem SumV.below {w w' : World} {v : Value} {n : Nat} {f : Nat → Nat × Nat} (h : SumV w v n f) (hw : Below w.heap.size w w') : SumV w' v n f := by
  obtain ⟨h1, a, cap, h3, h4⟩ := h
  refine ⟨h1, a, cap, h3, fun hp => ?_⟩
  obtain ⟨b, off, h5, h6, h7⟩ := h4 hp
  exact ⟨b, off, h5, Nat.lt_of_lt_of_le h6 hw.size, h7.below h6 hw⟩
def SameF (n m : Nat) (f g : Nat → Nat × Nat) : Prop := n = m ∧ ∀ k, k < n → f k = g k
set_option maxHeartbeats 2000000 in
theorem sameSums_any (n m : Nat) (f g : Nat → Nat × Nat) (v u : Value) (w : World) (hx : SumV w v n f) (hy : SumV w u m g) {c : Bool} (hc : c = true ↔ SameF n m f g) :
    Calls Try.prog 55 #[v, u] w fun e w' => e = .returned (.bool c) ∧ Below w.heap.size w w' := by
  obtain ⟨x1, a, cap, rfl, x4⟩ := hx
  obtain ⟨y1, a', cap', rfl, y4⟩ := hy
  have HC := Lib.hid hc
  clear hc
  by_cases hl : n = m
  · subst hl
    have hl' : ((n : Int) != (n : Int)) = false := bne_self_eq_false _
    by_cases h0 : 0 < n
    · obtain ⟨b, off, rfl, hbw, hcx⟩ := x4 h0
      obtain ⟨b', off', rfl, hbw', hcy⟩ := y4 h0
      have HCX := Lib.hid hcx
      have HCY := Lib.hid hcy
      clear x4 y4 hcx hcy
      go_enter Try.func55, Try.ntmps55
      go_wp2
      go_loopw [5] (fun i wr => ∃ k : Nat, k ≤ n ∧ i = .int .i64 k ∧ Below w.heap.size w wr ∧ ∀ j, j < k → f j = g j) (fun i _ => n - (intOf i).toNat)
      case atStart => exact ⟨0, Nat.zero_le _, rfl, Below.refl _ _, fun j hj => by omega⟩
      case round =>
        obtain ⟨k, hk, rfl, hnx, hz⟩ := hrel
        have HX := Lib.hid hnx
        have HZ := Lib.hid hz
        have hsz := hnx.size
        by_cases hlt : k < n
        · have cx := (hnx.cell (p := ⟨b, off + k, none⟩) hbw).trans (HCX.out k hlt)
          have cy := (hnx.cell (p := ⟨b', off' + k, none⟩) hbw').trans (HCY.out k hlt)
          have hbr : b < wr.heap.size := by omega
          have hbr' : b' < wr.heap.size := by omega
          have hdk : decide ((k : Int) < (n : Int)) = true := by simp; omega
          have hk0 : (0 : Int) ≤ (k : Int) := by omega
          have hk1 : (k : Int) < (n : Int) := by omega
          obtain ⟨p, hp⟩ : ∃ p, f k = p := ⟨_, rfl⟩
          obtain ⟨q, hq⟩ : ∃ q, g k = q := ⟨_, rfl⟩
          rw [hp] at cx
          rw [hq] at cy
          have HP := Lib.hid hp
          have HQ := Lib.hid hq
          obtain ⟨p1, p2⟩ := p
          obtain ⟨q1, q2⟩ := q
          dsimp only at cx cy
          clear hnx hz hp hq
          have r1 := fun w => hrun_bits p1 w
          have r2 := fun w => hrun_bits p2 w
          have r3 := fun w => hrun_bits q1 w
          have r4 := fun w => hrun_bits q2 w
          by_cases he : p1 = q1
          · subst he
            have d1 : ((p1 : Int) != (p1 : Int)) = false := bne_self_eq_false _
            by_cases he2 : p2 = q2
            · subst he2
              have d2 : ((p2 : Int) != (p2 : Int)) = false := bne_self_eq_false _
              go_wp2
              refine wp_region_calm (by kernel_rfl) (by kernel_rfl) ?_
              repeat (go_big_quiet_step (fail))
              refine wpQuiet_nil ?_
              rintro _ ⟨pp, rfl⟩
              go_wp2
              go_roundw
              case rel => exact ⟨k + 1, by omega, by go_num, HX.out.trans (below_mono_of hsz (by (repeat' (first | with_reducible exact Below.refl _ _ | (with_reducible refine below_later_of ?_ ?_ _) | (with_reducible refine Below.alloc ?_ ?_ _) | (with_reducible refine Below.setCell ?_ ?_ _) | (with_reducible refine Below.drew ?_) | (simp; done) | (simp; omega) | omega)))), fun j hj => if e : j = k then (by rw [e, HP.out, HQ.out]) else HZ.out j (by omega)⟩
              case measure => simp [intOf]; omega
            · have d2 : ((p2 : Int) != (q2 : Int)) = true := by rw [bne_iff_ne]; omega
              have HF := Lib.hid (show false = c by
                symm
                rw [Bool.eq_false_iff]
                intro h
                have := (HC.out.1 h).2 k hlt
                rw [HP.out, HQ.out] at this
                cases this
                exact he2 rfl)
              clear he2
              go_wp2
              refine wp_region_calm (by kernel_rfl) (by kernel_rfl) ?_
              repeat (go_big_quiet_step (fail))
              refine wpQuiet_nil ?_
              rintro _ ⟨pp, rfl⟩
              go_wp2
              go_ret
              exact ⟨ret_bool HF.out, HX.out.trans (below_mono_of hsz (by (repeat' (first | with_reducible exact Below.refl _ _ | (with_reducible refine below_later_of ?_ ?_ _) | (with_reducible refine Below.alloc ?_ ?_ _) | (with_reducible refine Below.setCell ?_ ?_ _) | (with_reducible refine Below.drew ?_) | (simp; done) | (simp; omega) | omega))))⟩
          · have d1 : ((p1 : Int) != (q1 : Int)) = true := by rw [bne_iff_ne]; omega
            have HF := Lib.hid (show false = c by
              symm
              rw [Bool.eq_false_iff]
              intro h
              have := (HC.out.1 h).2 k hlt
              rw [HP.out, HQ.out] at this
              cases this
              exact he rfl)
            clear he
            go_wp2
            refine wp_region_calm (by kernel_rfl) (by kernel_rfl) ?_
            repeat (go_big_quiet_step (fail))
            refine wpQuiet_nil ?_
            rintro _ ⟨pp, rfl⟩
            go_wp2
            go_ret
            exact ⟨ret_bool HF.out, HX.out.trans (below_mono_of hsz (by (repeat' (first | with_reducible exact Below.refl _ _ | (with_reducible refine below_later_of ?_ ?_ _) | (with_reducible refine Below.alloc ?_ ?_ _) | (with_reducible refine Below.setCell ?_ ?_ _) | (with_reducible refine Below.drew ?_) | (simp; done) | (simp; omega) | omega))))⟩
        · obtain rfl : k = n := by omega
          have HF := Lib.hid (show true = c from (HC.out.2 ⟨rfl, HZ.out⟩).symm)
          have hdk : decide ((k : Int) < (k : Int)) = false := by simp
          clear hnx hz
          go_wp2
          go_ret
          exact ⟨ret_bool HF.out, HX.out⟩
    · obtain rfl : n = 0 := by omega
      have HF := Lib.hid (show true = c from (HC.out.2 ⟨rfl, fun k hk => absurd hk (Nat.not_lt_zero _)⟩).symm)
      clear x4 y4 h0 hl' x1 y1
      go_enter Try.func55, Try.ntmps55
      go_wp2
      refine wp_loop_rounds 1 ?_
      rw [rounds_succ]
      go_wp2
      go_ret
      exact ⟨ret_bool HF.out, Below.refl _ _⟩
  · have hl' : ((n : Int) != (m : Int)) = true := by rw [bne_iff_ne]; omega
    have HF := Lib.hid (show false = c by
      symm
      rw [Bool.eq_false_iff]
      intro h
      exact hl (HC.out.1 h).1)
    clear x4 y4 hl
    go_enter Try.func55, Try.ntmps55
    go_wp2
    go_ret
    exact ⟨ret_bool HF.out, Below.refl _ _⟩
theorem parts_new (w : World) (l : List Nat) (t : TypeId) {arr : Array Value} (h : arr = (l.map (Value.float .f32)).toArray) {b : Nat} (hb : w.heap.size = b) : PartsAt (w.alloc (.cells arr t)) b 0 l.length (fun k => l.getD k 0) := fun k hk => by
  subst h hb
  rw [Nat.zero_add, cell_of_row _ _ k _ t (0, 0) (heap_alloc_new w _)]
  simp [hk]
theorem samples_new (w : World) (l : List (Nat × Nat)) (t : TypeId) {arr : Array Value} (h : arr = (l.map fun z => Value.complex .f32 z.1 z.2).toArray) {b : Nat} (hb : w.heap.size = b) : SamplesAt (w.alloc (.cells arr t)) b 0 l.length (fun k => l.getD k (0, 0)) := fun k hk => by
  subst h hb
  rw [Nat.zero_add, cell_of_row _ _ k _ t (0, 0) (heap_alloc_new w _)]
  simp [hk]
theorem sums_new (w : World) (l : List (Nat × Nat)) (t : TypeId) {arr : Array Value} (h : arr = (l.map fun z => Value.complex .f64 z.1 z.2).toArray) {b : Nat} (hb : w.heap.size = b) : SumsAt (w.alloc (.cells arr t)) b 0 l.length (fun k => l.getD k (0, 0)) := fun k hk => by
  subst h hb
  rw [Nat.zero_add, cell_of_row _ _ k _ t (0, 0) (heap_alloc_new w _)]
  simp [hk]
theorem ints_new (w : World) (l : List Int) (t : TypeId) (cap : Nat) {arr : Array Value} (h : arr = (l.map (Value.int .i64)).toArray) (hl : l.length ≤ 1000000000) {b : Nat} (hb : w.heap.size = b) : IntsV (w.alloc (.cells arr t)) (.slice (some ⟨b, 0, none⟩) l.length cap) l := by
  subst h hb
  refine ⟨hl, _, cap, rfl, fun _ => ⟨w.heap.size, 0, rfl, by simp, fun k hk => ?_⟩⟩
  rw [Nat.zero_add, cell_of_row _ _ k _ t (0, 0) (heap_alloc_new w _)]
  unfold intAt
  simp [hk]
/-- A field that is returned, as a list of its numbers. -/
theorem sumV_field {W : World} {base : Nat} {a : Option Addr} {c : Nat} {D : List (Nat × Nat)} (h : FieldAt W base a D) (hl : D.length ≤ 100000) : SumV W (.slice a D.length c) D.length (fun k => D.getD k (0, 0)) :=
  ⟨hl, a, c, rfl, fun hp => by
    obtain ⟨g, h1, -, h3, h4⟩ := h hp
    exact ⟨g, 0, h1, h3, fun k hk => by rw [Nat.zero_add]; exact h4 k _ (by simp [hk])⟩⟩
end Go.Proofs.Ytelchmimhnpkaaa
