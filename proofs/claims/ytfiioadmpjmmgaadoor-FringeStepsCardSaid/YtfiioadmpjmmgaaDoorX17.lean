/- Chapter 4: a field of pairs. -/
import Derived.Test.YtfiioadmpjmmgaaDoorX16
import Derived.Test.YtfiioadmpjmmgaaDoorX2
import Derived.Test.YtfiioadmpjmmgaaDoorZM
import Derived.Test.YtfiioadmpjmmgaaDoorU80
namespace Go.Proofs.YtfiioadmpjmmgaaDoor
set_option linter.unusedVariables false
set_option linter.unusedSimpArgs false
open Go.RowKit Ieee Ntt
theorem any_worldF {G : World → Prop} {w : World} (F : World → Prop) (hf : F w) (h : ∀ W, F W → G W) : G w := h w hf
/-- A part is too large for a field. -/
def largeB (p : Int × Int) : Bool := !(inE (-1000000000) 1000000000 p.1 && inE (-1000000000) 1000000000 p.2)
set_option maxHeartbeats 1000000 in
theorem fLarge (x y : Int) (w : World) {c : Bool} (hc : largeB (x, y) = c) : Calls Tryd.prog 77 #[.agg #[.int .i64 x, .int .i64 y]] w fun e w' => e = .returned (.bool c) ∧ Below w.heap.size w w' := by
  unfold largeB at hc
  dsimp only at hc
  obtain ⟨q1, hq1⟩ : ∃ q1, inE (-1000000000) 1000000000 x = q1 := ⟨_, rfl⟩
  obtain ⟨q2, hq2⟩ : ∃ q2, inE (-1000000000) 1000000000 y = q2 := ⟨_, rfl⟩
  rw [hq1, hq2] at hc
  have H1 := Lib.hid hq1
  have H2 := Lib.hid hq2
  subst hc
  clear hq1 hq2
  cases q1
  · go_enter Tryd.func77, Tryd.ntmps77
    go_wp2_with (first | (go_at_call 51; (with_reducible refine (fWithin _ _ _ _ H1.out).mono ?_); rintro e w' ⟨rfl, rfl⟩))
    go_ret
    exact ⟨rfl, (by (repeat' (first | with_reducible exact Below.refl _ _ | (with_reducible refine below_later_of ?_ ?_ _) | (with_reducible refine Below.alloc ?_ ?_ _) | (with_reducible refine Below.setCell ?_ ?_ _) | (with_reducible refine Below.drew ?_) | (simp; done) | (simp; omega) | omega)))⟩
  · go_enter Tryd.func77, Tryd.ntmps77
    go_wp2_with (first | (go_at_call 51; (with_reducible refine (fWithin _ _ _ _ H1.out).mono ?_); rintro e w' ⟨rfl, rfl⟩) | (go_at_call 51; (with_reducible refine (fWithin _ _ _ _ H2.out).mono ?_); rintro e w' ⟨rfl, rfl⟩))
    go_ret
    exact ⟨by simp, (by (repeat' (first | with_reducible exact Below.refl _ _ | (with_reducible refine below_later_of ?_ ?_ _) | (with_reducible refine Below.alloc ?_ ?_ _) | (with_reducible refine Below.setCell ?_ ?_ _) | (with_reducible refine Below.drew ?_) | (simp; done) | (simp; omega) | omega)))⟩
def anyL (n : Nat) (F : Nat → Int × Int) : Bool := (List.range n).any fun k => largeB (F k)
theorem anyL_hit {n k : Nat} {F : Nat → Int × Int} (hk : k < n) (h : largeB (F k) = true) : anyL n F = true := by
  unfold anyL
  rw [List.any_eq_true]
  exact ⟨k, List.mem_range.2 hk, h⟩
theorem anyL_no {n : Nat} {F : Nat → Int × Int} (h : ∀ j, j < n → largeB (F j) = false) : anyL n F = false := by
  unfold anyL
  rw [List.any_eq_false]
  intro j hj
  rw [h j (List.mem_range.1 hj)]
  decide
theorem anyL_off {n : Nat} {F : Nat → Int × Int} (h : anyL n F = false) : SmallP n F 1000000000 := fun k hk => by
  unfold anyL at h
  rw [List.any_eq_false] at h
  have := h k (List.mem_range.2 hk)
  unfold largeB at this
  simp only [Bool.not_eq_true, Bool.not_eq_false', Bool.and_eq_true] at this
  exact ⟨inE_iff.1 this.1, inE_iff.1 this.2⟩
theorem small_anyL {n : Nat} {F : Nat → Int × Int} (h : SmallP n F 1000000000) : anyL n F = false := anyL_no fun j hj => by
  obtain ⟨h1, h2⟩ := h j hj
  unfold largeB
  rw [inE_iff.2 h1, inE_iff.2 h2]
  rfl
set_option maxHeartbeats 1000000 in
theorem indexFunc_pr (n g cap : Nat) (F : Nat → Int × Int) (w : World) (hl : n ≤ 100000) (hg : g < w.heap.size) (hf : PairsAt w g n F) :
    Calls Tryd.prog 97 #[.slice (some ⟨g, 0, none⟩) n cap, .func (.func 77) #[] #[]] w fun e w' => ∃ i : Int, e = .returned (.int .i64 i) ∧ decide (0 ≤ i) = anyL n F ∧ (-1 ≤ i ∧ i ≤ 100000) ∧ Below w.heap.size w w' := by
  have HF := Lib.hid hf
  clear hf
  go_enter Tryd.func97, Tryd.ntmps97
  go_wp2
  go_loopw [8] (fun i wr => ∃ k : Nat, k ≤ n ∧ i = .int .i64 k ∧ Below w.heap.size w wr ∧ ∀ j, j < k → largeB (F j) = false) (fun i _ => n - (intOf i).toNat)
  case atStart => exact ⟨0, Nat.zero_le _, rfl, Below.refl _ _, fun j hj => absurd hj (Nat.not_lt_zero _)⟩
  case round =>
    obtain ⟨k, hk, rfl, hbe, hz⟩ := hrel
    have HZ := Lib.hid hz
    have HB := Lib.hid hbe
    have hsz := hbe.size
    by_cases hlt : k < n
    · have hdk : decide ((k : Int) < (n : Int)) = true := by simp; omega
      have hk0 : (0 : Int) ≤ (k : Int) := by omega
      have hk1 : (k : Int) < (n : Int) := by omega
      have c1 := (hbe.cell (p := ⟨g, k * 2, none⟩) hg).trans (HF.out k hlt).1
      have c2 := (hbe.cell (p := ⟨g, k * 2 + 1, none⟩) hg).trans (HF.out k hlt).2
      have hgr : g < wr.heap.size := by omega
      clear hz hbe
      rcases (show largeB (F k) = false ∨ largeB (F k) = true by cases largeB (F k) <;> simp) with h0 | h0
      · have HP := Lib.hid (fun W => fLarge (F k).1 (F k).2 W h0)
        have H0 := Lib.hid h0
        clear h0
        generalize (F k).1 = x at *
        generalize (F k).2 = y at *
        go_wp2_with (first | (go_at_call 77; (with_reducible refine (HP.out _).mono ?_); rintro e w' ⟨rfl, hb⟩; obtain ⟨p1, rfl⟩ := later_of_below hb; clear hb))
        go_roundw
        case rel => exact ⟨k + 1, by omega, by go_num, HB.out.trans (below_mono_of hsz (by (repeat' (first | with_reducible exact Below.refl _ _ | (with_reducible refine below_later_of ?_ ?_ _) | (with_reducible refine Below.alloc ?_ ?_ _) | (with_reducible refine Below.setCell ?_ ?_ _) | (with_reducible refine Below.drew ?_) | (simp; done) | (simp; omega) | omega)))), fun j hj => by rcases Nat.lt_succ_iff_lt_or_eq.1 hj with h | rfl; exact HZ.out j h; exact H0.out⟩
        case measure => simp [intOf]; omega
      · have HP := Lib.hid (fun W => fLarge (F k).1 (F k).2 W h0)
        have H0 := Lib.hid (anyL_hit hlt h0)
        clear h0
        generalize (F k).1 = x at *
        generalize (F k).2 = y at *
        go_wp2_with (first | (go_at_call 77; (with_reducible refine (HP.out _).mono ?_); rintro e w' ⟨rfl, hb⟩; obtain ⟨p1, rfl⟩ := later_of_below hb; clear hb))
        go_ret
        exact ⟨k, rfl, by rw [H0.out]; simp, by omega, HB.out.trans (below_mono_of hsz (by (repeat' (first | with_reducible exact Below.refl _ _ | (with_reducible refine below_later_of ?_ ?_ _) | (with_reducible refine Below.alloc ?_ ?_ _) | (with_reducible refine Below.setCell ?_ ?_ _) | (with_reducible refine Below.drew ?_) | (simp; done) | (simp; omega) | omega))))⟩
    · obtain rfl : k = n := by omega
      have hdk : decide ((k : Int) < (k : Int)) = false := by simp
      have H0 := Lib.hid (anyL_no hz)
      clear hz hbe
      go_wp2
      go_ret
      exact ⟨-1, rfl, by rw [H0.out]; decide, by omega, HB.out⟩
set_option maxHeartbeats 1000000 in
theorem containsFunc_pr (n g cap : Nat) (F : Nat → Int × Int) (w : World) (hl : n ≤ 100000) (hg : g < w.heap.size) (hf : PairsAt w g n F) {c : Bool} (hc : anyL n F = c) :
    Calls Tryd.prog 76 #[.slice (some ⟨g, 0, none⟩) n cap, .func (.func 77) #[] #[]] w fun e w' => e = .returned (.bool c) ∧ Below w.heap.size w w' := by
  have HI := Lib.hid (indexFunc_pr n g cap F w hl hg hf)
  rw [hc] at HI
  clear hf hc
  go_enter Tryd.func76, Tryd.ntmps76
  go_wp2_with (first | (go_at_call 97; (with_reducible refine (HI.out).mono ?_); rintro e w' ⟨i, rfl, hc, ⟨hi1, hi2⟩, hb⟩; have HC := Lib.hid hc; clear hc; obtain ⟨p1, rfl⟩ := later_of_below hb; clear hb))
  go_ret
  exact ⟨ret_bool HC.out, (by (repeat' (first | with_reducible exact Below.refl _ _ | (with_reducible refine below_later_of ?_ ?_ _) | (with_reducible refine Below.alloc ?_ ?_ _) | (with_reducible refine Below.setCell ?_ ?_ _) | (with_reducible refine Below.drew ?_) | (simp; done) | (simp; omega) | omega)))⟩
set_option maxHeartbeats 1000000 in
theorem fNumber (x y : Int) (w : World) : Calls Tryd.prog 78 #[.agg #[.int .i64 x, .int .i64 y]] w fun e w' => e = .returned (.complex .f64 (f64I x) (f64I y)) ∧ Below w.heap.size w w' := by
  have h1 := fun w => conv_f64 x w
  have h2 := fun w => conv_f64 y w
  generalize f64I x = a at *
  generalize f64I y = b at *
  go_enter Tryd.func78, Tryd.ntmps78
  go_wp2
  go_ret
  exact ⟨rfl, (by (repeat' (first | with_reducible exact Below.refl _ _ | (with_reducible refine below_later_of ?_ ?_ _) | (with_reducible refine Below.alloc ?_ ?_ _) | (with_reducible refine Below.setCell ?_ ?_ _) | (with_reducible refine Below.drew ?_) | (simp; done) | (simp; omega) | omega)))⟩
/-- The numbers of pairs. -/
def nmF (F : Nat → Int × Int) (i : Nat) : Nat × Nat := (f64I (F i).1, f64I (F i).2)
/-- A field that is returned without an error. -/
def FdPost4 (L S n : Nat) (f : Nat → Nat × Nat) (w : World) (e : Ending) (w' : World) : Prop :=
  ∃ a c, e = .returned (.tuple #[.agg #[.int .i64 L, .int .i64 S, .slice a n c], .int .i64 0]) ∧ OwnS w' w.heap.size n f a ∧ n ≤ c ∧ Below w.heap.size w w'
set_option maxHeartbeats 1000000 in
theorem fieldOf_large (L S n cap g : Nat) (F : Nat → Int × Int) (w : World) (hl : n ≤ 100000) (hg : g < w.heap.size) (hf : PairsAt w g n F) (hc : anyL n F = true) :
    Calls Tryd.prog 43 #[.agg #[.int .i64 L, .int .i64 S, .slice (some ⟨g, 0, none⟩) n cap]] w fun e w' => e = .returned (.tuple #[.agg #[.int .i64 0, .int .i64 0, .slice none 0 0], .int .i64 8]) ∧ Below w.heap.size w w' := by
  have HCF := Lib.hid (show ∀ W, Below w.heap.size w W → _ from fun W hW => containsFunc_pr n g cap F W hl (by have := hW.size; omega) (hf.below hg hW) hc)
  clear hf hc
  go_enter Tryd.func43, Tryd.ntmps43
  go_wp2_with (first | (go_at_call 76; (with_reducible refine (HCF.out _ (by (repeat' (first | with_reducible exact Below.refl _ _ | (with_reducible refine below_later_of ?_ ?_ _) | (with_reducible refine Below.alloc ?_ ?_ _) | (with_reducible refine Below.setCell ?_ ?_ _) | (with_reducible refine Below.drew ?_) | (simp; done) | (simp; omega) | omega)))).mono ?_); rintro e w' ⟨rfl, hb⟩; obtain ⟨p1, rfl⟩ := later_of_below hb; clear hb))
  refine bodyPost_ret ?_ rfl ⟨rfl, (by (repeat' (first | with_reducible exact Below.refl _ _ | (with_reducible refine below_later_of ?_ ?_ _) | (with_reducible refine Below.alloc ?_ ?_ _) | (with_reducible refine Below.setCell ?_ ?_ _) | (with_reducible refine Below.drew ?_) | (simp; done) | (simp; omega) | omega)))⟩
  first | (simp [results, Tryd.results43, go_sem]; done) | simp [results, Tryd.results43, go_sem, ↓IntWalk.iteOmega]
set_option maxRecDepth 20000 in
set_option maxHeartbeats 4000000 in
theorem fieldOf_ok (L S n cap g : Nat) (F : Nat → Int × Int) (w : World) (hl : n ≤ 5000) (hg : g < w.heap.size) (hf : PairsAt w g n F) (hc : anyL n F = false) :
    Calls Tryd.prog 43 #[.agg #[.int .i64 L, .int .i64 S, .slice (some ⟨g, 0, none⟩) n cap]] w (FdPost4 L S n (nmF F) w) := by
  obtain ⟨i0, hi0, hz0, hz1, hz2⟩ := info_parts infoC
  have HCF := Lib.hid (show ∀ W, Below w.heap.size w W → _ from fun W hW => containsFunc_pr n g cap F W (by omega) (by have := hW.size; omega) (hf.below hg hW) hc)
  have HF := Lib.hid hf
  clear hf hc
  go_enter Tryd.func43, Tryd.ntmps43
  go_wp2_with (first | (go_at_call 76; (with_reducible refine (HCF.out _ (by (repeat' (first | with_reducible exact Below.refl _ _ | (with_reducible refine below_later_of ?_ ?_ _) | (with_reducible refine Below.alloc ?_ ?_ _) | (with_reducible refine Below.setCell ?_ ?_ _) | (with_reducible refine Below.drew ?_) | (simp; done) | (simp; omega) | omega)))).mono ?_); rintro e w' ⟨rfl, hb⟩; obtain ⟨p1, rfl⟩ := later_of_below hb; clear hb))
  obtain ⟨O, hO⟩ : ∃ O, O = w.heap.size + 1 + 1 + p1.os.size := ⟨_, rfl⟩
  refine any_worldF (fun W => ∃ W1, Below w.heap.size w W1 ∧ W1.heap.size = w.heap.size + 1 ∧ W1.cell? ⟨w.heap.size, 2, none⟩ = some (.slice (some ⟨g, 0, none⟩) n cap) ∧ TriN W1 (w.heap.size + 1) O L S 42 1 (.slice none 0 0) 0 (cvF (nmF F) 0) W)
    ⟨w.alloc (.cells #[.int .i64 L, .int .i64 S, .slice (some ⟨g, 0, none⟩) n cap] 94), (by (repeat' (first | with_reducible exact Below.refl _ _ | (with_reducible refine below_later_of ?_ ?_ _) | (with_reducible refine Below.alloc ?_ ?_ _) | (with_reducible refine Below.setCell ?_ ?_ _) | (with_reducible refine Below.drew ?_) | (simp; done) | (simp; omega) | omega))), by simp, by simp [go_sem], by rw [hO]; simp [go_sem], by rw [hO]; simp [go_sem], by rw [hO]; simp [go_sem], by rw [hO]; simp [go_sem], by (first | (simp [go_sem]; done) | simp [go_sem, ↓IntWalk.iteOmega]), by (first | (simp [go_sem]; done) | simp [go_sem, ↓IntWalk.iteOmega]), by (first | (simp [go_sem]; done) | simp [go_sem, ↓IntWalk.iteOmega]), by (first | (simp [go_sem]; done) | simp [go_sem, ↓IntWalk.iteOmega]), by (first | (simp [go_sem]; done) | simp [go_sem, ↓IntWalk.iteOmega]), by (first | (simp [go_sem]; done) | simp [go_sem, ↓IntWalk.iteOmega]), World.ownsRow_nil _ _ _ _, (by (repeat' (first | with_reducible exact Below.refl _ _ | (with_reducible refine below_later_of ?_ ?_ _) | (with_reducible refine Below.alloc ?_ ?_ _) | (with_reducible refine Below.setCell ?_ ?_ _) | (with_reducible refine Below.drew ?_) | (simp; done) | (simp; omega) | omega))), by rw [hO]; simp, by omega⟩ ?_
  rintro W2 ⟨W1, hb1, hsz1, q2, hst⟩
  simp only [← hO]
  have HST := Lib.hid hst
  have HB1 := Lib.hid hb1
  have Q2 := Lib.hid q2
  have k2 := (hst.bel.cell (p := ⟨w.heap.size, 2, none⟩) (Nat.lt_succ_self _)).trans q2
  clear hst hb1 q2 hO
  go_wp2
  go_loopw [19] (fun i wr => ∃ (k : Nat) (v : Value), k ≤ n ∧ i = .int .i64 k ∧ TriN W1 (w.heap.size + 1) O L S 42 1 v k (cvF (nmF F) k) wr) (fun i _ => n - (intOf i).toNat)
  case atStart => exact ⟨0, _, Nat.zero_le _, rfl, HST.out⟩
  case round =>
    clear k2
    obtain ⟨k, v, hk, rfl, hst⟩ := hrel
    have HS2 := Lib.hid hst
    by_cases hlt : k < n
    · have hdk : decide ((k : Int) < (n : Int)) = true := by simp; omega
      have hk0 : (0 : Int) ≤ (k : Int) := by omega
      have hk1 : (k : Int) < (n : Int) := by omega
      have x1 := (hst.bel.cell (p := ⟨g, k * 2, none⟩) (show g < w.heap.size + 1 by omega)).trans ((HB1.out.cell (p := ⟨g, k * 2, none⟩) hg).trans (HF.out k hlt).1)
      have x2 := (hst.bel.cell (p := ⟨g, k * 2 + 1, none⟩) (show g < w.heap.size + 1 by omega)).trans ((HB1.out.cell (p := ⟨g, k * 2 + 1, none⟩) hg).trans (HF.out k hlt).2)
      have HPN := Lib.hid (cvF_snoc (nmF F) k)
      have HNU := Lib.hid (fun W => fNumber (F k).1 (F k).2 W)
      have HFE := Lib.hid (show nmF F k = (f64I (F k).1, f64I (F k).2) from rfl)
      generalize (F k).1 = x at *
      generalize (F k).2 = y at *
      rw [HFE.out] at HPN
      generalize f64I x = re at *
      generalize f64I y = im at *
      have hltO := hst.lt
      have hgr : g < wr.heap.size := by have := hst.bel.size; omega
      have c2 := hst.c2
      have f2 := hst.f2
      clear hst
      go_wp2_with fail
      refine any_worldF (fun W => TriN W1 (w.heap.size + 1) O L S 42 1 v k (cvF (nmF F) k) W ∧ W.cell? ⟨wr.heap.size, 0, none⟩ = some (.int .i64 x) ∧ W.cell? ⟨wr.heap.size, 1, none⟩ = some (.int .i64 y) ∧ wr.heap.size < W.heap.size) ⟨HS2.out.below (by (repeat' (first | with_reducible exact Below.refl _ _ | (with_reducible refine below_later_of ?_ ?_ _) | (with_reducible refine Below.alloc ?_ ?_ _) | (with_reducible refine Below.setCell ?_ ?_ _) | (with_reducible refine Below.drew ?_) | (simp; done) | (simp; omega) | omega))), by simp [go_sem], by simp [go_sem], by simp⟩ ?_
      rintro W5 ⟨hst5, y1, y2, hl5⟩
      have HSX := Lib.hid hst5
      have c2 := hst5.c2
      have f2 := hst5.f2
      have hlt5 := hst5.lt
      clear hst5 x1 x2
      go_wp2_with fail
      go_region_law (first | (refine step_append_lies _ rfl (.tmp 24) (.tmp 27) 27 rfl (O + 1) 42 i0 (.complex .f64 0 0) 1 16 Tryd.underlying27 hi0 hz0 hz1 hz2 rfl (by decide) v k (cvF (nmF F) k) (by simp [Act.eval, Act.put]) (HSW.out.own.alloc _) ⟨wc.heap.size, 0, none⟩ 1 1 [.complex .f64 re im] (by simp [Act.eval, Act.put]) rfl (by intro j u hj; rcases j with _ | j; (focus (simp at hj; subst hj; (first | (simp [Addr.add, go_sem]; done) | simp [Addr.add, go_sem, ↓IntWalk.iteOmega]))); (focus (simp at hj))) (by intro u hu; simp at hu; subst hu; rfl) (by decide) (by unfold maxLen; omega) (by omega) (by first | omega | (simp; omega)) _ rfl ?_; intro g' cc' w1 hown' hgrow _ _; have HN2 := Lib.hid (HSW.out.put hown' hgrow); obtain ⟨hcb, hfb⟩ := HSW.out.still hgrow; clear hown' hgrow) | (go_simp; (go_at_call 78; (with_reducible refine (HNU.out _).mono ?_); rintro e wc ⟨rfl, hb⟩; have HSW := Lib.hid ((HSX.out.below (Below.refl _ _).drew).below hb); have c2w := HSW.out.c2; have f2w := HSW.out.f2; have hltw := HSW.out.lt; clear hb)))
      all_goals
        go_wp2
        go_roundw
        case rel => exact ⟨k + 1, _, by omega, by go_num, by rw [HPN.out]; exact HN2.out⟩
        case measure => simp [intOf]; omega
    · obtain rfl : k = n := by omega
      have hdk : decide ((k : Int) < (k : Int)) = false := by simp
      obtain ⟨a', c', rfl⟩ := own_slice2 hst.own
      obtain ⟨e0, e1, e2, -, r0, r1, r2, g0, g1, g2, hown, hbel, -, hro⟩ := hst
      have HOW := Lib.hid hown
      have HBE := Lib.hid (HB1.out.trans (hbel.mono (by omega)))
      clear hown hbel
      go_wp2
      refine bodyPost_ret ?_ rfl ⟨a', c', rfl, OwnS.mono (OwnS.set (OwnS.set (OwnS.set (ownS_row HOW.out) ?_ _) ?_ _) ?_ _) ?_, own_cap2 HOW.out, HBE.out.trans (by (repeat' (first | with_reducible exact Below.refl _ _ | (with_reducible refine below_later_of ?_ ?_ _) | (with_reducible refine Below.alloc ?_ ?_ _) | (with_reducible refine Below.setCell ?_ ?_ _) | (with_reducible refine Below.drew ?_) | (simp; done) | (simp; omega) | omega)))⟩
      · first | (simp [results, Tryd.results43, go_sem, r0, r1, r2]; done) | simp [results, Tryd.results43, go_sem, r0, r1, r2, ↓IntWalk.iteOmega]
      all_goals first | omega | (simp <;> omega)
end Go.Proofs.YtfiioadmpjmmgaaDoor
