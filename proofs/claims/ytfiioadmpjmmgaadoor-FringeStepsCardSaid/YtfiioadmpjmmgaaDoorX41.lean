/- Chapter 4: the reference's Steps. -/
import Derived.Test.YtfiioadmpjmmgaaDoorX39
import Derived.Test.YtfiioadmpjmmgaaDoorX8
import Derived.Test.YtfiioadmpjmmgaaDoorX6
namespace Go.Proofs.YtfiioadmpjmmgaaDoor
set_option linter.unusedVariables false
set_option linter.unusedSimpArgs false
open Go.RowKit Ntt
theorem rStep_any (R C r c : Nat) (d : Bool) (zs : List Int) (v : Value) (w : World) (hm : MapOk R C zs) (hv : IntsV w v zs) (hr : r < R) (hc : c < C) :
    ∃ sv se : Int, (okS (zAt C (intAt zs)) R C d r c = true → sv = stS (zAt C (intAt zs)) d r c ∧ se = 0) ∧ (okS (zAt C (intAt zs)) R C d r c = false → (se == 0) = false) ∧
      Calls Tryd.prog 30 #[.agg #[.int .i64 R, .int .i64 C, v], .int .i64 r, .int .i64 c, .bool d] w fun e w' => e = .returned (.tuple #[.int .i64 sv, .int .i64 se]) ∧ Below w.heap.size w w' := by
  by_cases h : toR r d < R ∧ toC c d < C
  · refine ⟨_, _, fun ho => ?_, fun ho => ?_, rStep_in R C r c d r c zs v w hm hv h.1 h.2 rfl rfl rfl rfl⟩
    · unfold okS at ho
      rw [decide_eq_true h.1, decide_eq_true h.2, Bool.true_and, Bool.true_and] at ho
      unfold stV stE
      rw [if_pos ho, if_pos ho]
      exact ⟨rfl, rfl⟩
    · unfold okS at ho
      rw [decide_eq_true h.1, decide_eq_true h.2, Bool.true_and, Bool.true_and] at ho
      unfold stE
      rw [ho]
      rfl
  · obtain ⟨-, a, cap, rfl, -⟩ := hv
    refine ⟨0, 2, fun ho => ?_, fun _ => rfl, rStep_edge R C r c d _ cap a w hm.r2 hm.c2 hr hc h⟩
    unfold okS at ho
    simp only [Bool.and_eq_true, decide_eq_true_eq] at ho
    exact absurd ho.1 h
/-- A row of numbers of one's own. -/
def SiR (O : Nat) (w : World) (l : List Int) (v : Value) (wr : World) : Prop := wr.ownsRow O 3 1 v l.length (l.map (.int .i64)) ∧ Below O w wr
theorem siR_below {B : Nat} {w wr W : World} {D : List Int} {v : Value} (h : SiR B w D v wr) (hB : B ≤ wr.heap.size) (hb : Below wr.heap.size wr W) : SiR B w D v W :=
  ⟨h.1.kept (row := none) ⟨hb.os, hb.tape, hb.output, hb.size, fun k hk _ => hb.block k hk⟩ (Classical.em _), h.2.trans (hb.mono hB)⟩
theorem siR_slice {B : Nat} {w wr : World} {D : List Int} {v : Value} (h : SiR B w D v wr) : ∃ a c, v = .slice a D.length c := by
  obtain ⟨-, ⟨rfl, h1⟩ | ⟨g, cap, cur, rfl, h2, h3, -⟩⟩ := h.1
  · exact ⟨none, 0, by rw [h1]⟩
  · exact ⟨_, cap, rfl⟩
theorem siR_put {O : Nat} {w wr w1 : World} {l : List Int} {v v' : Value} {x : Int} {o : Obj} (h : SiR O w l v wr) (hB : O ≤ wr.heap.size) {m : Nat} (hm : l.length = m) (ho : w1.ownsRow O 3 1 v' (m + 1) (l.map (.int .i64) ++ [.int .i64 x])) (hg : (wr.alloc o).grownBy w1 v.ownBlock) : SiR O w (l ++ [x]) v' w1 := by
  subst hm
  refine ⟨?_, h.2.trans ((((Below.refl O wr).alloc hB o)).grown hg (by simp; omega) (fun g hg => (h.1.lt g hg).1))⟩
  rw [List.map_append, List.length_append]
  exact ho
theorem cells_si (w : World) (x : Value) (T : TypeId) (j : Nat) (u : Value) (h : [x][j]? = some u) : (w.alloc (.cells #[x] T)).cell? ((⟨w.heap.size, 0, none⟩ : Addr).add j) = some u := by
  have : (⟨w.heap.size, 0, none⟩ : Addr).add j = ⟨w.heap.size, j, none⟩ := by simp [Addr.add]; omega
  rw [this, World.cell?_alloc_new]
  simpa using h
theorem siR_ints {O : Nat} {w wr : World} {l : List Int} {v : Value} (h : SiR O w l v wr) (hl : l.length ≤ 1000000000) : IntsV wr v l := by
  obtain ⟨h1, h2⟩ := h
  by_cases h0 : 0 < l.length
  · obtain ⟨g, c, rfl⟩ := row_slice h1 h0
    exact (ownIV_own h1 hl).ints
  · obtain rfl : l = [] := List.length_eq_zero_iff.1 (by omega)
    obtain ⟨a, c, rfl⟩ := siR_slice ⟨h1, h2⟩
    exact ⟨by simp, a, c, rfl, fun h => absurd h (by simp)⟩
set_option maxRecDepth 20000 in
set_option maxHeartbeats 4000000 in
theorem rSteps (R C : Nat) (d : Bool) (zs : List Int) (v : Value) (w : World) (hm : MapOk R C zs) (hv : IntsV w v zs) :
    Calls Tryd.prog 63 #[.agg #[.int .i64 R, .int .i64 C, v], .bool d] w fun e w' => ∃ u, e = .returned u ∧ IntsV w' u (allS (zAt C (intAt zs)) R C d C R) ∧ Below w.heap.size w w' := by
  obtain ⟨i0, hi0, hz0, hz1, hz2⟩ := info_parts info3
  have hsz := hm.size
  have HV := Lib.hid hv
  have hR := hm.r2
  have hC := hm.c2
  have HSA := Lib.hid (show ∀ W (r c : Nat), Below w.heap.size w W → r < R → c < C → _ from fun W r c hW hr hc => rStep_any R C r c d zs v W hm (hv.below hW) hr hc)
  have HLN := Lib.hid (allS_len (zAt C (intAt zs)) R C d C)
  have HLR := Lib.hid (rowS_len (zAt C (intAt zs)) R C d)
  obtain ⟨-, a, cap, rfl, -⟩ := hv
  generalize zAt C (intAt zs) = z at *
  clear hm HV
  go_enter Tryd.func63, Tryd.ntmps63
  go_wp2
  refine any_worldR4 (fun W => (W.cell? ⟨w.heap.size, 0, none⟩ = some (.int .i64 R) ∧ W.cell? ⟨w.heap.size, 1, none⟩ = some (.int .i64 C) ∧ W.cell? ⟨w.heap.size, 2, none⟩ = some (.slice a zs.length cap)) ∧ Below w.heap.size w W ∧ w.heap.size < W.heap.size) ⟨⟨by simp [go_sem], by simp [go_sem], by simp [go_sem]⟩, (by (repeat' (first | with_reducible exact Below.refl _ _ | (with_reducible refine below_later_of ?_ ?_ _) | (with_reducible refine Below.alloc ?_ ?_ _) | (with_reducible refine Below.setCell ?_ ?_ _) | (with_reducible refine Below.drew ?_) | (simp; done) | (simp; omega) | omega))), by simp⟩ ?_
  rintro W1 ⟨⟨c0, c1, c2⟩, hb1, hlt1⟩
  have HB0 := Lib.hid hb1
  have C0 := Lib.hid c0
  have C1 := Lib.hid c1
  have C2 := Lib.hid c2
  clear hb1
  go_loopw [5, 6] (fun v i wr => ∃ (r : Nat) (u : Value), r ≤ R ∧ i = .int .i64 r ∧ u = v ∧ SiR (w.heap.size + 1) W1 (allS z R C d C r) u wr) (fun _ i _ => R - (intOf i).toNat)
  case atStart => exact ⟨0, _, Nat.zero_le _, rfl, rfl, World.ownsRow_nil _ _ _ _, Below.refl _ _⟩
  case round =>
    clear c0 c1 c2
    obtain ⟨r, u, hr, rfl, rfl, hg⟩ := hrel
    have HG0 := Lib.hid hg
    have c0 := (hg.2.cell (p := ⟨w.heap.size, 0, none⟩) (Nat.lt_succ_self _)).trans C0.out
    by_cases hlt : r < R
    · have hdr : decide ((r : Int) < (R : Int)) = true := by simp; omega
      have hdr2 : decide (r < R) = true := by simp; omega
      have hlw := hg.2.size
      clear hg
      go_wp2
      go_loopw [5, 7] (fun v i wr => ∃ (c : Nat) (u : Value), c ≤ C ∧ i = .int .i64 c ∧ u = v ∧ SiR (w.heap.size + 1) W1 (allS z R C d C r ++ rowS z R C d r c) u wr) (fun _ i _ => C - (intOf i).toNat)
      case atStart => exact ⟨0, _, Nat.zero_le _, rfl, rfl, by simp only [rowS, List.append_nil]; exact HG0.out⟩
      case round =>
        clear c0 hlw
        obtain ⟨c, u, hc, rfl, rfl, hg⟩ := hrel
        obtain ⟨D, hD⟩ : ∃ D, allS z R C d C r ++ rowS z R C d r c = D := ⟨_, rfl⟩
        rw [hD] at hg
        have HD := Lib.hid hD
        have HR := Lib.hid hg
        have c1 := (hg.2.cell (p := ⟨w.heap.size, 1, none⟩) (Nat.lt_succ_self _)).trans C1.out
        by_cases hltc : c < C
        · have hdc : decide ((c : Int) < (C : Int)) = true := by simp; omega
          have hdc2 : decide (c < C) = true := by simp; omega
          have c0 := (hg.2.cell (p := ⟨w.heap.size, 0, none⟩) (Nat.lt_succ_self _)).trans C0.out
          have c2 := (hg.2.cell (p := ⟨w.heap.size, 2, none⟩) (Nat.lt_succ_self _)).trans C2.out
          have hlw := hg.2.size
          have hbw := (HB0.out.trans (hg.2.mono (Nat.le_succ _)))
          obtain ⟨sv, se, hs1, hs2, htn⟩ := HSA.out wr r c hbw hlt hltc
          have HTN := Lib.hid htn
          have hrow : allS z R C d C r ++ rowS z R C d r (c + 1) = D ++ (if okS z R C d r c then [stS z d r c] else []) := by
            rw [← hD, rowS, List.append_assoc]
          have HLD := Lib.hid (show D.length ≤ 10000 by
            have h1 := HLN.out r
            have h2 := HLR.out r c
            have h3 : r * C ≤ 64 * 64 := Nat.mul_le_mul (by omega) (by omega)
            rw [← hD, List.length_append]
            omega)
          clear hD htn
          obtain ⟨a', c', rfl⟩ := siR_slice hg
          clear hg hbw
          generalize okS z R C d r c = q at hs1 hs2 hrow
          generalize stS z d r c = st at hs1 hrow
          cases q
          · have HEQ := Lib.hid (show allS z R C d C r ++ rowS z R C d r (c + 1) = D by rw [hrow]; simp)
            have hse := hs2 rfl
            clear hrow hs1 hs2
            go_wp2_with (first | (go_at_call 30; (with_reducible refine (HTN.out).mono ?_); rintro e w' ⟨rfl, hb⟩; have HB1 := Lib.hid hb; have hz1 := hb.size; obtain ⟨p1, rfl⟩ := later_of_below hb; clear hb))
            have HN := Lib.hid (siR_below HR.out (by omega) HB1.out)
            go_roundw
            case rel => exact ⟨c + 1, _, by omega, by go_num, rfl, by rw [HEQ.out]; exact HN.out⟩
            case measure => simp [intOf]; omega
          · obtain ⟨rfl, rfl⟩ := hs1 rfl
            have HEQ := Lib.hid (show allS z R C d C r ++ rowS z R C d r (c + 1) = D ++ [sv] by rw [hrow]; simp)
            have hld := HLD.out
            clear hrow hs2
            go_wp2_with (first | (go_at_call 30; (with_reducible refine (HTN.out).mono ?_); rintro e wx ⟨rfl, hb⟩; have HG := Lib.hid (siR_below HR.out (by omega) hb); have hsw := hb.size; clear hb) | (at_builtin; refine wpList_append_own _ rfl _ _ 49 rfl (w.heap.size + 1) 3 i0 (.int .i64 0) 1 8 Tryd.underlying49 hi0 hz0 hz1 hz2 rfl (by decide) _ _ _ rfl (HG.out.1.alloc _) ⟨wx.heap.size, 0, none⟩ 1 1 [.int .i64 sv] rfl rfl ?d1 ?d2 ?d3 ?d4 ?d5 ?_))
            first | (case d1 => exact cells_si _ _ _) | skip
            case d2 => first | rfl | (intro u hu; simp at hu; subst hu; rfl)
            case d3 => unfold maxLen; omega
            case d4 => omega
            case d5 => first | omega | (simp; omega)
            intro v' w1 hown' hgrow _
            have HN := Lib.hid (siR_put (x := sv) HG.out (by omega) rfl hown' hgrow)
            clear hown' hgrow hld
            go_wp2
            go_roundw
            case rel => exact ⟨c + 1, _, by omega, by go_num, rfl, by rw [HEQ.out]; exact HN.out⟩
            case measure => simp [intOf]; omega
        · obtain rfl : c = C := by omega
          have hdc : decide ((c : Int) < (c : Int)) = false := by simp
          have hlw := hg.2.size
          clear hg hD
          go_wp2
          go_roundw
          case rel => exact ⟨r + 1, _, by omega, by go_num, rfl, by rw [allS, HD.out]; exact HR.out⟩
          case measure => simp [intOf]; omega
    · obtain rfl : r = R := by omega
      have hdr : decide ((r : Int) < (r : Int)) = false := by simp
      obtain ⟨a', c', rfl⟩ := siR_slice hg
      have hll : (allS z r C d C r).length ≤ 1000000000 := by
        have h1 := HLN.out r
        have h3 : r * C ≤ 64 * 64 := Nat.mul_le_mul (by omega) (by omega)
        omega
      have HLL := Lib.hid hll
      clear hg hll
      go_wp2
      go_ret
      exact ⟨_, rfl, siR_ints HG0.out HLL.out, HB0.out.trans (HG0.out.2.mono (Nat.le_succ _))⟩
end Go.Proofs.YtfiioadmpjmmgaaDoor
