/- Chapter 4: Residues, TurnsAround. -/
import Derived.Test.YtfiioadmpjmmgaaDoorX7
namespace Go.Proofs.YtfiioadmpjmmgaaDoor
set_option linter.unusedVariables false
set_option linter.unusedSimpArgs false
open Go.RowKit Ntt
/-- The cells of residues. -/
def rsC : List Res → List Value
  | [] => []
  | x :: D => .int .i64 x.r :: .int .i64 x.c :: .int .i64 x.t :: rsC D
theorem rsC_len : ∀ D : List Res, (rsC D).length = D.length * 3
  | [] => rfl
  | x :: D => by simp only [rsC, List.length_cons, rsC_len D]; omega
theorem rsC_snoc (D : List Res) (x : Res) : rsC (D ++ [x]) = rsC D ++ [.int .i64 x.r, .int .i64 x.c, .int .i64 x.t] := by
  induction D with
  | nil => rfl
  | cons q D ih => simp only [List.cons_append, rsC, ih]
theorem rsC_at : ∀ (D : List Res) (k : Nat) (x : Res), D[k]? = some x → (rsC D)[k * 3]? = some (.int .i64 x.r) ∧ (rsC D)[k * 3 + 1]? = some (.int .i64 x.c) ∧ (rsC D)[k * 3 + 2]? = some (.int .i64 x.t)
  | [], k, x, h => by simp at h
  | y :: D, 0, x, h => by
    obtain rfl : y = x := by simpa using h
    exact ⟨rfl, rfl, rfl⟩
  | y :: D, k + 1, x, h => by
    have := rsC_at D k x (by simpa using h)
    rw [show (k + 1) * 3 = k * 3 + 1 + 1 + 1 by omega]
    simpa [rsC] using this
/-- The value is a slice of these residues. -/
def RsV (w : World) (v : Value) (D : List Res) : Prop := D.length ≤ 100000 ∧ ∃ a cap, v = .slice a D.length cap ∧ (0 < D.length → ∃ b, a = some ⟨b, 0, none⟩ ∧ b < w.heap.size ∧ ∀ k x, D[k]? = some x → w.cell? ⟨b, k * 3, none⟩ = some (.int .i64 x.r) ∧ w.cell? ⟨b, k * 3 + 1, none⟩ = some (.int .i64 x.c) ∧ w.cell? ⟨b, k * 3 + 2, none⟩ = some (.int .i64 x.t))
theorem RsV.below {w w' : World} {v : Value} {D : List Res} (h : RsV w v D) (hb : Below w.heap.size w w') : RsV w' v D := by
  obtain ⟨h1, a, cap, h2, h3⟩ := h
  refine ⟨h1, a, cap, h2, fun h0 => ?_⟩
  obtain ⟨b, h4, h5, h6⟩ := h3 h0
  refine ⟨b, h4, Nat.lt_of_lt_of_le h5 hb.size, fun k x hk => ?_⟩
  obtain ⟨c0, c1, c2⟩ := h6 k x hk
  exact ⟨(hb.cell (p := ⟨b, k * 3, none⟩) h5).trans c0, (hb.cell (p := ⟨b, k * 3 + 1, none⟩) h5).trans c1, (hb.cell (p := ⟨b, k * 3 + 2, none⟩) h5).trans c2⟩
theorem rsV_own {W : World} {base : Nat} {e : TypeId} {v : Value} {D : List Res} (h : W.ownsRow base e 3 v D.length (rsC D)) (hl : D.length ≤ 100000) : RsV W v D := by
  refine ⟨hl, ?_⟩
  have h0 := h
  obtain ⟨-, ⟨rfl, h1⟩ | ⟨g, cap, cur, rfl, h2, h3, -⟩⟩ := h0
  · exact ⟨none, 0, by rw [h1], fun hp => by omega⟩
  · refine ⟨_, cap, rfl, fun hp => ⟨g, rfl, (Array.getElem?_eq_some_iff.1 h3).1, fun k x hk => ?_⟩⟩
    have hkl : k < D.length := (List.getElem?_eq_some_iff.1 hk).1
    obtain ⟨r1, r2, r3⟩ := rsC_at D k x hk
    rw [h.cellAt (k * 3) (by omega), h.cellAt (k * 3 + 1) (by omega), h.cellAt (k * 3 + 2) (by omega)]
    exact ⟨r1, r2, r3⟩
theorem infoRs : (Tryd.prog.info? 66).map (fun i => (i.zero, i.size, i.bytes)) = some (some (.agg #[.int .i64 0, .int .i64 0, .int .i64 0]), 3, 24) := by kernel_rfl
/-- A row of residues of one's own. -/
def RsR (B : Nat) (w : World) (D : List Res) (v : Value) (wr : World) : Prop := wr.ownsRow B 66 3 v D.length (rsC D) ∧ Below B w wr
theorem cells_three (w : World) (x y z : Value) (T : TypeId) (j : Nat) (u : Value) (h : [x, y, z][j]? = some u) : (w.alloc (.cells #[x, y, z] T)).cell? ((⟨w.heap.size, 0, none⟩ : Addr).add j) = some u := by
  have : (⟨w.heap.size, 0, none⟩ : Addr).add j = ⟨w.heap.size, j, none⟩ := by simp [Addr.add]; omega
  rw [this, World.cell?_alloc_new]
  simpa using h
theorem rsR_put {B : Nat} {w wr w1 : World} {D : List Res} {v v' : Value} {x : Res} {o : Obj} (h : RsR B w D v wr) (hB : B ≤ wr.heap.size) {m : Nat} (hm : D.length = m) (ho : w1.ownsRow B 66 3 v' (m + 1) (rsC D ++ [.int .i64 x.r, .int .i64 x.c, .int .i64 x.t])) (hg : (wr.alloc o).grownBy w1 v.ownBlock) : RsR B w (D ++ [x]) v' w1 := by
  subst hm
  refine ⟨?_, h.2.trans ((((Below.refl B wr).alloc hB o)).grown hg (by simp; omega) (fun g hg => (h.1.lt g hg).1))⟩
  rw [rsC_snoc, List.length_append]
  exact ho
theorem rsR_below {B : Nat} {w wr W : World} {D : List Res} {v : Value} (h : RsR B w D v wr) (hB : B ≤ wr.heap.size) (hb : Below wr.heap.size wr W) : RsR B w D v W :=
  ⟨h.1.kept (row := none) ⟨hb.os, hb.tape, hb.output, hb.size, fun k hk _ => hb.block k hk⟩ (Classical.em _), h.2.trans (hb.mono hB)⟩
theorem rsR_slice {B : Nat} {w wr : World} {D : List Res} {v : Value} (h : RsR B w D v wr) : ∃ a c, v = .slice a D.length c := by
  obtain ⟨-, ⟨rfl, h1⟩ | ⟨g, cap, cur, rfl, h2, h3, -⟩⟩ := h.1
  · exact ⟨none, 0, by rw [h1]⟩
  · exact ⟨_, cap, rfl⟩
theorem any_worldR4 {G : World → Prop} {w : World} (F : World → Prop) (hf : F w) (h : ∀ W, F W → G W) : G w := h w hf
def whT (z : Nat → Nat → Int) (r c : Nat) : Bool := wholeP z r c 1 1
/-- The residues of a map. -/
def resM (R C : Nat) (zs : List Int) : List Res := resAll (whT (zAt C (intAt zs))) (turnP (zAt C (intAt zs))) (C - 1) (R - 1)
theorem resM_len {R C : Nat} {zs : List Int} (h : MapOk R C zs) : (resM R C zs).length ≤ 4096 := by
  refine Nat.le_trans (resAll_len _ _ _ _) ?_
  have h1 := h.r2
  have h2 := h.c2
  exact Nat.mul_le_mul (show R - 1 ≤ 64 by omega) (show C - 1 ≤ 64 by omega)
set_option maxHeartbeats 1000000 in
theorem fResidues_bad (R C : Int) (zs : List Int) (v : Value) (w : World) (hl : zs.length ≤ 100000) (hv : IntsV w v zs) {e0 : Int} (he : (mapE R C zs).2 = e0) (h0 : e0 ≠ 0) :
    Calls Tryd.prog 20 #[.agg #[.int .i64 R, .int .i64 C, v]] w fun e w' => e = .returned (.tuple #[.slice none 0 0, .int .i64 e0]) ∧ Below w.heap.size w w' := by
  have HME := Lib.hid (show ∀ W, Below w.heap.size w W → _ from fun W hW => mapErr_any R C zs v W hl (hv.below hW) he)
  have hne : (e0 != 0) = true := by simpa using h0
  obtain ⟨-, a, cap, rfl, -⟩ := hv
  clear he h0
  go_enter Tryd.func20, Tryd.ntmps20
  go_wp2_with (first | (go_at_call 54; (with_reducible refine (HME.out _ (by (repeat' (first | with_reducible exact Below.refl _ _ | (with_reducible refine below_later_of ?_ ?_ _) | (with_reducible refine Below.alloc ?_ ?_ _) | (with_reducible refine Below.setCell ?_ ?_ _) | (with_reducible refine Below.drew ?_) | (simp; done) | (simp; omega) | omega)))).mono ?_); rintro e w' ⟨rfl, hb⟩; obtain ⟨pe, rfl⟩ := later_of_below hb; clear hb))
  go_ret2
  exact ⟨rfl, (by (repeat' (first | with_reducible exact Below.refl _ _ | (with_reducible refine below_later_of ?_ ?_ _) | (with_reducible refine Below.alloc ?_ ?_ _) | (with_reducible refine Below.setCell ?_ ?_ _) | (with_reducible refine Below.drew ?_) | (simp; done) | (simp; omega) | omega)))⟩
set_option maxRecDepth 20000 in
set_option maxHeartbeats 4000000 in
theorem fResidues_ok (R C : Nat) (zs : List Int) (v : Value) (w : World) (hm : MapOk R C zs) (hv : IntsV w v zs) :
    Calls Tryd.prog 20 #[.agg #[.int .i64 R, .int .i64 C, v]] w fun e w' => ∃ u, e = .returned (.tuple #[u, .int .i64 0]) ∧ RsV w' u (resM R C zs) ∧ Below w.heap.size w w' := by
  obtain ⟨i0, hi0, hz0, hz1, hz2⟩ := info_parts infoRs
  have hsz := hm.size
  have HME := Lib.hid (show ∀ W, Below w.heap.size w W → _ from fun W hW => mapErr_any R C zs v W (by omega) (hv.below hW) (e0 := 0) (by rw [hm.err]))
  have HM := Lib.hid hm
  have HV := Lib.hid hv
  have hR := hm.r2
  have hC := hm.c2
  have hR1 := hm.r1
  have hC1 := hm.c1
  have HLN := Lib.hid (resM_len hm)
  obtain ⟨z, hz⟩ : ∃ z, zAt C (intAt zs) = z := ⟨_, rfl⟩
  have HZ := Lib.hid hz
  obtain ⟨-, a, cap, rfl, -⟩ := hv
  have HRM := Lib.hid (show resM R C zs = resAll (whT z) (turnP z) (C - 1) (R - 1) by unfold resM; rw [hz])
  clear hm hz
  have hri : ((R : Int) - 1) = ((R - 1 : Nat) : Int) := by omega
  have hci : ((C : Int) - 1) = ((C - 1 : Nat) : Int) := by omega
  go_enter Tryd.func20, Tryd.ntmps20
  go_wp2_with (first | (go_at_call 54; (with_reducible refine (HME.out _ (by (repeat' (first | with_reducible exact Below.refl _ _ | (with_reducible refine below_later_of ?_ ?_ _) | (with_reducible refine Below.alloc ?_ ?_ _) | (with_reducible refine Below.setCell ?_ ?_ _) | (with_reducible refine Below.drew ?_) | (simp; done) | (simp; omega) | omega)))).mono ?_); rintro e w' ⟨rfl, hb⟩; obtain ⟨pe, rfl⟩ := later_of_below hb; clear hb))
  refine any_worldR4 (fun W => (W.cell? ⟨w.heap.size, 0, none⟩ = some (.int .i64 R) ∧ W.cell? ⟨w.heap.size, 1, none⟩ = some (.int .i64 C) ∧ W.cell? ⟨w.heap.size, 2, none⟩ = some (.slice a zs.length cap)) ∧ Below w.heap.size w W ∧ w.heap.size < W.heap.size) ⟨⟨by simp [go_sem], by simp [go_sem], by simp [go_sem]⟩, (by (repeat' (first | with_reducible exact Below.refl _ _ | (with_reducible refine below_later_of ?_ ?_ _) | (with_reducible refine Below.alloc ?_ ?_ _) | (with_reducible refine Below.setCell ?_ ?_ _) | (with_reducible refine Below.drew ?_) | (simp; done) | (simp; omega) | omega))), by simp; omega⟩ ?_
  rintro W1 ⟨⟨c0, c1, c2⟩, hb1, hlt1⟩
  have HB0 := Lib.hid hb1
  have C0 := Lib.hid c0
  have C1 := Lib.hid c1
  have C2 := Lib.hid c2
  clear hb1
  go_wp2
  go_loopw [5, 18] (fun v i wr => ∃ (r : Nat) (u : Value), r ≤ R - 1 ∧ i = .int .i64 r ∧ u = v ∧ RsR (w.heap.size + 1) W1 (resAll (whT z) (turnP z) (C - 1) r) u wr) (fun _ i _ => R - 1 - (intOf i).toNat)
  case atStart => exact ⟨0, _, Nat.zero_le _, rfl, rfl, World.ownsRow_nil _ _ _ _, Below.refl _ _⟩
  case round =>
    clear c0 c1 c2
    obtain ⟨r, u, hr, rfl, rfl, hg⟩ := hrel
    have HG0 := Lib.hid hg
    by_cases hlt : r < R - 1
    · have hdr : decide ((r : Int) < (R : Int) - 1) = true := by simp; omega
      have c1 := (hg.2.cell (p := ⟨w.heap.size, 1, none⟩) (Nat.lt_succ_self _)).trans C1.out
      have hlw := hg.2.size
      clear hg
      go_wp2
      go_loopw [5, 24] (fun v i wr => ∃ (c : Nat) (u : Value), c ≤ C - 1 ∧ i = .int .i64 c ∧ u = v ∧ RsR (w.heap.size + 1) W1 (resAll (whT z) (turnP z) (C - 1) r ++ resRow (whT z) (turnP z) r c) u wr) (fun _ i _ => C - 1 - (intOf i).toNat)
      case atStart => exact ⟨0, _, Nat.zero_le _, rfl, rfl, by simp only [resRow, List.append_nil]; exact HG0.out⟩
      case round =>
        clear c1 hlw
        obtain ⟨c, u, hc, rfl, rfl, hg⟩ := hrel
        obtain ⟨D, hD⟩ : ∃ D, resAll (whT z) (turnP z) (C - 1) r ++ resRow (whT z) (turnP z) r c = D := ⟨_, rfl⟩
        rw [hD] at hg
        have HD := Lib.hid hD
        have HR := Lib.hid hg
        by_cases hltc : c < C - 1
        · have hdc : decide ((c : Int) < (C : Int) - 1) = true := by simp; omega
          have c0 := (hg.2.cell (p := ⟨w.heap.size, 0, none⟩) (Nat.lt_succ_self _)).trans C0.out
          have c1 := (hg.2.cell (p := ⟨w.heap.size, 1, none⟩) (Nat.lt_succ_self _)).trans C1.out
          have c2 := (hg.2.cell (p := ⟨w.heap.size, 2, none⟩) (Nat.lt_succ_self _)).trans C2.out
          have hlw := hg.2.size
          have hbw := (HB0.out.trans (hg.2.mono (Nat.le_succ _)))
          obtain ⟨q, hq⟩ : ∃ q, wholeP z r c 1 1 = q := ⟨_, rfl⟩
          obtain ⟨n, hn⟩ : ∃ n, turnP z r c = n := ⟨_, rfl⟩
          have HTN := Lib.hid (show Calls Tryd.prog 55 #[.agg #[.int .i64 R, .int .i64 C, .slice a zs.length cap], .agg #[.int .i64 r, .int .i64 c, .int .i64 1, .int .i64 1]] wr fun e w' => e = .returned (.tuple #[.int .i64 n, .bool q]) ∧ Below wr.heap.size wr w' from
            fTurns R C r c 1 1 zs _ wr HM.out (HV.out.below hbw) (by omega) (by omega) (by rw [HZ.out]; exact hn) (by rw [HZ.out]; exact hq))
          have hrow : resAll (whT z) (turnP z) (C - 1) r ++ resRow (whT z) (turnP z) r (c + 1) = if q && decide (n ≠ 0) then D ++ [⟨r, c, n⟩] else D := by
            rw [← hD, resRow, hn]
            unfold whT
            rw [hq]
            split
            · rw [List.append_assoc]
            · rfl
          have HLD := Lib.hid (show D.length ≤ 10000 by
            have h1 := resAll_len (whT z) (turnP z) (C - 1) r
            have h2 := resRow_len (whT z) (turnP z) r c
            have h3 : r * (C - 1) ≤ 64 * 64 := Nat.mul_le_mul (by omega) (by omega)
            rw [← hD, List.length_append]
            omega)
          clear hD
          obtain ⟨a', c', rfl⟩ := rsR_slice hg
          clear hg hbw hq hn
          cases q
          · have HEQ := Lib.hid (show resAll (whT z) (turnP z) (C - 1) r ++ resRow (whT z) (turnP z) r (c + 1) = D by rw [hrow]; rfl)
            clear hrow
            go_wp2_with (first | (go_at_call 55; (with_reducible refine (HTN.out).mono ?_); rintro e w' ⟨rfl, hb⟩; have HB1 := Lib.hid hb; have hz1 := hb.size; obtain ⟨p1, rfl⟩ := later_of_below hb; clear hb))
            have HN := Lib.hid (rsR_below HR.out (by omega) HB1.out)
            go_roundw
            case rel => exact ⟨c + 1, _, by omega, by go_num, rfl, by rw [HEQ.out]; exact HN.out⟩
            case measure => simp [intOf]; omega
          · by_cases h0 : n = 0
            · have hn0 : (n != 0) = false := by simpa using h0
              have HEQ := Lib.hid (show resAll (whT z) (turnP z) (C - 1) r ++ resRow (whT z) (turnP z) r (c + 1) = D by rw [hrow, h0]; rfl)
              clear hrow h0
              go_wp2_with (first | (go_at_call 55; (with_reducible refine (HTN.out).mono ?_); rintro e w' ⟨rfl, hb⟩; have HB1 := Lib.hid hb; have hz1 := hb.size; obtain ⟨p1, rfl⟩ := later_of_below hb; clear hb))
              have HN := Lib.hid (rsR_below HR.out (by omega) HB1.out)
              go_roundw
              case rel => exact ⟨c + 1, _, by omega, by go_num, rfl, by rw [HEQ.out]; exact HN.out⟩
              case measure => simp [intOf]; omega
            · have hn0 : (n != 0) = true := by simpa using h0
              have HEQ := Lib.hid (show resAll (whT z) (turnP z) (C - 1) r ++ resRow (whT z) (turnP z) r (c + 1) = D ++ [⟨r, c, n⟩] by rw [hrow]; simp [h0])
              clear hrow h0
              have hld := HLD.out
              go_wp2_with (first | (go_at_call 55; (with_reducible refine (HTN.out).mono ?_); rintro e wx ⟨rfl, hb⟩; have HG := Lib.hid (rsR_below HR.out (by omega) hb); have hsw := hb.size; clear hb) | (at_builtin; refine wpList_append_own _ rfl _ _ 55 rfl (w.heap.size + 1) 66 i0 (.agg #[.int .i64 0, .int .i64 0, .int .i64 0]) 3 24 Tryd.underlying55 hi0 hz0 hz1 hz2 rfl (by decide) _ _ _ rfl (HG.out.1.alloc _) ⟨wx.heap.size, 0, none⟩ 1 1 [.int .i64 r, .int .i64 c, .int .i64 n] rfl rfl ?d1 ?d2 ?d3 ?d4 ?d5 ?_))
              case d1 => exact cells_three _ _ _ _ _
              case d2 => first | rfl | (intro u hu; simp at hu; rcases hu with rfl | rfl | rfl <;> rfl)
              case d3 => unfold maxLen; omega
              case d4 => omega
              case d5 => first | omega | (simp; omega)
              intro v' w1 hown' hgrow _
              have HN := Lib.hid (rsR_put (x := ⟨r, c, n⟩) HG.out (by omega) rfl hown' hgrow)
              clear hown' hgrow hld
              go_wp2
              go_roundw
              case rel => exact ⟨c + 1, _, by omega, by go_num, rfl, by rw [HEQ.out]; exact HN.out⟩
              case measure => simp [intOf]; omega
        · obtain rfl : c = C - 1 := by omega
          have hdc : decide (((C - 1 : Nat) : Int) < (C : Int) - 1) = false := by simp; omega
          have c0 := (hg.2.cell (p := ⟨w.heap.size, 0, none⟩) (Nat.lt_succ_self _)).trans C0.out
          have hlw := hg.2.size
          clear hg hD
          go_wp2
          go_roundw
          case rel => exact ⟨r + 1, _, by omega, by go_num, rfl, by rw [resAll, HD.out]; exact HR.out⟩
          case measure => simp [intOf]; omega
    · obtain rfl : r = R - 1 := by omega
      have hdr : decide (((R - 1 : Nat) : Int) < (R : Int) - 1) = false := by simp; omega
      obtain ⟨a', c', rfl⟩ := rsR_slice hg
      clear hg
      go_wp2
      go_ret2
      have hg := HG0.out
      rw [← HRM.out] at hg ⊢
      exact ⟨_, rfl, rsV_own hg.1 (by have := HLN.out; omega), HB0.out.trans (hg.2.mono (Nat.le_succ _))⟩
end Go.Proofs.YtfiioadmpjmmgaaDoor
