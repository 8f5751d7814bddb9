/- Chapter 1: Gaps of a right image. -/
import Derived.Test.YtakohhlmomgegaaDoorU107
namespace Go.Proofs.YtakohhlmomgegaaDoor
set_option linter.unusedVariables false
set_option linter.unusedSimpArgs false
open Go Go.RowKit Go.Sort Ntt
set_option maxRecDepth 20000 in
set_option maxHeartbeats 4000000 in
theorem gapsBody (body : Code) (hbody : Tryd.f55.body.bind rangeBody = some body) (S n cap b off Ob Nb p1 p2 k m l : Nat) (f : Nat → Nat × Nat) (w WL W : World) (I : World → Prop) (Ix : Code → World → Prop)
    (hkS : k * S + S ≤ n) (s1 : 1 ≤ S) (s2 : S ≤ 64) (hk64 : k ≤ 64) (hbw : b < w.heap.size) (hwO : w.heap.size ≤ Ob) (hwN : w.heap.size ≤ Nb) (hO : Ob < WL.heap.size) (hN : Nb < WL.heap.size) (hON : Ob ≠ Nb) (h1 : p1 < WL.heap.size) (h2 : p2 < WL.heap.size) (hOp1 : Ob ≠ p1) (hOp2 : Ob ≠ p2) (hNp1 : Nb ≠ p1) (hNp2 : Nb ≠ p2)
    (hs : SamplesAt w b off n f) (hgl : GLoop w WL Ob Nb b off n cap S p1 p2 k (gapsP (emB f S) k) W)
    (hgo : ∀ W', GLoop w WL Ob Nb b off n cap S p1 p2 (k + 1) (gapsP (emB f S) (k + 1)) W' → I W')
    (u0 u1 u2 u3 u4 u8 u9 u10 u11 u12 u13 u14 u15 u16 u17 u18 u19 u20 u21 u22 u23 u24 u25 u26 u27 u28 u29 u30 u31 u32 u33 u34 u35 u36 u37 u38 u39 u40 u41 u42 u43 u44 u45 u46 u47 u48 u49 u50 u51 : Value) :
    body.wpIn (Fence.wide.inRound l) (m + 2) Tryd.prog (boundPostT 109 WL.heap.size I Ix W) { tmps := #[u0, u1, u2, u3, u4, .pointer (some ⟨Ob, 0, none⟩), .pointer (some ⟨Nb, 0, none⟩), .slice (some ⟨b, off + k * S, none⟩) S S, u8, u9, u10, u11, u12, u13, u14, u15, u16, u17, u18, u19, u20, u21, u22, u23, u24, u25, u26, u27, u28, u29, u30, u31, u32, u33, u34, u35, u36, u37, u38, u39, u40, u41, u42, u43, u44, u45, u46, u47, u48, u49, u50, u51], defers := [] } W := by
  unfold Tryd.f55 at hbody
  simp only [Option.bind_some, rangeBody, Option.some.injEq] at hbody
  subst hbody
  obtain ⟨i0, hi0, hz0, hz1, hz2⟩ := info_parts infoR
  have hwWL : w.heap.size ≤ WL.heap.size := by omega
  obtain ⟨hc1, hc2⟩ := hgl.count hwN hN (fun e => hON e.symm) hNp1 hNp2
  obtain ⟨e6, f6⟩ := cell_bx hgl.num
  have hsW := hgl.sz
  have hsm : SamplesAt (W.setCell ⟨Nb, 0, none⟩ (.int .i64 (k : Int))) b (off + k * S) S fun s => f (k * S + s) := fun j hj => by
    have := ((hgl.bel.setCell (p := ⟨Nb, 0, none⟩) hwN (.int .i64 (k : Int))).cell (p := ⟨b, off + (k * S + j), none⟩) hbw).trans (hs (k * S + j) (by omega))
    rwa [← Nat.add_assoc] at this
  have HC0 := Lib.hid (containsFunc_g S b (off + k * S) S _ _ (by omega) hsm)
  have HGC := Lib.hid (And.intro hc1 hc2)
  have HE := Lib.hid (show emB f S k = !anyC S fun s => f (k * S + s) from rfl)
  have HST := Lib.hid (show gapsP (emB f S) (k + 1) = if emB f S k then gapStep (gapsP (emB f S) k) k else gapsP (emB f S) k from rfl)
  have HGO := Lib.hid hgo
  have hgl' := gapsP_len (emB f S) k
  obtain ⟨val, hbx, hown⟩ := hgl.own
  have hsz1 : WL.heap.size ≤ (W.setCell ⟨Nb, 0, none⟩ (.int .i64 (k : Int))).heap.size := by simpa [World.setCell] using hsW
  have hbx1 : Boxed (W.setCell ⟨Nb, 0, none⟩ (.int .i64 (k : Int))) Ob 87 val := boxed_other hbx (fun e => hON e.symm) _ _
  have hn1 : (W.setCell ⟨Nb, 0, none⟩ (.int .i64 (k : Int))).cell? ⟨Nb, 0, none⟩ = some (.int .i64 (k : Int)) := (hgl.num.set (.int .i64 (k : Int))).cell
  have hown1 := ownsRow_setCell_below (a := ⟨Nb, 0, none⟩) hown hN (.int .i64 (k : Int))
  generalize gapsP (emB f S) k = D at *
  clear hgl hgo hs hsm hc1 hc2 hbx
  rcases (show (anyC S fun s => f (k * S + s)) = true ∨ (anyC S fun s => f (k * S + s)) = false by cases (anyC S fun s => f (k * S + s)) <;> simp) with hc | hc
  · have HSTP := Lib.hid (show gapsP (emB f S) (k + 1) = D by rw [HST.out, HE.out, hc]; rfl)
    have HCF := Lib.hid (show Calls Tryd.prog 75 #[.slice (some ⟨b, off + k * S, none⟩) S S, .func (.func 113) #[] #[]] (W.setCell ⟨Nb, 0, none⟩ (.int .i64 (k : Int))) fun e w' => e = .returned (.bool true) ∧ GLoop w WL Ob Nb b off n cap S p1 p2 (k + 1) D w' ∧ KeepT 109 WL.heap.size W w' from HC0.out.mono fun e w' ⟨he, hw⟩ => by
      subst hw
      exact ⟨by rw [he, hc], HGC.out⟩)
    clear hc hbx1 hn1 hown1 hown
    gi_wp2_with (first | (refine ⟨trivial, ?_⟩; gi_at_call 75; refine (callsIn_rnd HCF.out).mono ?_; rintro e w1 ⟨rfl, hgl1, hkt1⟩; have HG1 := Lib.hid hgl1; have HK1 := Lib.hid hkt1; clear hgl1 hkt1))
    exact ⟨HK1.out, HGO.out _ (by rw [HSTP.out]; exact HG1.out)⟩
  · have HST2 := Lib.hid (show gapsP (emB f S) (k + 1) = gapStep D k by rw [HST.out, HE.out, hc]; rfl)
    clear HST HE
    by_cases h0 : 0 < D.length
    · obtain ⟨d, hd⟩ : ∃ d, D.length = d + 1 := ⟨D.length - 1, by omega⟩
      obtain ⟨g, c, rfl, hgB, hgw⟩ := World.ownsRow.form hown h0
      have hcell := hown1.cellAt (d * 2 + 1) (by omega)
      rw [(rgC_at D d (by omega)).2] at hcell
      have hfr := hown1.frozenAt (d * 2 + 1)
      obtain ⟨q, hq⟩ : ∃ q, (D.getD d (0, 0)).2 = q := ⟨_, rfl⟩
      rw [hq] at hcell
      have HKM := Lib.hid hd
      have HCF := Lib.hid (show Calls Tryd.prog 75 #[.slice (some ⟨b, off + k * S, none⟩) S S, .func (.func 113) #[] #[]] (W.setCell ⟨Nb, 0, none⟩ (.int .i64 (k : Int))) fun e w' => e = .returned (.bool false) ∧ GLoop w WL Ob Nb b off n cap S p1 p2 (k + 1) D w' ∧ KeepT 109 WL.heap.size W w' ∧ Boxed w' Ob 87 (.slice (some ⟨g, 0, none⟩) (d + 1) c) ∧ w'.cell? ⟨Nb, 0, none⟩ = some (.int .i64 (k : Int)) ∧ w'.cell? ⟨g, d * 2 + 1, none⟩ = some (.int .i64 q) ∧ w'.frozen? ⟨g, d * 2 + 1, none⟩ = false ∧ WL.heap.size ≤ w'.heap.size ∧ g < w'.heap.size from HC0.out.mono fun e w' ⟨he, hw⟩ => by
        subst hw
        exact ⟨by rw [he, hc], HGC.out.1, HGC.out.2, by rw [← hd]; exact hbx1, hn1, hcell, hfr, hsz1, by simpa [World.setCell] using hgw⟩)
      have hgW : g < W.heap.size := hgw
      by_cases h3 : q = (k : Int) - 1
      · have HSTP := Lib.hid (show gapsP (emB f S) (k + 1) = D.set d ((D.getD d (0, 0)).1, (k : Int)) by
          rw [HST2.out]
          unfold gapStep
          rw [show D.length - 1 = d by omega, if_pos ⟨h0, by rw [hq]; exact h3⟩])
        have hd2 : (q == (k : Int) - 1) = true := by simpa using h3
        clear hc hbx1 hn1 hown1 hown h3 hq hcell hfr
        gi_wp2_with (first | (refine ⟨trivial, ?_⟩; gi_at_call 75; refine (callsIn_rnd HCF.out).mono ?_; rintro e w1 ⟨rfl, hgl1, hkt1, hb1, e6, elast, flast, hsz1, hgs1⟩; obtain ⟨e5, f5⟩ := cell_bx hb1; have HG1 := Lib.hid hgl1; have HK1 := Lib.hid hkt1; have HX1 := Lib.hid hb1; clear hgl1 hkt1 hb1))
        refine wpIn_region_calm (fun ⟨_, _, h⟩ => h) (by kernel_rfl) (by kernel_rfl) (by kernel_rfl) ?_
        repeat (go_big_quiet_step (fail))
        refine wpQuiet_nil ?_
        rintro _ ⟨pp, rfl⟩
        have hbl := below_later w1 pp
        generalize later w1 pp = w2 at hbl ⊢
        have hgl2 := HG1.out.keep hwWL (hbl.mono hsz1) (CellsSame.below hbl)
        have hkt2 := HK1.out.trans (KeepT.below (T := 109) (B := WL.heap.size) hbl)
        have hb2 : Boxed w2 Ob 87 _ := (hbl.block _ (show Ob < w1.heap.size by omega)).trans HX1.out
        have n6 := (hbl.cell (p := ⟨Nb, 0, none⟩) (show Nb < w1.heap.size by omega)).trans e6
        obtain ⟨n5, g5⟩ := cell_bx hb2
        have HG2 := Lib.hid hgl2
        have HK2 := Lib.hid hkt2
        have HB2 := Lib.hid hb2
        have hsz2 := hbl.size
        have nl := (hbl.cell (p := ⟨g, d * 2 + 1, none⟩) hgs1).trans elast
        have fl := (hbl.frozen (p := ⟨g, d * 2 + 1, none⟩) hgs1).trans flast
        have hlong := HG2.out.long (l := (k : Int)) hwWL hO hN h1 h2 (by rw [HKM.out]; exact HB2.out) HKM.out
        have HL := Lib.hid hlong
        clear hgl2 hkt2 hb2 hbl hlong
        gi_wp2
        exact ⟨HK2.out.trans HL.out.2, HGO.out _ (by rw [HSTP.out]; exact HL.out.1)⟩
      · have HSTP := Lib.hid (show gapsP (emB f S) (k + 1) = D ++ [((k : Int), (k : Int))] by
          rw [HST2.out]
          unfold gapStep
          rw [show D.length - 1 = d by omega, if_neg (by rw [hq]; exact fun h => h3 h.2)])
        have hd2 : (q == (k : Int) - 1) = false := by simpa using h3
        clear hc hbx1 hn1 hown1 hown h3 hq hcell hfr
        gi_wp2_with (first | (refine ⟨trivial, ?_⟩; gi_at_call 75; refine (callsIn_rnd HCF.out).mono ?_; rintro e w1 ⟨rfl, hgl1, hkt1, hb1, e6, elast, flast, hsz1, hgs1⟩; obtain ⟨e5, f5⟩ := cell_bx hb1; have HG1 := Lib.hid hgl1; have HK1 := Lib.hid hkt1; have HX1 := Lib.hid hb1; clear hgl1 hkt1 hb1))
        refine wpIn_region_calm (fun ⟨_, _, h⟩ => h) (by kernel_rfl) (by kernel_rfl) (by kernel_rfl) ?_
        repeat (go_big_quiet_step (fail))
        refine wpQuiet_nil ?_
        rintro _ ⟨pp, rfl⟩
        have hbl := below_later w1 pp
        generalize later w1 pp = w2 at hbl ⊢
        have hgl2 := HG1.out.keep hwWL (hbl.mono hsz1) (CellsSame.below hbl)
        have hkt2 := HK1.out.trans (KeepT.below (T := 109) (B := WL.heap.size) hbl)
        have hb2 : Boxed w2 Ob 87 _ := (hbl.block _ (show Ob < w1.heap.size by omega)).trans HX1.out
        have n6 := (hbl.cell (p := ⟨Nb, 0, none⟩) (show Nb < w1.heap.size by omega)).trans e6
        obtain ⟨n5, g5⟩ := cell_bx hb2
        have HG2 := Lib.hid hgl2
        have HK2 := Lib.hid hkt2
        have HB2 := Lib.hid hb2
        have hsz2 := hbl.size
        have HO2 := Lib.hid (show w2.ownsRow WL.heap.size 109 2 _ D.length (rgC D) from by
          obtain ⟨v0, h1, h2⟩ := hgl2.own
          have h3 := h1.cell.symm.trans hb2.cell
          simp only [Option.some.injEq] at h3
          rw [h3] at h2
          exact h2)
        clear hgl2 hkt2 hb2 hbl
        gi_wp2_with (first | (gi_at_builtin; refine wpListIn_append_own _ rfl _ _ 87 rfl WL.heap.size 109 i0 (.agg #[.int .i64 0, .int .i64 0]) 2 16 Tryd.underlying87 hi0 hz0 hz1 hz2 rfl (by decide) _ _ _ rfl (HO2.out.alloc _) ⟨w2.heap.size, 0, none⟩ 1 1 [.int .i64 k, .int .i64 k] (by first | rfl | (simp; done) | (simp; rfl)) rfl ?c1 ?c2 ?c3 ?c4 ?c5 ?_))
        first | (case c1 => exact cells_two _ _ _ _) | skip
        case c2 => first | rfl | (intro u hu; simp at hu; subst hu; rfl)
        case c3 => unfold maxLen; omega
        case c4 => omega
        case c5 => first | omega | (simp; omega)
        intro v' w3 hown' hgrow _
        obtain ⟨g', cc', rfl⟩ := row_slice hown' (by omega)
        obtain ⟨hga, hka⟩ := HG2.out.add hwO hO hON hOp1 hOp2 hN h1 h2 HB2.out (by first | rfl | exact HKM.out) hown' hgrow
        obtain ⟨t5, r5⟩ : w3.cell? ⟨Ob, 0, none⟩ = some _ ∧ w3.frozen? ⟨Ob, 0, none⟩ = false := cell_bx ((hgrow.block _ (by simp; omega) (fun e => by
          have hlt := HO2.out.lt Ob e.symm
          omega)).trans ((Below.heap_alloc _ _ _ (by omega)).trans HB2.out) : Boxed w3 Ob 87 _)
        have HGA := Lib.hid hga
        have HKA := Lib.hid hka
        clear hga hka hown' hgrow
        gi_wp2
        exact ⟨HK2.out.trans HKA.out, HGO.out _ (by rw [HSTP.out]; exact HGA.out)⟩
    · have h3 : D.length = 0 := by omega
      obtain ⟨va, vc, rfl⟩ : ∃ a c, val = .slice a 0 c := by
        obtain ⟨-, ⟨rfl, h4⟩ | ⟨g, cap, cur, rfl, h4, h5, -⟩⟩ := hown
        · exact ⟨none, 0, rfl⟩
        · exact ⟨_, cap, by rw [h3]⟩
      have HKM := Lib.hid h3
      have HSTP := Lib.hid (show gapsP (emB f S) (k + 1) = D ++ [((k : Int), (k : Int))] by
        rw [HST2.out]
        unfold gapStep
        rw [if_neg (fun h => h0 h.1)])
      have HCF := Lib.hid (show Calls Tryd.prog 75 #[.slice (some ⟨b, off + k * S, none⟩) S S, .func (.func 113) #[] #[]] (W.setCell ⟨Nb, 0, none⟩ (.int .i64 (k : Int))) fun e w' => e = .returned (.bool false) ∧ GLoop w WL Ob Nb b off n cap S p1 p2 (k + 1) D w' ∧ KeepT 109 WL.heap.size W w' ∧ Boxed w' Ob 87 (.slice va 0 vc) ∧ w'.cell? ⟨Nb, 0, none⟩ = some (.int .i64 (k : Int)) ∧ WL.heap.size ≤ w'.heap.size from HC0.out.mono fun e w' ⟨he, hw⟩ => by
        subst hw
        exact ⟨by rw [he, hc], HGC.out.1, HGC.out.2, hbx1, hn1, hsz1⟩)
      clear hc hbx1 hn1 hown1 hown h0 h3
      gi_wp2_with (first | (refine ⟨trivial, ?_⟩; gi_at_call 75; refine (callsIn_rnd HCF.out).mono ?_; rintro e w1 ⟨rfl, hgl1, hkt1, hb1, e6, hsz1⟩; obtain ⟨e5, f5⟩ := cell_bx hb1; have HG1 := Lib.hid hgl1; have HK1 := Lib.hid hkt1; have HX1 := Lib.hid hb1; clear hgl1 hkt1 hb1))
      refine wpIn_region_calm (fun ⟨_, _, h⟩ => h) (by kernel_rfl) (by kernel_rfl) (by kernel_rfl) ?_
      repeat (go_big_quiet_step (fail))
      refine wpQuiet_nil ?_
      rintro _ ⟨pp, rfl⟩
      have hbl := below_later w1 pp
      generalize later w1 pp = w2 at hbl ⊢
      have hgl2 := HG1.out.keep hwWL (hbl.mono hsz1) (CellsSame.below hbl)
      have hkt2 := HK1.out.trans (KeepT.below (T := 109) (B := WL.heap.size) hbl)
      have hb2 : Boxed w2 Ob 87 _ := (hbl.block _ (show Ob < w1.heap.size by omega)).trans HX1.out
      have n6 := (hbl.cell (p := ⟨Nb, 0, none⟩) (show Nb < w1.heap.size by omega)).trans e6
      obtain ⟨n5, g5⟩ := cell_bx hb2
      have HG2 := Lib.hid hgl2
      have HK2 := Lib.hid hkt2
      have HB2 := Lib.hid hb2
      have hsz2 := hbl.size
      have HO2 := Lib.hid (show w2.ownsRow WL.heap.size 109 2 _ D.length (rgC D) from by
        obtain ⟨v0, h1, h2⟩ := hgl2.own
        have h3 := h1.cell.symm.trans hb2.cell
        simp only [Option.some.injEq] at h3
        rw [h3] at h2
        exact h2)
      clear hgl2 hkt2 hb2 hbl
      gi_wp2_with (first | (gi_at_builtin; refine wpListIn_append_own _ rfl _ _ 87 rfl WL.heap.size 109 i0 (.agg #[.int .i64 0, .int .i64 0]) 2 16 Tryd.underlying87 hi0 hz0 hz1 hz2 rfl (by decide) _ _ _ rfl (HO2.out.alloc _) ⟨w2.heap.size, 0, none⟩ 1 1 [.int .i64 k, .int .i64 k] (by first | rfl | (simp; done) | (simp; rfl)) rfl ?c1 ?c2 ?c3 ?c4 ?c5 ?_))
      first | (case c1 => exact cells_two _ _ _ _) | skip
      case c2 => first | rfl | (intro u hu; simp at hu; subst hu; rfl)
      case c3 => unfold maxLen; omega
      case c4 => omega
      case c5 => first | omega | (simp; omega)
      intro v' w3 hown' hgrow _
      obtain ⟨g', cc', rfl⟩ := row_slice hown' (by omega)
      obtain ⟨hga, hka⟩ := HG2.out.add hwO hO hON hOp1 hOp2 hN h1 h2 HB2.out (by first | rfl | exact HKM.out) hown' hgrow
      obtain ⟨t5, r5⟩ : w3.cell? ⟨Ob, 0, none⟩ = some _ ∧ w3.frozen? ⟨Ob, 0, none⟩ = false := cell_bx ((hgrow.block _ (by simp; omega) (fun e => by
        have hlt := HO2.out.lt Ob e.symm
        omega)).trans ((Below.heap_alloc _ _ _ (by omega)).trans HB2.out) : Boxed w3 Ob 87 _)
      have HGA := Lib.hid hga
      have HKA := Lib.hid hka
      clear hga hka hown' hgrow
      gi_wp2
      exact ⟨HK2.out.trans HKA.out, HGO.out _ (by rw [HSTP.out]; exact HGA.out)⟩
end Go.Proofs.YtakohhlmomgegaaDoor
