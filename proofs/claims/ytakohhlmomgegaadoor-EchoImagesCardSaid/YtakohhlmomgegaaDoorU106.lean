/- Chapter 1: the reference's Gaps. -/
import Derived.Test.YtakohhlmomgegaaDoorU105
namespace Go.Proofs.YtakohhlmomgegaaDoor
set_option linter.unusedVariables false
set_option linter.unusedSimpArgs false
open Go.RowKit Ieee Ntt
/-- A line has no echo. -/
def emB (f : Nat → Nat × Nat) (S : Nat) (l : Nat) : Bool := !anyC S fun s => f (l * S + s)
theorem anyC_succ (n : Nat) (f : Nat → Nat × Nat) : anyC (n + 1) f = (anyC n f || nzC (f n).1 (f n).2) := by
  unfold anyC
  rw [List.range_succ, List.any_append]
  simp
theorem ez_eq (a b : Nat) : (FloatKind.f32.format.order a 0 == some Ordering.eq && FloatKind.f32.format.order b 0 == some Ordering.eq) = !nzC a b := by
  unfold nzC
  cases (FloatKind.f32.format.order a 0 == some Ordering.eq) <;> cases (FloatKind.f32.format.order b 0 == some Ordering.eq) <;> rfl
theorem infoR : (Tryd.prog.info? 109).map (fun i => (i.zero, i.size, i.bytes)) = some (some (.agg #[.int .i64 0, .int .i64 0]), 2, 16) := by kernel_rfl
/-- A row of ranges of one's own. -/
def GapR (B : Nat) (w : World) (D : List (Int × Int)) (v : Value) (wr : World) : Prop := wr.ownsRow B 109 2 v D.length (rgC D) ∧ Below B w wr
theorem any_worldG {G : World → Prop} {w : World} (F : World → Prop) (hf : F w) (h : ∀ W, F W → G W) : G w := h w hf
theorem cells_two (w : World) (x y : Value) (T : TypeId) (j : Nat) (u : Value) (h : [x, y][j]? = some u) : (w.alloc (.cells #[x, y] T)).cell? ((⟨w.heap.size, 0, none⟩ : Addr).add j) = some u := by
  have : (⟨w.heap.size, 0, none⟩ : Addr).add j = ⟨w.heap.size, j, none⟩ := by simp [Addr.add]; omega
  rw [this, World.cell?_alloc_new]
  simpa using h
theorem gapR_put {B : Nat} {w wr w1 : World} {D : List (Int × Int)} {v v' : Value} {l : Int} {o : Obj} (h : GapR B w D v wr) (hB : B ≤ wr.heap.size) {m : Nat} (hm : D.length = m) (ho : w1.ownsRow B 109 2 v' (m + 1) (rgC D ++ [.int .i64 l, .int .i64 l])) (hg : (wr.alloc o).grownBy w1 v.ownBlock) : GapR B w (D ++ [(l, l)]) v' w1 := by
  subst hm
  refine ⟨?_, h.2.trans ((((Below.refl B wr).alloc hB o)).grown hg (by simp; omega) (fun g hg => (h.1.lt g hg).1))⟩
  rw [rgC_snoc, List.length_append]
  exact ho
theorem gapR_set {B : Nat} {w wr : World} {D : List (Int × Int)} {g cap k : Nat} {l : Int} (h : GapR B w D (.slice (some ⟨g, 0, none⟩) D.length cap) wr) (hk : D.length = k + 1) :
    GapR B w (D.set k ((D.getD k (0, 0)).1, l)) (.slice (some ⟨g, 0, none⟩) D.length cap) (wr.setCell ⟨g, k * 2 + 1, none⟩ (.int .i64 l)) := by
  have hg := (h.1.lt g rfl).1
  refine ⟨?_, h.2.setCell (p := ⟨g, k * 2 + 1, none⟩) hg _⟩
  rw [← rgC_set D k l (by omega), List.length_set]
  exact (h.1.stored (k * 2 + 1) (.int .i64 l)).1
theorem gapR_slice {B : Nat} {w wr : World} {D : List (Int × Int)} {v : Value} (h : GapR B w D v wr) : ∃ a c, v = .slice a D.length c := by
  obtain ⟨-, ⟨rfl, h1⟩ | ⟨g, cap, cur, rfl, h2, h3, -⟩⟩ := h.1
  · exact ⟨none, 0, by rw [h1]⟩
  · exact ⟨_, cap, rfl⟩
theorem gapR_form {B : Nat} {w wr : World} {D : List (Int × Int)} {v : Value} (h : GapR B w D v wr) (h0 : 0 < D.length) : ∃ g c, v = .slice (some ⟨g, 0, none⟩) D.length c ∧ g < wr.heap.size ∧ B ≤ g := by
  obtain ⟨-, ⟨rfl, h1⟩ | ⟨g, cap, cur, rfl, h2, h3, -⟩⟩ := h.1
  · omega
  · exact ⟨g, cap, rfl, (Array.getElem?_eq_some_iff.1 h3).1, h2⟩
set_option maxRecDepth 20000 in
set_option maxHeartbeats 4000000 in
theorem rGaps (L S n b off cap : Nat) (f : Nat → Nat × Nat) (w : World) (hL : L ≤ 64) (hS : S ≤ 64) (hn : n = L * S) (hbw : b < w.heap.size) (hs : SamplesAt w b off n f) :
    Calls Tryd.prog 58 #[.agg #[.int .i64 L, .int .i64 S, .slice (some ⟨b, off, none⟩) n cap]] w fun e w' => ∃ v, e = .returned v ∧ RgV w' v (gapsP (emB f S) L) ∧ Below w.heap.size w w' := by
  obtain ⟨i0, hi0, hz0, hz1, hz2⟩ := info_parts infoR
  have HS := Lib.hid hs
  have HN := Lib.hid hn
  clear hs hn
  go_enter Tryd.func58, Tryd.ntmps58
  go_wp2
  refine any_worldG (fun W => W.cell? ⟨w.heap.size, 0, none⟩ = some (.int .i64 L) ∧ W.cell? ⟨w.heap.size, 1, none⟩ = some (.int .i64 S) ∧ W.cell? ⟨w.heap.size, 2, none⟩ = some (.slice (some ⟨b, off, none⟩) n cap) ∧ Below w.heap.size w W ∧ W.heap.size = w.heap.size + 1) ⟨by simp [go_sem], by simp [go_sem], by simp [go_sem], (by (repeat' (first | with_reducible exact Below.refl _ _ | (with_reducible refine below_later_of ?_ ?_ _) | (with_reducible refine Below.alloc ?_ ?_ _) | (with_reducible refine Below.setCell ?_ ?_ _) | (with_reducible refine Below.drew ?_) | (simp; done) | (simp; omega) | omega))), by simp⟩ ?_
  rintro W1 ⟨a0, a1, a2, hb1, hs1⟩
  have HA := Lib.hid (And.intro a0 (And.intro a1 a2))
  have HB1 := Lib.hid hb1
  clear a0 a1 a2 hb1
  go_loopw [3, 4] (fun v i wr => ∃ l : Nat, l ≤ L ∧ i = .int .i64 l ∧ GapR (w.heap.size + 1) W1 (gapsP (emB f S) l) v wr) (fun _ i _ => L - (intOf i).toNat)
  case atStart => exact ⟨0, Nat.zero_le _, rfl, World.ownsRow_nil _ _ _ _, Below.refl _ _⟩
  case round =>
    obtain ⟨l, hl, rfl, hg⟩ := hrel
    have HG := Lib.hid hg
    have hsz := hg.2.size
    have x0 := (hg.2.cell (p := ⟨w.heap.size, 0, none⟩) (Nat.lt_succ_self _)).trans HA.out.1
    have x1 := (hg.2.cell (p := ⟨w.heap.size, 1, none⟩) (Nat.lt_succ_self _)).trans HA.out.2.1
    have x2 := (hg.2.cell (p := ⟨w.heap.size, 2, none⟩) (Nat.lt_succ_self _)).trans HA.out.2.2
    have HC := Lib.hid (show ∀ j, j < n → wr.cell? ⟨b, off + j, none⟩ = some (.complex .f32 (f j).1 (f j).2) from fun j hj => (hg.2.cell (p := ⟨b, off + j, none⟩) (show b < w.heap.size + 1 by omega)).trans ((HB1.out.cell (p := ⟨b, off + j, none⟩) hbw).trans (HS.out j hj)))
    by_cases hlt : l < L
    · have hdl : decide ((l : Int) < (L : Int)) = true := by simp; omega
      have HLS := Lib.hid (show (l + 1) * S ≤ n by rw [HN.out]; exact Nat.mul_le_mul_right _ hlt)
      obtain ⟨r1, r2⟩ : (0 : Int) ≤ (l : Int) * (S : Int) ∧ (l : Int) * (S : Int) ≤ 4096 := ⟨Int.mul_nonneg (by omega) (by omega), by
        have := Int.mul_le_mul (show (l : Int) ≤ 64 by omega) (show (S : Int) ≤ 64 by omega) (by omega) (by decide)
        omega⟩
      clear hg
      go_wp2
      go_loop [5, 6] (fun e i => ∃ s : Nat, s ≤ S ∧ i = .int .i64 s ∧ e = .bool (!anyC s fun s => f (l * S + s))) (fun _ i => S - (intOf i).toNat)
      case atStart => exact ⟨0, Nat.zero_le _, rfl, rfl⟩
      case round =>
        obtain ⟨s, hs, rfl, rfl⟩ := hrel
        have HY := Lib.hid (anyC_succ s fun s => f (l * S + s))
        by_cases hst : s < S
        · have hds : decide ((s : Int) < (S : Int)) = true := by simp; omega
          rcases (show (anyC s fun s => f (l * S + s)) = false ∨ (anyC s fun s => f (l * S + s)) = true by cases (anyC s fun s => f (l * S + s)) <;> simp) with h1 | h1
          · obtain ⟨j, hj⟩ : ∃ j, l * S + s = j := ⟨_, rfl⟩
            have hji : (l : Int) * (S : Int) + (s : Int) = (j : Int) := by rw [← hj, Int.natCast_add, Int.natCast_mul]
            have hjn : j < n := by
              have := HLS.out
              rw [Nat.add_mul, Nat.one_mul] at this
              omega
            have ck := HC.out j hjn
            have HF := Lib.hid (ez_eq (f j).1 (f j).2)
            have HR := Lib.hid (show (!anyC (s + 1) fun s => f (l * S + s)) = !nzC (f j).1 (f j).2 by rw [HY.out, h1, ← hj]; rfl)
            rw [h1]
            clear hj h1
            go_wp2
            go_round
            case rel => exact ⟨s + 1, by omega, by go_num, by rw [HR.out, ← HF.out]⟩
            case measure => simp [intOf]; omega
          · have HR := Lib.hid (show (!anyC (s + 1) fun s => f (l * S + s)) = false by rw [HY.out, h1]; rfl)
            rw [h1]
            clear h1
            go_wp2
            go_round
            case rel => exact ⟨s + 1, by omega, by go_num, by rw [HR.out]⟩
            case measure => simp [intOf]; omega
        · obtain rfl : s = S := by omega
          have hds : decide ((s : Int) < (s : Int)) = false := by simp
          have HE := Lib.hid (show emB f s l = !anyC s fun s' => f (l * s + s') from rfl)
          have HST := Lib.hid (show gapsP (emB f s) (l + 1) = if emB f s l then gapStep (gapsP (emB f s) l) l else gapsP (emB f s) l from rfl)
          have hgl := gapsP_len (emB f s) l
          have HLA := Lib.hid (gapsP_last (emB f s) l)
          rcases (show (anyC s fun s' => f (l * s + s')) = true ∨ (anyC s fun s' => f (l * s + s')) = false by cases (anyC s fun s' => f (l * s + s')) <;> simp) with h1 | h1
          · have HSTP := Lib.hid (show gapsP (emB f s) (l + 1) = gapsP (emB f s) l by rw [HST.out, HE.out, h1]; rfl)
            rw [h1]
            clear h1
            go_wp2
            go_roundw
            case rel => exact ⟨l + 1, by omega, by go_num, by rw [HSTP.out]; exact HG.out⟩
            case measure => simp [intOf]; omega
          · have HST2 := Lib.hid (show gapsP (emB f s) (l + 1) = gapStep (gapsP (emB f s) l) l by rw [HST.out, HE.out, h1]; rfl)
            rw [h1]
            generalize gapsP (emB f s) l = D at HG HST2 hgl HLA
            clear h1 HST HE
            by_cases h0 : 0 < D.length
            · obtain ⟨k, hk⟩ : ∃ k, D.length = k + 1 := ⟨D.length - 1, by omega⟩
              obtain ⟨g, c, rfl, hgw, hgB⟩ := gapR_form HG.out h0
              have hcell := HG.out.1.cellAt (k * 2 + 1) (by omega)
              rw [(rgC_at D k (by omega)).2] at hcell
              have hfr := HG.out.1.frozenAt (k * 2 + 1)
              have HK := Lib.hid hk
              have hkl : k ≤ 64 := by omega
              obtain ⟨q, hq⟩ : ∃ q, (D.getD k (0, 0)).2 = q := ⟨_, rfl⟩
              rw [hq] at hcell
              by_cases h2 : q = (l : Int) - 1
              · have HSTP := Lib.hid (show gapsP (emB f s) (l + 1) = D.set k ((D.getD k (0, 0)).1, (l : Int)) by
                  rw [HST2.out]
                  unfold gapStep
                  rw [show D.length - 1 = k by omega, if_pos ⟨h0, by rw [hq]; exact h2⟩])
                have hd2 : (q == (l : Int) - 1) = true := by simpa using h2
                have HGS := Lib.hid (gapR_set (l := (l : Int)) HG.out hk)
                rw [hk] at HGS ⊢
                have hd3 : decide (((k + 1 : Nat) : Int) > 0) = true := by simp
                clear h2 hq HG hk h0
                go_wp2
                go_roundw
                case rel => exact ⟨l + 1, by omega, by go_num, by rw [HSTP.out]; exact HGS.out⟩
                case measure => simp [intOf]; omega
              · have HSTP := Lib.hid (show gapsP (emB f s) (l + 1) = D ++ [((l : Int), (l : Int))] by
                  rw [HST2.out]
                  unfold gapStep
                  rw [show D.length - 1 = k by omega, if_neg (by rw [hq]; exact fun h => h2 h.2)])
                have hd2 : (q == (l : Int) - 1) = false := by simpa using h2
                rw [hk] at HG ⊢
                clear h2 hq h0
                go_wp2_with (first | (at_builtin; refine wpList_append_own _ rfl _ _ 87 rfl (w.heap.size + 1) 109 i0 (.agg #[.int .i64 0, .int .i64 0]) 2 16 Tryd.underlying87 hi0 hz0 hz1 hz2 rfl (by decide) _ _ _ rfl (HG.out.1.alloc _) ⟨wr.heap.size, 0, none⟩ 1 1 [.int .i64 l, .int .i64 l] rfl rfl ?d1 ?d2 ?d3 ?d4 ?d5 ?_))
                first | (case d1 => exact cells_two _ _ _ _) | skip
                case d2 => first | rfl | (intro u hu; simp at hu; subst hu; rfl)
                case d3 => unfold maxLen; omega
                case d4 => omega
                case d5 => first | omega | (simp; omega)
                intro v' w1 hown' hgrow _
                have HN := Lib.hid (gapR_put HG.out (by omega) (by first | rfl | exact HK.out) hown' hgrow)
                clear hown' hgrow
                go_wp2
                go_roundw
                case rel => exact ⟨l + 1, by omega, by go_num, by rw [HSTP.out]; exact HN.out⟩
                case measure => simp [intOf]; omega
            · obtain ⟨va, vc, rfl⟩ := gapR_slice HG.out
              have h3 : D.length = 0 := by omega
              have HSTP := Lib.hid (show gapsP (emB f s) (l + 1) = D ++ [((l : Int), (l : Int))] by
                rw [HST2.out]
                unfold gapStep
                rw [if_neg (fun h => h0 h.1)])
              have HK := Lib.hid (show D.length = D.length from rfl)
              have hd3 : decide ((D.length : Int) > 0) = false := by rw [h3]; rfl
              have hd4 : decide (0 < (D.length : Int)) = false := by rw [h3]; rfl
              have hd5 : decide (0 < D.length) = false := by rw [h3]; rfl
              clear h0 h3
              go_wp2_with (first | (at_builtin; refine wpList_append_own _ rfl _ _ 87 rfl (w.heap.size + 1) 109 i0 (.agg #[.int .i64 0, .int .i64 0]) 2 16 Tryd.underlying87 hi0 hz0 hz1 hz2 rfl (by decide) _ _ _ rfl (HG.out.1.alloc _) ⟨wr.heap.size, 0, none⟩ 1 1 [.int .i64 l, .int .i64 l] rfl rfl ?d1 ?d2 ?d3 ?d4 ?d5 ?_))
              first | (case d1 => exact cells_two _ _ _ _) | skip
              case d2 => first | rfl | (intro u hu; simp at hu; subst hu; rfl)
              case d3 => unfold maxLen; omega
              case d4 => omega
              case d5 => first | omega | (simp; omega)
              intro v' w1 hown' hgrow _
              have HN := Lib.hid (gapR_put HG.out (by omega) (by first | rfl | exact HK.out) hown' hgrow)
              clear hown' hgrow
              go_wp2
              go_roundw
              case rel => exact ⟨l + 1, by omega, by go_num, by rw [HSTP.out]; exact HN.out⟩
              case measure => simp [intOf]; omega
    · obtain rfl : l = L := by omega
      have hdl : decide ((l : Int) < (l : Int)) = false := by simp
      have HR := Lib.hid (show RgV wr _ (gapsP (emB f S) l) from rgV_own hg.1 (by have := gapsP_len (emB f S) l; omega))
      have HB := Lib.hid (HB1.out.trans (hg.2.mono (by omega)))
      clear hg
      go_wp2
      go_ret
      exact ⟨_, rfl, HR.out, HB.out⟩
end Go.Proofs.YtakohhlmomgegaaDoor
