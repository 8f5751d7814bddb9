/- Chapter 1: the law TopFocusLinear returns true. -/
import Derived.Test.YtelchmimhnpkaaaU48
import Derived.Deep.CutRange
import Derived.Deep.RegionHeld3
namespace Go.Proofs.Ytelchmimhnpkaaa
set_option linter.unusedVariables false
open Go.RowKit Ntt
theorem wp_worldL {P : Program} {c : Code} {Q : Exit → Act → World → Prop} {a : Act} {w : World} (F : World → Prop) (hf : F w) (h : ∀ W, F W → Code.wp P c Q a W) : Code.wp P c Q a w := h w hf
/-- What one round finds: the sizes fit, the parts are small. -/
def RndOk (L0 L1 S0 S1 C CA : Nat) (f fc fa : Nat → Nat × Nat) : Prop :=
  (1 ≤ C ∧ S1 + C = S0 + 1 ∧ C ≤ 32 ∧ 1 ≤ S1) ∧ (1 ≤ CA ∧ L1 + CA = L0 + 1 ∧ CA ≤ 32 ∧ 1 ≤ L1) ∧ SmallS C fc (xB fc) (yB fc) 3 ∧ SmallS CA fa (xB fa) (yB fa) 3 ∧
    SmallD (L0 * S1) (compB (xB f) (yB f) (xB fc) (yB fc) S1 S0 C) (xD (compB (xB f) (yB f) (xB fc) (yB fc) S1 S0 C)) (yD (compB (xB f) (yB f) (xB fc) (yB fc) S1 S0 C)) 1000000000
/-- The fields so far. -/
def LiOk (W5 : World) (L0 L1 S0 S1 C CA N : Nat) (F : Nat → Nat → Nat × Nat) (fc fa : Nat → Nat × Nat) (G : List (Option Addr × Nat)) (v : Value) (wr : World) : Prop :=
  FieldsRow wr W5.heap.size L1 S1 N G v ∧ (G.length = 0 → v = .slice none 0 0) ∧
    (∀ j z, G[j]? = some z → OwnS wr 0 N (bothB (F j) fc fa S1 S0 C CA) z.1 ∧ RndOk L0 L1 S0 S1 C CA (F j) fc fa) ∧ Below W5.heap.size W5 wr
theorem LiOk.put {W5 wr W8 w' : World} {L0 L1 S0 S1 C CA N k c : Nat} {F : Nat → Nat → Nat × Nat} {fc fa : Nat → Nat × Nat} {G : List (Option Addr × Nat)} {v v' : Value} {a : Option Addr} {o : Obj} (h : LiOk W5 L0 L1 S0 S1 C CA N F fc fa G v wr) (hb : Below wr.heap.size wr W8)
    (h0 : 0 < N) (ho : OwnS W8 0 N (bothB (F k) fc fa S1 S0 C CA) a) (hk : G.length = k) (hr : RndOk L0 L1 S0 S1 C CA (F k) fc fa)
    (hown : w'.ownsRow W5.heap.size 34 3 v' (G.length + 1) (fldC L1 S1 N G ++ [.int .i64 L1, .int .i64 S1, .slice a N c]))
    (hg : (W8.alloc o).grownBy w' v.ownBlock) : LiOk W5 L0 L1 S0 S1 C CA N F fc fa (G ++ [(a, c)]) v' w' := by
  obtain ⟨h1, h2, h3, h4⟩ := h
  have hsz := hb.size
  have hs5 := h4.size
  have ba := Below.alloc (Below.refl W8.heap.size W8) (Nat.le_refl _) o
  have hR : FieldsRow (W8.alloc o) W5.heap.size L1 S1 N G v := (h1.below hb).below ba
  have hap : ∀ {f : Nat → Nat × Nat} {x : Option Addr}, OwnS (W8.alloc o) 0 N f x → OwnS w' 0 N f x := fun {f x} hx => by
    refine hx.grown hg fun g hgx => ?_
    rcases Nat.eq_zero_or_pos G.length with hG | hG
    · rw [h2 hG]; intro e; cases e
    · exact hx.apart h0 hR hG g hgx
  refine ⟨?_, fun e => by simp at e, fun j z hz => ?_, ?_⟩
  · unfold FieldsRow
    rw [fldC_snoc, show (G ++ [(a, c)]).length = G.length + 1 by simp]
    exact hown
  · rcases Nat.lt_or_ge j G.length with hj | hj
    · rw [List.getElem?_append_left hj] at hz
      obtain ⟨k1, k2⟩ := h3 j z hz
      exact ⟨hap ((k1.below hb).below ba), k2⟩
    · rw [List.getElem?_append_right hj] at hz
      have e : j = k := by
        rcases Nat.eq_or_lt_of_le hj with e | e
        · omega
        · rw [List.getElem?_eq_none (by simp; omega)] at hz; cases hz
      subst e
      rw [hk] at hz
      simp at hz
      subst hz
      exact ⟨hap (ho.below ba), hr⟩
  · refine (h4.trans ((hb.mono hs5).alloc (by omega) o)).grown hg (by simp; omega) fun g hgv => ?_
    exact (World.ownsRow.lt h1 g hgv).1
theorem LiOk.three {W5 wr : World} {L0 L1 S0 S1 C CA N : Nat} {F : Nat → Nat → Nat × Nat} {fc fa : Nat → Nat × Nat} {G : List (Option Addr × Nat)} {v : Value} (h : LiOk W5 L0 L1 S0 S1 C CA N F fc fa G v wr) (hl : G.length = 3) (hN : N = L1 * S1) :
    0 < N ∧ RndOk L0 L1 S0 S1 C CA (F 0) fc fa ∧ RndOk L0 L1 S0 S1 C CA (F 1) fc fa ∧ ∃ g cap g0 c0 g1 c1 g2 c2, v = .slice (some ⟨g, 0, none⟩) 3 cap ∧ g < wr.heap.size ∧
      wr.cell? ⟨g, 2, none⟩ = some (.slice (some ⟨g0, 0, none⟩) N c0) ∧ wr.cell? ⟨g, 5, none⟩ = some (.slice (some ⟨g1, 0, none⟩) N c1) ∧ wr.cell? ⟨g, 8, none⟩ = some (.slice (some ⟨g2, 0, none⟩) N c2) ∧
      (g0 < wr.heap.size ∧ SumsAt wr g0 0 N (bothB (F 0) fc fa S1 S0 C CA)) ∧ (g1 < wr.heap.size ∧ SumsAt wr g1 0 N (bothB (F 1) fc fa S1 S0 C CA)) ∧ (g2 < wr.heap.size ∧ SumsAt wr g2 0 N (bothB (F 2) fc fa S1 S0 C CA)) := by
  obtain ⟨h1, -, h3, -⟩ := h
  match G, hl with
  | [z0, z1, z2], _ =>
    obtain ⟨o0, r0⟩ := h3 0 z0 rfl
    obtain ⟨o1, r1⟩ := h3 1 z1 rfl
    obtain ⟨o2, -⟩ := h3 2 z2 rfl
    have hp : 0 < N := by rw [hN]; exact Nat.mul_pos r0.2.1.2.2.2 r0.1.2.2.2
    obtain ⟨g0, e0, -, l0, s0⟩ := o0 hp
    obtain ⟨g1, e1, -, l1, s1⟩ := o1 hp
    obtain ⟨g2, e2, -, l2, s2⟩ := o2 hp
    obtain ⟨g, cap, hv, -, hg⟩ := World.ownsRow.form h1 (by simp)
    subst hv
    have q2 := World.ownsRow.cellAt h1 2 (by simp)
    have q5 := World.ownsRow.cellAt h1 5 (by simp)
    have q8 := World.ownsRow.cellAt h1 8 (by simp)
    refine ⟨hp, r0, r1, g, cap, g0, z0.2, g1, z1.2, g2, z2.2, rfl, hg, ?_, ?_, ?_, ⟨l0, s0⟩, ⟨l1, s1⟩, ⟨l2, s2⟩⟩
    · rw [q2, ← e0]; rfl
    · rw [q5, ← e1]; rfl
    · rw [q8, ← e2]; rfl
set_option maxRecDepth 20000 in
set_option maxHeartbeats 40000000 in
theorem focusLinear_any (x y : Scn) (za : Option Addr) (m zc : Nat) (pz : Nat → Nat) (w : World) (hx : x.At w) (hy : y.At w) (hz : SrcP w za m pz) :
    Calls Try.prog 4 #[.agg #[.int .i64 x.L, .int .i64 x.S, .slice x.pa x.m x.pc, .slice x.ca x.mc x.cc], .agg #[.int .i64 y.L, .int .i64 y.S, .slice y.pa y.m y.pc, .slice y.ca y.mc y.cc], .slice za m zc] w fun e w' => e = .returned (.bool true) ∧ Below w.heap.size w w' := by
  rcases (show smallB x = false ∨ smallB x = true by cases smallB x <;> simp) with hq | hq
  · have HSX := Lib.hid (fun w => lSmall x w hq)
    clear hx hy hz hq
    go_enter Try.func4, Try.ntmps4
    go_wp2_with (first | (go_at_call 9; (with_reducible refine (compressed_any _).mono ?_); rintro e w' ⟨rfl, hb⟩; obtain ⟨pp, rfl⟩ := later_of_below hb; clear hb) | (go_at_call 10; (with_reducible refine (HSX.out _).mono ?_); rintro e w' ⟨rfl, hb⟩; obtain ⟨pp2, rfl⟩ := later_of_below hb; clear hb))
    go_ret
    exact ⟨rfl, (by (repeat' (first | with_reducible exact Below.refl _ _ | (with_reducible refine below_later_of ?_ ?_ _) | (with_reducible refine Below.alloc ?_ ?_ _) | (with_reducible refine Below.setCell ?_ ?_ _) | (with_reducible refine Below.drew ?_) | (simp; done) | (simp; omega) | omega)))⟩
  · have HSX := Lib.hid (fun w => lSmall x w hq)
    obtain ⟨q1, q2⟩ := smallB_ok hq
    rcases (show smallB y = false ∨ smallB y = true by cases smallB y <;> simp) with hr | hr
    · have HSY := Lib.hid (fun w => lSmall y w hr)
      clear hx hy hz hq hr
      go_enter Try.func4, Try.ntmps4
      go_wp2_with (first | (go_at_call 9; (with_reducible refine (compressed_any _).mono ?_); rintro e w' ⟨rfl, hb⟩; obtain ⟨pp, rfl⟩ := later_of_below hb; clear hb) | (go_at_call 10; (with_reducible refine (HSX.out _).mono ?_); rintro e w' ⟨rfl, hb⟩; obtain ⟨pp2, rfl⟩ := later_of_below hb; clear hb) | (go_at_call 10; (with_reducible refine (HSY.out _).mono ?_); rintro e w' ⟨rfl, hb⟩; obtain ⟨pp3, rfl⟩ := later_of_below hb; clear hb))
      go_ret
      exact ⟨rfl, (by (repeat' (first | with_reducible exact Below.refl _ _ | (with_reducible refine below_later_of ?_ ?_ _) | (with_reducible refine Below.alloc ?_ ?_ _) | (with_reducible refine Below.setCell ?_ ?_ _) | (with_reducible refine Below.drew ?_) | (simp; done) | (simp; omega) | omega)))⟩
    · have HSY := Lib.hid (fun w => lSmall y w hr)
      obtain ⟨r1, r2⟩ := smallB_ok hr
      by_cases hm : m ≤ 70
      · have hd : decide ((70 : Int) < (m : Int)) = false := by simp; omega
        have HBI := Lib.hid (show ∀ W, Below w.heap.size w W → Calls Try.prog 19 #[.int .i64 0, .int .i64 0, .slice za m zc] W (ImPost 0 0 (m / 2) (smp pz) W) from fun W hW => bImage 0 0 m zc za pz W (by omega) (hz.below hW))
        have HX0 := Lib.hid hx
        have HY0 := Lib.hid hy
        clear hx hy hz hq hr
        go_enter Try.func4, Try.ntmps4
        go_wp2_with (first | (go_at_call 9; (with_reducible refine (compressed_any _).mono ?_); rintro e w' ⟨rfl, hb⟩; obtain ⟨pp, rfl⟩ := later_of_below hb; clear hb) | (go_at_call 10; (with_reducible refine (HSX.out _).mono ?_); rintro e w' ⟨rfl, hb⟩; obtain ⟨pp2, rfl⟩ := later_of_below hb; clear hb) | (go_at_call 10; (with_reducible refine (HSY.out _).mono ?_); rintro e w' ⟨rfl, hb⟩; obtain ⟨pp3, rfl⟩ := later_of_below hb; clear hb) | (go_at_call 19; (with_reducible refine (HBI.out _ (by (repeat' (first | with_reducible exact Below.refl _ _ | (with_reducible refine below_later_of ?_ ?_ _) | (with_reducible refine Below.alloc ?_ ?_ _) | (with_reducible refine Below.setCell ?_ ?_ _) | (with_reducible refine Below.drew ?_) | (simp; done) | (simp; omega) | omega)))).mono ?_); rintro e w' ⟨a0, c0, rfl, ha, -, hb⟩; have HA0 := Lib.hid ha; clear ha; obtain ⟨p3, rfl⟩ := later_of_below hb; clear hb))
        obtain ⟨CA, hCA⟩ : ∃ CA, m / 2 = CA := ⟨_, rfl⟩
        have hCA35 : CA ≤ 35 := by omega
        rw [hCA] at HA0
        simp only [hCA]
        refine wp_worldL (fun w' => (w'.cell? ⟨w.heap.size, 0, none⟩ = some (.int .i64 x.L) ∧ w'.cell? ⟨w.heap.size, 1, none⟩ = some (.int .i64 x.S) ∧ w'.cell? ⟨w.heap.size, 2, none⟩ = some (.slice x.pa x.m x.pc) ∧ w'.cell? ⟨w.heap.size, 3, none⟩ = some (.slice x.ca x.mc x.cc)) ∧ (w'.cell? ⟨w.heap.size + 1, 0, none⟩ = some (.int .i64 y.L) ∧ w'.cell? ⟨w.heap.size + 1, 1, none⟩ = some (.int .i64 y.S) ∧ w'.cell? ⟨w.heap.size + 1, 2, none⟩ = some (.slice y.pa y.m y.pc) ∧ w'.cell? ⟨w.heap.size + 1, 3, none⟩ = some (.slice y.ca y.mc y.cc)) ∧ CodeAt w' CA (smp pz) a0 ∧ Below w.heap.size w w' ∧ w.heap.size + 1 < w'.heap.size) ⟨⟨(by (first | (simp [go_sem]; done) | simp [go_sem, ↓IntWalk.iteOmega])), (by (first | (simp [go_sem]; done) | simp [go_sem, ↓IntWalk.iteOmega])), (by (first | (simp [go_sem]; done) | simp [go_sem, ↓IntWalk.iteOmega])), (by (first | (simp [go_sem]; done) | simp [go_sem, ↓IntWalk.iteOmega]))⟩, ⟨(by (first | (simp [go_sem]; done) | simp [go_sem, ↓IntWalk.iteOmega])), (by (first | (simp [go_sem]; done) | simp [go_sem, ↓IntWalk.iteOmega])), (by (first | (simp [go_sem]; done) | simp [go_sem, ↓IntWalk.iteOmega])), (by (first | (simp [go_sem]; done) | simp [go_sem, ↓IntWalk.iteOmega]))⟩, codeAt_own2 HA0.out (by (repeat' (first | with_reducible exact Below.refl _ _ | (with_reducible refine below_later_of ?_ ?_ _) | (with_reducible refine Below.alloc ?_ ?_ _) | (with_reducible refine Below.setCell ?_ ?_ _) | (with_reducible refine Below.drew ?_) | (simp; done) | (simp; omega) | omega))), (by (repeat' (first | with_reducible exact Below.refl _ _ | (with_reducible refine below_later_of ?_ ?_ _) | (with_reducible refine Below.alloc ?_ ?_ _) | (with_reducible refine Below.setCell ?_ ?_ _) | (with_reducible refine Below.drew ?_) | (simp; done) | (simp; omega) | omega))), by simp; omega⟩ ?_
        rintro W2 ⟨⟨k0, k1, k2, k3⟩, ⟨j0, j1, j2, j3⟩, hca, hb2, hs2⟩
        have HIX := Lib.hid (show ∀ W, Below W2.heap.size W2 W → _ from fun W hW => lImage x W (by omega) (HX0.out.below (hb2.trans (hW.mono hb2.size))))
        have HIY := Lib.hid (show ∀ W, Below W2.heap.size W2 W → _ from fun W hW => lImage y W (by omega) (HY0.out.below (hb2.trans (hW.mono hb2.size))))
        have HCD := Lib.hid (show ∀ W, Below W2.heap.size W2 W → _ from fun W hW => lCode x W (by omega) (HX0.out.below (hb2.trans (hW.mono hb2.size))))
        have HCA2 := Lib.hid hca
        have HB2 := Lib.hid hb2
        clear hca hb2 HA0 HBI HSX HSY HX0 HY0 hd hCA
        go_cut [8, 9] from 36 to 44 (fun X Y wx => ∃ B l s n' a c e0, X = .pointer (some ⟨B, 0, none⟩) ∧ Y = .int .i64 e0 ∧ ImgBlk wx B l s a n' c ∧ (e0 = 0 → AddOk wx 0 x.L x.S (x.m / 2) (smp x.p) y.L y.S (y.m / 2) (smp y.p) l s n' a) ∧ B < wx.heap.size ∧ Below W2.heap.size W2 wx)
        case first =>
          go_region_held3 (fun w' => w'.cell? ⟨w.heap.size, 0, none⟩ = some (.int .i64 x.L) ∧ w'.cell? ⟨w.heap.size, 1, none⟩ = some (.int .i64 x.S) ∧ w'.cell? ⟨w.heap.size, 2, none⟩ = some (.slice x.pa x.m x.pc) ∧ w'.cell? ⟨w.heap.size, 3, none⟩ = some (.slice x.ca x.mc x.cc) ∧ w'.cell? ⟨w.heap.size + 1, 0, none⟩ = some (.int .i64 y.L) ∧ w'.cell? ⟨w.heap.size + 1, 1, none⟩ = some (.int .i64 y.S) ∧ w'.cell? ⟨w.heap.size + 1, 2, none⟩ = some (.slice y.pa y.m y.pc) ∧ w'.cell? ⟨w.heap.size + 1, 3, none⟩ = some (.slice y.ca y.mc y.cc)) (first | exact ⟨k0, k1, k2, k3, j0, j1, j2, j3⟩ | ((first | (simp [go_sem, k0, k1, k2, k3, j0, j1, j2, j3]; done) | simp [go_sem, k0, k1, k2, k3, j0, j1, j2, j3, ↓IntWalk.iteOmega]); done)) (first | (go_at_call 11; (with_reducible refine (HIX.out _ (by (repeat' (first | with_reducible exact Below.refl _ _ | (with_reducible refine below_later_of ?_ ?_ _) | (with_reducible refine Below.alloc ?_ ?_ _) | (with_reducible refine Below.setCell ?_ ?_ _) | (with_reducible refine Below.drew ?_) | (simp; done) | (simp; omega) | omega)))).mono ?_); rintro e w' ⟨a1, c1, rfl, ha, -, hb⟩; have HA1 := Lib.hid ha; clear ha; obtain ⟨q1, rfl⟩ := later_of_below hb; clear hb) | (go_at_call 11; (with_reducible refine (HIY.out _ (by (repeat' (first | with_reducible exact Below.refl _ _ | (with_reducible refine below_later_of ?_ ?_ _) | (with_reducible refine Below.alloc ?_ ?_ _) | (with_reducible refine Below.setCell ?_ ?_ _) | (with_reducible refine Below.drew ?_) | (simp; done) | (simp; omega) | omega)))).mono ?_); rintro e w' ⟨a2, c2, rfl, ha, -, hb⟩; have HA2 := Lib.hid ha; clear ha; obtain ⟨q2, rfl⟩ := later_of_below hb; clear hb) | (go_at_call 20; (with_reducible refine (added_law x.L x.S y.L y.S (x.m / 2) c1 (y.m / 2) c2 (smp x.p) (smp y.p) a1 a2 _ (by omega) (by omega) (dataAt_own HA1.out (by (repeat' (first | with_reducible exact Below.refl _ _ | (with_reducible refine below_later_of ?_ ?_ _) | (with_reducible refine Below.alloc ?_ ?_ _) | (with_reducible refine Below.setCell ?_ ?_ _) | (with_reducible refine Below.drew ?_) | (simp; done) | (simp; omega) | omega)))) (dataAt_own HA2.out (by (repeat' (first | with_reducible exact Below.refl _ _ | (with_reducible refine below_later_of ?_ ?_ _) | (with_reducible refine Below.alloc ?_ ?_ _) | (with_reducible refine Below.setCell ?_ ?_ _) | (with_reducible refine Below.drew ?_) | (simp; done) | (simp; omega) | omega))))).mono ?_); rintro e w' ⟨l5, s5, n5, a5, c5, e5, rfl, hok, hb⟩; have HOK := Lib.hid hok; clear hok; obtain ⟨q3, rfl⟩ := later_of_below hb; clear hb))
          all_goals
            rename_i hheld
            clear hheld
            go_wp2_with fail
            go_meet
            refine ⟨_, l5, s5, n5, a5, c5, e5, rfl, rfl, ⟨(by (first | (simp [go_sem]; done) | simp [go_sem, ↓IntWalk.iteOmega])), (by (first | (simp [go_sem]; done) | simp [go_sem, ↓IntWalk.iteOmega])), (by (first | (simp [go_sem]; done) | simp [go_sem, ↓IntWalk.iteOmega]))⟩, fun h => ?_, by simp <;> omega, (by (repeat' (first | with_reducible exact Below.refl _ _ | (with_reducible refine below_later_of ?_ ?_ _) | (with_reducible refine Below.alloc ?_ ?_ _) | (with_reducible refine Below.setCell ?_ ?_ _) | (with_reducible refine Below.drew ?_) | (simp; done) | (simp; omega) | omega)))⟩
            first
              | (refine ((HOK.out h).1.below ?_).mono (Nat.zero_le _); (repeat' (first | with_reducible exact Below.refl _ _ | (with_reducible refine below_later_of ?_ ?_ _) | (with_reducible refine Below.alloc ?_ ?_ _) | (with_reducible refine Below.setCell ?_ ?_ _) | (with_reducible refine Below.drew ?_) | (simp; done) | (simp; omega) | omega)); done)
              | (refine (AddOk.set (AddOk.set (AddOk.set (HOK.out h).1 ?_ _) ?_ _) ?_ _).mono (Nat.zero_le _) <;> simp <;> omega)
        case rest =>
          obtain ⟨B5, l, s, n', a5, c5, e0, rfl, rfl, hi5, hok, hB5, hb⟩ := hcut
          obtain ⟨W3, hW3⟩ : ∃ W3 : World, W3 = wc := ⟨_, rfl⟩
          subst hW3
          have hs3 := hb.size
          have HB3 := Lib.hid (HB2.out.trans (hb.mono HB2.out.size))
          by_cases h0 : e0 = 0
          · subst h0
            obtain ⟨L0, S0, ⟨hL, hS, hL', hS'⟩, ⟨b1, b2, b3, b4⟩, hn, hn2, rfl, rfl, hn3, hF, hG, hFG, hown⟩ := hok rfl
            obtain ⟨n, hnn⟩ : ∃ n, x.m / 2 = n := ⟨_, rfl⟩
            obtain ⟨C, hC⟩ : ∃ C, x.mc / 2 = C := ⟨_, rfl⟩
            rw [hnn] at hn hF hG hFG
            obtain rfl : n = n' := by omega
            have hny : y.m / 2 = n := by omega
            obtain ⟨S1, hS1⟩ : ∃ S1, S0 + 1 - C = S1 := ⟨_, rfl⟩
            obtain ⟨L1, hL1⟩ : ∃ L1, L0 + 1 - CA = L1 := ⟨_, rfl⟩
            obtain ⟨N, hNN⟩ : ∃ N, N = L1 * S1 := ⟨_, rfl⟩
            have hC35 : C ≤ 35 := by omega
            have hn4 : n ≤ 4096 := by rw [hn]; exact Nat.mul_le_mul b2 b4
            have HIX3 := Lib.hid (show ∀ W, Below W3.heap.size W3 W → Calls Try.prog 11 #[.agg #[.int .i64 x.L, .int .i64 x.S, .slice x.pa x.m x.pc, .slice x.ca x.mc x.cc]] W (ImPost L0 S0 n (smp x.p) W) from fun W hW => (HIX.out W (hb.trans (hW.mono hs3))).mono fun e w' h => by rw [hL, hS, hnn] at h; exact h)
            have HIY3 := Lib.hid (show ∀ W, Below W3.heap.size W3 W → Calls Try.prog 11 #[.agg #[.int .i64 y.L, .int .i64 y.S, .slice y.pa y.m y.pc, .slice y.ca y.mc y.cc]] W (ImPost L0 S0 n (smp y.p) W) from fun W hW => (HIY.out W (hb.trans (hW.mono hs3))).mono fun e w' h => by rw [hL', hS', hny] at h; exact h)
            have HCD3 := Lib.hid (show ∀ W, Below W3.heap.size W3 W → Calls Try.prog 12 #[.agg #[.int .i64 x.L, .int .i64 x.S, .slice x.pa x.m x.pc, .slice x.ca x.mc x.cc]] W (CdPost C (smp x.q) W) from fun W hW => (HCD.out W (hb.trans (hW.mono hs3))).mono fun e w' h => by rw [hC] at h; exact h)
            have HD5 := Lib.hid (DatAt.of hown)
            have HCA3 := Lib.hid (HCA2.out.below hb)
            have HSM := Lib.hid (And.intro hF (And.intro hG hFG))
            have HN := Lib.hid hn
            have HNN := Lib.hid hNN
            have HS1 := Lib.hid hS1
            have HL1 := Lib.hid hL1
            have hs2' : w.heap.size + 1 < W3.heap.size := by omega
            have hw0 : w.heap.size < W3.heap.size := by omega
            replace k0 := (hb.cell (p := ⟨w.heap.size, 0, none⟩) (by simp; omega)).trans k0
            replace k1 := (hb.cell (p := ⟨w.heap.size, 1, none⟩) (by simp; omega)).trans k1
            replace k2 := (hb.cell (p := ⟨w.heap.size, 2, none⟩) (by simp; omega)).trans k2
            replace k3 := (hb.cell (p := ⟨w.heap.size, 3, none⟩) (by simp; omega)).trans k3
            replace j0 := (hb.cell (p := ⟨w.heap.size + 1, 0, none⟩) hs2).trans j0
            replace j1 := (hb.cell (p := ⟨w.heap.size + 1, 1, none⟩) hs2).trans j1
            replace j2 := (hb.cell (p := ⟨w.heap.size + 1, 2, none⟩) hs2).trans j2
            replace j3 := (hb.cell (p := ⟨w.heap.size + 1, 3, none⟩) hs2).trans j3
            obtain ⟨i0, i1, i2⟩ := hi5
            clear hok hown hF hG hFG hL hS hL' hS' hnn hn hny hn2 hn3 hC hS1 hL1 hNN HIX HIY HCD HCA2 HB2 hb
            go_wp2
            go_cut [10] from 46 to 52 (fun X wx => ∃ B A c, X = .slice (some ⟨B, 0, none⟩) 3 3 ∧ Im3 wx B L0 S0 n A c (tri (smp x.p) (smp y.p) (addB (smp x.p) (smp y.p))) ∧ Below W3.heap.size W3 wx)
            case first =>
              go_region_held3 (fun w' => w'.cell? ⟨w.heap.size, 0, none⟩ = some (.int .i64 x.L) ∧ w'.cell? ⟨w.heap.size, 1, none⟩ = some (.int .i64 x.S) ∧ w'.cell? ⟨w.heap.size, 2, none⟩ = some (.slice x.pa x.m x.pc) ∧ w'.cell? ⟨w.heap.size, 3, none⟩ = some (.slice x.ca x.mc x.cc) ∧ w'.cell? ⟨w.heap.size + 1, 0, none⟩ = some (.int .i64 y.L) ∧ w'.cell? ⟨w.heap.size + 1, 1, none⟩ = some (.int .i64 y.S) ∧ w'.cell? ⟨w.heap.size + 1, 2, none⟩ = some (.slice y.pa y.m y.pc) ∧ w'.cell? ⟨w.heap.size + 1, 3, none⟩ = some (.slice y.ca y.mc y.cc) ∧ w'.cell? ⟨B5, 0, none⟩ = some (.int .i64 L0) ∧ w'.cell? ⟨B5, 1, none⟩ = some (.int .i64 S0) ∧ w'.cell? ⟨B5, 2, none⟩ = some (.slice a5 n c5)) (first | exact ⟨k0, k1, k2, k3, j0, j1, j2, j3, i0, i1, i2⟩ | ((first | (simp [go_sem, k0, k1, k2, k3, j0, j1, j2, j3, i0, i1, i2]; done) | simp [go_sem, k0, k1, k2, k3, j0, j1, j2, j3, i0, i1, i2, ↓IntWalk.iteOmega]); done)) (first | (go_at_call 11; (with_reducible refine (HIX3.out _ (by (repeat' (first | with_reducible exact Below.refl _ _ | (with_reducible refine below_later_of ?_ ?_ _) | (with_reducible refine Below.alloc ?_ ?_ _) | (with_reducible refine Below.setCell ?_ ?_ _) | (with_reducible refine Below.drew ?_) | (simp; done) | (simp; omega) | omega)))).mono ?_); rintro e w' ⟨a1, c1, rfl, ha, -, hb⟩; have HA1 := Lib.hid (DatAt.of ha); clear ha; obtain ⟨q1, rfl⟩ := later_of_below hb; clear hb) | (go_at_call 11; (with_reducible refine (HIY3.out _ (by (repeat' (first | with_reducible exact Below.refl _ _ | (with_reducible refine below_later_of ?_ ?_ _) | (with_reducible refine Below.alloc ?_ ?_ _) | (with_reducible refine Below.setCell ?_ ?_ _) | (with_reducible refine Below.drew ?_) | (simp; done) | (simp; omega) | omega)))).mono ?_); rintro e w' ⟨a2, c2, rfl, ha, -, hb⟩; have HA2 := Lib.hid (DatAt.of ha); clear ha; obtain ⟨q2, rfl⟩ := later_of_below hb; clear hb))
              all_goals
                rename_i hheld
                clear hheld
                go_wp2_with fail
                go_meet
                exact ⟨_, tri a1 a2 a5, tri c1 c2 c5, rfl, im3_mk (by simp <;> omega) (by (first | (simp [go_sem]; done) | simp [go_sem, ↓IntWalk.iteOmega])) (by (first | (simp [go_sem]; done) | simp [go_sem, ↓IntWalk.iteOmega])) (by (first | (simp [go_sem]; done) | simp [go_sem, ↓IntWalk.iteOmega])) (by (first | (simp [go_sem]; done) | simp [go_sem, ↓IntWalk.iteOmega])) (by (first | (simp [go_sem]; done) | simp [go_sem, ↓IntWalk.iteOmega])) (by (first | (simp [go_sem]; done) | simp [go_sem, ↓IntWalk.iteOmega])) (by (first | (simp [go_sem]; done) | simp [go_sem, ↓IntWalk.iteOmega])) (by (first | (simp [go_sem]; done) | simp [go_sem, ↓IntWalk.iteOmega])) (by (first | (simp [go_sem]; done) | simp [go_sem, ↓IntWalk.iteOmega])) (HA1.out.below (by (repeat' (first | with_reducible exact Below.refl _ _ | (with_reducible refine below_later_of ?_ ?_ _) | (with_reducible refine Below.alloc ?_ ?_ _) | (with_reducible refine Below.setCell ?_ ?_ _) | (with_reducible refine Below.drew ?_) | (simp; done) | (simp; omega) | omega)))) (HA2.out.below (by (repeat' (first | with_reducible exact Below.refl _ _ | (with_reducible refine below_later_of ?_ ?_ _) | (with_reducible refine Below.alloc ?_ ?_ _) | (with_reducible refine Below.setCell ?_ ?_ _) | (with_reducible refine Below.drew ?_) | (simp; done) | (simp; omega) | omega)))) (HD5.out.below (by (repeat' (first | with_reducible exact Below.refl _ _ | (with_reducible refine below_later_of ?_ ?_ _) | (with_reducible refine Below.alloc ?_ ?_ _) | (with_reducible refine Below.setCell ?_ ?_ _) | (with_reducible refine Below.drew ?_) | (simp; done) | (simp; omega) | omega)))), (by (repeat' (first | with_reducible exact Below.refl _ _ | (with_reducible refine below_later_of ?_ ?_ _) | (with_reducible refine Below.alloc ?_ ?_ _) | (with_reducible refine Below.setCell ?_ ?_ _) | (with_reducible refine Below.drew ?_) | (simp; done) | (simp; omega) | omega)))⟩
            case rest =>
              obtain ⟨B6, A, c, rfl, him, hb⟩ := hcut
              obtain ⟨W5, hW5⟩ : ∃ W5 : World, W5 = wc := ⟨_, rfl⟩
              subst hW5
              have hs5 := hb.size
              have HIM := Lib.hid him
              have HB5 := Lib.hid (HB3.out.trans (hb.mono HB3.out.size))
              have HCA5 := Lib.hid (HCA3.out.below hb)
              have HCD4 := Lib.hid (show ∀ W, Below W5.heap.size W5 W → _ from fun W hW => HCD3.out W (hb.trans (hW.mono hs5)))
              have HK5 := Lib.hid (show (fun w' : World => w'.cell? ⟨w.heap.size, 0, none⟩ = some (.int .i64 x.L) ∧ w'.cell? ⟨w.heap.size, 1, none⟩ = some (.int .i64 x.S) ∧ w'.cell? ⟨w.heap.size, 2, none⟩ = some (.slice x.pa x.m x.pc) ∧ w'.cell? ⟨w.heap.size, 3, none⟩ = some (.slice x.ca x.mc x.cc)) W5 from ⟨(hb.cell (p := ⟨w.heap.size, 0, none⟩) hw0).trans k0, (hb.cell (p := ⟨w.heap.size, 1, none⟩) hw0).trans k1, (hb.cell (p := ⟨w.heap.size, 2, none⟩) hw0).trans k2, (hb.cell (p := ⟨w.heap.size, 3, none⟩) hw0).trans k3⟩)
              have hw5 : w.heap.size < W5.heap.size := by omega
              have hB6 : B6 < W5.heap.size := him.1
              obtain ⟨F, hF⟩ : ∃ F, F = tri (smp x.p) (smp y.p) (addB (smp x.p) (smp y.p)) := ⟨_, rfl⟩
              rw [← hF] at HIM
              have HF := Lib.hid hF
              clear him hb k0 k1 k2 k3 j0 j1 j2 j3 i0 i1 i2 HIX3 HIY3 HCD3 HD5 HCA3 hF hB5
              go_wp2
              go_loopw [11, 12] (fun z i wr => ∃ (k : Nat) (G : List (Option Addr × Nat)) (v : Value), k ≤ 3 ∧ G.length = k ∧ i = .int .i64 k ∧ v = z ∧ LiOk W5 L0 L1 S0 S1 C CA N F (smp x.q) (smp pz) G v wr) (fun _ i _ => 3 - (intOf i).toNat)
              case atStart => exact ⟨0, [], _, by omega, rfl, rfl, rfl, World.ownsRow_nil _ _ _ _, fun _ => rfl, fun j z hz => by simp at hz, Below.refl _ _⟩
              case round =>
                obtain ⟨k, G, v, hk, hG, rfl, rfl, hli⟩ := hrel
                have HLI := Lib.hid hli
                have hbr := hli.2.2.2
                have hsr := hbr.size
                by_cases hlt : k < 3
                · have hdk : decide ((k : Int) < 3) = true := by simp; omega
                  obtain ⟨va, vc, rfl⟩ : ∃ va vc, v = .slice va k vc := by
                    have h := own_slice hli.1
                    rwa [hG] at h
                  have hk0 : (0 : Int) ≤ (k : Int) := by omega
                  have hk1 : (k : Int) < 3 := by omega
                  obtain ⟨f, hf⟩ : ∃ f, F k = f := ⟨_, rfl⟩
                  obtain ⟨⟨i0, i1, i2⟩, hdi⟩ := (HIM.out.below hbr).2 k hlt
                  rw [hf] at hdi
                  have HFK := Lib.hid hf
                  have HDI := Lib.hid hdi
                  generalize A k = ak at i2 HDI
                  generalize c k = ck at i2
                  obtain ⟨k0, k1, k2, k3⟩ := HK5.out
                  replace k0 := (hbr.cell (p := ⟨w.heap.size, 0, none⟩) hw5).trans k0
                  replace k1 := (hbr.cell (p := ⟨w.heap.size, 1, none⟩) hw5).trans k1
                  replace k2 := (hbr.cell (p := ⟨w.heap.size, 2, none⟩) hw5).trans k2
                  replace k3 := (hbr.cell (p := ⟨w.heap.size, 3, none⟩) hw5).trans k3
                  have HCD5 := Lib.hid (show ∀ W, Below wr.heap.size wr W → _ from fun W hW => HCD4.out W (hbr.trans (hW.mono hsr)))
                  have HCA6 := Lib.hid (HCA5.out.below hbr)
                  have hwr : w.heap.size < wr.heap.size := by omega
                  have hB6r : B6 < wr.heap.size := by omega
                  have HG := Lib.hid hG
                  clear hli hbr hdi hf
                  go_wp2
                  go_cut [13, 14] from 52 to 81 (fun X Y wx => ∃ B l s n' a c e0, X = .pointer (some ⟨B, 0, none⟩) ∧ Y = .int .i64 e0 ∧ ImgBlk wx B l s a n' c ∧ (e0 = 0 → CompOkB wx 0 L0 S0 n C f (smp x.q) l s n' a) ∧ B < wx.heap.size ∧ Below wr.heap.size wr wx)
                  case first =>
                    go_region_held3 (fun w' => w'.cell? ⟨w.heap.size, 0, none⟩ = some (.int .i64 x.L) ∧ w'.cell? ⟨w.heap.size, 1, none⟩ = some (.int .i64 x.S) ∧ w'.cell? ⟨w.heap.size, 2, none⟩ = some (.slice x.pa x.m x.pc) ∧ w'.cell? ⟨w.heap.size, 3, none⟩ = some (.slice x.ca x.mc x.cc) ∧ w'.cell? ⟨B6, k * 3, none⟩ = some (.int .i64 L0) ∧ w'.cell? ⟨B6, k * 3 + 1, none⟩ = some (.int .i64 S0) ∧ w'.cell? ⟨B6, k * 3 + 2, none⟩ = some (.slice ak n ck)) (first | exact ⟨k0, k1, k2, k3, i0, i1, i2⟩ | ((first | (simp [go_sem, k0, k1, k2, k3, i0, i1, i2]; done) | simp [go_sem, k0, k1, k2, k3, i0, i1, i2, ↓IntWalk.iteOmega]); done)) (first | (go_at_call 12; (with_reducible refine (HCD5.out _ (by (repeat' (first | with_reducible exact Below.refl _ _ | (with_reducible refine below_later_of ?_ ?_ _) | (with_reducible refine Below.alloc ?_ ?_ _) | (with_reducible refine Below.setCell ?_ ?_ _) | (with_reducible refine Below.drew ?_) | (simp; done) | (simp; omega) | omega)))).mono ?_); rintro e w' ⟨a4, c4, rfl, ha, hb⟩; have HA4 := Lib.hid ha; clear ha; obtain ⟨p6, rfl⟩ := later_of_below hb; clear hb) | (go_at_call 13; (with_reducible refine (compress_lawB L0 S0 n ck C c4 f (smp x.q) ak a4 _ (by omega) (by omega) (HDI.out.below (by (repeat' (first | with_reducible exact Below.refl _ _ | (with_reducible refine below_later_of ?_ ?_ _) | (with_reducible refine Below.alloc ?_ ?_ _) | (with_reducible refine Below.setCell ?_ ?_ _) | (with_reducible refine Below.drew ?_) | (simp; done) | (simp; omega) | omega)))).data (codeAt_own2 HA4.out (by (repeat' (first | with_reducible exact Below.refl _ _ | (with_reducible refine below_later_of ?_ ?_ _) | (with_reducible refine Below.alloc ?_ ?_ _) | (with_reducible refine Below.setCell ?_ ?_ _) | (with_reducible refine Below.drew ?_) | (simp; done) | (simp; omega) | omega))))).mono ?_); rintro e w' ⟨l5, s5, n5, a5, c5, e5, rfl, hok, hb⟩; have HOK := Lib.hid hok; clear hok; obtain ⟨p7, rfl⟩ := later_of_below hb; clear hb))
                    all_goals
                      rename_i hheld
                      clear hheld
                      go_wp2_with fail
                      go_meet
                      refine ⟨_, l5, s5, n5, a5, c5, e5, rfl, rfl, ⟨(by (first | (simp [go_sem]; done) | simp [go_sem, ↓IntWalk.iteOmega])), (by (first | (simp [go_sem]; done) | simp [go_sem, ↓IntWalk.iteOmega])), (by (first | (simp [go_sem]; done) | simp [go_sem, ↓IntWalk.iteOmega]))⟩, fun h => ?_, by simp <;> omega, (by (repeat' (first | with_reducible exact Below.refl _ _ | (with_reducible refine below_later_of ?_ ?_ _) | (with_reducible refine Below.alloc ?_ ?_ _) | (with_reducible refine Below.setCell ?_ ?_ _) | (with_reducible refine Below.drew ?_) | (simp; done) | (simp; omega) | omega)))⟩
                      first
                        | (refine ((HOK.out h).below ?_).mono (Nat.zero_le _); (repeat' (first | with_reducible exact Below.refl _ _ | (with_reducible refine below_later_of ?_ ?_ _) | (with_reducible refine Below.alloc ?_ ?_ _) | (with_reducible refine Below.setCell ?_ ?_ _) | (with_reducible refine Below.drew ?_) | (simp; done) | (simp; omega) | omega)); done)
                        | (refine (CompOkB.set (CompOkB.set (CompOkB.set (HOK.out h) ?_ _) ?_ _) ?_ _).mono (Nat.zero_le _) <;> simp <;> omega)
                  case rest =>
                    obtain ⟨B7, l, s, n7, a7, c7, e7, rfl, rfl, hi7, hok7, hB7, hb7⟩ := hcut
                    obtain ⟨W7, hW7⟩ : ∃ W7 : World, W7 = wc := ⟨_, rfl⟩
                    subst hW7
                    have hs7 := hb7.size
                    by_cases h7 : e7 = 0
                    · subst h7
                      obtain ⟨L0', S0', hL2, hS2, ⟨d1, d2, d3, d4, d5, d6⟩, -, rfl, rfl, hn7, hX, hU, hown7⟩ := hok7 rfl
                      obtain rfl : L0 = L0' := by omega
                      obtain rfl : S0 = S0' := by omega
                      have hS1 := HS1.out
                      rw [hS1] at hn7 hi7 hown7
                      obtain ⟨fcomp, hfc⟩ : ∃ g, compB (xB f) (yB f) (xB (smp x.q)) (yB (smp x.q)) S1 S0 C = g := ⟨_, rfl⟩
                      have hwd : Wide64 n7 fcomp := by rw [← hfc]; exact compB_wide _ _ _ _ _ _ _ _
                      rw [hfc] at hown7
                      have HFC := Lib.hid hfc
                      have HWD := Lib.hid hwd
                      have HOC := Lib.hid hown7
                      have HU7 := Lib.hid hU
                      have HN7 := Lib.hid hn7
                      have hn7' : n7 ≤ 4096 := by rw [hn7]; exact Nat.mul_le_mul b2 (show S1 ≤ 64 by omega)
                      have hSC : S1 + C = S0 + 1 := by omega
                      have HB7 := Lib.hid hb7
                      have HCA7 := Lib.hid (HCA6.out.below hb7)
                      obtain ⟨i0, i1, i2⟩ := hi7
                      clear hok7 hX hU hown7 hfc hwd hn7 hS1 hb7 hL2 hS2 k0 k1 k2 k3 HCD5 HCA6 HDI
                      go_wp2
                      go_cut [15, 16] from 52 to 81 (fun X Y wx => ∃ B l s n' a c e0, X = .pointer (some ⟨B, 0, none⟩) ∧ Y = .int .i64 e0 ∧ ImgBlk wx B l s a n' c ∧ (e0 = 0 → FocOk wx 0 L0 S1 n7 CA fcomp (smp pz) l s n' a) ∧ B < wx.heap.size ∧ Below W7.heap.size W7 wx)
                      case first =>
                        go_region_held3 (fun w' => w'.cell? ⟨B7, 0, none⟩ = some (.int .i64 L0) ∧ w'.cell? ⟨B7, 1, none⟩ = some (.int .i64 S1) ∧ w'.cell? ⟨B7, 2, none⟩ = some (.slice a7 n7 c7)) (first | exact ⟨i0, i1, i2⟩ | ((first | (simp [go_sem, i0, i1, i2]; done) | simp [go_sem, i0, i1, i2, ↓IntWalk.iteOmega]); done)) (first | (go_at_call 21; (with_reducible refine (focus_law L0 S1 n7 c7 CA c8 fcomp (smp pz) a7 a8 _ (by omega) (by omega) (OwnS.fld HOC.out (by (repeat' (first | with_reducible exact Below.refl _ _ | (with_reducible refine below_later_of ?_ ?_ _) | (with_reducible refine Below.alloc ?_ ?_ _) | (with_reducible refine Below.setCell ?_ ?_ _) | (with_reducible refine Below.drew ?_) | (simp; done) | (simp; omega) | omega)))) HWD.out (HV8.out.below (by (repeat' (first | with_reducible exact Below.refl _ _ | (with_reducible refine below_later_of ?_ ?_ _) | (with_reducible refine Below.alloc ?_ ?_ _) | (with_reducible refine Below.setCell ?_ ?_ _) | (with_reducible refine Below.drew ?_) | (simp; done) | (simp; omega) | omega))))).mono ?_); rintro e w' ⟨l9, s9, n9, a9, c9, e9, rfl, hok, hb⟩; have HOK := Lib.hid hok; clear hok; obtain ⟨p9, rfl⟩ := later_of_below hb; clear hb) | (refine step_code rfl _ _ rfl rfl CA c0 (smp pz) a0 rfl (by omega) (HCA7.out.below (by (repeat' (first | with_reducible exact Below.refl _ _ | (with_reducible refine below_later_of ?_ ?_ _) | (with_reducible refine Below.alloc ?_ ?_ _) | (with_reducible refine Below.setCell ?_ ?_ _) | (with_reducible refine Below.drew ?_) | (simp; done) | (simp; omega) | omega)))) ?_; intro a8 c8 p8 hv8; have HV8 := Lib.hid hv8; clear hv8))
                        all_goals
                          rename_i hheld
                          clear hheld
                          go_wp2_with fail
                          go_meet
                          refine ⟨_, l9, s9, n9, a9, c9, e9, rfl, rfl, ⟨(by (first | (simp [go_sem]; done) | simp [go_sem, ↓IntWalk.iteOmega])), (by (first | (simp [go_sem]; done) | simp [go_sem, ↓IntWalk.iteOmega])), (by (first | (simp [go_sem]; done) | simp [go_sem, ↓IntWalk.iteOmega]))⟩, fun h => ?_, by simp <;> omega, (by (repeat' (first | with_reducible exact Below.refl _ _ | (with_reducible refine below_later_of ?_ ?_ _) | (with_reducible refine Below.alloc ?_ ?_ _) | (with_reducible refine Below.setCell ?_ ?_ _) | (with_reducible refine Below.drew ?_) | (simp; done) | (simp; omega) | omega)))⟩
                          first
                            | (refine ((HOK.out h).below ?_).mono (Nat.zero_le _); (repeat' (first | with_reducible exact Below.refl _ _ | (with_reducible refine below_later_of ?_ ?_ _) | (with_reducible refine Below.alloc ?_ ?_ _) | (with_reducible refine Below.setCell ?_ ?_ _) | (with_reducible refine Below.drew ?_) | (simp; done) | (simp; omega) | omega)); done)
                            | (refine (FocOk.set (FocOk.set (FocOk.set (HOK.out h) ?_ _) ?_ _) ?_ _).mono (Nat.zero_le _) <;> simp <;> omega)
                      case rest =>
                        obtain ⟨B9, l, s, n9, a9, c9, e9, rfl, rfl, hi9, hok9, hB9, hb9⟩ := hcut
                        obtain ⟨W9, hW9⟩ : ∃ W9 : World, W9 = wc := ⟨_, rfl⟩
                        subst hW9
                        have hs9 := hb9.size
                        by_cases h9 : e9 = 0
                        · subst h9
                          obtain ⟨L0', S0', hL2, hS2, ⟨f1, f2, f3, f4, f5, f6⟩, -, rfl, rfl, hn9, hSD, hSA, hown9⟩ := hok9 rfl
                          obtain rfl : L0 = L0' := by omega
                          obtain rfl : S1 = S0' := by omega
                          have hL1 := HL1.out
                          rw [hL1] at hn9 hi9
                          obtain rfl : N = n9 := by rw [HNN.out, hn9]
                          have hN0 : 0 < N := by rw [hn9]; exact Nat.mul_pos (by omega) (by omega)
                          have hN4 : N ≤ 4096 := by rw [hn9]; exact Nat.mul_le_mul (show L1 ≤ 64 by omega) (show S1 ≤ 64 by omega)
                          have HFR := Lib.hid (show World.ownsRow W9 W5.heap.size 34 3 (.slice va k vc) k (fldC L1 S1 N G) from by
                            have := (HLI.out.1.below HB7.out).below hb9
                            unfold FieldsRow at this
                            rwa [HG.out] at this)
                          have HRO := Lib.hid (show RndOk L0 L1 S0 S1 C CA (F k) (smp x.q) (smp pz) from by
                            refine ⟨⟨d3, hSC, d6, by omega⟩, ⟨f2, by omega, f6, by omega⟩, HU7.out, hSA, ?_⟩
                            rw [HFK.out, HFC.out, ← HN7.out]
                            exact hSD)
                          have HO9 := Lib.hid (show OwnS W9 0 N (bothB (F k) (smp x.q) (smp pz) S1 S0 C CA) a9 from by
                            unfold bothB
                            rw [HFK.out, HFC.out]
                            exact hown9)
                          have HB9 := Lib.hid (HB7.out.trans (hb9.mono hs7))
                          obtain ⟨i0, i1, i2⟩ := hi9
                          obtain ⟨t0, hi0, hz0, hz1, hz2⟩ := info_parts infoF
                          clear hok9 hSD hSA hown9 hn9 hL1 hb9 hL2 hS2 HOC HWD HCA7
                          go_wp2_with (first | (at_builtin; refine wpList_append_own _ rfl _ _ 50 rfl W5.heap.size 34 t0 (.agg #[.int .i64 0, .int .i64 0, .slice none 0 0]) 3 40 Try.underlying50 hi0 hz0 hz1 hz2 rfl (by decide) _ _ _ rfl (HFR.out.alloc _) ⟨W9.heap.size, 0, none⟩ 1 1 [.int .i64 L1, .int .i64 S1, .slice a9 N c9] rfl rfl ?d1 ?d2 ?d3 ?d4 ?d5 ?_))
                          case d1 =>
                            intro j u hj
                            match j, hj with
                            | 0, hj => simp at hj; subst hj; (first | (simp [Addr.add, go_sem]; done) | simp [Addr.add, go_sem, ↓IntWalk.iteOmega])
                            | 1, hj => simp at hj; subst hj; (first | (simp [Addr.add, go_sem]; done) | simp [Addr.add, go_sem, ↓IntWalk.iteOmega])
                            | 2, hj => simp at hj; subst hj; (first | (simp [Addr.add, go_sem]; done) | simp [Addr.add, go_sem, ↓IntWalk.iteOmega])
                            | j + 3, hj => simp at hj
                          case d2 =>
                            intro u hu
                            simp at hu
                            rcases hu with rfl | rfl | rfl <;> rfl
                          case d3 => unfold maxLen; omega
                          case d4 => omega
                          case d5 => first | omega | (simp; omega)
                          intro v' w2 hown' hgrow _
                          obtain ⟨g', cc', rfl, -, -⟩ := World.ownsRow.form hown' (by omega)
                          have HNEW := Lib.hid (LiOk.put (k := k) (c := c9) HLI.out HB9.out hN0 HO9.out HG.out HRO.out (by rw [HG.out]; exact hown') hgrow)
                          clear hown' hgrow
                          go_wp2
                          go_roundw
                          case rel => exact ⟨k + 1, G ++ [(a9, c9)], _, by omega, by simp [HG.out], by go_num, rfl, HNEW.out⟩
                          case measure => simp [intOf]; omega
                        · have hne : (e9 != 0) = true := by simpa using h9
                          have HB8 := Lib.hid (HLI.out.2.2.2.trans ((HB7.out.trans (hb9.mono hs7)).mono hsr))
                          clear hok9 h9 hb9
                          go_wp2
                          go_ret
                          exact ⟨rfl, HB5.out.trans ((HB8.out.mono HB5.out.size).trans (below_mono_of (by have := HB8.out.size; have := HB5.out.size; omega) (by (repeat' (first | with_reducible exact Below.refl _ _ | (with_reducible refine below_later_of ?_ ?_ _) | (with_reducible refine Below.alloc ?_ ?_ _) | (with_reducible refine Below.setCell ?_ ?_ _) | (with_reducible refine Below.drew ?_) | (simp; done) | (simp; omega) | omega)))))⟩
                    · have hne : (e7 != 0) = true := by simpa using h7
                      have HB8 := Lib.hid (HLI.out.2.2.2.trans (hb7.mono hsr))
                      clear hok7 h7 hb7
                      go_wp2
                      go_ret
                      exact ⟨rfl, HB5.out.trans ((HB8.out.mono HB5.out.size).trans (below_mono_of (by have := HB8.out.size; have := HB5.out.size; omega) (by (repeat' (first | with_reducible exact Below.refl _ _ | (with_reducible refine below_later_of ?_ ?_ _) | (with_reducible refine Below.alloc ?_ ?_ _) | (with_reducible refine Below.setCell ?_ ?_ _) | (with_reducible refine Below.drew ?_) | (simp; done) | (simp; omega) | omega)))))⟩
                · obtain rfl : k = 3 := by omega
                  obtain ⟨hN0, hr0, hr1, g, cap, g0, z0, g1, z1, g2, z2, rfl, hgl, q2, q5, q8, ⟨l0, s0⟩, ⟨l1, s1⟩, l2, s2⟩ := hli.three hG HNN.out
                  have hdk : decide ((3 : Int) < 3) = false := by decide
                  have HNE := Lib.hid HNN.out
                  obtain ⟨⟨c1, c2, c3, c4⟩, ⟨a1, a2, a3, a4⟩, hU, hA, hd0⟩ := hr0
                  obtain ⟨-, -, -, -, hd1⟩ := hr1
                  have hF0 : F 0 = smp x.p := by rw [HF.out]; rfl
                  have hF1 : F 1 = smp y.p := by rw [HF.out]; rfl
                  have hF2 : F 2 = addB (smp x.p) (smp y.p) := by rw [HF.out]; rfl
                  rw [hF0] at hd0 s0
                  rw [hF1] at hd1 s1
                  rw [hF2] at s2
                  have HAD := Lib.hid (fun i (hi : i < L1 * S1) => both_linear (n := n) (C := C) (CA := CA) (L := L0) (S := S1) (S0 := S0) (LF := L1) (i := i) (fc := smp x.q) (fa := smp pz) HSM.out.1 HSM.out.2.1 HSM.out.2.2 (fun j hj => addB_parts HSM.out.1 HSM.out.2.1 hj) hU hA c2 a2 HN.out c1 (by omega) a1 (by omega) hi hd0 hd1)
                  have hN4 : N ≤ 4096 := by rw [HNN.out]; exact Nat.mul_le_mul (show L1 ≤ 64 by omega) (show S1 ≤ 64 by omega)
                  have hnn : ((N : Int) != (N : Int)) = false := bne_self_eq_false _
                  have HD0 := Lib.hid s0
                  have HD1 := Lib.hid s1
                  have HD2 := Lib.hid s2
                  clear hli hbr hU hA hd0 hd1 hF0 hF1 hF2 s0 s1 s2 hG
                  go_wp2
                  refine wp_region_calm (by kernel_rfl) (by kernel_rfl) ?_
                  repeat (go_big_quiet_step (fail))
                  refine wpQuiet_nil ?_
                  rintro _ ⟨pq, rfl⟩
                  go_wp2
                  refine wp_worldL (fun W => Below wr.heap.size wr W) (by (repeat' (first | with_reducible exact Below.refl _ _ | (with_reducible refine below_later_of ?_ ?_ _) | (with_reducible refine Below.alloc ?_ ?_ _) | (with_reducible refine Below.setCell ?_ ?_ _) | (with_reducible refine Below.drew ?_) | (simp; done) | (simp; omega) | omega))) ?_
                  rintro W6 hb6
                  have hs6 := hb6.size
                  have HB6 := Lib.hid (HB5.out.trans ((HLI.out.2.2.2.trans (hb6.mono hsr)).mono HB5.out.size))
                  have p2 := (hb6.cell (p := ⟨g, 2, none⟩) hgl).trans q2
                  have p5 := (hb6.cell (p := ⟨g, 5, none⟩) hgl).trans q5
                  have p8 := (hb6.cell (p := ⟨g, 8, none⟩) hgl).trans q8
                  have HE0 := Lib.hid (HD0.out.below l0 hb6)
                  have HE1 := Lib.hid (HD1.out.below l1 hb6)
                  have HE2 := Lib.hid (HD2.out.below l2 hb6)
                  have m0 : g0 < W6.heap.size := by omega
                  have m1 : g1 < W6.heap.size := by omega
                  have m2 : g2 < W6.heap.size := by omega
                  have mg : g < W6.heap.size := by omega
                  clear hb6 q2 q5 q8 HD0 HD1 HD2
                  go_loopw [17] (fun i wz => ∃ s : Nat, s ≤ N ∧ i = .int .i64 s ∧ Below W6.heap.size W6 wz) (fun i _ => N - (intOf i).toNat)
                  case atStart => exact ⟨0, Nat.zero_le _, rfl, Below.refl _ _⟩
                  case round =>
                    obtain ⟨s, hs, rfl, hbz⟩ := hrel
                    have HBZ := Lib.hid hbz
                    have hsz := hbz.size
                    have d2 := (hbz.cell (p := ⟨g, 2, none⟩) mg).trans p2
                    have d5 := (hbz.cell (p := ⟨g, 5, none⟩) mg).trans p5
                    have d8 := (hbz.cell (p := ⟨g, 8, none⟩) mg).trans p8
                    by_cases hls : s < N
                    · have hds : decide ((s : Int) < (N : Int)) = true := by simp; omega
                      have hk0 : (0 : Int) ≤ (s : Int) := by omega
                      have hk1 : (s : Int) < (N : Int) := by omega
                      have e0 := (hbz.cell (p := ⟨g0, 0 + s, none⟩) m0).trans (HE0.out s hls)
                      have e1 := (hbz.cell (p := ⟨g1, 0 + s, none⟩) m1).trans (HE1.out s hls)
                      have e2 := (hbz.cell (p := ⟨g2, 0 + s, none⟩) m2).trans (HE2.out s hls)
                      rw [Nat.zero_add] at e0 e1 e2
                      obtain ⟨hadd, xx, yy, hcn⟩ := HAD.out s (by rw [← HNE.out]; exact hls)
                      generalize bothB (smp x.p) (smp x.q) (smp pz) S1 S0 C CA s = u0 at e0 hadd
                      generalize bothB (smp y.p) (smp x.q) (smp pz) S1 S0 C CA s = u1 at e1 hadd
                      generalize bothB (addB (smp x.p) (smp y.p)) (smp x.q) (smp pz) S1 S0 C CA s = u2 at e2 hadd hcn
                      obtain ⟨v0, v1⟩ := u0
                      obtain ⟨v2, v3⟩ := u1
                      obtain ⟨v4, v5⟩ := u2
                      dsimp only at e0 e1 e2 hadd hcn
                      have fa := fun w => run_complex_sum (P := Try.prog) w .add (Or.inl rfl) 43 .f64 v0 v1 v2 v3 v4 v5 hadd
                      have o1 : (FloatKind.f64.format.order v4 v4 == some Ordering.eq) = true := by
                        rw [show FloatKind.f64.format.order v4 v4 = some (compare xx xx) from order_num _ hcn.re hcn.re, beq_eq_iff]; simp
                      have o2 : (FloatKind.f64.format.order v5 v5 == some Ordering.eq) = true := by
                        rw [show FloatKind.f64.format.order v5 v5 = some (compare yy yy) from order_num _ hcn.im hcn.im, beq_eq_iff]; simp
                      have n0 : g0 < wr.heap.size := by omega
                      have n1 : g1 < wr.heap.size := by omega
                      have n2 : g2 < wr.heap.size := by omega
                      have ng : g < wr.heap.size := by omega
                      clear hbz hadd hcn
                      go_wp2
                      refine wp_region_calm (by kernel_rfl) (by kernel_rfl) ?_
                      repeat (go_big_quiet_step (fail))
                      refine wpQuiet_nil ?_
                      rintro _ ⟨pq, rfl⟩
                      go_wp2
                      go_roundw
                      case rel => exact ⟨s + 1, by omega, by go_num, HBZ.out.trans (below_mono_of hsz (by (repeat' (first | with_reducible exact Below.refl _ _ | (with_reducible refine below_later_of ?_ ?_ _) | (with_reducible refine Below.alloc ?_ ?_ _) | (with_reducible refine Below.setCell ?_ ?_ _) | (with_reducible refine Below.drew ?_) | (simp; done) | (simp; omega) | omega))))⟩
                      case measure => simp [intOf]; omega
                    · obtain rfl : s = N := by omega
                      have hds : decide ((s : Int) < (s : Int)) = false := by simp
                      clear hbz
                      go_wp2
                      go_ret
                      exact ⟨rfl, HB6.out.trans (HBZ.out.mono HB6.out.size)⟩
          · have hne : (e0 != 0) = true := by simpa using h0
            clear hok h0
            go_wp2
            go_ret
            exact ⟨rfl, HB3.out.trans (by (repeat' (first | with_reducible exact Below.refl _ _ | (with_reducible refine below_later_of ?_ ?_ _) | (with_reducible refine Below.alloc ?_ ?_ _) | (with_reducible refine Below.setCell ?_ ?_ _) | (with_reducible refine Below.drew ?_) | (simp; done) | (simp; omega) | omega)))⟩
      · have hd : decide ((70 : Int) < (m : Int)) = true := by simp; omega
        clear hx hy hz hq hr
        go_enter Try.func4, Try.ntmps4
        go_wp2_with (first | (go_at_call 9; (with_reducible refine (compressed_any _).mono ?_); rintro e w' ⟨rfl, hb⟩; obtain ⟨pp, rfl⟩ := later_of_below hb; clear hb) | (go_at_call 10; (with_reducible refine (HSX.out _).mono ?_); rintro e w' ⟨rfl, hb⟩; obtain ⟨pp2, rfl⟩ := later_of_below hb; clear hb) | (go_at_call 10; (with_reducible refine (HSY.out _).mono ?_); rintro e w' ⟨rfl, hb⟩; obtain ⟨pp3, rfl⟩ := later_of_below hb; clear hb))
        go_ret
        exact ⟨rfl, (by (repeat' (first | with_reducible exact Below.refl _ _ | (with_reducible refine below_later_of ?_ ?_ _) | (with_reducible refine Below.alloc ?_ ?_ _) | (with_reducible refine Below.setCell ?_ ?_ _) | (with_reducible refine Below.drew ?_) | (simp; done) | (simp; omega) | omega)))⟩
end Go.Proofs.Ytelchmimhnpkaaa
