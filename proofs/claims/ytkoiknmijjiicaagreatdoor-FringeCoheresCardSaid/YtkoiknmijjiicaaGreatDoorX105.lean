/- Chapter 4: the reference's Coherence. -/
import Derived.Test.YtkoiknmijjiicaaGreatDoorX115
import Derived.Test.YtkoiknmijjiicaaGreatDoorX102
namespace Go.Proofs.YtkoiknmijjiicaaGreatDoor
set_option linter.unusedVariables false
set_option linter.unusedSimpArgs false
open Go.RowKit Ieee Ntt
/-- Numbers in a block between two bounds. -/
def OwnS2 (B C : Nat) (W : World) (n : Nat) (f : Nat → Nat × Nat) (a : Option Addr) : Prop := 0 < n → ∃ g, a = some ⟨g, 0, none⟩ ∧ B ≤ g ∧ g < C ∧ SumsAt W g 0 n f
theorem OwnS2.of {B n : Nat} {W : World} {f : Nat → Nat × Nat} {a : Option Addr} (h : OwnS W B n f a) : OwnS2 B W.heap.size W n f a := h
theorem OwnS2.own {B C D n : Nat} {W : World} {f : Nat → Nat × Nat} {a : Option Addr} (h : OwnS2 B C W n f a) (hC : C ≤ W.heap.size) (hD : D ≤ B) : OwnS W D n f a := fun h0 => by
  obtain ⟨g, h1, h2, h3, h4⟩ := h h0
  exact ⟨g, h1, by omega, by omega, h4⟩
theorem OwnS2.set {B C n : Nat} {W : World} {f : Nat → Nat × Nat} {a : Option Addr} (h : OwnS2 B C W n f a) {p : Addr} (hp : p.block < B ∨ C ≤ p.block) (v : Value) : OwnS2 B C (W.setCell p v) n f a := fun h0 => by
  obtain ⟨g, h1, h2, h3, h4⟩ := h h0
  exact ⟨g, h1, h2, h3, fun k hk => (World.cell?_setCell_other _ _ _ _ (fun e => by have := congrArg Addr.block e; dsimp only at this; omega)).trans (h4 k hk)⟩
theorem OwnS2.grow {B C n : Nat} {W W' : World} {f : Nat → Nat × Nat} {a : Option Addr} (h : OwnS2 B C W n f a) (hb : Below C W W') : OwnS2 B C W' n f a := fun h0 => by
  obtain ⟨g, h1, h2, h3, h4⟩ := h h0
  exact ⟨g, h1, h2, h3, fun k hk => (hb.cell (p := ⟨g, 0 + k, none⟩) h3).trans (h4 k hk)⟩
theorem OwnS2.later {B C n : Nat} {W : World} {f : Nat → Nat × Nat} {a : Option Addr} (h : OwnS2 B C W n f a) (hC : C ≤ W.heap.size) (p : Regrown) : OwnS2 B C (later W p) n f a := h.grow ((below_later W p).mono hC)
theorem OwnS2.alloc {B C n : Nat} {W : World} {f : Nat → Nat × Nat} {a : Option Addr} (h : OwnS2 B C W n f a) (hC : C ≤ W.heap.size) (o : Obj) : OwnS2 B C (W.alloc o) n f a := h.grow ((Below.refl _ _).alloc hC o)
set_option maxRecDepth 20000 in
set_option maxHeartbeats 16000000 in
theorem rCoherence (L S n cap b off cap' b' off' half : Nat) (f f' : Nat → Nat × Nat) (w : World) (hn : n = L * S) (hL1 : 1 ≤ L) (hL : L ≤ 64) (hS1 : 1 ≤ S) (hS : S ≤ 64) (hh : half ≤ 4) (hbw : b < w.heap.size) (hbw' : b' < w.heap.size) (hf : SamplesAt w b off n f) (hf' : SamplesAt w b' off' n f') (hX : SmallS n f (xB f) (yB f) 2047) (hU : SmallS n f' (xB f') (yB f') 2047) :
    Calls Tryz.prog 14 #[.agg #[.int .i64 L, .int .i64 S, .slice (some ⟨b, off, none⟩) n cap], .agg #[.int .i64 L, .int .i64 S, .slice (some ⟨b', off', none⟩) n cap'], .int .i64 half] w (GfPost L S n (cohF (intfF (xB f) (yB f) (xB f') (yB f')) (partsF (xB f) (yB f)) (partsF (xB f') (yB f')) L S half) w) := by
  obtain ⟨i0, hi0, hz0, hz1, hz2⟩ := info_parts infoF72
  have hn5 : n ≤ 5000 := by have := Nat.mul_le_mul hL hS; omega
  have HN0 := Lib.hid (show 0 < n by rw [hn]; exact Nat.mul_pos (by omega) (by omega))
  have hP1 : SmallP n (partsF (xB f) (yB f)) 2047 := fun k hk => by
    obtain ⟨-, h1, h2⟩ := hX k hk
    unfold partsF
    dsimp only
    omega
  have hP2 : SmallP n (partsF (xB f') (yB f')) 2047 := fun k hk => by
    obtain ⟨-, h1, h2⟩ := hU k hk
    unfold partsF
    dsimp only
    omega
  have hF : SmallP n (intfF (xB f) (yB f) (xB f') (yB f')) 8400000 := fun k hk => by
    have := intfF_bd (hX k hk).2 (hU k hk).2
    omega
  have hG : SmallP n (intfF (xB f) (yB f) (xB f) (yB f)) 8400000 := fun k hk => by
    have := intfF_bd (hX k hk).2 (hX k hk).2
    omega
  have hK : SmallP n (intfF (xB f') (yB f') (xB f') (yB f')) 8400000 := fun k hk => by
    have := intfF_bd (hU k hk).2 (hU k hk).2
    omega
  have HRI := Lib.hid (show ∀ W, Below w.heap.size w W → _ from fun W hW => rInterfere L S n cap cap' b off b' off' f f' W L S hn5 (by have := hW.size; omega) (by have := hW.size; omega) (hf.below hbw hW) (hf'.below hbw' hW) hX hU)
  have HE1 := Lib.hid (show ∀ W, Below w.heap.size w W → _ from fun W hW => rEnergies L S n cap b off f W hn5 (by have := hW.size; omega) (hf.below hbw hW) hX)
  have HE2 := Lib.hid (show ∀ W, Below w.heap.size w W → _ from fun W hW => rEnergies L S n cap' b' off' f' W hn5 (by have := hW.size; omega) (hf'.below hbw' hW) hU)
  have HEG := Lib.hid (show (fun i => (intfF (xB f) (yB f) (xB f) (yB f) i).1) = enF (partsF (xB f) (yB f)) from rfl)
  have HEK := Lib.hid (show (fun i => (intfF (xB f') (yB f') (xB f') (yB f') i).1) = enF (partsF (xB f') (yB f')) from rfl)
  generalize partsF (xB f) (yB f) = G at *
  generalize partsF (xB f') (yB f') = K at *
  generalize intfF (xB f) (yB f) (xB f') (yB f') = F at *
  generalize intfF (xB f) (yB f) (xB f) (yB f) = GG at *
  generalize intfF (xB f') (yB f') (xB f') (yB f') = KK at *
  have HFP := Lib.hid hF
  have HGP := Lib.hid hG
  have HKP := Lib.hid hK
  have HN := Lib.hid hn
  obtain ⟨Fc, hFc⟩ : ∃ Fc, cohF F G K L S half = Fc := ⟨_, rfl⟩
  have HFC := Lib.hid hFc
  rw [hFc]
  clear hf hf' hX hU hF hG hK hn hFc
  go_enter Tryz.func14, Tryz.ntmps14
  go_wp2_with fail
  refine any_worldF (fun w' => (w'.cell? ⟨w.heap.size, 0, none⟩ = some (.int .i64 L) ∧ w'.cell? ⟨w.heap.size, 1, none⟩ = some (.int .i64 S) ∧ w'.cell? ⟨w.heap.size, 2, none⟩ = some (.slice (some ⟨b, off, none⟩) n cap) ∧ w'.cell? ⟨w.heap.size + 1, 0, none⟩ = some (.int .i64 L) ∧ w'.cell? ⟨w.heap.size + 1, 1, none⟩ = some (.int .i64 S) ∧ w'.cell? ⟨w.heap.size + 1, 2, none⟩ = some (.slice (some ⟨b', off', none⟩) n cap')) ∧ Below w.heap.size w w' ∧ ((w'.cell? ⟨w.heap.size + 2, 0, none⟩ = some (.int .i64 0) ∧ w'.cell? ⟨w.heap.size + 2, 1, none⟩ = some (.int .i64 0) ∧ w'.cell? ⟨w.heap.size + 2, 2, none⟩ = some (.slice none 0 0)) ∧ w'.frozen? ⟨w.heap.size + 2, 0, none⟩ = false ∧ w'.frozen? ⟨w.heap.size + 2, 1, none⟩ = false ∧ w'.frozen? ⟨w.heap.size + 2, 2, none⟩ = false) ∧ ((w'.cell? ⟨w.heap.size + 3, 0, none⟩ = some (.int .i64 L) ∧ w'.cell? ⟨w.heap.size + 3, 1, none⟩ = some (.int .i64 S) ∧ w'.cell? ⟨w.heap.size + 3, 2, none⟩ = some (.slice none 0 0)) ∧ w'.frozen? ⟨w.heap.size + 3, 2, none⟩ = false) ∧ w'.heap.size = w.heap.size + 4) ⟨⟨(by (first | (simp [go_sem]; done) | simp [go_sem, ↓IntWalk.iteOmega])), (by (first | (simp [go_sem]; done) | simp [go_sem, ↓IntWalk.iteOmega])), (by (first | (simp [go_sem]; done) | simp [go_sem, ↓IntWalk.iteOmega])), (by (first | (simp [go_sem]; done) | simp [go_sem, ↓IntWalk.iteOmega])), (by (first | (simp [go_sem]; done) | simp [go_sem, ↓IntWalk.iteOmega])), (by (first | (simp [go_sem]; done) | simp [go_sem, ↓IntWalk.iteOmega]))⟩, (by (repeat' (first | with_reducible exact Below.refl _ _ | (with_reducible refine below_later_of ?_ ?_ _) | (with_reducible refine Below.alloc ?_ ?_ _) | (with_reducible refine Below.setCell ?_ ?_ _) | (with_reducible refine Below.drew ?_) | (simp; done) | (simp; omega) | omega))), ⟨⟨(by (first | (simp [go_sem]; done) | simp [go_sem, ↓IntWalk.iteOmega])), (by (first | (simp [go_sem]; done) | simp [go_sem, ↓IntWalk.iteOmega])), (by (first | (simp [go_sem]; done) | simp [go_sem, ↓IntWalk.iteOmega]))⟩, (by (first | (simp [go_sem]; done) | simp [go_sem, ↓IntWalk.iteOmega])), (by (first | (simp [go_sem]; done) | simp [go_sem, ↓IntWalk.iteOmega])), (by (first | (simp [go_sem]; done) | simp [go_sem, ↓IntWalk.iteOmega]))⟩, ⟨⟨(by (first | (simp [go_sem]; done) | simp [go_sem, ↓IntWalk.iteOmega])), (by (first | (simp [go_sem]; done) | simp [go_sem, ↓IntWalk.iteOmega])), (by (first | (simp [go_sem]; done) | simp [go_sem, ↓IntWalk.iteOmega]))⟩, (by (first | (simp [go_sem]; done) | simp [go_sem, ↓IntWalk.iteOmega]))⟩, by simp⟩ ?_
  rintro W1 ⟨⟨k0, k1, k2, k3, k4, k5⟩, hb1, ⟨⟨r0, r1, r2⟩, g0, g1, g2⟩, ⟨⟨o0, o1, o2⟩, of2⟩, hsz1⟩
  have HB1 := Lib.hid hb1
  have hs1 := hb1.size
  have hlt1 : w.heap.size + 3 < W1.heap.size := by omega
  have HS1 := Lib.hid hsz1
  have HRI := Lib.hid (show ∀ W, Below W1.heap.size W1 W → _ from fun W hW => HRI.out W (HB1.out.trans (hW.mono hs1)))
  have HE1 := Lib.hid (show ∀ W, Below W1.heap.size W1 W → _ from fun W hW => HE1.out W (HB1.out.trans (hW.mono hs1)))
  have HE2 := Lib.hid (show ∀ W, Below W1.heap.size W1 W → _ from fun W hW => HE2.out W (HB1.out.trans (hW.mono hs1)))
  clear hb1 hsz1
  go_cut [8, 9, 10] from 27 to 34 (fun X Y Z wx => ∃ B8 a8 c8 B9 a9 c9 B10 a10 c10, X = .pointer (some ⟨B8, 0, none⟩) ∧ Y = .pointer (some ⟨B9, 0, none⟩) ∧ Z = .pointer (some ⟨B10, 0, none⟩) ∧ ((wx.cell? ⟨B8, 0, none⟩ = some (.int .i64 L) ∧ wx.cell? ⟨B8, 1, none⟩ = some (.int .i64 S) ∧ wx.cell? ⟨B8, 2, none⟩ = some (.slice a8 n c8)) ∧ OwnS wx W1.heap.size n (nmF F) a8 ∧ W1.heap.size ≤ B8 ∧ B8 < wx.heap.size) ∧ ((wx.cell? ⟨B9, 0, none⟩ = some (.int .i64 L) ∧ wx.cell? ⟨B9, 1, none⟩ = some (.int .i64 S) ∧ wx.cell? ⟨B9, 2, none⟩ = some (.slice a9 n c9)) ∧ OwnS wx W1.heap.size n (nmF GG) a9 ∧ W1.heap.size ≤ B9 ∧ B9 < wx.heap.size) ∧ ((wx.cell? ⟨B10, 0, none⟩ = some (.int .i64 L) ∧ wx.cell? ⟨B10, 1, none⟩ = some (.int .i64 S) ∧ wx.cell? ⟨B10, 2, none⟩ = some (.slice a10 n c10)) ∧ OwnS wx W1.heap.size n (nmF KK) a10 ∧ W1.heap.size ≤ B10 ∧ B10 < wx.heap.size) ∧ Below W1.heap.size W1 wx)
  case first =>
    obtain ⟨VX, hVX⟩ : ∃ V, Value.agg #[.int .i64 L, .int .i64 S, .slice (some ⟨b, off, none⟩) n cap] = V := ⟨_, rfl⟩
    obtain ⟨VY, hVY⟩ : ∃ V, Value.agg #[.int .i64 L, .int .i64 S, .slice (some ⟨b', off', none⟩) n cap'] = V := ⟨_, rfl⟩
    have HRI := Lib.hid (show ∀ W, Below W1.heap.size W1 W → Calls Tryz.prog 48 #[VX, VY] W (RfPost L S n (nmF F) W) from fun W hW => by rw [← hVX, ← hVY]; exact HRI.out W hW)
    have HE1 := Lib.hid (show ∀ W, Below W1.heap.size W1 W → Calls Tryz.prog 49 #[VX] W (RfPost L S n (nmF GG) W) from fun W hW => by rw [← hVX]; exact HE1.out W hW)
    have HE2 := Lib.hid (show ∀ W, Below W1.heap.size W1 W → Calls Tryz.prog 49 #[VY] W (RfPost L S n (nmF KK) W) from fun W hW => by rw [← hVY]; exact HE2.out W hW)
    have HRD := Lib.hid (show ∀ W : World, W.cell? ⟨w.heap.size, 0, none⟩ = some (.int .i64 L) → W.cell? ⟨w.heap.size, 1, none⟩ = some (.int .i64 S) → W.cell? ⟨w.heap.size, 2, none⟩ = some (.slice (some ⟨b, off, none⟩) n cap) → (Instr.loadAt 34 (.pointer (some ⟨w.heap.size, 0, none⟩))).run Tryz.prog W = .ok VX W from fun W k0 k1 k2 => by rw [← hVX]; (first | (simp [go_sem, k0, k1, k2]; done) | simp [go_sem, k0, k1, k2, ↓IntWalk.iteOmega]))
    have HRE := Lib.hid (show ∀ W : World, W.cell? ⟨w.heap.size + 1, 0, none⟩ = some (.int .i64 L) → W.cell? ⟨w.heap.size + 1, 1, none⟩ = some (.int .i64 S) → W.cell? ⟨w.heap.size + 1, 2, none⟩ = some (.slice (some ⟨b', off', none⟩) n cap') → (Instr.loadAt 34 (.pointer (some ⟨w.heap.size + 1, 0, none⟩))).run Tryz.prog W = .ok VY W from fun W k0 k1 k2 => by rw [← hVY]; (first | (simp [go_sem, k0, k1, k2]; done) | simp [go_sem, k0, k1, k2, ↓IntWalk.iteOmega]))
    clear hVX hVY
    refine wp_region_facts2 (by kernel_rfl) (by kernel_rfl) [8, 9, 10, 27, 28, 29, 30, 31, 32, 33] (fun w' => (w'.cell? ⟨w.heap.size, 0, none⟩ = some (.int .i64 L) ∧ w'.cell? ⟨w.heap.size, 1, none⟩ = some (.int .i64 S) ∧ w'.cell? ⟨w.heap.size, 2, none⟩ = some (.slice (some ⟨b, off, none⟩) n cap) ∧ w'.cell? ⟨w.heap.size + 1, 0, none⟩ = some (.int .i64 L) ∧ w'.cell? ⟨w.heap.size + 1, 1, none⟩ = some (.int .i64 S) ∧ w'.cell? ⟨w.heap.size + 1, 2, none⟩ = some (.slice (some ⟨b', off', none⟩) n cap')) ∧ Below W1.heap.size W1 w') (FF3 VX VY L S n (nmF F) (nmF GG) (nmF KK) W1.heap.size) GG3 ⟨⟨k0, k1, k2, k3, k4, k5⟩, (Below.refl _ _).drew⟩ ?_ ?_
    · clear k0 k1 k2 k3 k4 k5 r0 r1 r2 g0 g1 g2 o0 o1 o2 of2
      intro i o ho D v wd A hin hout hnD hdep hcl hB hF hG K hK hK2
      obtain ⟨⟨k0, k1, k2, k3, k4, k5⟩, hbw⟩ := hB
      have hsw := hbw.size
      have hin2 : ∀ s, s ∈ [8, 9, 10, 27, 28, 29, 30, 31, 32, 33] → s < _ → A.tmps[s]?.getD undef = v s := fun s h1 h2 => by have := hin s h1 h2; simpa [Act.eval] using this
      have c10 : D 10 → D 7 ∧ D 2 := fun h => ⟨hcl 10 _ h rfl ⟨7, .data⟩ (by simp) (by rfl), hcl 10 _ h rfl ⟨2, .data⟩ (by simp) (by rfl)⟩
      have c11 : D 11 → D 8 ∧ D 4 := fun h => ⟨hcl 11 _ h rfl ⟨8, .data⟩ (by simp) (by rfl), hcl 11 _ h rfl ⟨4, .data⟩ (by simp) (by rfl)⟩
      have c12 : D 12 → D 9 ∧ D 6 := fun h => ⟨hcl 12 _ h rfl ⟨9, .data⟩ (by simp) (by rfl), hcl 12 _ h rfl ⟨6, .data⟩ (by simp) (by rfl)⟩
      have hi13 : i < 13 := by have := (List.getElem?_eq_some_iff.1 ho).1; simpa using this
      rcases (show i = 0 ∨ i = 1 ∨ i = 2 ∨ i = 3 ∨ i = 4 ∨ i = 5 ∨ i = 6 ∨ i = 7 ∨ i = 8 ∨ i = 9 ∨ i = 10 ∨ i = 11 ∨ i = 12 by omega) with rfl | rfl | rfl | rfl | rfl | rfl | rfl | rfl | rfl | rfl | rfl | rfl | rfl
      all_goals cases ho
      all_goals rw [if_pos (by rfl)]
      · have e3 : A.eval (.tmp 3) = .pointer (some ⟨w.heap.size, 0, none⟩) := hout 3 (by decide)
        unfold Oper.wp
        simp only [execOp, Sem.run_bind, e3, HRD.out wd k0 k1 k2, Result.andThen_ok, Sem.run_pure]
        show K (A.put (some 27) VX) wd
        exact hK 27 VX wd (by decide) ⟨⟨k0, k1, k2, k3, k4, k5⟩, hbw⟩ (show (if 27 = 27 then VX else v 27) = VX from if_pos rfl) (step3_new hF hG (Below.refl _ _) (sl3_off (i := 0) (by decide) hnD c10 c11 c12) (fun h => absurd h (by decide)))
      · have e3 : A.eval (.tmp 4) = .pointer (some ⟨w.heap.size + 1, 0, none⟩) := hout 4 (by decide)
        unfold Oper.wp
        simp only [execOp, Sem.run_bind, e3, HRE.out wd k3 k4 k5, Result.andThen_ok, Sem.run_pure]
        show K (A.put (some 28) VY) wd
        exact hK 28 VY wd (by decide) ⟨⟨k0, k1, k2, k3, k4, k5⟩, hbw⟩ (show (if 28 = 28 then VY else v 28) = VY from if_pos rfl) (step3_new hF hG (Below.refl _ _) (sl3_off (i := 1) (by decide) hnD c10 c11 c12) (fun h => absurd h (by decide)))
      · skip
        have e27 : A.tmps[27]?.getD undef = VX := (hin2 27 (by decide) (by simp)).trans (hF 0 (hdep ⟨0, .data⟩ (by simp) (by rfl)))
        have e28 : A.tmps[28]?.getD undef = VY := (hin2 28 (by decide) (by simp)).trans (hF 1 (hdep ⟨1, .data⟩ (by simp) (by rfl)))
        have eg := enters_of Tryz.func48 (by kernel_rfl) rfl
        unfold Oper.wp
        simp [execOp, go_sem, e27, e28, eg]
        refine (HRI.out wd hbw).mono ?_
        rintro e w' ⟨a8, c8, rfl, ho, -, hb⟩
        obtain ⟨gg, rfl, h1, h2, h3⟩ := ho HN0.out
        exact hK 29 _ w' (by decide) ⟨kb_keep ⟨k0, k1, k2, k3, k4, k5⟩ (by omega) hb, hbw.trans (hb.mono hsw)⟩ (show IsC L S n (nmF F) W1.heap.size (if 29 = 29 then _ else v 29) w' by rw [if_pos rfl]; exact ⟨gg, c8, rfl, by omega, h2, h3⟩) (step3_new hF hG hb (sl3_off (i := 2) (by decide) hnD c10 c11 c12) (fun _ => ⟨rfl, fun b hbk => by rw [hbk.agg]; exact h1⟩))
      · have e3 : A.eval (.tmp 3) = .pointer (some ⟨w.heap.size, 0, none⟩) := hout 3 (by decide)
        unfold Oper.wp
        simp only [execOp, Sem.run_bind, e3, HRD.out wd k0 k1 k2, Result.andThen_ok, Sem.run_pure]
        show K (A.put (some 30) VX) wd
        exact hK 30 VX wd (by decide) ⟨⟨k0, k1, k2, k3, k4, k5⟩, hbw⟩ (show (if 30 = 30 then VX else v 30) = VX from if_pos rfl) (step3_new hF hG (Below.refl _ _) (sl3_off (i := 3) (by decide) hnD c10 c11 c12) (fun h => absurd h (by decide)))
      · skip
        have e30 : A.tmps[30]?.getD undef = VX := (hin2 30 (by decide) (by simp)).trans (hF 3 (hdep ⟨3, .data⟩ (by simp) (by rfl)))
        have eg := enters_of Tryz.func49 (by kernel_rfl) rfl
        unfold Oper.wp
        simp [execOp, go_sem, e30, eg]
        refine (HE1.out wd hbw).mono ?_
        rintro e w' ⟨a8, c8, rfl, ho, -, hb⟩
        obtain ⟨gg, rfl, h1, h2, h3⟩ := ho HN0.out
        exact hK 31 _ w' (by decide) ⟨kb_keep ⟨k0, k1, k2, k3, k4, k5⟩ (by omega) hb, hbw.trans (hb.mono hsw)⟩ (show IsC L S n (nmF GG) W1.heap.size (if 31 = 31 then _ else v 31) w' by rw [if_pos rfl]; exact ⟨gg, c8, rfl, by omega, h2, h3⟩) (step3_new hF hG hb (sl3_off (i := 4) (by decide) hnD c10 c11 c12) (fun _ => ⟨rfl, fun b hbk => by rw [hbk.agg]; exact h1⟩))
      · have e3 : A.eval (.tmp 4) = .pointer (some ⟨w.heap.size + 1, 0, none⟩) := hout 4 (by decide)
        unfold Oper.wp
        simp only [execOp, Sem.run_bind, e3, HRE.out wd k3 k4 k5, Result.andThen_ok, Sem.run_pure]
        show K (A.put (some 32) VY) wd
        exact hK 32 VY wd (by decide) ⟨⟨k0, k1, k2, k3, k4, k5⟩, hbw⟩ (show (if 32 = 32 then VY else v 32) = VY from if_pos rfl) (step3_new hF hG (Below.refl _ _) (sl3_off (i := 5) (by decide) hnD c10 c11 c12) (fun h => absurd h (by decide)))
      · skip
        have e32 : A.tmps[32]?.getD undef = VY := (hin2 32 (by decide) (by simp)).trans (hF 5 (hdep ⟨5, .data⟩ (by simp) (by rfl)))
        have eg := enters_of Tryz.func49 (by kernel_rfl) rfl
        unfold Oper.wp
        simp [execOp, go_sem, e32, eg]
        refine (HE2.out wd hbw).mono ?_
        rintro e w' ⟨a8, c8, rfl, ho, -, hb⟩
        obtain ⟨gg, rfl, h1, h2, h3⟩ := ho HN0.out
        exact hK 33 _ w' (by decide) ⟨kb_keep ⟨k0, k1, k2, k3, k4, k5⟩ (by omega) hb, hbw.trans (hb.mono hsw)⟩ (show IsC L S n (nmF KK) W1.heap.size (if 33 = 33 then _ else v 33) w' by rw [if_pos rfl]; exact ⟨gg, c8, rfl, by omega, h2, h3⟩) (step3_new hF hG hb (sl3_off (i := 6) (by decide) hnD c10 c11 c12) (fun _ => ⟨rfl, fun b hbk => by rw [hbk.agg]; exact h1⟩))
      · unfold Oper.wp
        simp [execOp, go_sem]
        have hb : Below wd.heap.size wd (wd.alloc (.cells #[.int .i64 0, .int .i64 0, .slice none 0 0] 68)) := (Below.refl _ _).alloc (Nat.le_refl _) _
        exact hK 8 _ _ (by decide) ⟨kb_keep ⟨k0, k1, k2, k3, k4, k5⟩ (by omega) hb, hbw.trans (hb.mono hsw)⟩ (show IsA W1.heap.size (if 8 = 8 then _ else v 8) _ by
          rw [if_pos rfl]
          refine ⟨wd.heap.size, rfl, by omega, by simp, fun j hj => ?_⟩
          rcases (show j = 0 ∨ j = 1 ∨ j = 2 by omega) with rfl | rfl | rfl
          · exact ⟨⟨_, by simp [go_sem]; rfl⟩, by simp [go_sem]⟩
          · exact ⟨⟨_, by simp [go_sem]; rfl⟩, by simp [go_sem]⟩
          · exact ⟨⟨_, by simp [go_sem]; rfl⟩, by simp [go_sem]⟩) (step3_new hF hG hb (sl3_off (i := 7) (by decide) hnD c10 c11 c12) (fun _ => ⟨rfl, fun b hbk => by rw [hbk.ptr]; omega⟩))
      · unfold Oper.wp
        simp [execOp, go_sem]
        have hb : Below wd.heap.size wd (wd.alloc (.cells #[.int .i64 0, .int .i64 0, .slice none 0 0] 68)) := (Below.refl _ _).alloc (Nat.le_refl _) _
        exact hK 9 _ _ (by decide) ⟨kb_keep ⟨k0, k1, k2, k3, k4, k5⟩ (by omega) hb, hbw.trans (hb.mono hsw)⟩ (show IsA W1.heap.size (if 9 = 9 then _ else v 9) _ by
          rw [if_pos rfl]
          refine ⟨wd.heap.size, rfl, by omega, by simp, fun j hj => ?_⟩
          rcases (show j = 0 ∨ j = 1 ∨ j = 2 by omega) with rfl | rfl | rfl
          · exact ⟨⟨_, by simp [go_sem]; rfl⟩, by simp [go_sem]⟩
          · exact ⟨⟨_, by simp [go_sem]; rfl⟩, by simp [go_sem]⟩
          · exact ⟨⟨_, by simp [go_sem]; rfl⟩, by simp [go_sem]⟩) (step3_new hF hG hb (sl3_off (i := 8) (by decide) hnD c10 c11 c12) (fun _ => ⟨rfl, fun b hbk => by rw [hbk.ptr]; omega⟩))
      · unfold Oper.wp
        simp [execOp, go_sem]
        have hb : Below wd.heap.size wd (wd.alloc (.cells #[.int .i64 0, .int .i64 0, .slice none 0 0] 68)) := (Below.refl _ _).alloc (Nat.le_refl _) _
        exact hK 10 _ _ (by decide) ⟨kb_keep ⟨k0, k1, k2, k3, k4, k5⟩ (by omega) hb, hbw.trans (hb.mono hsw)⟩ (show IsA W1.heap.size (if 10 = 10 then _ else v 10) _ by
          rw [if_pos rfl]
          refine ⟨wd.heap.size, rfl, by omega, by simp, fun j hj => ?_⟩
          rcases (show j = 0 ∨ j = 1 ∨ j = 2 by omega) with rfl | rfl | rfl
          · exact ⟨⟨_, by simp [go_sem]; rfl⟩, by simp [go_sem]⟩
          · exact ⟨⟨_, by simp [go_sem]; rfl⟩, by simp [go_sem]⟩
          · exact ⟨⟨_, by simp [go_sem]; rfl⟩, by simp [go_sem]⟩) (step3_new hF hG hb (sl3_off (i := 9) (by decide) hnD c10 c11 c12) (fun _ => ⟨rfl, fun b hbk => by rw [hbk.ptr]; omega⟩))
      · have d7 := hdep ⟨7, .data⟩ (by simp) (by rfl)
        have hA := (show IsA W1.heap.size (v 8) wd from hF 7 d7)
        obtain ⟨b, hb1, hb2, hb3, hb4⟩ := hA
        obtain ⟨gg, cc, hg1, -, -, -⟩ := (show IsC L S n (nmF F) W1.heap.size (v 29) wd from hF 2 (hdep ⟨2, .data⟩ (by simp) (by rfl)))
        have e8 := (hin2 8 (by decide) (by simp)).trans hb1
        have e29 := (hin2 29 (by decide) (by simp)).trans hg1
        have hB9 : (w.heap.size + 3 < b) := by omega
        have hkk := put3_keeps wd b (.int .i64 L) (.int .i64 S) (.slice (some ⟨gg, 0, none⟩) n cc)
        have q : ∀ i j, i ≤ w.heap.size + 1 → (put3 wd b (.int .i64 L) (.int .i64 S) (.slice (some ⟨gg, 0, none⟩) n cc)).cell? ⟨i, j, none⟩ = wd.cell? ⟨i, j, none⟩ := fun i j hi => cell_of (hkk.2 i (by omega) (by omega))
        have HK9 := hK2 (put3 wd b (.int .i64 L) (.int .i64 S) (.slice (some ⟨gg, 0, none⟩) n cc)) ⟨⟨(q _ _ (by omega)).trans k0, (q _ _ (by omega)).trans k1, (q _ _ (by omega)).trans k2, (q _ _ (by omega)).trans k3, (q _ _ (by omega)).trans k4, (q _ _ (by omega)).trans k5⟩, ((hbw.setCell (p := ⟨b, 0, none⟩) hb2 _).setCell (p := ⟨b, 1, none⟩) hb2 _).setCell (p := ⟨b, 2, none⟩) hb2 _⟩
          (show IsS (v 8) (v 29) _ by rw [hb1, hg1]; exact put3_isS ⟨b, rfl, hb2, hb3, hb4⟩ L S gg n cc) (step3_store (ia := 7) (.inl rfl) d7 hnD (fun h => (c10 h).1) (fun h => (c11 h).1) (fun h => (c12 h).1) hF hG hb1) (fun j _ => ⟨fun h => absurd h (by decide), fun _ h => absurd h (by decide)⟩)
        obtain ⟨⟨u0, z0⟩, t0⟩ := hb4 0 (by decide)
        obtain ⟨⟨u1, z1⟩, t1⟩ := hb4 1 (by decide)
        obtain ⟨⟨u2, z2⟩, t2⟩ := hb4 2 (by decide)
        have HK8 := HK9.1
        clear HK9 hkk q hF hG hcl hdep hin hout hin2 hK hK2 c10 c11 c12
        unfold Oper.wp
        (first | (simp [execOp, go_sem, e8, e29, z0, z1, z2, t0, t1, t2]; done) | simp [execOp, go_sem, e8, e29, z0, z1, z2, t0, t1, t2, ↓IntWalk.iteOmega])
        exact HK8
      · have d7 := hdep ⟨8, .data⟩ (by simp) (by rfl)
        have hA := (show IsA W1.heap.size (v 9) wd from hF 8 d7)
        obtain ⟨b, hb1, hb2, hb3, hb4⟩ := hA
        obtain ⟨gg, cc, hg1, -, -, -⟩ := (show IsC L S n (nmF GG) W1.heap.size (v 31) wd from hF 4 (hdep ⟨4, .data⟩ (by simp) (by rfl)))
        have e8 := (hin2 9 (by decide) (by simp)).trans hb1
        have e29 := (hin2 31 (by decide) (by simp)).trans hg1
        have hB9 : (w.heap.size + 3 < b) := by omega
        have hkk := put3_keeps wd b (.int .i64 L) (.int .i64 S) (.slice (some ⟨gg, 0, none⟩) n cc)
        have q : ∀ i j, i ≤ w.heap.size + 1 → (put3 wd b (.int .i64 L) (.int .i64 S) (.slice (some ⟨gg, 0, none⟩) n cc)).cell? ⟨i, j, none⟩ = wd.cell? ⟨i, j, none⟩ := fun i j hi => cell_of (hkk.2 i (by omega) (by omega))
        have HK9 := hK2 (put3 wd b (.int .i64 L) (.int .i64 S) (.slice (some ⟨gg, 0, none⟩) n cc)) ⟨⟨(q _ _ (by omega)).trans k0, (q _ _ (by omega)).trans k1, (q _ _ (by omega)).trans k2, (q _ _ (by omega)).trans k3, (q _ _ (by omega)).trans k4, (q _ _ (by omega)).trans k5⟩, ((hbw.setCell (p := ⟨b, 0, none⟩) hb2 _).setCell (p := ⟨b, 1, none⟩) hb2 _).setCell (p := ⟨b, 2, none⟩) hb2 _⟩
          (show IsS (v 9) (v 31) _ by rw [hb1, hg1]; exact put3_isS ⟨b, rfl, hb2, hb3, hb4⟩ L S gg n cc) (step3_store (ia := 8) (.inr (.inl rfl)) d7 hnD (fun h => (c10 h).1) (fun h => (c11 h).1) (fun h => (c12 h).1) hF hG hb1) (fun j _ => ⟨fun h => absurd h (by decide), fun _ h => absurd h (by decide)⟩)
        obtain ⟨⟨u0, z0⟩, t0⟩ := hb4 0 (by decide)
        obtain ⟨⟨u1, z1⟩, t1⟩ := hb4 1 (by decide)
        obtain ⟨⟨u2, z2⟩, t2⟩ := hb4 2 (by decide)
        have HK8 := HK9.1
        clear HK9 hkk q hF hG hcl hdep hin hout hin2 hK hK2 c10 c11 c12
        unfold Oper.wp
        (first | (simp [execOp, go_sem, e8, e29, z0, z1, z2, t0, t1, t2]; done) | simp [execOp, go_sem, e8, e29, z0, z1, z2, t0, t1, t2, ↓IntWalk.iteOmega])
        exact HK8
      · have d7 := hdep ⟨9, .data⟩ (by simp) (by rfl)
        have hA := (show IsA W1.heap.size (v 10) wd from hF 9 d7)
        obtain ⟨b, hb1, hb2, hb3, hb4⟩ := hA
        obtain ⟨gg, cc, hg1, -, -, -⟩ := (show IsC L S n (nmF KK) W1.heap.size (v 33) wd from hF 6 (hdep ⟨6, .data⟩ (by simp) (by rfl)))
        have e8 := (hin2 10 (by decide) (by simp)).trans hb1
        have e29 := (hin2 33 (by decide) (by simp)).trans hg1
        have hB9 : (w.heap.size + 3 < b) := by omega
        have hkk := put3_keeps wd b (.int .i64 L) (.int .i64 S) (.slice (some ⟨gg, 0, none⟩) n cc)
        have q : ∀ i j, i ≤ w.heap.size + 1 → (put3 wd b (.int .i64 L) (.int .i64 S) (.slice (some ⟨gg, 0, none⟩) n cc)).cell? ⟨i, j, none⟩ = wd.cell? ⟨i, j, none⟩ := fun i j hi => cell_of (hkk.2 i (by omega) (by omega))
        have HK9 := hK2 (put3 wd b (.int .i64 L) (.int .i64 S) (.slice (some ⟨gg, 0, none⟩) n cc)) ⟨⟨(q _ _ (by omega)).trans k0, (q _ _ (by omega)).trans k1, (q _ _ (by omega)).trans k2, (q _ _ (by omega)).trans k3, (q _ _ (by omega)).trans k4, (q _ _ (by omega)).trans k5⟩, ((hbw.setCell (p := ⟨b, 0, none⟩) hb2 _).setCell (p := ⟨b, 1, none⟩) hb2 _).setCell (p := ⟨b, 2, none⟩) hb2 _⟩
          (show IsS (v 10) (v 33) _ by rw [hb1, hg1]; exact put3_isS ⟨b, rfl, hb2, hb3, hb4⟩ L S gg n cc) (step3_store (ia := 9) (.inr (.inr rfl)) d7 hnD (fun h => (c10 h).1) (fun h => (c11 h).1) (fun h => (c12 h).1) hF hG hb1) (fun j _ => ⟨fun h => absurd h (by decide), fun _ h => absurd h (by decide)⟩)
        obtain ⟨⟨u0, z0⟩, t0⟩ := hb4 0 (by decide)
        obtain ⟨⟨u1, z1⟩, t1⟩ := hb4 1 (by decide)
        obtain ⟨⟨u2, z2⟩, t2⟩ := hb4 2 (by decide)
        have HK8 := HK9.1
        clear HK9 hkk q hF hG hcl hdep hin hout hin2 hK hK2 c10 c11 c12
        unfold Oper.wp
        (first | (simp [execOp, go_sem, e8, e29, z0, z1, z2, t0, t1, t2]; done) | simp [execOp, go_sem, e8, e29, z0, z1, z2, t0, t1, t2, ↓IntWalk.iteOmega])
        exact HK8
    · clear k0 k1 k2 k3 k4 k5 r0 r1 r2 g0 g1 g2 o0 o1 o2 of2
      intro v wd hB hF
      obtain ⟨-, hbw⟩ := hB
      obtain ⟨g8, c8, h8, m8, n8, s8⟩ := (show IsC L S n (nmF F) W1.heap.size (v 29) wd from hF 2 (by simp))
      obtain ⟨g9, c9, h9, m9, n9, s9⟩ := (show IsC L S n (nmF GG) W1.heap.size (v 31) wd from hF 4 (by simp))
      obtain ⟨g10, c10, h10, m10, n10, s10⟩ := (show IsC L S n (nmF KK) W1.heap.size (v 33) wd from hF 6 (by simp))
      obtain ⟨B8, p8, q8, y8, -⟩ := (show IsA W1.heap.size (v 8) wd from hF 7 (by simp))
      obtain ⟨B9, p9, q9, y9, -⟩ := (show IsA W1.heap.size (v 9) wd from hF 8 (by simp))
      obtain ⟨B10, p10, q10, y10, -⟩ := (show IsA W1.heap.size (v 10) wd from hF 9 (by simp))
      obtain ⟨b1, _, _, _, _, _, x1, x2, -, x3, x4, x5⟩ := (show IsS (v 8) (v 29) wd from hF 10 (by simp))
      cases (p8.symm.trans x1)
      cases (h8.symm.trans x2)
      obtain ⟨b2, _, _, _, _, _, z1, z2, -, z3, z4, z5⟩ := (show IsS (v 9) (v 31) wd from hF 11 (by simp))
      cases (p9.symm.trans z1)
      cases (h9.symm.trans z2)
      obtain ⟨b3, _, _, _, _, _, t1, t2, -, t3, t4, t5⟩ := (show IsS (v 10) (v 33) wd from hF 12 (by simp))
      cases (p10.symm.trans t1)
      cases (h10.symm.trans t2)
      clear hF
      simp only [upd, List.foldl_cons, List.foldl_nil, List.setIfInBounds_toArray, List.set_cons_succ, List.set_cons_zero]
      generalize v 8 = v8 at *
      generalize v 9 = v9 at *
      generalize v 10 = v10 at *
      first | (go_wp2_with fail) | skip
      go_meet
      exact ⟨B8, _, c8, B9, _, c9, B10, _, c10, p8, p9, p10, ⟨⟨x3, x4, x5⟩, fun _ => ⟨g8, rfl, m8, n8, s8⟩, q8, y8⟩, ⟨⟨z3, z4, z5⟩, fun _ => ⟨g9, rfl, m9, n9, s9⟩, q9, y9⟩, ⟨⟨t3, t4, t5⟩, fun _ => ⟨g10, rfl, m10, n10, s10⟩, q10, y10⟩, hbw⟩
  case rest =>
   as_aux_lemma =>
    obtain ⟨B8, a8, c8, B9, a9, c9, B10, a10, c10, rfl, rfl, rfl, ⟨⟨u0, u1, u2⟩, ho8, hl8, hb8⟩, ⟨⟨v0, v1, v2⟩, ho9, hl9, hb9⟩, ⟨⟨z0, z1, z2⟩, ho10, hl10, hb10⟩, hb⟩ := hcut
    obtain ⟨W3, hW3⟩ : ∃ W3 : World, W3 = wc := ⟨_, rfl⟩
    subst hW3
    obtain ⟨g8, rfl, m8, n8, s8⟩ := ho8 HN0.out
    obtain ⟨g9, rfl, m9, n9, s9⟩ := ho9 HN0.out
    obtain ⟨g10, rfl, m10, n10, s10⟩ := ho10 HN0.out
    have hs3 := hb.size
    have hw3 : w.heap.size + 3 < W3.heap.size := by omega
    have HB3 := Lib.hid (HB1.out.trans (hb.mono hs1))
    have q : ∀ i j, i ≤ w.heap.size + 3 → W3.cell? ⟨i, j, none⟩ = W1.cell? ⟨i, j, none⟩ := fun i j hi => hb.cell (p := ⟨i, j, none⟩) (show i < W1.heap.size by omega)
    have qf : ∀ i j, i ≤ w.heap.size + 3 → W3.frozen? ⟨i, j, none⟩ = W1.frozen? ⟨i, j, none⟩ := fun i j hi => hb.frozen (p := ⟨i, j, none⟩) (show i < W1.heap.size by omega)
    have HST := Lib.hid (show TriM W3 (w.heap.size + 3) L S 72 1 (.slice none 0 0) 0 (fcC Fc 0) W3 from ⟨(q _ _ (Nat.le_refl _)).trans o0, (q _ _ (Nat.le_refl _)).trans o1, (q _ _ (Nat.le_refl _)).trans o2, (qf _ _ (Nat.le_refl _)).trans of2, World.ownsRow_nil _ _ _ _, Below.refl _ _, fun _ _ _ => rfl, hw3⟩)
    have Q0 := Lib.hid ((q _ _ (by omega)).trans k0)
    have Q1 := Lib.hid ((q _ _ (by omega)).trans k1)
    have HR := Lib.hid (And.intro ((q _ _ (by omega)).trans r0) (And.intro ((q _ _ (by omega)).trans r1) (And.intro ((q _ _ (by omega)).trans r2) (And.intro ((qf _ _ (by omega)).trans g0) (And.intro ((qf _ _ (by omega)).trans g1) ((qf _ _ (by omega)).trans g2))))))
    have U := Lib.hid (And.intro u0 (And.intro u1 (And.intro u2 s8)))
    have V := Lib.hid (And.intro v0 (And.intro v1 (And.intro v2 s9)))
    have Z := Lib.hid (And.intro z0 (And.intro z1 (And.intro z2 s10)))
    have j8 : B8 ≠ w.heap.size + 3 := by omega
    have j9 : B9 ≠ w.heap.size + 3 := by omega
    have j10 : B10 ≠ w.heap.size + 3 := by omega
    have i8 : g8 ≠ w.heap.size + 3 := by omega
    have i9 : g9 ≠ w.heap.size + 3 := by omega
    have i10 : g10 ≠ w.heap.size + 3 := by omega
    clear ho8 ho9 ho10 q qf o0 o1 o2 of2 k0 k1 k2 k3 k4 k5 r0 r1 r2 g0 g1 g2 u0 u1 u2 v0 v1 v2 z0 z1 z2 s8 s9 s10 hb HRI HE1 HE2 m8 m9 m10 hl8 hl9 hl10
    go_wp2
    go_loopw [11] (fun ii wr => ∃ (l : Nat) (v : Value), l ≤ L ∧ ii = .int .i64 l ∧ TriM W3 (w.heap.size + 3) L S 72 1 v (l * S) (fcC Fc (l * S)) wr) (fun ii _ => L - (intOf ii).toNat)
    case atStart => exact ⟨0, _, Nat.zero_le _, rfl, by rw [Nat.zero_mul]; exact HST.out⟩
    case round =>
      obtain ⟨l, v, hl, rfl, hst⟩ := hrel
      have HS1 := Lib.hid hst
      have k0 := hst.cell (b := w.heap.size) (j := 0) (by omega) (by omega) Q0.out
      have k1 := hst.cell (b := w.heap.size) (j := 1) (by omega) (by omega) Q1.out
      by_cases hlt : l < L
      · have hdl : decide ((l : Int) < (L : Int)) = true := by simp; omega
        clear hst
        go_wp2
        go_loopw [12] (fun ii wr => ∃ (s : Nat) (v : Value), s ≤ S ∧ ii = .int .i64 s ∧ TriM W3 (w.heap.size + 3) L S 72 1 v (l * S + s) (fcC Fc (l * S + s)) wr) (fun ii _ => S - (intOf ii).toNat)
        case atStart => exact ⟨0, v, Nat.zero_le _, rfl, HS1.out⟩
        case round =>
          clear k0 k1
          obtain ⟨s, v, hs, rfl, hst⟩ := hrel
          have HS2 := Lib.hid hst
          have k0 := hst.cell (b := w.heap.size) (j := 0) (by omega) (by omega) Q0.out
          have k1 := hst.cell (b := w.heap.size) (j := 1) (by omega) (by omega) Q1.out
          have hbz := hst.bel.size
          by_cases hst2 : s < S
          · have hds : decide ((s : Int) < (S : Int)) = true := by simp; omega
            have u0 := hst.cell (b := B8) (j := 0) hb8 j8 U.out.1
            have u1 := hst.cell (b := B8) (j := 1) hb8 j8 U.out.2.1
            have u2 := hst.cell (b := B8) (j := 2) hb8 j8 U.out.2.2.1
            have v0 := hst.cell (b := B9) (j := 0) hb9 j9 V.out.1
            have v1 := hst.cell (b := B9) (j := 1) hb9 j9 V.out.2.1
            have v2 := hst.cell (b := B9) (j := 2) hb9 j9 V.out.2.2.1
            have z0 := hst.cell (b := B10) (j := 0) hb10 j10 Z.out.1
            have z1 := hst.cell (b := B10) (j := 1) hb10 j10 Z.out.2.1
            have z2 := hst.cell (b := B10) (j := 2) hb10 j10 Z.out.2.2.1
            obtain ⟨i, hi⟩ : ∃ i, l * S + s = i := ⟨_, rfl⟩
            have hin : i < n := by
              have h1 : (l + 1) * S ≤ L * S := Nat.mul_le_mul_right _ hlt
              rw [Nat.add_mul, Nat.one_mul] at h1
              have := HN.out
              omega
            have e1 : i / S = l := by rw [← hi, Nat.mul_comm, Nat.mul_add_div (by omega), Nat.div_eq_of_lt hst2, Nat.add_zero]
            have e2 : i % S = s := by rw [← hi, Nat.mul_comm, Nat.mul_add_mod, Nat.mod_eq_of_lt hst2]
            obtain ⟨px, hpx⟩ : ∃ x, winP (fun i => (F i).1) L S half l s = x := ⟨_, rfl⟩
            obtain ⟨py, hpy⟩ : ∃ x, winP (fun i => (F i).2) L S half l s = x := ⟨_, rfl⟩
            obtain ⟨pg, hpg⟩ : ∃ x, winP (fun i => (GG i).1) L S half l s = x := ⟨_, rfl⟩
            obtain ⟨pgy, hpgy⟩ : ∃ x, winP (fun i => (GG i).2) L S half l s = x := ⟨_, rfl⟩
            obtain ⟨pk, hpk⟩ : ∃ x, winP (fun i => (KK i).1) L S half l s = x := ⟨_, rfl⟩
            obtain ⟨pky, hpky⟩ : ∃ x, winP (fun i => (KK i).2) L S half l s = x := ⟨_, rfl⟩
            have hFi : Fc i = floatOfInt .f32 (cohP (px * px + py * py).toNat (pg * pk).toNat : Nat) := by
              rw [← HFC.out]
              unfold cohF cohV
              rw [e1, e2, hpx, hpy, ← HEG.out, ← HEK.out, hpg, hpk]
            obtain ⟨t1, t2⟩ := cntW_le (half := half) hlt
            obtain ⟨t3, t4⟩ := cntW_le (half := half) hst2
            have hbx1 : ∀ i, i < L * S → -8400000 ≤ (fun i => (F i).1) i ∧ (fun i => (F i).1) i ≤ 8400000 := fun i hi => (HFP.out i (by have := HN.out; omega)).1
            have hbx2 : ∀ i, i < L * S → -8400000 ≤ (fun i => (F i).2) i ∧ (fun i => (F i).2) i ≤ 8400000 := fun i hi => (HFP.out i (by have := HN.out; omega)).2
            have hbx3 : ∀ i, i < L * S → -8400000 ≤ (fun i => (GG i).1) i ∧ (fun i => (GG i).1) i ≤ 8400000 := fun i hi => (HGP.out i (by have := HN.out; omega)).1
            have hbx4 : ∀ i, i < L * S → -8400000 ≤ (fun i => (KK i).1) i ∧ (fun i => (KK i).1) i ≤ 8400000 := fun i hi => (HKP.out i (by have := HN.out; omega)).1
            obtain ⟨bx1, bx2⟩ := winP_bd9 (half := half) hbx1 (by decide) hh hlt hst2
            obtain ⟨by1, by2⟩ := winP_bd9 (half := half) hbx2 (by decide) hh hlt hst2
            obtain ⟨bg1, bg2⟩ := winP_bd9 (half := half) hbx3 (by decide) hh hlt hst2
            obtain ⟨bk1, bk2⟩ := winP_bd9 (half := half) hbx4 (by decide) hh hlt hst2
            have ng : 0 ≤ winP (fun i => (GG i).1) L S half l s := winP_nn (L := L) (fun i hi => by rw [show (GG i).1 = enF G i from congrFun HEG.out i]; exact (enF_bd hP1 (by have := HN.out; omega)).1) hlt hst2
            have nk : 0 ≤ winP (fun i => (KK i).1) L S half l s := winP_nn (L := L) (fun i hi => by rw [show (KK i).1 = enF K i from congrFun HEK.out i]; exact (enF_bd hP2 (by have := HN.out; omega)).1) hlt hst2
            have HSF := Lib.hid (show ∀ W, Below wr.heap.size wr W → ∀ (B g c : Nat) (HH : Nat → Int × Int) (p q : Int), SmallP n HH 8400000 → g < W3.heap.size → g ≠ w.heap.size + 3 → SumsAt W3 g 0 n (nmF HH) → winP (fun i => (HH i).1) L S half l s = p → winP (fun i => (HH i).2) L S half l s = q →
                Calls Tryz.prog 50 #[.agg #[.int .i64 L, .int .i64 S, .slice (some ⟨g, 0, none⟩) n c], .int .i64 ((l : Int) - (half : Int)), .int .i64 ((s : Int) - (half : Int)), .int .i64 (2 * (half : Int) + 1), .int .i64 (2 * (half : Int) + 1)] W fun e w' => e = .returned (.tuple #[.int .i64 p, .int .i64 q]) ∧ Below W.heap.size W w' from
              fun W hW B g c HH p q hP hg hne hs hp hq => rSumOf L S n c g 0 (nmF HH) (fun i => (HH i).1) (fun i => (HH i).2) ((l : Int) - (half : Int)) ((s : Int) - (half : Int)) (2 * (half : Int) + 1) (2 * (half : Int) + 1) (loW l half) (hiW l half L) (loW s half) (hiW s half S) W HN.out hL hS (by have := hW.size; omega)
                (fun k hk => (hW.cell (p := ⟨g, 0 + k, none⟩) (show g < wr.heap.size by omega)).trans (HS2.out.cell hg hne (hs k hk))) (fun k hk => by obtain ⟨h1, h2, h3⟩ := nmF_small hP (by decide) k hk; exact ⟨h1, by omega, by omega⟩) (by omega) (by omega) (by omega) (by omega)
                (by unfold loW; omega) (by unfold hiW; omega) (by unfold loW; omega) (by unfold hiW; omega) (by omega) (by omega) (p := p) (q := q) hp hq)
            have HS1U := Lib.hid (fun W hW => HSF.out W hW B8 g8 c8 F px py HFP.out n8 i8 U.out.2.2.2 hpx hpy)
            have HS2U := Lib.hid (fun W hW => HSF.out W hW B9 g9 c9 GG pg pgy HGP.out n9 i9 V.out.2.2.2 hpg hpgy)
            have HS3U := Lib.hid (fun W hW => HSF.out W hW B10 g10 c10 KK pk pky HKP.out n10 i10 Z.out.2.2.2 hpk hpky)
            rw [hpx] at bx1 bx2
            rw [hpy] at by1 by2
            rw [hpg] at bg1 bg2 ng
            rw [hpk] at bk1 bk2 nk
            have x1 := eg_bd (x := px) (by omega)
            have x2 := eg_bd (x := py) (by omega)
            have x3 := Int.mul_nonneg ng nk
            have x4 : pg * pk ≤ 680400000 * 680400000 := Int.mul_le_mul (by omega) (by omega) nk (by decide)
            have HI := Lib.hid hi
            rw [hi] at hst HS2
            obtain ⟨fb, hfb⟩ : ∃ fb, Fc i = fb := ⟨_, rfl⟩
            have HPN := Lib.hid (show fcC Fc (i + 1) = fcC Fc i ++ [.float .f32 fb] by rw [fcC_succ, hfb])
            rw [hfb] at hFi
            have him : i ≤ 5000 := by omega
            clear hst hi e1 e2 hpx hpy hpg hpgy hpk hpky t1 t2 t3 t4 hbx1 hbx2 hbx3 hbx4 HSF hfb
            rcases (show (pg = 0 ∨ pk = 0) ∨ (0 < pg ∧ 0 < pk) by omega) with hz | ⟨hg0, hk0⟩
            · have e0 : (pg * pk).toNat = 0 := by rcases hz with rfl | rfl <;> simp
              rw [e0] at hFi
              have e9 : cohP (px * px + py * py).toNat 0 = 0 := by unfold cohP; rw [if_pos rfl]
              rw [e9] at hFi
              have k9 : ∀ W : World, (convert 3 72 (.int .i64 0)).run Tryz.prog W = .ok (.float .f32 fb) W := fun W => by rw [hFi]; exact conv_f32 0 W
              clear hFi e9 e0
              have hgk : pg = 0 ∨ (decide ((0 : Int) < pg) = true ∧ pk = 0) := by
                rcases hz with h | h
                · exact .inl h
                · rcases (show pg = 0 ∨ 0 < pg by omega) with h2 | h2
                  · exact .inl h2
                  · exact .inr ⟨by simpa using h2, h⟩
              clear hz
              rcases hgk with rfl | ⟨hdg, rfl⟩
              · go_upto_region 20 with (first | (go_at_call 50; (with_reducible refine (HS1U.out _ (by (repeat' (first | with_reducible exact Below.refl _ _ | (with_reducible refine below_later_of ?_ ?_ _) | (with_reducible refine Below.alloc ?_ ?_ _) | (with_reducible refine Below.setCell ?_ ?_ _) | (with_reducible refine Below.drew ?_) | (simp; done) | (simp; omega) | omega)))).mono ?_); rintro e w' ⟨rfl, hb⟩; obtain ⟨q1, rfl⟩ := later_of_below hb; clear hb) | (go_at_call 50; (with_reducible refine (HS2U.out _ (by (repeat' (first | with_reducible exact Below.refl _ _ | (with_reducible refine below_later_of ?_ ?_ _) | (with_reducible refine Below.alloc ?_ ?_ _) | (with_reducible refine Below.setCell ?_ ?_ _) | (with_reducible refine Below.drew ?_) | (simp; done) | (simp; omega) | omega)))).mono ?_); rintro e w' ⟨rfl, hb⟩; obtain ⟨q2, rfl⟩ := later_of_below hb; clear hb) | (go_at_call 50; (with_reducible refine (HS3U.out _ (by (repeat' (first | with_reducible exact Below.refl _ _ | (with_reducible refine below_later_of ?_ ?_ _) | (with_reducible refine Below.alloc ?_ ?_ _) | (with_reducible refine Below.setCell ?_ ?_ _) | (with_reducible refine Below.drew ?_) | (simp; done) | (simp; omega) | omega)))).mono ?_); rintro e w' ⟨rfl, hb⟩; obtain ⟨q3, rfl⟩ := later_of_below hb; clear hb))
                refine any_worldF (fun W => TriM W3 (w.heap.size + 3) L S 72 1 v i (fcC Fc i) W) (HS2.out.below (by (repeat' (first | with_reducible exact Below.refl _ _ | (with_reducible refine below_later_of ?_ ?_ _) | (with_reducible refine Below.alloc ?_ ?_ _) | (with_reducible refine Below.setCell ?_ ?_ _) | (with_reducible refine Below.drew ?_) | (simp; done) | (simp; omega) | omega)))) ?_
                rintro W5 hst5
                have HS5 := Lib.hid hst5
                have HOW2 := Lib.hid hst5.own
                have HSN := Lib.hid (show ∀ (g' cc' : Nat) (w1 : World) (o : Obj), w1.ownsRow W3.heap.size 72 1 (.slice (some ⟨g', 0, none⟩) (i + 1) cc') (i + 1) (fcC Fc i ++ [.float .f32 fb]) → (W5.alloc o).grownBy w1 v.ownBlock → TriM W3 (w.heap.size + 3) L S 72 1 (.slice (some ⟨g', 0, none⟩) (i + 1) cc') (i + 1) (fcC Fc (i + 1)) (w1.setCell ⟨w.heap.size + 3, 2, none⟩ (.slice (some ⟨g', 0, none⟩) (i + 1) cc')) from fun g' cc' w1 o h1 h2 => by
                  rw [HPN.out]
                  exact HS5.out.put h1 h2)
                have HSL := Lib.hid (show ∀ (w1 : World) (o : Obj), (W5.alloc o).grownBy w1 v.ownBlock → w1.cell? ⟨w.heap.size + 3, 2, none⟩ = some v ∧ w1.frozen? ⟨w.heap.size + 3, 2, none⟩ = false from fun w1 o h => HS5.out.still h)
                have c2 := hst5.c2
                have f2 := hst5.f2
                have c2x : W5.cell? ⟨w.heap.size + 1 + 1 + 1, 2, none⟩ = some v := hst5.c2
                have f2x : W5.frozen? ⟨w.heap.size + 1 + 1 + 1, 2, none⟩ = false := hst5.f2
                have hbz5 : W3.heap.size ≤ W5.heap.size := hst5.bel.size
                have hlt5 : w.heap.size + 3 < W5.heap.size := by omega
                clear hst5
                go_wp2_with (first | (at_builtin; refine wpList_append_lies _ rfl (.tmp 129) (.tmp 132) 22 rfl W3.heap.size 72 i0 (.float .f32 0) 1 4 Tryz.underlying22 hi0 hz0 hz1 hz2 rfl (by decide) v i (fcC Fc i) rfl (HOW2.out.alloc _) ⟨W5.heap.size, 0, none⟩ 1 1 [.float .f32 fb] rfl rfl (by intro j u hj; rcases j with _ | j; (focus (simp at hj; subst hj; (first | (simp [Addr.add, go_sem]; done) | simp [Addr.add, go_sem, ↓IntWalk.iteOmega]))); (focus (simp at hj))) (by intro u hu; simp at hu; subst hu; rfl) (by decide) (by unfold maxLen; omega) (by omega) (by first | omega | (simp; omega)) _ rfl ?_; intro g' cc' w1 hown' hgrow _ _; have HN2 := Lib.hid (HSN.out _ _ _ _ hown' hgrow); obtain ⟨hcb, hfb⟩ := HSL.out _ _ hgrow; have hcbx : w1.cell? ⟨w.heap.size + 1 + 1 + 1, 2, none⟩ = some v := hcb; have hfbx : w1.frozen? ⟨w.heap.size + 1 + 1 + 1, 2, none⟩ = false := hfb; clear hown' hgrow))
                go_roundw
                case rel => exact ⟨s + 1, _, by omega, by go_num, by rw [← Nat.add_assoc, HI.out]; exact HN2.out⟩
                case measure => simp [intOf]; omega
              · go_upto_region 20 with (first | (go_at_call 50; (with_reducible refine (HS1U.out _ (by (repeat' (first | with_reducible exact Below.refl _ _ | (with_reducible refine below_later_of ?_ ?_ _) | (with_reducible refine Below.alloc ?_ ?_ _) | (with_reducible refine Below.setCell ?_ ?_ _) | (with_reducible refine Below.drew ?_) | (simp; done) | (simp; omega) | omega)))).mono ?_); rintro e w' ⟨rfl, hb⟩; obtain ⟨q1, rfl⟩ := later_of_below hb; clear hb) | (go_at_call 50; (with_reducible refine (HS2U.out _ (by (repeat' (first | with_reducible exact Below.refl _ _ | (with_reducible refine below_later_of ?_ ?_ _) | (with_reducible refine Below.alloc ?_ ?_ _) | (with_reducible refine Below.setCell ?_ ?_ _) | (with_reducible refine Below.drew ?_) | (simp; done) | (simp; omega) | omega)))).mono ?_); rintro e w' ⟨rfl, hb⟩; obtain ⟨q2, rfl⟩ := later_of_below hb; clear hb) | (go_at_call 50; (with_reducible refine (HS3U.out _ (by (repeat' (first | with_reducible exact Below.refl _ _ | (with_reducible refine below_later_of ?_ ?_ _) | (with_reducible refine Below.alloc ?_ ?_ _) | (with_reducible refine Below.setCell ?_ ?_ _) | (with_reducible refine Below.drew ?_) | (simp; done) | (simp; omega) | omega)))).mono ?_); rintro e w' ⟨rfl, hb⟩; obtain ⟨q3, rfl⟩ := later_of_below hb; clear hb))
                refine any_worldF (fun W => TriM W3 (w.heap.size + 3) L S 72 1 v i (fcC Fc i) W) (HS2.out.below (by (repeat' (first | with_reducible exact Below.refl _ _ | (with_reducible refine below_later_of ?_ ?_ _) | (with_reducible refine Below.alloc ?_ ?_ _) | (with_reducible refine Below.setCell ?_ ?_ _) | (with_reducible refine Below.drew ?_) | (simp; done) | (simp; omega) | omega)))) ?_
                rintro W5 hst5
                have HS5 := Lib.hid hst5
                have HOW2 := Lib.hid hst5.own
                have HSN := Lib.hid (show ∀ (g' cc' : Nat) (w1 : World) (o : Obj), w1.ownsRow W3.heap.size 72 1 (.slice (some ⟨g', 0, none⟩) (i + 1) cc') (i + 1) (fcC Fc i ++ [.float .f32 fb]) → (W5.alloc o).grownBy w1 v.ownBlock → TriM W3 (w.heap.size + 3) L S 72 1 (.slice (some ⟨g', 0, none⟩) (i + 1) cc') (i + 1) (fcC Fc (i + 1)) (w1.setCell ⟨w.heap.size + 3, 2, none⟩ (.slice (some ⟨g', 0, none⟩) (i + 1) cc')) from fun g' cc' w1 o h1 h2 => by
                  rw [HPN.out]
                  exact HS5.out.put h1 h2)
                have HSL := Lib.hid (show ∀ (w1 : World) (o : Obj), (W5.alloc o).grownBy w1 v.ownBlock → w1.cell? ⟨w.heap.size + 3, 2, none⟩ = some v ∧ w1.frozen? ⟨w.heap.size + 3, 2, none⟩ = false from fun w1 o h => HS5.out.still h)
                have c2 := hst5.c2
                have f2 := hst5.f2
                have c2x : W5.cell? ⟨w.heap.size + 1 + 1 + 1, 2, none⟩ = some v := hst5.c2
                have f2x : W5.frozen? ⟨w.heap.size + 1 + 1 + 1, 2, none⟩ = false := hst5.f2
                have hbz5 : W3.heap.size ≤ W5.heap.size := hst5.bel.size
                have hlt5 : w.heap.size + 3 < W5.heap.size := by omega
                clear hst5
                go_wp2_with (first | (at_builtin; refine wpList_append_lies _ rfl (.tmp 129) (.tmp 132) 22 rfl W3.heap.size 72 i0 (.float .f32 0) 1 4 Tryz.underlying22 hi0 hz0 hz1 hz2 rfl (by decide) v i (fcC Fc i) rfl (HOW2.out.alloc _) ⟨W5.heap.size, 0, none⟩ 1 1 [.float .f32 fb] rfl rfl (by intro j u hj; rcases j with _ | j; (focus (simp at hj; subst hj; (first | (simp [Addr.add, go_sem]; done) | simp [Addr.add, go_sem, ↓IntWalk.iteOmega]))); (focus (simp at hj))) (by intro u hu; simp at hu; subst hu; rfl) (by decide) (by unfold maxLen; omega) (by omega) (by first | omega | (simp; omega)) _ rfl ?_; intro g' cc' w1 hown' hgrow _ _; have HN2 := Lib.hid (HSN.out _ _ _ _ hown' hgrow); obtain ⟨hcb, hfb⟩ := HSL.out _ _ hgrow; have hcbx : w1.cell? ⟨w.heap.size + 1 + 1 + 1, 2, none⟩ = some v := hcb; have hfbx : w1.frozen? ⟨w.heap.size + 1 + 1 + 1, 2, none⟩ = false := hfb; clear hown' hgrow))
                go_roundw
                case rel => exact ⟨s + 1, _, by omega, by go_num, by rw [← Nat.add_assoc, HI.out]; exact HN2.out⟩
                case measure => simp [intOf]; omega
            · have hdg : decide ((0 : Int) < pg) = true := by simpa using hg0
              have hdk : decide ((0 : Int) < pk) = true := by simpa using hk0
              have hap : 0 < pg * pk := Int.mul_pos hg0 hk0
              obtain ⟨sx, hsx⟩ : ∃ x, px * px = x := ⟨_, rfl⟩
              obtain ⟨sy, hsy⟩ : ∃ x, py * py = x := ⟨_, rfl⟩
              obtain ⟨aq, haq⟩ : ∃ x, pg * pk = x := ⟨_, rfl⟩
              rw [hsx] at x1 hFi
              rw [hsy] at x2 hFi
              rw [haq] at x3 x4 hFi hap
              obtain ⟨sN, hsN⟩ := Int.eq_ofNat_of_zero_le (show 0 ≤ sx + sy by omega)
              obtain ⟨aN, haN⟩ := Int.eq_ofNat_of_zero_le (show 0 ≤ aq by omega)
              rw [hsN, haN, Int.toNat_natCast, Int.toNat_natCast] at hFi
              have hwx : IntKind.i64.wrap (px * px) = sx := by rw [hsx]; exact IntWalk.i64_in _ (by omega)
              have hwy : IntKind.i64.wrap (py * py) = sy := by rw [hsy]; exact IntWalk.i64_in _ (by omega)
              have hws : IntKind.i64.wrap (sx + sy) = sN := by rw [hsN]; exact IntWalk.i64_in _ (by omega)
              have hwa : IntKind.i64.wrap (pg * pk) = aN := by rw [haq, haN]; exact IntWalk.i64_in _ (by omega)
              have hs4 : sN ≤ 4611686018427387904 := by omega
              have ha4 : aN ≤ 4611686018427387904 := by omega
              have ha1 : 1 ≤ aN := by omega
              have HEQ := Lib.hid (show ∀ t, t ≤ 1000 → t * t * aN ≤ 1000000 * sN → (t = 1000 ∨ 1000000 * sN < (t + 1) * (t + 1) * aN) → cohP sN aN = t from fun t => cohP_eq (by omega))
              have HFI := Lib.hid hFi
              clear hFi x1 x2 x3 x4 haq haN hsN hsx hsy
              go_wp2_with (first | (go_at_call 50; (with_reducible refine (HS1U.out _ (by (repeat' (first | with_reducible exact Below.refl _ _ | (with_reducible refine below_later_of ?_ ?_ _) | (with_reducible refine Below.alloc ?_ ?_ _) | (with_reducible refine Below.setCell ?_ ?_ _) | (with_reducible refine Below.drew ?_) | (simp; done) | (simp; omega) | omega)))).mono ?_); rintro e w' ⟨rfl, hb⟩; obtain ⟨q1, rfl⟩ := later_of_below hb; clear hb) | (go_at_call 50; (with_reducible refine (HS2U.out _ (by (repeat' (first | with_reducible exact Below.refl _ _ | (with_reducible refine below_later_of ?_ ?_ _) | (with_reducible refine Below.alloc ?_ ?_ _) | (with_reducible refine Below.setCell ?_ ?_ _) | (with_reducible refine Below.drew ?_) | (simp; done) | (simp; omega) | omega)))).mono ?_); rintro e w' ⟨rfl, hb⟩; obtain ⟨q2, rfl⟩ := later_of_below hb; clear hb) | (go_at_call 50; (with_reducible refine (HS3U.out _ (by (repeat' (first | with_reducible exact Below.refl _ _ | (with_reducible refine below_later_of ?_ ?_ _) | (with_reducible refine Below.alloc ?_ ?_ _) | (with_reducible refine Below.setCell ?_ ?_ _) | (with_reducible refine Below.drew ?_) | (simp; done) | (simp; omega) | omega)))).mono ?_); rintro e w' ⟨rfl, hb⟩; obtain ⟨q3, rfl⟩ := later_of_below hb; clear hb))
              refine any_worldF (fun W => TriM W3 (w.heap.size + 3) L S 72 1 v i (fcC Fc i) W) (HS2.out.below (by (repeat' (first | with_reducible exact Below.refl _ _ | (with_reducible refine below_later_of ?_ ?_ _) | (with_reducible refine Below.alloc ?_ ?_ _) | (with_reducible refine Below.setCell ?_ ?_ _) | (with_reducible refine Below.drew ?_) | (simp; done) | (simp; omega) | omega)))) ?_
              rintro W5 hst5
              have HS6 := Lib.hid hst5
              clear hst5 k0 k1 u0 u1 u2 v0 v1 v2 z0 z1 z2
              go_loop [19, 20] (fun ii jj => ∃ t m : Nat, ii = .int .i64 t ∧ jj = .int .i64 m ∧ t < m ∧ m ≤ 1001 ∧ t * t * aN ≤ 1000000 * sN ∧ (m = 1001 ∨ 1000000 * sN < m * m * aN)) (fun ii jj => (intOf jj).toNat - (intOf ii).toNat)
              case atStart => exact ⟨0, 1001, rfl, rfl, by decide, Nat.le_refl _, by omega, .inl rfl⟩
              case round =>
                obtain ⟨t, m, rfl, rfl, htm, hm, h1, h2⟩ := hrel
                have HH1 := Lib.hid h1
                have HH2 := Lib.hid h2
                clear h1 h2
                rcases (show m = t + 1 ∨ t + 1 < m by omega) with rfl | hc
                · have hd1 : decide ((1 : Int) < ((t + 1 : Nat) : Int) - (t : Int)) = false := by simp; omega
                  have HT9 := Lib.hid (show t = 1000 ∨ 1000000 * sN < (t + 1) * (t + 1) * aN from HH2.out.imp (fun h => by omega) id)
                  have k9 : ∀ W : World, (convert 3 72 (.int .i64 (t : Int))).run Tryz.prog W = .ok (.float .f32 fb) W := fun W => by rw [HFI.out, HEQ.out t (by omega) HH1.out HT9.out]; exact conv_f32 _ W
                  go_upto_region 20 with (fail)
                  have hst5 := HS6.out
                  have HS5 := Lib.hid hst5
                  have HOW2 := Lib.hid hst5.own
                  have HSN := Lib.hid (show ∀ (g' cc' : Nat) (w1 : World) (o : Obj), w1.ownsRow W3.heap.size 72 1 (.slice (some ⟨g', 0, none⟩) (i + 1) cc') (i + 1) (fcC Fc i ++ [.float .f32 fb]) → (W5.alloc o).grownBy w1 v.ownBlock → TriM W3 (w.heap.size + 3) L S 72 1 (.slice (some ⟨g', 0, none⟩) (i + 1) cc') (i + 1) (fcC Fc (i + 1)) (w1.setCell ⟨w.heap.size + 3, 2, none⟩ (.slice (some ⟨g', 0, none⟩) (i + 1) cc')) from fun g' cc' w1 o h1 h2 => by
                    rw [HPN.out]
                    exact HS5.out.put h1 h2)
                  have HSL := Lib.hid (show ∀ (w1 : World) (o : Obj), (W5.alloc o).grownBy w1 v.ownBlock → w1.cell? ⟨w.heap.size + 3, 2, none⟩ = some v ∧ w1.frozen? ⟨w.heap.size + 3, 2, none⟩ = false from fun w1 o h => HS5.out.still h)
                  have c2 := hst5.c2
                  have f2 := hst5.f2
                  have c2x : W5.cell? ⟨w.heap.size + 1 + 1 + 1, 2, none⟩ = some v := hst5.c2
                  have f2x : W5.frozen? ⟨w.heap.size + 1 + 1 + 1, 2, none⟩ = false := hst5.f2
                  have hbz5 : W3.heap.size ≤ W5.heap.size := hst5.bel.size
                  have hlt5 : w.heap.size + 3 < W5.heap.size := by omega
                  clear hst5
                  go_wp2_with (first | (at_builtin; refine wpList_append_lies _ rfl (.tmp 129) (.tmp 132) 22 rfl W3.heap.size 72 i0 (.float .f32 0) 1 4 Tryz.underlying22 hi0 hz0 hz1 hz2 rfl (by decide) v i (fcC Fc i) rfl (HOW2.out.alloc _) ⟨W5.heap.size, 0, none⟩ 1 1 [.float .f32 fb] rfl rfl (by intro j u hj; rcases j with _ | j; (focus (simp at hj; subst hj; (first | (simp [Addr.add, go_sem]; done) | simp [Addr.add, go_sem, ↓IntWalk.iteOmega]))); (focus (simp at hj))) (by intro u hu; simp at hu; subst hu; rfl) (by decide) (by unfold maxLen; omega) (by omega) (by first | omega | (simp; omega)) _ rfl ?_; intro g' cc' w1 hown' hgrow _ _; have HN2 := Lib.hid (HSN.out _ _ _ _ hown' hgrow); obtain ⟨hcb, hfb⟩ := HSL.out _ _ hgrow; have hcbx : w1.cell? ⟨w.heap.size + 1 + 1 + 1, 2, none⟩ = some v := hcb; have hfbx : w1.frozen? ⟨w.heap.size + 1 + 1 + 1, 2, none⟩ = false := hfb; clear hown' hgrow))
                  go_roundw
                  case rel => exact ⟨s + 1, _, by omega, by go_num, by rw [← Nat.add_assoc, HI.out]; exact HN2.out⟩
                  case measure => simp [intOf]; omega
                · have hd1 : decide ((1 : Int) < (m : Int) - (t : Int)) = true := by simp; omega
                  obtain ⟨c, hcc⟩ : ∃ c, (t + m) / 2 = c := ⟨_, rfl⟩
                  have hq : Int.tdiv ((t : Int) + (m : Int)) 2 = (c : Int) := by
                    rw [Int.tdiv_eq_ediv_of_nonneg (by omega)]
                    omega
                  have hc1 : t < c := by omega
                  have hc2 : c < m := by omega
                  obtain ⟨T, hT⟩ : ∃ T, c * c = T := ⟨_, rfl⟩
                  have hTb : T ≤ 1000000 := by rw [← hT]; exact Nat.mul_le_mul (show c ≤ 1000 by omega) (show c ≤ 1000 by omega)
                  have hTT : (c : Int) * (c : Int) = (T : Int) := by rw [← hT, Int.natCast_mul]
                  have hw2 : IntKind.i64.wrap (T : Int) = (T : Int) := IntWalk.i64_in _ (by omega)
                  obtain ⟨r, hr⟩ : ∃ r, cmpP T 1000000 sN aN = r := ⟨_, rfl⟩
                  have HCM := Lib.hid (show ∀ w, Calls Tryz.prog 51 #[.int .i64 T, .int .i64 1000000, .int .i64 sN, .int .i64 aN] w fun e w' => e = .returned (.int .i64 (cmpP T 1000000 sN aN)) ∧ w = w' from fun w => bCompare T 1000000 sN aN w (by omega) (by omega) hs4 (by omega))
                  rw [hr] at HCM
                  have HLE := Lib.hid (show r ≤ 0 → c * c * aN ≤ 1000000 * sN from fun g => by rw [hT, Nat.mul_comm 1000000]; exact cmp_le.1 (by rw [hr]; exact g))
                  have HGT := Lib.hid (show ¬ r ≤ 0 → 1000000 * sN < c * c * aN from fun g => by
                    rw [hT, Nat.mul_comm 1000000]
                    rcases Nat.lt_or_ge (sN * 1000000) (T * aN) with h | h
                    · exact h
                    · exact absurd (cmp_le.2 h) (by rw [hr]; exact g))
                  clear hT hr hcc
                  rcases (show r ≤ 0 ∨ ¬ r ≤ 0 by omega) with g | g
                  · have hdr : decide (r ≤ 0) = true := by simpa using g
                    have g2 := Lib.hid (HLE.out g)
                    go_wp2_with (first | (go_at_call 51; (with_reducible refine (HCM.out _).mono ?_); rintro e w' ⟨rfl, rfl⟩))
                    go_round
                    case rel => exact ⟨c, m, rfl, rfl, hc2, hm, g2.out, HH2.out⟩
                    case measure => simp [intOf]; omega
                  · have hdr : decide (r ≤ 0) = false := by simpa using g
                    have g2 := Lib.hid (HGT.out g)
                    go_wp2_with (first | (go_at_call 51; (with_reducible refine (HCM.out _).mono ?_); rintro e w' ⟨rfl, rfl⟩))
                    go_round
                    case rel => exact ⟨t, c, rfl, rfl, hc1, by omega, HH1.out, .inr g2.out⟩
                    case measure => simp [intOf]; omega
          · obtain rfl : s = S := by omega
            have hds : decide ((s : Int) < (s : Int)) = false := by simp
            clear hst
            go_wp2
            go_roundw
            case rel => exact ⟨l + 1, v, by omega, by go_num, by rw [Nat.add_mul, Nat.one_mul]; exact HS2.out⟩
            case measure => simp [intOf]; omega
      · obtain rfl : l = L := by omega
        have hdl : decide ((l : Int) < (l : Int)) = false := by simp
        rw [← HN.out] at hst
        obtain ⟨a', c', rfl⟩ := own_slice2 hst.own
        have r0 := hst.cell (b := w.heap.size + 2) (j := 0) (by omega) (by omega) HR.out.1
        have r1 := hst.cell (b := w.heap.size + 2) (j := 1) (by omega) (by omega) HR.out.2.1
        have r2 := hst.cell (b := w.heap.size + 2) (j := 2) (by omega) (by omega) HR.out.2.2.1
        have g0 := (frozenF_of_block (j := 0) (hst.keep (w.heap.size + 2) (by omega) (by omega))).trans HR.out.2.2.2.1
        have g1 := (frozenF_of_block (j := 1) (hst.keep (w.heap.size + 2) (by omega) (by omega))).trans HR.out.2.2.2.2.1
        have g2 := (frozenF_of_block (j := 2) (hst.keep (w.heap.size + 2) (by omega) (by omega))).trans HR.out.2.2.2.2.2
        obtain ⟨e0, e1, e2, -, hown, hbel, -, -⟩ := hst
        have HOW := Lib.hid hown
        have HBE := Lib.hid (HB3.out.trans (hbel.mono (by omega)))
        have hbz := hbel.size
        rw [← HN.out] at HS1
        clear hown hbel
        go_wp2
        refine bodyPost_ret (v := .agg #[.int .i64 l, .int .i64 S, .slice a' n c']) ?_ rfl ⟨a', c', rfl, OwnFV.mono (OwnFV.set (OwnFV.set (OwnFV.set (sfR_own (l := (List.range n).map Fc) (by rw [List.map_map]; exact HOW.out) (by simp) (by omega)) ?_ _) ?_ _) ?_ _) ?_, HBE.out.trans (by (repeat' (first | with_reducible exact Below.refl _ _ | (with_reducible refine below_later_of ?_ ?_ _) | (with_reducible refine Below.alloc ?_ ?_ _) | (with_reducible refine Below.setCell ?_ ?_ _) | (with_reducible refine Below.drew ?_) | (simp; done) | (simp; omega) | omega)))⟩
        · first | (simp [results, Tryz.results14, go_sem, r0, r1, r2]; done) | simp [results, Tryz.results14, go_sem, r0, r1, r2, ↓IntWalk.iteOmega]
        all_goals first | omega | (simp <;> omega)
end Go.Proofs.YtkoiknmijjiicaaGreatDoor
