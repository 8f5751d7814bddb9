/- Chapter 4: Print, of a right map. -/
import Derived.Test.YtfiioadmpjmmgaaDoorX11
namespace Go.Proofs.YtfiioadmpjmmgaaDoor
set_option linter.unusedVariables false
set_option linter.unusedSimpArgs false
open Go.RowKit Go Ntt
theorem wp_worldP4 {P : Program} {c : Code} {Q : Exit → Act → World → Prop} {a : Act} {w : World} (F : World → Prop) (hf : F w) (h : ∀ W, F W → Code.wp P c Q a W) : Code.wp P c Q a w := h w hf
theorem any_worldZ {G : World → Prop} {w : World} (F : World → Prop) (hf : F w) (h : ∀ W, F W → G W) : G w := h w hf
set_option maxRecDepth 20000 in
set_option maxHeartbeats 4000000 in
theorem fPrint (R C : Nat) (zs : List Int) (a : Option Addr) (cap : Nat) (w : World) (hm : MapOk R C zs) (hv : IntsV w (.slice a zs.length cap) zs) (hcn : zs.length ≤ cap) (ht : Tab w) :
    Calls Tryd.prog 41 #[.agg #[.int .i64 R, .int .i64 C, .slice a zs.length cap]] w fun e w' => e = .returned (.tuple #[.string ⟨(printZ R C zs).toArray⟩, .int .i64 0]) ∧ Below w.heap.size w w' := by
  have hn4 := hm.size
  have l1 := hm.r1
  have l2 := hm.r2
  have s1 := hm.c1
  have s2 := hm.c2
  have HN := Lib.hid hm.len
  have hpos : 0 < zs.length := by rw [hm.len]; exact Nat.mul_pos (by omega) (by omega)
  have HIE := Lib.hid (show ∀ W, Below w.heap.size w W → _ from fun W hW => mapErr_any R C zs _ W (by omega) (hv.below hW) (e0 := 0) (by rw [hm.err]))
  have HFT := Lib.hid hm.fits
  obtain ⟨-, a0, c0, he0, h4⟩ := hv
  simp only [Value.slice.injEq, true_and] at he0
  obtain ⟨rfl, rfl⟩ := he0
  obtain ⟨b, off, rfl, hbw, hs⟩ := h4 hpos
  have HS := Lib.hid hs
  have HT := Lib.hid ht
  obtain ⟨n, hn⟩ : ∃ n, zs.length = n := ⟨_, rfl⟩
  rw [hn] at HN HIE HS hcn hn4 ⊢
  have HP := Lib.hid (show printZ R C zs = headZ R C ++ linesZ (intAt zs) C R from rfl)
  rw [HP.out]
  generalize intAt zs = z at *
  clear hs h4 hm ht hpos hn HP
  refine callsIn_wide.1 (callsIn_of_wp_marks (F := Fence.wide) (n := 9) Tryd.func41 rfl trivial (wpIn_wide.2 ?_) rfl)
  simp only [Tryd.ntmps41, List.size_toArray, List.length_cons, List.length_nil, Nat.reduceAdd, Nat.reduceSub, Array.replicate_succ, Array.replicate_zero, List.push_toArray, List.append_toArray, List.nil_append, List.cons_append]
  go_wp2_with (first | (go_at_call 54; (with_reducible refine (HIE.out _ (by (repeat' (first | with_reducible exact Below.refl _ _ | (with_reducible refine below_later_of ?_ ?_ _) | (with_reducible refine Below.alloc ?_ ?_ _) | (with_reducible refine Below.setCell ?_ ?_ _) | (with_reducible refine Below.drew ?_) | (simp; done) | (simp; omega) | omega)))).mono ?_); rintro e w' ⟨rfl, hb⟩; obtain ⟨pe, rfl⟩ := later_of_below hb; clear hb))
  obtain ⟨Bb, hBb⟩ : ∃ Bb, Bb = w.heap.size + 1 + pe.os.size := ⟨_, rfl⟩
  refine wp_worldP4 (fun W => (W.cell? ⟨w.heap.size, 0, none⟩ = some (.int .i64 R) ∧ W.cell? ⟨w.heap.size, 1, none⟩ = some (.int .i64 C) ∧ W.cell? ⟨w.heap.size, 2, none⟩ = some (.slice (some ⟨b, off, none⟩) n cap)) ∧ IsB Bb [] W ∧ Below w.heap.size w W ∧ Bb < W.heap.size) ⟨⟨(by (first | (simp [go_sem]; done) | simp [go_sem, ↓IntWalk.iteOmega])), (by (first | (simp [go_sem]; done) | simp [go_sem, ↓IntWalk.iteOmega])), (by (first | (simp [go_sem]; done) | simp [go_sem, ↓IntWalk.iteOmega]))⟩, IsB.fresh (by rw [hBb]; simp), (by (repeat' (first | with_reducible exact Below.refl _ _ | (with_reducible refine below_later_of ?_ ?_ _) | (with_reducible refine Below.alloc ?_ ?_ _) | (with_reducible refine Below.setCell ?_ ?_ _) | (with_reducible refine Below.drew ?_) | (simp; done) | (simp; omega) | omega))), by rw [hBb]; simp⟩ ?_
  rintro W1 ⟨⟨k0, k1, k2⟩, hbd, hb1, hlt1⟩
  simp only [← hBb]
  have hBb1 : w.heap.size < Bb := by omega
  have hwB : w.heap.size < W1.heap.size := by omega
  have HTB := Lib.hid (show ∀ W, Below W1.heap.size W1 W → Tab W from fun W hW => HT.out.below (hb1.trans (hW.mono hb1.size)))
  have HI1 := Lib.hid (show ∀ W, Below W1.heap.size W1 W → Calls Tryd.prog 71 #[.int .i64 R] W fun e w' => e = .returned (.string (itoaS R)) ∧ Below W.heap.size W w' from fun W hW => itoa_any R (by omega) (by omega) W (HTB.out W hW))
  have HI2 := Lib.hid (show ∀ W, Below W1.heap.size W1 W → Calls Tryd.prog 71 #[.int .i64 C] W fun e w' => e = .returned (.string (itoaS C)) ∧ Below W.heap.size W w' from fun W hW => itoa_any C (by omega) (by omega) W (HTB.out W hW))
  have HBF := Lib.hid (show ∀ W, Below W1.heap.size W1 W → IsB Bb [] W from fun W hW => hbd.same (CellsSame.below hW))
  have hhl := headZ_len (R := (R : Int)) (C := (C : Int)) (by omega) (by omega)
  have z1 := itoaS_size (R : Int) (by omega) (by omega)
  have z2 := itoaS_size (C : Int) (by omega) (by omega)
  have HWS := Lib.hid (show ∀ W', IsB Bb [] W' → Calls Tryd.prog 70 #[.pointer (some ⟨Bb, 0, none⟩), .string (⟨#[112, 104, 97, 115, 101, 115, 32]⟩ ++ itoaS R ++ ⟨#[32]⟩ ++ itoaS C ++ ⟨#[10]⟩)] W' fun e w' => (∃ v, e = .returned v) ∧ IsB Bb (headZ R C) w' ∧ Below Bb W' w' ∧ Lib.OthersKept 5 (some Bb) W' w' from fun W' h => by
    have := write_b Bb [] (headZ R C) W' h (by simp; omega)
    rw [List.nil_append] at this
    have e : (⟨#[112, 104, 97, 115, 101, 115, 32]⟩ ++ itoaS R ++ ⟨#[32]⟩ ++ itoaS C ++ ⟨#[10]⟩ : ByteArray) = ⟨(headZ R C).toArray⟩ := by unfold itoaS headZ; simp only [badd4]; simp
    rw [e]
    exact this)
  have y1 : ¬ 9223372036854775807 < 7 + (itoaS (R : Int)).size := by omega
  have y2 : ¬ 9223372036854775807 < 7 + (itoaS (R : Int)).size + 1 := by omega
  have y3 : ¬ 9223372036854775807 < 7 + (itoaS (R : Int)).size + 1 + (itoaS (C : Int)).size := by omega
  have y4 : ¬ 9223372036854775807 < 7 + (itoaS (R : Int)).size + 1 + (itoaS (C : Int)).size + 1 := by omega
  have HB1 := Lib.hid hb1
  have HBB := Lib.hid hBb
  have HK := Lib.hid (And.intro k0 (And.intro k1 k2))
  have HHL := Lib.hid hhl
  clear hb1 hbd hBb hhl z1 z2
  refine wp_region_calm_tail 10 (by kernel_rfl) (by kernel_rfl) ?_
  simp only [List.take_succ_cons, List.take_zero, List.drop_succ_cons, List.drop_zero]
  repeat (go_big_quiet_step (first | (go_at_call 71; with_reducible exact calm_of (HI1.out _ (by (repeat' (first | with_reducible exact Below.refl _ _ | (with_reducible refine below_later_of ?_ ?_ _) | (with_reducible refine Below.alloc ?_ ?_ _) | (with_reducible refine Below.setCell ?_ ?_ _) | (with_reducible refine Below.drew ?_) | (simp; done) | (simp; omega) | omega))))) | (go_at_call 71; with_reducible exact calm_of (HI2.out _ (by (repeat' (first | with_reducible exact Below.refl _ _ | (with_reducible refine below_later_of ?_ ?_ _) | (with_reducible refine Below.alloc ?_ ?_ _) | (with_reducible refine Below.setCell ?_ ?_ _) | (with_reducible refine Below.drew ?_) | (simp; done) | (simp; omega) | omega)))))))
  refine wpQuiet_nil ?_
  rintro _ ⟨pz, rfl⟩
  clear k0 k1 k2
  go_wp2_with (first | (go_at_call 70; (with_reducible refine (HWS.out _ (HBF.out _ (by (repeat' (first | with_reducible exact Below.refl _ _ | (with_reducible refine below_later_of ?_ ?_ _) | (with_reducible refine Below.alloc ?_ ?_ _) | (with_reducible refine Below.setCell ?_ ?_ _) | (with_reducible refine Below.drew ?_) | (simp; done) | (simp; omega) | omega))))).mono ?_); rintro e W3 ⟨⟨v9, rfl⟩, h1, h2, h3⟩; have e0 := (h2.cell (p := ⟨w.heap.size, 0, none⟩) hBb1).trans (show (later W1 pz).cell? ⟨w.heap.size, 0, none⟩ = some (.int .i64 R) by (first | (simp [go_sem, HK.out.1]; done) | simp [go_sem, HK.out.1, ↓IntWalk.iteOmega])); have e1 := (h2.cell (p := ⟨w.heap.size, 1, none⟩) hBb1).trans (show (later W1 pz).cell? ⟨w.heap.size, 1, none⟩ = some (.int .i64 C) by (first | (simp [go_sem, HK.out.2.1]; done) | simp [go_sem, HK.out.2.1, ↓IntWalk.iteOmega])); have e2 := (h2.cell (p := ⟨w.heap.size, 2, none⟩) hBb1).trans (show (later W1 pz).cell? ⟨w.heap.size, 2, none⟩ = some (.slice (some ⟨b, off, none⟩) n cap) by (first | (simp [go_sem, HK.out.2.2]; done) | simp [go_sem, HK.out.2.2, ↓IntWalk.iteOmega])); have HBD3 := Lib.hid h1; have HB3 := Lib.hid (show Below w.heap.size w W3 from (HB1.out.trans ((below_later W1 pz).mono HB1.out.size)).trans (h2.mono (by omega))); have hlt3 := h1.lt; clear h1 h2 h3) | (go_at_call 72; (with_reducible refine (chunkM_any (some ⟨b, off, none⟩) n cap (C : Int) _ (by omega)).mono ?_); rintro e w5 ⟨rfl, hck, hsz, hb⟩; have HCH := Lib.hid hck; have HSZ := Lib.hid hsz; have HB5 := Lib.hid hb; clear hck hsz hb))
  clear y1 y2 y3 y4 HI1 HI2 HTB HBF HWS hlt1 hwB HB1 HK
  obtain ⟨q1, q2⟩ := HCH.out
  have hb5 := HB5.out
  have hsz5 := HSZ.out
  have hp1 : W3.heap.size < w5.heap.size := by omega
  have hp2 : W3.heap.size + 1 < w5.heap.size := by omega
  have hw35 : w.heap.size ≤ W3.heap.size := by omega
  have HPS := Lib.hid (show PStM w w5 Bb b off n cap C W3.heap.size (W3.heap.size + 1) (headZ R C ++ linesZ z C 0) w5 from ⟨HB3.out.trans (hb5.mono hw35), Nat.le_refl _, by simpa [linesZ] using HBD3.out.same (CellsSame.below hb5), q1, q2⟩)
  have HL0 := Lib.hid HHL.out
  clear q1 q2 hb5 hsz5 e0 e1 e2 HCH HSZ HB5 HBD3 HB3 HHL
  refine wpIn_wide.1 (wpIn_rangeCapT 5 (ChunkM W3.heap.size (W3.heap.size + 1) b off n cap C) (n := 9) rfl (by omega) (gf := 94) (cap := #[.pointer (some ⟨W3.heap.size, 0, none⟩), .pointer (some ⟨W3.heap.size + 1, 0, none⟩)]) rfl trivial (enters_of Tryd.func94 (by kernel_rfl) rfl) (N := R) (enc := encM b off C) (fun k => rfl)
    (fun W _ => chunkM_iter 5 8 (by omega) W3.heap.size (W3.heap.size + 1) b off n cap R C HN.out hcn l1 l2 s1 s2 W)
    (fun k W => PStM w w5 Bb b off n cap C W3.heap.size (W3.heap.size + 1) (headZ R C ++ linesZ z C k) W)
    (fun _ _ => False)
    (fun k W1 W2 h hb hc => h.keep (by omega) hp1 hp2 hb hc)
    (fun c W1 W2 h hb hc => h)
    (fun k W h => h.chk)
    HPS.out
    (fun T k => (T.setIfInBounds 32 (.slice (some ⟨b, off + k * C, none⟩) C C)).setIfInBounds 6 (.slice (some ⟨b, off + k * C, none⟩) C C))
    ?assign ?body ?done ?stop)
  case assign =>
    intro l k W K hK
    simp only [encM]
    simp only [List.setIfInBounds_toArray, List.set_cons_succ, List.set_cons_zero] at hK
    gi_wp2
    exact hK
  case body =>
    rintro l k W hpl hkN hWs
    have hkS : k * C + C ≤ n := by
      have h1 : (k + 1) * C ≤ R * C := Nat.mul_le_mul_right _ hkN
      rw [Nat.add_mul, Nat.one_mul] at h1
      have := HN.out
      omega
    have hll := linesZ_len HFT.out s2 k
    exact printBodyM _ (by kernel_rfl) n C cap b off Bb W3.heap.size (W3.heap.size + 1) k 5 l z w w5 W _ _ _ hkS (by omega) s1 s2 hbw hBb1 (by omega) (by omega) hp1 hp2 (by omega) (by omega) HS.out HFT.out HT.out (by rw [List.length_append]; have := HL0.out; omega) hpl (fun W' h => by rw [linesZ, ← List.append_assoc]; exact h) _ _ _ _ _ _ _ _ _ _ _ _ _ _ _ _ _ _ _ _ _ _ _ _ _ _ _ _ _ _ _ _ _ _ _ _ _ _ _ _ _ _ _ _ _ _ _ _ _ _ _
  case done =>
    rintro W hpl hD
    obtain ⟨tx, htx⟩ : ∃ tx, headZ R C ++ linesZ z C R = tx := ⟨_, rfl⟩
    have hbd := hpl.bld
    rw [htx] at hbd
    have HBD := Lib.hid (show Lib.IsBuilderF 124 5 Bb Bb (Lib.byteCells tx) W from hbd)
    have HNE := Lib.hid (show tx ≠ [] by rw [← htx]; unfold headZ; simp)
    have HTX := Lib.hid htx
    have HB := Lib.hid hpl.bel
    have HDD := Lib.hid hD
    have hsW := hpl.sz
    clear hpl hbd hD htx
    go_wp2_with (first | (go_at_call 74; (with_reducible refine (Tryd.Builder_String_k Bb Bb tx _ HBD.out HNE.out).mono ?_); rintro e w11 ⟨rfl, h1, h2, h3⟩; have HW11 := Lib.hid (And.intro h2 h3); clear h1 h2 h3))
    obtain ⟨h2, h3⟩ := HW11.out
    have hD11 := h3 _ _ HDD.out (by simp; omega) (by intro c fz e; cases e)
    refine ⟨by simp, .inl ⟨_, _, rfl, run_takeDeferred hD11, ?_⟩⟩
    have hb : Below w5.heap.size w11 (w11.putObj w5.heap.size (.deferred none)) := below_putObj (Nat.le_refl _) _
    refine ⟨_, ?_, by rw [HTX.out], HB.out.trans ((h2.mono (by omega)).trans (hb.mono (by omega)))⟩
    simp [results, Tryd.results41, go_sem]
  case stop =>
    rintro c W h hD
    exact h.elim
end Go.Proofs.YtfiioadmpjmmgaaDoor
