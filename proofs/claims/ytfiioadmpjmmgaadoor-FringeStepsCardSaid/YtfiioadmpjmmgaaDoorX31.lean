/- Chapter 4: CheckFloatMap, the program's and the reference's. -/
import Derived.Test.YtfiioadmpjmmgaaDoorX30
import Derived.Test.YtfiioadmpjmmgaaDoorX9
import Derived.Test.YtfiioadmpjmmgaaDoorX6
namespace Go.Proofs.YtfiioadmpjmmgaaDoor
set_option linter.unusedVariables false
set_option linter.unusedSimpArgs false
open Go.RowKit Ntt
def flAt (ds : List Nat) (k : Nat) : Nat := ds[k]?.getD 0
/-- A slice of floats in memory. -/
def FlV (w : World) (v : Value) (ds : List Nat) : Prop :=
  ds.length ≤ 1000000000 ∧ ∃ a cap, v = .slice a ds.length cap ∧ (0 < ds.length → ∃ b off, a = some ⟨b, off, none⟩ ∧ b < w.heap.size ∧ ∀ k, k < ds.length → w.cell? ⟨b, off + k, none⟩ = some (.float .f32 (flAt ds k)))
theorem FlV.below {w w' : World} {v : Value} {ds : List Nat} (h : FlV w v ds) (hw : Below w.heap.size w w') : FlV w' v ds := by
  obtain ⟨h1, a, cap, h3, h4⟩ := h
  refine ⟨h1, a, cap, h3, fun hp => ?_⟩
  obtain ⟨b, off, h5, h6, h7⟩ := h4 hp
  exact ⟨b, off, h5, Nat.lt_of_lt_of_le h6 hw.size, fun k hk => (hw.cell (p := ⟨b, off + k, none⟩) h6).trans (h7 k hk)⟩
def fmG (ds : List Nat) (k : Nat) : Int := fc4 (flAt ds k)
/-- The number of the first wrong number, and the error of a float map. -/
def fmE (R C : Int) (ds : List Nat) : Nat × Int := if sizeE R C ds.length = 0 then firstE ds.length (fmG ds) else (0, sizeE R C ds.length)
theorem any_worldF {G : World → Prop} {w : World} (F : World → Prop) (hf : F w) (h : ∀ W, F W → G W) : G w := h w hf
set_option maxRecDepth 20000 in
set_option maxHeartbeats 4000000 in
theorem checkFl_any (R C : Int) (ds : List Nat) (v : Value) (w : World) (hv : FlV w v ds) {i0 : Nat} {e0 : Int} (he : fmE R C ds = (i0, e0)) :
    Calls Tryd.prog 32 #[.agg #[.int .i64 R, .int .i64 C, v]] w fun e w' => e = .returned (.tuple #[.int .i64 i0, .int .i64 e0]) ∧ Below w.heap.size w w' := by
  obtain ⟨z, hz⟩ : ∃ z, sizeE R C ds.length = z := ⟨_, rfl⟩
  have HS := Lib.hid (fun w => fSized R C ds.length w hz)
  obtain ⟨hl, a, cap, rfl, h4⟩ := hv
  have H4 := Lib.hid h4
  obtain ⟨n, hn⟩ : ∃ n, ds.length = n := ⟨_, rfl⟩
  clear h4
  by_cases h0 : z = 0
  · subst h0
    have HE := Lib.hid (show firstE ds.length (fmG ds) = (i0, e0) by rw [← he]; unfold fmE; rw [if_pos hz])
    rw [hn] at hl HE H4 HS ⊢
    clear hz he
    go_enter Tryd.func32, Tryd.ntmps32
    go_wp2_with (first | (go_at_call 64; (with_reducible refine (HS.out _).mono ?_); rintro e w' ⟨rfl, rfl⟩))
    refine any_worldF (fun W => Below w.heap.size w W) (by (repeat' (first | with_reducible exact Below.refl _ _ | (with_reducible refine below_later_of ?_ ?_ _) | (with_reducible refine Below.alloc ?_ ?_ _) | (with_reducible refine Below.setCell ?_ ?_ _) | (with_reducible refine Below.drew ?_) | (simp; done) | (simp; omega) | omega))) ?_
    rintro W3 hb3
    have HB3 := Lib.hid hb3
    have hs3 := hb3.size
    clear hb3
    go_loopw [21] (fun i wr => ∃ k : Nat, k ≤ n ∧ i = .int .i64 k ∧ Below W3.heap.size W3 wr ∧ ∀ j, j < k → fmG ds j = 0) (fun i _ => n - (intOf i).toNat)
    case atStart => exact ⟨0, Nat.zero_le _, rfl, Below.refl _ _, fun j hj => absurd hj (Nat.not_lt_zero _)⟩
    case round =>
      obtain ⟨k, hk, rfl, hnx, hz⟩ := hrel
      have HX := Lib.hid (HB3.out.trans (hnx.mono hs3))
      have HXN := Lib.hid hnx
      have hs4 := hnx.size
      have hsz : w.heap.size ≤ wr.heap.size := by omega
      have HZ := Lib.hid hz
      clear hz hnx
      by_cases hlt : k < n
      · have hdk : decide ((k : Int) < (n : Int)) = true := by simp; omega
        have hk0 : (0 : Int) ≤ (k : Int) := by omega
        have hk1 : (k : Int) < (n : Int) := by omega
        obtain ⟨b, off, rfl, hbw, hc⟩ := H4.out (by omega)
        have ck := (HX.out.cell (p := ⟨b, off + k, none⟩) hbw).trans (hc k hlt)
        have hbr : b < wr.heap.size := by omega
        clear hc
        have HQ := Lib.hid (show fmG ds k ≠ 0 → (k, fmG ds k) = (i0, e0) from fun h => (firstE_hit hlt HZ.out h).symm.trans HE.out)
        have HR := Lib.hid (show fmG ds k = 0 → ∀ j, j < k + 1 → fmG ds j = 0 from fun h j hj => by
          rcases Nat.lt_succ_iff_lt_or_eq.1 hj with h' | rfl
          · exact HZ.out j h'
          · exact h)
        have hF : Fl4 (flAt ds k) (fmG ds k) := fl4_any _
        generalize fmG ds k = e at hF HQ HR
        generalize flAt ds k = x at hF ck
        rcases hF with ⟨f1, rfl⟩ | ⟨f1, ⟨V, f2, f3, rfl⟩ | ⟨f2, ⟨f3, rfl⟩ | ⟨f3, ⟨f4, rfl⟩ | ⟨f4, T, c, f5, ⟨f6, f7⟩, f8, hc⟩⟩⟩⟩
        · skip
          obtain ⟨rfl, rfl⟩ := Prod.mk.inj (HQ.out (by decide))
          clear HQ HR HZ HE
          go_wp2_with (first | (go_at_call 51; (with_reducible refine (fWithin _ _ _ _ HW.out).mono ?_); rintro e w' ⟨rfl, rfl⟩))
          go_ret2
          exact ⟨rfl, HX.out.trans (below_mono_of hsz (by (repeat' (first | with_reducible exact Below.refl _ _ | (with_reducible refine below_later_of ?_ ?_ _) | (with_reducible refine Below.alloc ?_ ?_ _) | (with_reducible refine Below.setCell ?_ ?_ _) | (with_reducible refine Below.drew ?_) | (simp; done) | (simp; omega) | omega))))⟩
        · skip
          obtain ⟨rfl, rfl⟩ := Prod.mk.inj (HQ.out (by decide))
          clear HQ HR HZ HE
          go_wp2_with (first | (go_at_call 51; (with_reducible refine (fWithin _ _ _ _ HW.out).mono ?_); rintro e w' ⟨rfl, rfl⟩))
          go_ret2
          exact ⟨rfl, HX.out.trans (below_mono_of hsz (by (repeat' (first | with_reducible exact Below.refl _ _ | (with_reducible refine below_later_of ?_ ?_ _) | (with_reducible refine Below.alloc ?_ ?_ _) | (with_reducible refine Below.setCell ?_ ?_ _) | (with_reducible refine Below.drew ?_) | (simp; done) | (simp; omega) | omega))))⟩
        · have f9 : (FloatKind.f32.format.order 0 0 != some Ordering.eq) = false := by decide
          obtain ⟨rfl, rfl⟩ := Prod.mk.inj (HQ.out (by decide))
          clear HQ HR HZ HE
          go_wp2_with (first | (go_at_call 51; (with_reducible refine (fWithin _ _ _ _ HW.out).mono ?_); rintro e w' ⟨rfl, rfl⟩))
          go_ret2
          exact ⟨rfl, HX.out.trans (below_mono_of hsz (by (repeat' (first | with_reducible exact Below.refl _ _ | (with_reducible refine below_later_of ?_ ?_ _) | (with_reducible refine Below.alloc ?_ ?_ _) | (with_reducible refine Below.setCell ?_ ?_ _) | (with_reducible refine Below.drew ?_) | (simp; done) | (simp; omega) | omega))))⟩
        · have f9 : (FloatKind.f32.format.order 0 0 != some Ordering.eq) = false := by decide
          obtain ⟨rfl, rfl⟩ := Prod.mk.inj (HQ.out (by decide))
          clear HQ HR HZ HE
          go_wp2_with (first | (go_at_call 51; (with_reducible refine (fWithin _ _ _ _ HW.out).mono ?_); rintro e w' ⟨rfl, rfl⟩))
          go_ret2
          exact ⟨rfl, HX.out.trans (below_mono_of hsz (by (repeat' (first | with_reducible exact Below.refl _ _ | (with_reducible refine below_later_of ?_ ?_ _) | (with_reducible refine Below.alloc ?_ ?_ _) | (with_reducible refine Below.setCell ?_ ?_ _) | (with_reducible refine Below.drew ?_) | (simp; done) | (simp; omega) | omega))))⟩
        · have f9 : (FloatKind.f32.format.order 0 0 != some Ordering.eq) = false := by decide
          cases c
          · rw [if_neg (by decide)] at hc
            rcases (show inE (-100000) 100000 T = false ∨ inE (-100000) 100000 T = true by cases inE (-100000) 100000 T <;> simp) with hw | hw
            · rw [hw, if_neg (by decide)] at hc
              subst hc
              have HW := Lib.hid hw
              clear hw
              obtain ⟨rfl, rfl⟩ := Prod.mk.inj (HQ.out (by decide))
              clear HQ HR HZ HE
              go_wp2_with (first | (go_at_call 51; (with_reducible refine (fWithin _ _ _ _ HW.out).mono ?_); rintro e w' ⟨rfl, rfl⟩))
              go_ret2
              exact ⟨rfl, HX.out.trans (below_mono_of hsz (by (repeat' (first | with_reducible exact Below.refl _ _ | (with_reducible refine below_later_of ?_ ?_ _) | (with_reducible refine Below.alloc ?_ ?_ _) | (with_reducible refine Below.setCell ?_ ?_ _) | (with_reducible refine Below.drew ?_) | (simp; done) | (simp; omega) | omega))))⟩
            · rw [hw, if_pos rfl] at hc
              subst hc
              have HW := Lib.hid hw
              clear hw
              go_wp2_with (first | (go_at_call 51; (with_reducible refine (fWithin _ _ _ _ HW.out).mono ?_); rintro e w' ⟨rfl, rfl⟩))
              go_roundw
              case rel => exact ⟨k + 1, by omega, by go_num, HXN.out.trans (below_mono_of hs4 (by (repeat' (first | with_reducible exact Below.refl _ _ | (with_reducible refine below_later_of ?_ ?_ _) | (with_reducible refine Below.alloc ?_ ?_ _) | (with_reducible refine Below.setCell ?_ ?_ _) | (with_reducible refine Below.drew ?_) | (simp; done) | (simp; omega) | omega)))), HR.out (by simp)⟩
              case measure => simp [intOf]; omega
          · rw [if_pos rfl] at hc
            subst hc
            obtain ⟨rfl, rfl⟩ := Prod.mk.inj (HQ.out (by decide))
            clear HQ HR HZ HE
            go_wp2_with (first | (go_at_call 51; (with_reducible refine (fWithin _ _ _ _ HW.out).mono ?_); rintro e w' ⟨rfl, rfl⟩))
            go_ret2
            exact ⟨rfl, HX.out.trans (below_mono_of hsz (by (repeat' (first | with_reducible exact Below.refl _ _ | (with_reducible refine below_later_of ?_ ?_ _) | (with_reducible refine Below.alloc ?_ ?_ _) | (with_reducible refine Below.setCell ?_ ?_ _) | (with_reducible refine Below.drew ?_) | (simp; done) | (simp; omega) | omega))))⟩
      · obtain rfl : k = n := by omega
        have hE := (firstE_ok HZ.out).symm.trans HE.out
        obtain ⟨rfl, rfl⟩ := Prod.mk.inj hE
        have hdk : decide ((k : Int) < (k : Int)) = false := by simp
        clear HE HZ hE
        go_wp2
        go_ret2
        exact ⟨rfl, HX.out.trans (below_mono_of hsz (by (repeat' (first | with_reducible exact Below.refl _ _ | (with_reducible refine below_later_of ?_ ?_ _) | (with_reducible refine Below.alloc ?_ ?_ _) | (with_reducible refine Below.setCell ?_ ?_ _) | (with_reducible refine Below.drew ?_) | (simp; done) | (simp; omega) | omega))))⟩
  · have he' : (0, z) = (i0, e0) := by rw [← he]; unfold fmE; rw [hz, if_neg h0]
    obtain ⟨rfl, rfl⟩ := Prod.mk.inj he'
    have hne : (z != 0) = true := by simpa using h0
    clear hz he he' h0 hn
    go_enter Tryd.func32, Tryd.ntmps32
    go_wp2_with (first | (go_at_call 64; (with_reducible refine (HS.out _).mono ?_); rintro e w' ⟨rfl, rfl⟩))
    go_ret2
    exact ⟨rfl, (by (repeat' (first | with_reducible exact Below.refl _ _ | (with_reducible refine below_later_of ?_ ?_ _) | (with_reducible refine Below.alloc ?_ ?_ _) | (with_reducible refine Below.setCell ?_ ?_ _) | (with_reducible refine Below.drew ?_) | (simp; done) | (simp; omega) | omega)))⟩
/-- The wide word of a narrow one: as it is, or drawn. -/
theorem wideD (b : Nat) : (∃ r, wholeD r = wholeB b ∧ ∀ w, (convert 87 41 (.float .f32 b)).run Tryd.prog w = .ok (.float .f64 r) w) ∨
    (wholeB b = false ∧ ∃ V : World → Nat, (∀ w, (convert 87 41 (.float .f32 b)).run Tryd.prog w = .ok (.float .f64 (V w)) w.drew) ∧ ∀ w, wholeD (V w) = false) := by
  cases hd : Ieee.single.read b with
  | number s m e =>
    obtain ⟨h1, h2, h3⟩ := read_single hd
    obtain ⟨k, last, d, hr, _⟩ := wide_of (s := s) h1 h2 h3
    have hd1 : FloatKind.f32.decode b = .number s m e := hd
    have hd2 : FloatKind.f64.decode (FloatKind.f64.encode (.number s m e)) = .number s k last := hr
    refine .inl ⟨Ieee.double.write (.number s m e), wide_whole (by unfold WideOf; rw [hd]), fun w => run_convert_float_float (P := Tryd.prog) w 87 41 .f32 .f64 b _ (by kernel_rfl) Tryd.underlying41 ?_⟩
    unfold floatToFloatBits
    rw [if_neg (by decide), hd1]
    dsimp only
    rw [hd2]
    rfl
  | infinity s =>
    have hd1 : FloatKind.f32.decode b = .infinity s := hd
    refine .inl ⟨Ieee.double.word s Ieee.double.infRung, wide_whole (by unfold WideOf; rw [hd]), fun w => run_convert_float_float (P := Tryd.prog) w 87 41 .f32 .f64 b _ (by kernel_rfl) Tryd.underlying41 ?_⟩
    unfold floatToFloatBits
    rw [if_neg (by decide), hd1]
    rfl
  | nan s t =>
    have hd1 : FloatKind.f32.decode b = .nan s t := hd
    refine .inr ⟨by unfold wholeB; rw [hd]; rfl, fun w => Question.cut (.nanConv .f64 b) (w.tape w.drawn (.nanConv .f64 b)), fun w => ?_, fun w => ?_⟩
    · have e1 : (convert 87 41 (.float .f32 b)).run Tryd.prog w = (Conv.floatToFloat .f32 b .f64).run Tryd.prog w := by kernel_rfl
      rw [e1]
      unfold Conv.floatToFloat
      rw [if_neg (by decide), hd1]
      dsimp only
      rw [Sem.run_bind, run_choose_drew]
      rfl
    · obtain ⟨s', u, hu⟩ := nan_drawn (w.tape w.drawn (.nanConv .f64 b))
      unfold wholeD
      rw [show Ieee.double.read (Question.cut (.nanConv .f64 b) (w.tape w.drawn (.nanConv .f64 b))) = .nan s' u from hu]
      rfl
set_option maxRecDepth 20000 in
set_option maxHeartbeats 4000000 in
theorem rCheckFl (R C : Int) (ds : List Nat) (v : Value) (w : World) (hv : FlV w v ds) {i0 : Nat} {e0 : Int} (he : fmE R C ds = (i0, e0)) :
    Calls Tryd.prog 35 #[.agg #[.int .i64 R, .int .i64 C, v]] w fun e w' => e = .returned (.tuple #[.int .i64 i0, .int .i64 e0]) ∧ Below w.heap.size w w' := by
  obtain ⟨z, hz⟩ : ∃ z, sizeE R C ds.length = z := ⟨_, rfl⟩
  have HS := Lib.hid (fun w => rSize4 R C ds.length w hz)
  obtain ⟨hl, a, cap, rfl, h4⟩ := hv
  have H4 := Lib.hid h4
  obtain ⟨n, hn⟩ : ∃ n, ds.length = n := ⟨_, rfl⟩
  clear h4
  by_cases h0 : z = 0
  · subst h0
    have HE := Lib.hid (show firstE ds.length (fmG ds) = (i0, e0) by rw [← he]; unfold fmE; rw [if_pos hz])
    rw [hn] at hl HE H4 HS ⊢
    clear hz he
    go_enter Tryd.func35, Tryd.ntmps35
    go_wp2_with (first | (go_at_call 58; (with_reducible refine (HS.out _).mono ?_); rintro e w' ⟨rfl, rfl⟩))
    refine any_worldF (fun W => W.cell? ⟨w.heap.size, 2, none⟩ = some (.slice a n cap) ∧ w.heap.size < W.heap.size ∧ Below w.heap.size w W) ⟨by (first | (simp [go_sem]; done) | simp [go_sem, ↓IntWalk.iteOmega]), by simp, (by (repeat' (first | with_reducible exact Below.refl _ _ | (with_reducible refine below_later_of ?_ ?_ _) | (with_reducible refine Below.alloc ?_ ?_ _) | (with_reducible refine Below.setCell ?_ ?_ _) | (with_reducible refine Below.drew ?_) | (simp; done) | (simp; omega) | omega)))⟩ ?_
    rintro W3 ⟨hc3, hlt3, hb3⟩
    have HB3 := Lib.hid hb3
    have hs3 := hb3.size
    have HC3 := Lib.hid hc3
    clear hb3 hc3
    go_loopw [5] (fun i wr => ∃ k : Nat, k ≤ n ∧ i = .int .i64 k ∧ Below W3.heap.size W3 wr ∧ ∀ j, j < k → fmG ds j = 0) (fun i _ => n - (intOf i).toNat)
    case atStart => exact ⟨0, Nat.zero_le _, rfl, Below.refl _ _, fun j hj => absurd hj (Nat.not_lt_zero _)⟩
    case round =>
      obtain ⟨k, hk, rfl, hnx, hz⟩ := hrel
      have HX := Lib.hid (HB3.out.trans (hnx.mono hs3))
      have HXN := Lib.hid hnx
      have hs4 := hnx.size
      have hsz : w.heap.size ≤ wr.heap.size := by omega
      have hlt4 : w.heap.size < wr.heap.size := by omega
      have hm := (hnx.cell (p := ⟨w.heap.size, 2, none⟩) hlt3).trans HC3.out
      have HZ := Lib.hid hz
      clear hz hnx
      by_cases hlt : k < n
      · have hdk : decide ((k : Int) < (n : Int)) = true := by simp; omega
        have hk0 : (0 : Int) ≤ (k : Int) := by omega
        have hk1 : (k : Int) < (n : Int) := by omega
        obtain ⟨b, off, rfl, hbw, hc⟩ := H4.out (by omega)
        have ck := (HX.out.cell (p := ⟨b, off + k, none⟩) hbw).trans (hc k hlt)
        have hbr : b < wr.heap.size := by omega
        clear hc
        have HQ := Lib.hid (show fmG ds k ≠ 0 → (k, fmG ds k) = (i0, e0) from fun h => (firstE_hit hlt HZ.out h).symm.trans HE.out)
        have HR := Lib.hid (show fmG ds k = 0 → ∀ j, j < k + 1 → fmG ds j = 0 from fun h j hj => by
          rcases Nat.lt_succ_iff_lt_or_eq.1 hj with h' | rfl
          · exact HZ.out j h'
          · exact h)
        have hf : fmG ds k = if wholeB (flAt ds k) then (if lo4 (flAt ds k) || hi4 (flAt ds k) then 2 else 0) else 29 := rfl
        have hwd := wideD (flAt ds k)
        generalize fmG ds k = e at hf HQ HR
        generalize flAt ds k = x at hf ck hwd
        rcases hwd with ⟨r, hr, hcv⟩ | ⟨hwb, V, hcv, hV⟩
        · rcases (show wholeB x = false ∨ wholeB x = true by cases wholeB x <;> simp) with hwb | hwb
          · rw [hwb, if_neg (by decide)] at hf
            subst hf
            have HWH := Lib.hid (show ∀ w, Calls Tryd.prog 68 #[.float .f64 r] w fun e w' => e = .returned (.bool false) ∧ Below w.heap.size w w' from fun w => by rw [← hwb, ← hr]; exact bIsWhole_any r w)
            clear hwb hr
            obtain ⟨rfl, rfl⟩ := Prod.mk.inj (HQ.out (by decide))
            clear HQ HR HZ HE
            go_wp2_with (first | (go_at_call 68; (with_reducible refine (HWH.out _).mono ?_); rintro e w' ⟨rfl, hb⟩; obtain ⟨pp, rfl⟩ := later_of_below hb; clear hb))
            go_ret2
            exact ⟨rfl, HX.out.trans (below_mono_of hsz (by (repeat' (first | with_reducible exact Below.refl _ _ | (with_reducible refine below_later_of ?_ ?_ _) | (with_reducible refine Below.alloc ?_ ?_ _) | (with_reducible refine Below.setCell ?_ ?_ _) | (with_reducible refine Below.drew ?_) | (simp; done) | (simp; omega) | omega))))⟩
          · rw [hwb, if_pos rfl] at hf
            have HWH := Lib.hid (show ∀ w, Calls Tryd.prog 68 #[.float .f64 r] w fun e w' => e = .returned (.bool true) ∧ Below w.heap.size w w' from fun w => by rw [← hwb, ← hr]; exact bIsWhole_any r w)
            clear hwb hr
            rcases (show lo4 x = false ∨ lo4 x = true by cases lo4 x <;> simp) with h6 | h6
            · rcases (show hi4 x = false ∨ hi4 x = true by cases hi4 x <;> simp) with h7 | h7
              · rw [h6, h7, if_neg (by decide)] at hf
                subst hf
                unfold lo4 at h6
                unfold hi4 at h7
                go_wp2_with (first | (go_at_call 68; (with_reducible refine (HWH.out _).mono ?_); rintro e w' ⟨rfl, hb⟩; obtain ⟨pp, rfl⟩ := later_of_below hb; clear hb))
                go_roundw
                case rel => exact ⟨k + 1, by omega, by go_num, HXN.out.trans (below_mono_of hs4 (by (repeat' (first | with_reducible exact Below.refl _ _ | (with_reducible refine below_later_of ?_ ?_ _) | (with_reducible refine Below.alloc ?_ ?_ _) | (with_reducible refine Below.setCell ?_ ?_ _) | (with_reducible refine Below.drew ?_) | (simp; done) | (simp; omega) | omega)))), HR.out (by simp)⟩
                case measure => simp [intOf]; omega
              · rw [h6, h7, if_pos (by decide)] at hf
                subst hf
                unfold lo4 at h6
                unfold hi4 at h7
                obtain ⟨rfl, rfl⟩ := Prod.mk.inj (HQ.out (by decide))
                clear HQ HR HZ HE
                go_wp2_with (first | (go_at_call 68; (with_reducible refine (HWH.out _).mono ?_); rintro e w' ⟨rfl, hb⟩; obtain ⟨pp, rfl⟩ := later_of_below hb; clear hb))
                go_ret2
                exact ⟨rfl, HX.out.trans (below_mono_of hsz (by (repeat' (first | with_reducible exact Below.refl _ _ | (with_reducible refine below_later_of ?_ ?_ _) | (with_reducible refine Below.alloc ?_ ?_ _) | (with_reducible refine Below.setCell ?_ ?_ _) | (with_reducible refine Below.drew ?_) | (simp; done) | (simp; omega) | omega))))⟩
            · rw [h6, Bool.true_or, if_pos rfl] at hf
              subst hf
              unfold lo4 at h6
              obtain ⟨rfl, rfl⟩ := Prod.mk.inj (HQ.out (by decide))
              clear HQ HR HZ HE
              go_wp2_with (first | (go_at_call 68; (with_reducible refine (HWH.out _).mono ?_); rintro e w' ⟨rfl, hb⟩; obtain ⟨pp, rfl⟩ := later_of_below hb; clear hb))
              go_ret2
              exact ⟨rfl, HX.out.trans (below_mono_of hsz (by (repeat' (first | with_reducible exact Below.refl _ _ | (with_reducible refine below_later_of ?_ ?_ _) | (with_reducible refine Below.alloc ?_ ?_ _) | (with_reducible refine Below.setCell ?_ ?_ _) | (with_reducible refine Below.drew ?_) | (simp; done) | (simp; omega) | omega))))⟩
        · rw [hwb, if_neg (by decide)] at hf
          subst hf
          have HWH := Lib.hid (show ∀ w, Calls Tryd.prog 68 #[.float .f64 (V wr)] w fun e w' => e = .returned (.bool false) ∧ Below w.heap.size w w' from fun w => by rw [← hV wr]; exact bIsWhole_any _ w)
          clear hwb hV
          obtain ⟨rfl, rfl⟩ := Prod.mk.inj (HQ.out (by decide))
          clear HQ HR HZ HE
          go_wp2_with (first | (go_at_call 68; (with_reducible refine (HWH.out _).mono ?_); rintro e w' ⟨rfl, hb⟩; obtain ⟨pp, rfl⟩ := later_of_below hb; clear hb))
          go_ret2
          exact ⟨rfl, HX.out.trans (below_mono_of hsz (by (repeat' (first | with_reducible exact Below.refl _ _ | (with_reducible refine below_later_of ?_ ?_ _) | (with_reducible refine Below.alloc ?_ ?_ _) | (with_reducible refine Below.setCell ?_ ?_ _) | (with_reducible refine Below.drew ?_) | (simp; done) | (simp; omega) | omega))))⟩
      · obtain rfl : k = n := by omega
        have hE := (firstE_ok HZ.out).symm.trans HE.out
        obtain ⟨rfl, rfl⟩ := Prod.mk.inj hE
        have hdk : decide ((k : Int) < (k : Int)) = false := by simp
        clear HE HZ hE
        go_wp2
        go_ret2
        exact ⟨rfl, HX.out.trans (below_mono_of hsz (by (repeat' (first | with_reducible exact Below.refl _ _ | (with_reducible refine below_later_of ?_ ?_ _) | (with_reducible refine Below.alloc ?_ ?_ _) | (with_reducible refine Below.setCell ?_ ?_ _) | (with_reducible refine Below.drew ?_) | (simp; done) | (simp; omega) | omega))))⟩
  · have he' : (0, z) = (i0, e0) := by rw [← he]; unfold fmE; rw [hz, if_neg h0]
    obtain ⟨rfl, rfl⟩ := Prod.mk.inj he'
    have hne : (z != 0) = true := by simpa using h0
    clear hz he he' h0 hn
    go_enter Tryd.func35, Tryd.ntmps35
    go_wp2_with (first | (go_at_call 58; (with_reducible refine (HS.out _).mono ?_); rintro e w' ⟨rfl, rfl⟩))
    go_ret2
    exact ⟨rfl, (by (repeat' (first | with_reducible exact Below.refl _ _ | (with_reducible refine below_later_of ?_ ?_ _) | (with_reducible refine Below.alloc ?_ ?_ _) | (with_reducible refine Below.setCell ?_ ?_ _) | (with_reducible refine Below.drew ?_) | (simp; done) | (simp; omega) | omega)))⟩
end Go.Proofs.YtfiioadmpjmmgaaDoor
