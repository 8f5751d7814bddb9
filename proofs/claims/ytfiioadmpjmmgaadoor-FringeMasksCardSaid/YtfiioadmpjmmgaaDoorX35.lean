/- Chapter 4: the law FringeMasks returns true. -/
import Derived.Test.YtfiioadmpjmmgaaDoorX34
import Derived.Test.YtfiioadmpjmmgaaDoorX20
import Derived.Test.YtfiioadmpjmmgaaDoorX5
namespace Go.Proofs.YtfiioadmpjmmgaaDoor
set_option linter.unusedVariables false
set_option linter.unusedSimpArgs false
open Go.RowKit Ntt
/-- A float map as an argument. -/
def FlX (w : World) (v : Value) (ds : List Nat) : Prop :=
  ∃ a cap, v = .slice a ds.length cap ∧ (0 < ds.length → ∃ b off, a = some ⟨b, off, none⟩ ∧ b < w.heap.size ∧ ∀ k, k < ds.length → w.cell? ⟨b, off + k, none⟩ = some (.float .f32 (flAt ds k)))
theorem FlX.fl {w : World} {v : Value} {ds : List Nat} (h : FlX w v ds) (hl : ds.length ≤ 1000000000) : FlV w v ds := ⟨hl, h⟩
/-- What Masked says: a map, or nothing. -/
def MkSay (W : World) (B : Nat) (R C : Int) (n : Nat) (L : List Int) (E : Int) (r c : Int) (k : Nat) (a : Option Addr) (cc : Nat) : Prop :=
  (E = 0 → r = R ∧ c = C ∧ k = n ∧ OwnIV B W (.slice a k cc) L) ∧ (E ≠ 0 → r = 0 ∧ c = 0 ∧ k = 0)
theorem MkSay.below {W W' : World} {B n k cc : Nat} {R C E r c : Int} {L : List Int} {a : Option Addr} (h : MkSay W B R C n L E r c k a cc) (hb : Below W.heap.size W W') : MkSay W' B R C n L E r c k a cc :=
  ⟨fun e => by obtain ⟨h1, h2, h3, h4⟩ := h.1 e; exact ⟨h1, h2, h3, h4.below hb⟩, h.2⟩
theorem MkSay.mono {W : World} {B B' n k cc : Nat} {R C E r c : Int} {L : List Int} {a : Option Addr} (h : MkSay W B R C n L E r c k a cc) (hb : B' ≤ B) : MkSay W B' R C n L E r c k a cc :=
  ⟨fun e => by obtain ⟨h1, h2, h3, h4⟩ := h.1 e; exact ⟨h1, h2, h3, h4.mono hb⟩, h.2⟩
theorem MkSay.set {W : World} {B n k cc : Nat} {R C E r c : Int} {L : List Int} {a : Option Addr} (h : MkSay W B R C n L E r c k a cc) {p : Addr} (hp : p.block < B) (v : Value) : MkSay (W.setCell p v) B R C n L E r c k a cc :=
  ⟨fun e => by obtain ⟨h1, h2, h3, h4⟩ := h.1 e; exact ⟨h1, h2, h3, h4.set hp v⟩, h.2⟩
theorem masked_det (R C : Int) (zs : List Int) (v : Value) (R' C' : Int) (ds : List Nat) (u : Value) (m : Int) (w : World) (hl : zs.length ≤ 100000) (hv : IntsV w v zs) (hu : FlV w u ds) {e0 : Int} (he : maskE R C zs R' C' ds m = e0) :
    Calls Tryd.prog 34 #[.agg #[.int .i64 R, .int .i64 C, v], .agg #[.int .i64 R', .int .i64 C', u], .int .i64 m] w fun e w' => ∃ r c k a cc, e = .returned (.tuple #[.agg #[.int .i64 r, .int .i64 c, .slice a k cc], .int .i64 e0]) ∧ MkSay w' w.heap.size R C zs.length (maskL zs ds m) e0 r c k a cc ∧ Below w.heap.size w w' := by
  by_cases h0 : e0 = 0
  · subst h0
    refine (masked_ok R C zs v R' C' ds u m w hl hv hu he).mono ?_
    rintro e w' ⟨a, c, rfl, ho, hb⟩
    exact ⟨_, _, _, a, c, rfl, ⟨fun _ => ⟨rfl, rfl, rfl, ho⟩, fun h => absurd rfl h⟩, hb⟩
  · refine (masked_bad R C zs v R' C' ds u m w hl hv hu he h0).mono ?_
    rintro e w' ⟨rfl, hb⟩
    exact ⟨0, 0, 0, none, 0, rfl, ⟨fun h => absurd h h0, fun _ => ⟨rfl, rfl, rfl⟩⟩, hb⟩
set_option maxHeartbeats 400000 in
theorem lNoMap0 (a : Option Addr) (cap : Nat) (w : World) :
    Calls Tryd.prog 36 #[.agg #[.int .i64 0, .int .i64 0, .slice a 0 cap]] w fun e w' => e = .returned (.bool true) ∧ Below w.heap.size w w' := by
  go_enter Tryd.func36, Tryd.ntmps36
  go_wp2
  go_ret
  exact ⟨ret_bool (by simp), (by (repeat' (first | with_reducible exact Below.refl _ _ | (with_reducible refine below_later_of ?_ ?_ _) | (with_reducible refine Below.alloc ?_ ?_ _) | (with_reducible refine Below.setCell ?_ ?_ _) | (with_reducible refine Below.drew ?_) | (simp; done) | (simp; omega) | omega)))⟩
set_option maxRecDepth 20000 in
set_option maxHeartbeats 40000000 in
theorem masks_any (R C : Int) (zs : List Int) (v : Value) (R' C' : Int) (ds : List Nat) (u : Value) (m : Int) (w : World) (hx : IntsX w v zs) (hq : FlX w u ds) (ht : Tab w) :
    Calls Tryd.prog 8 #[.agg #[.int .i64 R, .int .i64 C, v], .agg #[.int .i64 R', .int .i64 C', u], .int .i64 m] w fun e w' => e = .returned (.bool true) ∧ Below w.heap.size w w' := by
  have HT := Lib.hid ht
  clear ht
  by_cases hn : zs.length ≤ 150
  · by_cases hn2 : ds.length ≤ 150
    · have hv := hx.ints (by omega)
      have hu := hq.fl (by omega)
      obtain ⟨⟨a, cap, rfl, -⟩, -⟩ := hx
      obtain ⟨a', cap', rfl, -⟩ := hq
      have HLI := Lib.hid (fun w => lLight R C zs.length cap a w (decide_eq_true hn))
      have hd2 : decide (150 < (ds.length : Int)) = false := by simp; omega
      obtain ⟨i1, z1, hz1⟩ : ∃ i1 z1, mapE R C zs = (i1, z1) := ⟨_, _, rfl⟩
      obtain ⟨i2, z2, hz2⟩ : ∃ i2 z2, fmE R' C' ds = (i2, z2) := ⟨_, _, rfl⟩
      obtain ⟨E, hE⟩ : ∃ E, maskE R C zs R' C' ds m = E := ⟨_, rfl⟩
      have HE := Lib.hid hE
      have HFE := Lib.hid hz2
      have HCF0 := Lib.hid (show ∀ W, Below w.heap.size w W → _ from fun W hW => copyFl_any R' C' ds _ W (hu.below hW))
      have HCP0 := Lib.hid (show ∀ W, Below w.heap.size w W → _ from fun W hW => bCopyPhases R C zs _ W (hv.below hW))
      have HRF0 := Lib.hid (show ∀ W, Below w.heap.size w W → _ from fun W hW => rCheckFl R' C' ds _ W (hu.below hW) hz2)
      have HRM0 := Lib.hid (show ∀ W, Below w.heap.size w W → _ from fun W hW => rCheckMap R C zs _ W (by omega) (hv.below hW) hz1)
      have HCF := Lib.hid HCF0.out
      have HVV := Lib.hid hv
      have HUU := Lib.hid hu
      have HEE := Lib.hid (show (if first2 z1 z2 = 0 then (if R = R' ∧ C = C' then (if inE (-100000) 100000 m then 0 else 2) else 13) else first2 z1 z2) = E by rw [← hE]; unfold maskE; rw [hz1, hz2])
      clear hv hu hE
      go_enter Tryd.func8, Tryd.ntmps8
      go_wp2_with (first | (go_at_call 9; (with_reducible refine (awake4 _ (HT.out.below (by (repeat' (first | with_reducible exact Below.refl _ _ | (with_reducible refine below_later_of ?_ ?_ _) | (with_reducible refine Below.alloc ?_ ?_ _) | (with_reducible refine Below.setCell ?_ ?_ _) | (with_reducible refine Below.drew ?_) | (simp; done) | (simp; omega) | omega))))).mono ?_); rintro e w' ⟨rfl, hb⟩; obtain ⟨pp, rfl⟩ := later_of_below hb; clear hb) | (go_at_call 19; (with_reducible refine (HLI.out _).mono ?_); rintro e w' ⟨rfl, hb⟩; obtain ⟨p0, rfl⟩ := later_of_below hb; clear hb) | (go_at_call 33; (with_reducible refine (HCF.out _ (by (repeat' (first | with_reducible exact Below.refl _ _ | (with_reducible refine below_later_of ?_ ?_ _) | (with_reducible refine Below.alloc ?_ ?_ _) | (with_reducible refine Below.setCell ?_ ?_ _) | (with_reducible refine Below.drew ?_) | (simp; done) | (simp; omega) | omega)))).mono ?_); rintro e w' ⟨a1, c1, rfl, hv, hb⟩; have HV1 := Lib.hid hv.fl; clear hv; obtain ⟨p1, rfl⟩ := later_of_below hb; clear hb) | (go_at_call 32; (with_reducible refine (checkFl_any R' C' ds _ _ (HV1.out.below (by (repeat' (first | with_reducible exact Below.refl _ _ | (with_reducible refine below_later_of ?_ ?_ _) | (with_reducible refine Below.alloc ?_ ?_ _) | (with_reducible refine Below.setCell ?_ ?_ _) | (with_reducible refine Below.drew ?_) | (simp; done) | (simp; omega) | omega)))) HFE.out).mono ?_); rintro e w' ⟨rfl, hb⟩; obtain ⟨p2, rfl⟩ := later_of_below hb; clear hb))
      refine any_worldF (fun w' => (w'.cell? ⟨w.heap.size, 0, none⟩ = some (.int .i64 R) ∧ w'.cell? ⟨w.heap.size, 1, none⟩ = some (.int .i64 C) ∧ w'.cell? ⟨w.heap.size, 2, none⟩ = some (.slice a zs.length cap)) ∧ (w'.cell? ⟨w.heap.size + 1, 0, none⟩ = some (.int .i64 R') ∧ w'.cell? ⟨w.heap.size + 1, 1, none⟩ = some (.int .i64 C') ∧ w'.cell? ⟨w.heap.size + 1, 2, none⟩ = some (.slice a' ds.length cap')) ∧ Below w.heap.size w w' ∧ w.heap.size + 1 < w'.heap.size) ⟨⟨(by (first | (simp [go_sem]; done) | simp [go_sem, ↓IntWalk.iteOmega])), (by (first | (simp [go_sem]; done) | simp [go_sem, ↓IntWalk.iteOmega])), (by (first | (simp [go_sem]; done) | simp [go_sem, ↓IntWalk.iteOmega]))⟩, ⟨(by (first | (simp [go_sem]; done) | simp [go_sem, ↓IntWalk.iteOmega])), (by (first | (simp [go_sem]; done) | simp [go_sem, ↓IntWalk.iteOmega])), (by (first | (simp [go_sem]; done) | simp [go_sem, ↓IntWalk.iteOmega]))⟩, (by (repeat' (first | with_reducible exact Below.refl _ _ | (with_reducible refine below_later_of ?_ ?_ _) | (with_reducible refine Below.alloc ?_ ?_ _) | (with_reducible refine Below.setCell ?_ ?_ _) | (with_reducible refine Below.drew ?_) | (simp; done) | (simp; omega) | omega))), by simp; omega⟩ ?_
      clear HV1 HCF
      rintro W1 ⟨⟨k0, k1, k2⟩, ⟨j0, j1, j2⟩, hb1, hlt1⟩
      have HB1 := Lib.hid hb1
      have hs1 := hb1.size
      have HCP := Lib.hid (show ∀ W, Below W1.heap.size W1 W → _ from fun W hW => HCP0.out W (HB1.out.trans (hW.mono hs1)))
      have HCF := Lib.hid (show ∀ W, Below W1.heap.size W1 W → _ from fun W hW => HCF0.out W (HB1.out.trans (hW.mono hs1)))
      clear hb1 HCF0 HCP0
      go_wp2_with fail
      go_cut [9, 10] from 32 to 40 (fun X Y wx => ∃ B r c k q cc, X = .pointer (some ⟨B, 0, none⟩) ∧ Y = .int .i64 E ∧ (wx.cell? ⟨B, 0, none⟩ = some (.int .i64 r) ∧ wx.cell? ⟨B, 1, none⟩ = some (.int .i64 c) ∧ wx.cell? ⟨B, 2, none⟩ = some (.slice q k cc)) ∧ MkSay wx 0 R C zs.length (maskL zs ds m) E r c k q cc ∧ B < wx.heap.size ∧ Below W1.heap.size W1 wx)
      case first =>
        go_region_held3 (fun w' => (w'.cell? ⟨w.heap.size, 0, none⟩ = some (.int .i64 R) ∧ w'.cell? ⟨w.heap.size, 1, none⟩ = some (.int .i64 C) ∧ w'.cell? ⟨w.heap.size, 2, none⟩ = some (.slice a zs.length cap)) ∧ (w'.cell? ⟨w.heap.size + 1, 0, none⟩ = some (.int .i64 R') ∧ w'.cell? ⟨w.heap.size + 1, 1, none⟩ = some (.int .i64 C') ∧ w'.cell? ⟨w.heap.size + 1, 2, none⟩ = some (.slice a' ds.length cap'))) (first | exact ⟨⟨k0, k1, k2⟩, j0, j1, j2⟩ | ((first | (simp [go_sem, k0, k1, k2, j0, j1, j2]; done) | simp [go_sem, k0, k1, k2, j0, j1, j2, ↓IntWalk.iteOmega]); done)) (first | (go_at_call 21; (with_reducible refine (HCP.out _ (by (repeat' (first | with_reducible exact Below.refl _ _ | (with_reducible refine below_later_of ?_ ?_ _) | (with_reducible refine Below.alloc ?_ ?_ _) | (with_reducible refine Below.setCell ?_ ?_ _) | (with_reducible refine Below.drew ?_) | (simp; done) | (simp; omega) | omega)))).mono ?_); rintro e w' ⟨a3, c3, rfl, hv, hb⟩; have HV3 := Lib.hid hv.ints; clear hv; obtain ⟨p3, rfl⟩ := later_of_below hb; clear hb) | (go_at_call 33; (with_reducible refine (HCF.out _ (by (repeat' (first | with_reducible exact Below.refl _ _ | (with_reducible refine below_later_of ?_ ?_ _) | (with_reducible refine Below.alloc ?_ ?_ _) | (with_reducible refine Below.setCell ?_ ?_ _) | (with_reducible refine Below.drew ?_) | (simp; done) | (simp; omega) | omega)))).mono ?_); rintro e w' ⟨a4, c4, rfl, hv, hb⟩; have HV4 := Lib.hid hv.fl; clear hv; obtain ⟨p4, rfl⟩ := later_of_below hb; clear hb) | (go_at_call 34; (with_reducible refine (masked_det R C zs _ R' C' ds _ m _ (by omega) (HV3.out.below (by (repeat' (first | with_reducible exact Below.refl _ _ | (with_reducible refine below_later_of ?_ ?_ _) | (with_reducible refine Below.alloc ?_ ?_ _) | (with_reducible refine Below.setCell ?_ ?_ _) | (with_reducible refine Below.drew ?_) | (simp; done) | (simp; omega) | omega)))) (HV4.out.below (by (repeat' (first | with_reducible exact Below.refl _ _ | (with_reducible refine below_later_of ?_ ?_ _) | (with_reducible refine Below.alloc ?_ ?_ _) | (with_reducible refine Below.setCell ?_ ?_ _) | (with_reducible refine Below.drew ?_) | (simp; done) | (simp; omega) | omega)))) HE.out).mono ?_); rintro e w' ⟨r, c, k, q, cc, rfl, hs, hb⟩; have HS := Lib.hid hs; clear hs; obtain ⟨p5, rfl⟩ := later_of_below hb; clear hb))
        all_goals
          rename_i hheld
          clear hheld
          go_wp2_with fail
          go_meet
          refine ⟨_, r, c, k, q, cc, rfl, rfl, ⟨(by (first | (simp [go_sem]; done) | simp [go_sem, ↓IntWalk.iteOmega])), (by (first | (simp [go_sem]; done) | simp [go_sem, ↓IntWalk.iteOmega])), (by (first | (simp [go_sem]; done) | simp [go_sem, ↓IntWalk.iteOmega]))⟩, ?_, by simp <;> omega, (by (repeat' (first | with_reducible exact Below.refl _ _ | (with_reducible refine below_later_of ?_ ?_ _) | (with_reducible refine Below.alloc ?_ ?_ _) | (with_reducible refine Below.setCell ?_ ?_ _) | (with_reducible refine Below.drew ?_) | (simp; done) | (simp; omega) | omega)))⟩
          first
            | (refine (HS.out.below ?_).mono (Nat.zero_le _); (repeat' (first | with_reducible exact Below.refl _ _ | (with_reducible refine below_later_of ?_ ?_ _) | (with_reducible refine Below.alloc ?_ ?_ _) | (with_reducible refine Below.setCell ?_ ?_ _) | (with_reducible refine Below.drew ?_) | (simp; done) | (simp; omega) | omega)); done)
            | (refine (MkSay.set (MkSay.set (MkSay.set HS.out ?_ _) ?_ _) ?_ _).mono (Nat.zero_le _) <;> simp <;> omega)
      case rest =>
        obtain ⟨B, r, c, k, q, cc, rfl, rfl, ⟨o0, o1, o2⟩, hsay, hB, hb⟩ := hcut
        obtain ⟨W3, hW3⟩ : ∃ W3 : World, W3 = wc := ⟨_, rfl⟩
        subst hW3
        have hs3 := hb.size
        have HB3 := Lib.hid (HB1.out.trans (hb.mono hs1))
        have m0 := (hb.cell (p := ⟨w.heap.size, 0, none⟩) (by simp; omega)).trans k0
        have m1 := (hb.cell (p := ⟨w.heap.size, 1, none⟩) (by simp; omega)).trans k1
        have m2 := (hb.cell (p := ⟨w.heap.size, 2, none⟩) (by simp; omega)).trans k2
        have n0 := (hb.cell (p := ⟨w.heap.size + 1, 0, none⟩) (by simp; omega)).trans j0
        have n1 := (hb.cell (p := ⟨w.heap.size + 1, 1, none⟩) (by simp; omega)).trans j1
        have n2 := (hb.cell (p := ⟨w.heap.size + 1, 2, none⟩) (by simp; omega)).trans j2
        have hw3 : w.heap.size + 1 < W3.heap.size := by omega
        have HRF := Lib.hid (show ∀ W, Below W3.heap.size W3 W → _ from fun W hW => HRF0.out W (HB3.out.trans (hW.mono HB3.out.size)))
        have HRM := Lib.hid (show ∀ W, Below W3.heap.size W3 W → _ from fun W hW => HRM0.out W (HB3.out.trans (hW.mono HB3.out.size)))
        clear k0 k1 k2 j0 j1 j2 hb HCP HCF HRF0 HRM0
        by_cases h1 : z1 = 0
        · subst h1
          by_cases h2 : z2 = 0
          · subst h2
            by_cases h3 : R = R'
            · have d3 : (R != R') = false := by simpa using h3
              by_cases h4 : C = C'
              · have d4 : (C != C') = false := by simpa using h4
                rcases (show inE (-100000) 100000 m = false ∨ inE (-100000) 100000 m = true by cases inE (-100000) 100000 m <;> simp) with hw | hw
                · have hE : (2 : Int) = E := by rw [← HEE.out, if_pos (show first2 0 0 = 0 from rfl), if_pos ⟨h3, h4⟩, hw, if_neg (by decide)]
                  subst hE
                  have HW := Lib.hid hw
                  clear hw h3 h4 HEE HE HFE
                  obtain ⟨rfl, rfl, rfl⟩ := hsay.2 (by first | assumption | decide)
                  clear hsay
                  go_wp2_with (first | (go_at_call 35; (with_reducible refine (HRF.out _ (by (repeat' (first | with_reducible exact Below.refl _ _ | (with_reducible refine below_later_of ?_ ?_ _) | (with_reducible refine Below.alloc ?_ ?_ _) | (with_reducible refine Below.setCell ?_ ?_ _) | (with_reducible refine Below.drew ?_) | (simp; done) | (simp; omega) | omega)))).mono ?_); rintro e w' ⟨rfl, hb⟩; obtain ⟨p6, rfl⟩ := later_of_below hb; clear hb) | (go_at_call 23; (with_reducible refine (HRM.out _ (by (repeat' (first | with_reducible exact Below.refl _ _ | (with_reducible refine below_later_of ?_ ?_ _) | (with_reducible refine Below.alloc ?_ ?_ _) | (with_reducible refine Below.setCell ?_ ?_ _) | (with_reducible refine Below.drew ?_) | (simp; done) | (simp; omega) | omega)))).mono ?_); rintro e w' ⟨rfl, hb⟩; obtain ⟨p7, rfl⟩ := later_of_below hb; clear hb) | (go_at_call 27; (with_reducible refine (bWithin _ _ _ _ HW.out).mono ?_); rintro e w' ⟨rfl, rfl⟩) | (go_at_call 36; (with_reducible refine (lNoMap0 _ _ _).mono ?_); rintro e w' ⟨rfl, hb⟩; obtain ⟨p8, rfl⟩ := later_of_below hb; clear hb))
                  go_ret
                  exact ⟨ret_bool (by simp), HB3.out.trans (below_mono_of HB3.out.size (by (repeat' (first | with_reducible exact Below.refl _ _ | (with_reducible refine below_later_of ?_ ?_ _) | (with_reducible refine Below.alloc ?_ ?_ _) | (with_reducible refine Below.setCell ?_ ?_ _) | (with_reducible refine Below.drew ?_) | (simp; done) | (simp; omega) | omega))))⟩
                · have hE : (0 : Int) = E := by rw [← HEE.out, if_pos (show first2 0 0 = 0 from rfl), if_pos ⟨h3, h4⟩, hw, if_pos rfl]
                  subst hE
                  have HW := Lib.hid hw
                  obtain ⟨hr0, hc0, hk0, hown⟩ := hsay.1 rfl
                  replace hr0 := hr0.symm
                  replace hc0 := hc0.symm
                  replace hk0 := hk0.symm
                  subst hr0 hc0 hk0
                  subst h3
                  subst h4
                  obtain ⟨e1, e2, -, -, -⟩ := maskE_zero HE.out
                  obtain ⟨f1, f2⟩ := fmE_zero e2
                  obtain ⟨⟨r1, r2⟩, ⟨c1', c2'⟩, hnd⟩ := sizeE_okU f1
                  have hnz : zs.length = ds.length := by
                    unfold mapE at e1
                    split at e1
                    · rename_i h
                      have := (sizeE_okU h).2.2
                      omega
                    · exact absurd e1 ‹_›
                  have hpos : 0 < ds.length := by
                    have : 1 * 1 ≤ R * C := Int.mul_le_mul r1 c1' (by omega) (by omega)
                    omega
                  have HRK0 := Lib.hid (show ∀ W, Below w.heap.size w W → _ from fun W hW => rMasked R C zs a cap ds _ m W (by omega) (HVV.out.below hW) (HUU.out.below hW) hnz hpos f2)
                  clear hw HEE HE HFE hsay e1 e2 f1 f2 r1 r2 c1' c2' hnd hnz hpos
                  go_wp2_with (first | (go_at_call 35; (with_reducible refine (HRF.out _ (by (repeat' (first | with_reducible exact Below.refl _ _ | (with_reducible refine below_later_of ?_ ?_ _) | (with_reducible refine Below.alloc ?_ ?_ _) | (with_reducible refine Below.setCell ?_ ?_ _) | (with_reducible refine Below.drew ?_) | (simp; done) | (simp; omega) | omega)))).mono ?_); rintro e w' ⟨rfl, hb⟩; obtain ⟨p6, rfl⟩ := later_of_below hb; clear hb) | (go_at_call 23; (with_reducible refine (HRM.out _ (by (repeat' (first | with_reducible exact Below.refl _ _ | (with_reducible refine below_later_of ?_ ?_ _) | (with_reducible refine Below.alloc ?_ ?_ _) | (with_reducible refine Below.setCell ?_ ?_ _) | (with_reducible refine Below.drew ?_) | (simp; done) | (simp; omega) | omega)))).mono ?_); rintro e w' ⟨rfl, hb⟩; obtain ⟨p7, rfl⟩ := later_of_below hb; clear hb) | (go_at_call 27; (with_reducible refine (bWithin _ _ _ _ HW.out).mono ?_); rintro e w' ⟨rfl, rfl⟩))
                  refine any_worldF (fun w' => (w'.cell? ⟨w.heap.size, 0, none⟩ = some (.int .i64 R) ∧ w'.cell? ⟨w.heap.size, 1, none⟩ = some (.int .i64 C) ∧ w'.cell? ⟨w.heap.size, 2, none⟩ = some (.slice a zs.length cap)) ∧ (w'.cell? ⟨w.heap.size + 1, 0, none⟩ = some (.int .i64 R) ∧ w'.cell? ⟨w.heap.size + 1, 1, none⟩ = some (.int .i64 C) ∧ w'.cell? ⟨w.heap.size + 1, 2, none⟩ = some (.slice a' ds.length cap')) ∧ (w'.cell? ⟨B, 0, none⟩ = some (.int .i64 R) ∧ w'.cell? ⟨B, 1, none⟩ = some (.int .i64 C) ∧ w'.cell? ⟨B, 2, none⟩ = some (.slice q zs.length cc)) ∧ OwnIV 0 w' (.slice q zs.length cc) (maskL zs ds m) ∧ Below w.heap.size w w' ∧ (w.heap.size + 1 < w'.heap.size ∧ B < w'.heap.size)) ⟨⟨(by (first | (simp [go_sem, m0, m1, m2, n0, n1, n2, o0, o1, o2]; done) | simp [go_sem, m0, m1, m2, n0, n1, n2, o0, o1, o2, ↓IntWalk.iteOmega])), (by (first | (simp [go_sem, m0, m1, m2, n0, n1, n2, o0, o1, o2]; done) | simp [go_sem, m0, m1, m2, n0, n1, n2, o0, o1, o2, ↓IntWalk.iteOmega])), (by (first | (simp [go_sem, m0, m1, m2, n0, n1, n2, o0, o1, o2]; done) | simp [go_sem, m0, m1, m2, n0, n1, n2, o0, o1, o2, ↓IntWalk.iteOmega]))⟩, ⟨(by (first | (simp [go_sem, m0, m1, m2, n0, n1, n2, o0, o1, o2]; done) | simp [go_sem, m0, m1, m2, n0, n1, n2, o0, o1, o2, ↓IntWalk.iteOmega])), (by (first | (simp [go_sem, m0, m1, m2, n0, n1, n2, o0, o1, o2]; done) | simp [go_sem, m0, m1, m2, n0, n1, n2, o0, o1, o2, ↓IntWalk.iteOmega])), (by (first | (simp [go_sem, m0, m1, m2, n0, n1, n2, o0, o1, o2]; done) | simp [go_sem, m0, m1, m2, n0, n1, n2, o0, o1, o2, ↓IntWalk.iteOmega]))⟩, ⟨(by (first | (simp [go_sem, m0, m1, m2, n0, n1, n2, o0, o1, o2]; done) | simp [go_sem, m0, m1, m2, n0, n1, n2, o0, o1, o2, ↓IntWalk.iteOmega])), (by (first | (simp [go_sem, m0, m1, m2, n0, n1, n2, o0, o1, o2]; done) | simp [go_sem, m0, m1, m2, n0, n1, n2, o0, o1, o2, ↓IntWalk.iteOmega])), (by (first | (simp [go_sem, m0, m1, m2, n0, n1, n2, o0, o1, o2]; done) | simp [go_sem, m0, m1, m2, n0, n1, n2, o0, o1, o2, ↓IntWalk.iteOmega]))⟩, hown.below (by (repeat' (first | with_reducible exact Below.refl _ _ | (with_reducible refine below_later_of ?_ ?_ _) | (with_reducible refine Below.alloc ?_ ?_ _) | (with_reducible refine Below.setCell ?_ ?_ _) | (with_reducible refine Below.drew ?_) | (simp; done) | (simp; omega) | omega)); done), HB3.out.trans (below_mono_of HB3.out.size (by (repeat' (first | with_reducible exact Below.refl _ _ | (with_reducible refine below_later_of ?_ ?_ _) | (with_reducible refine Below.alloc ?_ ?_ _) | (with_reducible refine Below.setCell ?_ ?_ _) | (with_reducible refine Below.drew ?_) | (simp; done) | (simp; omega) | omega)))), by simp; omega, by simp; omega⟩ ?_
                  clear hown m0 m1 m2 n0 n1 n2 o0 o1 o2 HRF HRM
                  rintro W4 ⟨⟨k0, k1, k2⟩, ⟨j0, j1, j2⟩, ⟨o0, o1, o2⟩, hown, hb4, hw4, hB4⟩
                  have HB4 := Lib.hid hb4
                  have hs4 := hb4.size
                  have HRK := Lib.hid (show ∀ W, Below W4.heap.size W4 W → _ from fun W hW => HRK0.out W (HB4.out.trans (hW.mono hs4)))
                  have HSP := Lib.hid (show ∀ W (x : Value), Below W4.heap.size W4 W → IntsV W x (maskL zs ds m) → Calls Tryd.prog 37 #[.agg #[.int .i64 R, .int .i64 C, .slice q zs.length cc], .agg #[.int .i64 R, .int .i64 C, x]] W fun e w' => e = .returned (.bool true) ∧ Below W.heap.size W w' from
                    fun W x hW hxx => bSamePhases R C R C _ _ _ _ W (hown.below hW).ints hxx (by simp))
                  clear hb4 hown HRK0 HVV HUU
                  go_wp2_with fail
                  go_region_held3 (fun w' => (w'.cell? ⟨w.heap.size, 0, none⟩ = some (.int .i64 R) ∧ w'.cell? ⟨w.heap.size, 1, none⟩ = some (.int .i64 C) ∧ w'.cell? ⟨w.heap.size, 2, none⟩ = some (.slice a zs.length cap)) ∧ (w'.cell? ⟨w.heap.size + 1, 0, none⟩ = some (.int .i64 R) ∧ w'.cell? ⟨w.heap.size + 1, 1, none⟩ = some (.int .i64 C) ∧ w'.cell? ⟨w.heap.size + 1, 2, none⟩ = some (.slice a' ds.length cap')) ∧ (w'.cell? ⟨B, 0, none⟩ = some (.int .i64 R) ∧ w'.cell? ⟨B, 1, none⟩ = some (.int .i64 C) ∧ w'.cell? ⟨B, 2, none⟩ = some (.slice q zs.length cc))) (first | exact ⟨⟨k0, k1, k2⟩, ⟨j0, j1, j2⟩, o0, o1, o2⟩ | ((first | (simp [go_sem, k0, k1, k2, j0, j1, j2, o0, o1, o2]; done) | simp [go_sem, k0, k1, k2, j0, j1, j2, o0, o1, o2, ↓IntWalk.iteOmega]); done)) (first | (go_at_call 38; (with_reducible refine (HRK.out _ (by (repeat' (first | with_reducible exact Below.refl _ _ | (with_reducible refine below_later_of ?_ ?_ _) | (with_reducible refine Below.alloc ?_ ?_ _) | (with_reducible refine Below.setCell ?_ ?_ _) | (with_reducible refine Below.drew ?_) | (simp; done) | (simp; omega) | omega)))).mono ?_); rintro e w' ⟨a6, c6, rfl, ho, hb⟩; have HO6 := Lib.hid ho.ints; clear ho; obtain ⟨p9, rfl⟩ := later_of_below hb; clear hb) | (go_at_call 37; (with_reducible refine (HSP.out _ _ (by (repeat' (first | with_reducible exact Below.refl _ _ | (with_reducible refine below_later_of ?_ ?_ _) | (with_reducible refine Below.alloc ?_ ?_ _) | (with_reducible refine Below.setCell ?_ ?_ _) | (with_reducible refine Below.drew ?_) | (simp; done) | (simp; omega) | omega))) (HO6.out.below (by (repeat' (first | with_reducible exact Below.refl _ _ | (with_reducible refine below_later_of ?_ ?_ _) | (with_reducible refine Below.alloc ?_ ?_ _) | (with_reducible refine Below.setCell ?_ ?_ _) | (with_reducible refine Below.drew ?_) | (simp; done) | (simp; omega) | omega))))).mono ?_); rintro e w' ⟨rfl, hb⟩; obtain ⟨p10, rfl⟩ := later_of_below hb; clear hb))
                  all_goals
                    rename_i hheld
                    clear hheld
                    go_wp2_with fail
                    go_ret
                    exact ⟨rfl, HB4.out.trans (below_mono_of hs4 (by (repeat' (first | with_reducible exact Below.refl _ _ | (with_reducible refine below_later_of ?_ ?_ _) | (with_reducible refine Below.alloc ?_ ?_ _) | (with_reducible refine Below.setCell ?_ ?_ _) | (with_reducible refine Below.drew ?_) | (simp; done) | (simp; omega) | omega))))⟩
              · have d4 : (C != C') = true := by simpa using h4
                have hE : (13 : Int) = E := by rw [← HEE.out, if_pos (show first2 0 0 = 0 from rfl), if_neg (fun h => h4 h.2)]
                subst hE
                clear h3 h4 HEE HE HFE
                obtain ⟨rfl, rfl, rfl⟩ := hsay.2 (by first | assumption | decide)
                clear hsay
                go_wp2_with (first | (go_at_call 35; (with_reducible refine (HRF.out _ (by (repeat' (first | with_reducible exact Below.refl _ _ | (with_reducible refine below_later_of ?_ ?_ _) | (with_reducible refine Below.alloc ?_ ?_ _) | (with_reducible refine Below.setCell ?_ ?_ _) | (with_reducible refine Below.drew ?_) | (simp; done) | (simp; omega) | omega)))).mono ?_); rintro e w' ⟨rfl, hb⟩; obtain ⟨p6, rfl⟩ := later_of_below hb; clear hb) | (go_at_call 23; (with_reducible refine (HRM.out _ (by (repeat' (first | with_reducible exact Below.refl _ _ | (with_reducible refine below_later_of ?_ ?_ _) | (with_reducible refine Below.alloc ?_ ?_ _) | (with_reducible refine Below.setCell ?_ ?_ _) | (with_reducible refine Below.drew ?_) | (simp; done) | (simp; omega) | omega)))).mono ?_); rintro e w' ⟨rfl, hb⟩; obtain ⟨p7, rfl⟩ := later_of_below hb; clear hb) | (go_at_call 27; (with_reducible refine (bWithin _ _ _ _ HW.out).mono ?_); rintro e w' ⟨rfl, rfl⟩) | (go_at_call 36; (with_reducible refine (lNoMap0 _ _ _).mono ?_); rintro e w' ⟨rfl, hb⟩; obtain ⟨p8, rfl⟩ := later_of_below hb; clear hb))
                go_ret
                exact ⟨ret_bool (by simp), HB3.out.trans (below_mono_of HB3.out.size (by (repeat' (first | with_reducible exact Below.refl _ _ | (with_reducible refine below_later_of ?_ ?_ _) | (with_reducible refine Below.alloc ?_ ?_ _) | (with_reducible refine Below.setCell ?_ ?_ _) | (with_reducible refine Below.drew ?_) | (simp; done) | (simp; omega) | omega))))⟩
            · have d3 : (R != R') = true := by simpa using h3
              have hE : (13 : Int) = E := by rw [← HEE.out, if_pos (show first2 0 0 = 0 from rfl), if_neg (fun h => h3 h.1)]
              subst hE
              clear h3 HEE HE HFE
              obtain ⟨rfl, rfl, rfl⟩ := hsay.2 (by first | assumption | decide)
              clear hsay
              go_wp2_with (first | (go_at_call 35; (with_reducible refine (HRF.out _ (by (repeat' (first | with_reducible exact Below.refl _ _ | (with_reducible refine below_later_of ?_ ?_ _) | (with_reducible refine Below.alloc ?_ ?_ _) | (with_reducible refine Below.setCell ?_ ?_ _) | (with_reducible refine Below.drew ?_) | (simp; done) | (simp; omega) | omega)))).mono ?_); rintro e w' ⟨rfl, hb⟩; obtain ⟨p6, rfl⟩ := later_of_below hb; clear hb) | (go_at_call 23; (with_reducible refine (HRM.out _ (by (repeat' (first | with_reducible exact Below.refl _ _ | (with_reducible refine below_later_of ?_ ?_ _) | (with_reducible refine Below.alloc ?_ ?_ _) | (with_reducible refine Below.setCell ?_ ?_ _) | (with_reducible refine Below.drew ?_) | (simp; done) | (simp; omega) | omega)))).mono ?_); rintro e w' ⟨rfl, hb⟩; obtain ⟨p7, rfl⟩ := later_of_below hb; clear hb) | (go_at_call 27; (with_reducible refine (bWithin _ _ _ _ HW.out).mono ?_); rintro e w' ⟨rfl, rfl⟩) | (go_at_call 36; (with_reducible refine (lNoMap0 _ _ _).mono ?_); rintro e w' ⟨rfl, hb⟩; obtain ⟨p8, rfl⟩ := later_of_below hb; clear hb))
              go_ret
              exact ⟨ret_bool (by simp), HB3.out.trans (below_mono_of HB3.out.size (by (repeat' (first | with_reducible exact Below.refl _ _ | (with_reducible refine below_later_of ?_ ?_ _) | (with_reducible refine Below.alloc ?_ ?_ _) | (with_reducible refine Below.setCell ?_ ?_ _) | (with_reducible refine Below.drew ?_) | (simp; done) | (simp; omega) | omega))))⟩
          · have hE : z2 = E := by
              have e : first2 0 z2 = z2 := by unfold first2; rw [if_pos rfl]
              rw [← HEE.out, e, if_neg h2]
            subst hE
            have d1 : (z2 != 0) = true := by simpa using h2
            have d2 : (z2 == 0) = false := by simpa using h2
            clear HEE HE HFE
            obtain ⟨rfl, rfl, rfl⟩ := hsay.2 (by first | assumption | decide)
            clear hsay
            go_wp2_with (first | (go_at_call 35; (with_reducible refine (HRF.out _ (by (repeat' (first | with_reducible exact Below.refl _ _ | (with_reducible refine below_later_of ?_ ?_ _) | (with_reducible refine Below.alloc ?_ ?_ _) | (with_reducible refine Below.setCell ?_ ?_ _) | (with_reducible refine Below.drew ?_) | (simp; done) | (simp; omega) | omega)))).mono ?_); rintro e w' ⟨rfl, hb⟩; obtain ⟨p6, rfl⟩ := later_of_below hb; clear hb) | (go_at_call 23; (with_reducible refine (HRM.out _ (by (repeat' (first | with_reducible exact Below.refl _ _ | (with_reducible refine below_later_of ?_ ?_ _) | (with_reducible refine Below.alloc ?_ ?_ _) | (with_reducible refine Below.setCell ?_ ?_ _) | (with_reducible refine Below.drew ?_) | (simp; done) | (simp; omega) | omega)))).mono ?_); rintro e w' ⟨rfl, hb⟩; obtain ⟨p7, rfl⟩ := later_of_below hb; clear hb) | (go_at_call 27; (with_reducible refine (bWithin _ _ _ _ HW.out).mono ?_); rintro e w' ⟨rfl, rfl⟩) | (go_at_call 36; (with_reducible refine (lNoMap0 _ _ _).mono ?_); rintro e w' ⟨rfl, hb⟩; obtain ⟨p8, rfl⟩ := later_of_below hb; clear hb))
            go_ret
            exact ⟨ret_bool (by simp), HB3.out.trans (below_mono_of HB3.out.size (by (repeat' (first | with_reducible exact Below.refl _ _ | (with_reducible refine below_later_of ?_ ?_ _) | (with_reducible refine Below.alloc ?_ ?_ _) | (with_reducible refine Below.setCell ?_ ?_ _) | (with_reducible refine Below.drew ?_) | (simp; done) | (simp; omega) | omega))))⟩
        · have hE : z1 = E := by
            have e : first2 z1 z2 = z1 := by unfold first2; rw [if_neg h1]
            rw [← HEE.out, e, if_neg h1]
          subst hE
          have d1 : (z1 != 0) = true := by simpa using h1
          have d2 : (z1 == 0) = false := by simpa using h1
          clear HEE HE HFE
          obtain ⟨rfl, rfl, rfl⟩ := hsay.2 (by first | assumption | decide)
          clear hsay
          go_wp2_with (first | (go_at_call 35; (with_reducible refine (HRF.out _ (by (repeat' (first | with_reducible exact Below.refl _ _ | (with_reducible refine below_later_of ?_ ?_ _) | (with_reducible refine Below.alloc ?_ ?_ _) | (with_reducible refine Below.setCell ?_ ?_ _) | (with_reducible refine Below.drew ?_) | (simp; done) | (simp; omega) | omega)))).mono ?_); rintro e w' ⟨rfl, hb⟩; obtain ⟨p6, rfl⟩ := later_of_below hb; clear hb) | (go_at_call 23; (with_reducible refine (HRM.out _ (by (repeat' (first | with_reducible exact Below.refl _ _ | (with_reducible refine below_later_of ?_ ?_ _) | (with_reducible refine Below.alloc ?_ ?_ _) | (with_reducible refine Below.setCell ?_ ?_ _) | (with_reducible refine Below.drew ?_) | (simp; done) | (simp; omega) | omega)))).mono ?_); rintro e w' ⟨rfl, hb⟩; obtain ⟨p7, rfl⟩ := later_of_below hb; clear hb) | (go_at_call 27; (with_reducible refine (bWithin _ _ _ _ HW.out).mono ?_); rintro e w' ⟨rfl, rfl⟩) | (go_at_call 36; (with_reducible refine (lNoMap0 _ _ _).mono ?_); rintro e w' ⟨rfl, hb⟩; obtain ⟨p8, rfl⟩ := later_of_below hb; clear hb))
          go_ret
          exact ⟨ret_bool (by simp), HB3.out.trans (below_mono_of HB3.out.size (by (repeat' (first | with_reducible exact Below.refl _ _ | (with_reducible refine below_later_of ?_ ?_ _) | (with_reducible refine Below.alloc ?_ ?_ _) | (with_reducible refine Below.setCell ?_ ?_ _) | (with_reducible refine Below.drew ?_) | (simp; done) | (simp; omega) | omega))))⟩
    · obtain ⟨⟨a, cap, rfl, -⟩, -⟩ := hx
      obtain ⟨a', cap', rfl, -⟩ := hq
      have HLI := Lib.hid (fun w => lLight R C zs.length cap a w (decide_eq_true hn))
      have hd2 : decide (150 < (ds.length : Int)) = true := by simp; omega
      go_enter Tryd.func8, Tryd.ntmps8
      go_wp2_with (first | (go_at_call 9; (with_reducible refine (awake4 _ (HT.out.below (by (repeat' (first | with_reducible exact Below.refl _ _ | (with_reducible refine below_later_of ?_ ?_ _) | (with_reducible refine Below.alloc ?_ ?_ _) | (with_reducible refine Below.setCell ?_ ?_ _) | (with_reducible refine Below.drew ?_) | (simp; done) | (simp; omega) | omega))))).mono ?_); rintro e w' ⟨rfl, hb⟩; obtain ⟨pp, rfl⟩ := later_of_below hb; clear hb) | (go_at_call 19; (with_reducible refine (HLI.out _).mono ?_); rintro e w' ⟨rfl, hb⟩; obtain ⟨p0, rfl⟩ := later_of_below hb; clear hb))
      go_ret
      exact ⟨rfl, (by (repeat' (first | with_reducible exact Below.refl _ _ | (with_reducible refine below_later_of ?_ ?_ _) | (with_reducible refine Below.alloc ?_ ?_ _) | (with_reducible refine Below.setCell ?_ ?_ _) | (with_reducible refine Below.drew ?_) | (simp; done) | (simp; omega) | omega)))⟩
  · obtain ⟨⟨a, cap, rfl, -⟩, -⟩ := hx
    obtain ⟨a', cap', rfl, -⟩ := hq
    have HLI := Lib.hid (fun w => lLight R C zs.length cap a w (decide_eq_false hn))
    go_enter Tryd.func8, Tryd.ntmps8
    go_wp2_with (first | (go_at_call 9; (with_reducible refine (awake4 _ (HT.out.below (by (repeat' (first | with_reducible exact Below.refl _ _ | (with_reducible refine below_later_of ?_ ?_ _) | (with_reducible refine Below.alloc ?_ ?_ _) | (with_reducible refine Below.setCell ?_ ?_ _) | (with_reducible refine Below.drew ?_) | (simp; done) | (simp; omega) | omega))))).mono ?_); rintro e w' ⟨rfl, hb⟩; obtain ⟨pp, rfl⟩ := later_of_below hb; clear hb) | (go_at_call 19; (with_reducible refine (HLI.out _).mono ?_); rintro e w' ⟨rfl, hb⟩; obtain ⟨p0, rfl⟩ := later_of_below hb; clear hb))
    go_ret
    exact ⟨rfl, (by (repeat' (first | with_reducible exact Below.refl _ _ | (with_reducible refine below_later_of ?_ ?_ _) | (with_reducible refine Below.alloc ?_ ?_ _) | (with_reducible refine Below.setCell ?_ ?_ _) | (with_reducible refine Below.drew ?_) | (simp; done) | (simp; omega) | omega)))⟩
end Go.Proofs.YtfiioadmpjmmgaaDoor
