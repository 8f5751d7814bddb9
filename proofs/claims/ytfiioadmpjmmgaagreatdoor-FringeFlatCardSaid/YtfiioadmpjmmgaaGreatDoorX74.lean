/- Chapter 4: Flattened. -/
import Derived.Test.YtfiioadmpjmmgaaGreatDoorX73
namespace Go.Proofs.YtfiioadmpjmmgaaGreatDoor
set_option linter.unusedVariables false
set_option linter.unusedSimpArgs false
open Go.RowKit Ieee Ntt
theorem inM_ok {p : Int} (h : inM p = true) : phOk p = true := by
  unfold phOk
  unfold inM at h
  rw [h]
  simp
/-- A right model's map. -/
theorem mod_right {x : Mdl} {R C : Int} {ds : List Nat} (h : modE x R C ds = 0) : ∃ Rn Cn : Nat, R = Rn ∧ C = Cn ∧ MapOk Rn Cn (modL x ds Cn) ∧ x.ok = true ∧ (fmE R C ds).2 = 0 ∧ largeM x ds Cn = false := by
  unfold modE at h
  split at h
  · rename_i h0
    split at h
    · rename_i h1
      split at h
      · exact absurd h (by decide)
      · rename_i h2
        obtain ⟨g1, g2⟩ := fmE_zero h1
        obtain ⟨⟨r1, r2⟩, ⟨c1', c2'⟩, hnd⟩ := sizeE_okU g1
        obtain ⟨Rn, rfl⟩ : ∃ m : Nat, R = m := ⟨R.toNat, by omega⟩
        obtain ⟨Cn, rfl⟩ : ∃ m : Nat, C = m := ⟨C.toNat, by omega⟩
        rw [Int.toNat_natCast] at h2
        have h3 : largeM x ds Cn = false := by simpa using h2
        have hl : (modL x ds Cn).length = ds.length := by simp [modL]
        refine ⟨Rn, Cn, rfl, rfl, ⟨by rw [hl]; exact_mod_cast hnd, by omega, by omega, by omega, by omega, fun k hk => ?_⟩, h0, h1, h3⟩
        unfold largeM at h3
        rw [List.any_eq_false] at h3
        have : (modL x ds Cn)[k]? = some (intAt (modL x ds Cn) k) := by unfold intAt; simp [hk]
        have := h3 _ (List.mem_of_getElem? this)
        exact inM_ok (by simpa using this)
    · rename_i h1
      exact absurd h h1
  · exact absurd h (by decide)
/-- The error of Flattened. -/
def flaE (x : Mdl) (R' C' : Int) (ds : List Nat) (R C : Int) (zs : List Int) : Int :=
  if (mapE R C zs).2 ≠ 0 then (mapE R C zs).2 else if modE x R' C' ds ≠ 0 then modE x R' C' ds else if R' = R ∧ C' = C then 0 else 13
set_option maxRecDepth 20000 in
set_option maxHeartbeats 4000000 in
theorem fla_det (x : Mdl) (R' C' : Int) (ds : List Nat) (v : Value) (R C : Int) (zs : List Int) (u : Value) (w : World) (hl : zs.length ≤ 100000) (hv : FlV w v ds) (hu : IntsV w u zs) {e0 : Int} (he : flaE x R' C' ds R C zs = e0) :
    Calls Tryz.prog 44 #[.agg #[.int .i64 R, .int .i64 C, u], .agg #[.int .i64 x.a, .int .i64 x.b, .int .i64 x.c, .int .i64 x.d], .agg #[.int .i64 R', .int .i64 C', v]] w fun e w' => ∃ r c k q cc, e = .returned (.tuple #[.agg #[.int .i64 r, .int .i64 c, .slice q k cc], .int .i64 e0]) ∧ MkSay w' w.heap.size R C zs.length (combL zs (modL x ds C'.toNat) (-1)) e0 r c k q cc ∧ Below w.heap.size w w' := by
  have HME := Lib.hid (show ∀ W, Below w.heap.size w W → _ from fun W hW => mapErr_any R C zs u W hl (hu.below hW) rfl)
  obtain ⟨z1, hz1⟩ : ∃ z1, (mapE R C zs).2 = z1 := ⟨_, rfl⟩
  obtain ⟨z2, hz2⟩ : ∃ z2, modE x R' C' ds = z2 := ⟨_, rfl⟩
  unfold flaE at he
  rw [hz1, hz2] at he
  rw [hz1] at HME
  have HU := Lib.hid hu
  have HVV := Lib.hid hv
  obtain ⟨-, a, cap, rfl, -⟩ := hu
  obtain ⟨-, b, bcap, rfl, -⟩ := hv
  by_cases h1 : z1 = 0
  · subst h1
    rw [if_neg (by simp)] at he
    by_cases h2 : z2 = 0
    · subst h2
      rw [if_neg (by simp)] at he
      obtain ⟨Rn, Cn, rfl, rfl, hmo, -, -, -⟩ := mod_right hz2
      have HMP := Lib.hid (show ∀ W, Below w.heap.size w W → Calls Tryz.prog 42 #[.agg #[.int .i64 x.a, .int .i64 x.b, .int .i64 x.c, .int .i64 x.d], .agg #[.int .i64 Rn, .int .i64 Cn, .slice b ds.length bcap]] W fun e w' => ∃ q1 cc1, e = .returned (.tuple #[.agg #[.int .i64 Rn, .int .i64 Cn, .slice q1 ds.length cc1], .int .i64 0]) ∧ OwnIV W.heap.size w' (.slice q1 ds.length cc1) (modL x ds Cn) ∧ Below W.heap.size W w' from fun W hW => by
        refine (mp_det x Rn Cn ds _ W (HVV.out.below hW) hz2).mono ?_
        rintro e w' ⟨r, c, k, q, cc, rfl, hs, hb⟩
        obtain ⟨rfl, rfl, rfl, ho⟩ := hs.1 rfl
        exact ⟨q, cc, rfl, ho, hb⟩)
      have hm2 : twoE R C zs Rn Cn (modL x ds Cn) = e0 := by
        unfold twoE
        rw [hz1, hmo.err, if_neg (by simp), if_neg (by simp)]
        exact he
      have hml : (modL x ds Cn).length ≤ 100000 := by have := hmo.size; omega
      have HDF := Lib.hid (show ∀ W (y : Value), Below w.heap.size w W → IntsV W y (modL x ds Cn) → _ from fun W y hW hy => dif_det R C zs _ Rn Cn (modL x ds Cn) y W (HU.out.below hW) hl hy hml hm2)
      rw [Int.toNat_natCast]
      clear he hz1 hz2 hm2 hmo hml
      go_enter Tryz.func44, Tryz.ntmps44
      go_wp2_with (first | (go_at_call 88; (with_reducible refine (HME.out _ (by (repeat' (first | with_reducible exact Below.refl _ _ | (with_reducible refine below_later_of ?_ ?_ _) | (with_reducible refine Below.alloc ?_ ?_ _) | (with_reducible refine Below.setCell ?_ ?_ _) | (with_reducible refine Below.drew ?_) | (simp; done) | (simp; omega) | omega)))).mono ?_); rintro e w' ⟨rfl, hb⟩; obtain ⟨pe, rfl⟩ := later_of_below hb; clear hb) | (go_at_call 42; (with_reducible refine (HMP.out _ (by (repeat' (first | with_reducible exact Below.refl _ _ | (with_reducible refine below_later_of ?_ ?_ _) | (with_reducible refine Below.alloc ?_ ?_ _) | (with_reducible refine Below.setCell ?_ ?_ _) | (with_reducible refine Below.drew ?_) | (simp; done) | (simp; omega) | omega)))).mono ?_); rintro e w' ⟨q1, cc1, rfl, hs, hb⟩; have HO1 := Lib.hid hs; clear hs; obtain ⟨p1, rfl⟩ := later_of_below hb; clear hb) | (go_at_call 20; (with_reducible refine (HDF.out _ _ (by (repeat' (first | with_reducible exact Below.refl _ _ | (with_reducible refine below_later_of ?_ ?_ _) | (with_reducible refine Below.alloc ?_ ?_ _) | (with_reducible refine Below.setCell ?_ ?_ _) | (with_reducible refine Below.drew ?_) | (simp; done) | (simp; omega) | omega))) (OwnIV.ints (HO1.out.below (by (repeat' (first | with_reducible exact Below.refl _ _ | (with_reducible refine below_later_of ?_ ?_ _) | (with_reducible refine Below.alloc ?_ ?_ _) | (with_reducible refine Below.setCell ?_ ?_ _) | (with_reducible refine Below.drew ?_) | (simp; done) | (simp; omega) | omega)))))).mono ?_); rintro e w' ⟨r, c, k, q, cc, rfl, hs, hb⟩; have HS := Lib.hid hs; clear hs; obtain ⟨p5, rfl⟩ := later_of_below hb; clear hb))
      refine bodyPost_ret (v := .tuple #[.agg #[.int .i64 r, .int .i64 c, .slice q k cc], .int .i64 e0]) ?_ rfl ⟨r, c, k, q, cc, rfl, MkSay.mono (MkSay.set (MkSay.set (MkSay.set HS.out ?_ _) ?_ _) ?_ _) ?_, (by (repeat' (first | with_reducible exact Below.refl _ _ | (with_reducible refine below_later_of ?_ ?_ _) | (with_reducible refine Below.alloc ?_ ?_ _) | (with_reducible refine Below.setCell ?_ ?_ _) | (with_reducible refine Below.drew ?_) | (simp; done) | (simp; omega) | omega)))⟩
      · first | (simp [results, Tryz.results44, go_sem]; done) | simp [results, Tryz.results44, go_sem, ↓IntWalk.iteOmega]
      all_goals first | omega | (simp <;> omega)
    · rw [if_pos h2] at he
      obtain rfl : z2 = e0 := he
      have d2 : (z2 != 0) = true := by simpa using h2
      have HNE := Lib.hid h2
      have HMP := Lib.hid (show ∀ W, Below w.heap.size w W → _ from fun W hW => mp_det x R' C' ds _ W (HVV.out.below hW) hz2)
      clear h2 hz1 hz2
      generalize z2 = e0 at *
      go_enter Tryz.func44, Tryz.ntmps44
      go_wp2_with (first | (go_at_call 88; (with_reducible refine (HME.out _ (by (repeat' (first | with_reducible exact Below.refl _ _ | (with_reducible refine below_later_of ?_ ?_ _) | (with_reducible refine Below.alloc ?_ ?_ _) | (with_reducible refine Below.setCell ?_ ?_ _) | (with_reducible refine Below.drew ?_) | (simp; done) | (simp; omega) | omega)))).mono ?_); rintro e w' ⟨rfl, hb⟩; obtain ⟨pe, rfl⟩ := later_of_below hb; clear hb) | (go_at_call 42; (with_reducible refine (HMP.out _ (by (repeat' (first | with_reducible exact Below.refl _ _ | (with_reducible refine below_later_of ?_ ?_ _) | (with_reducible refine Below.alloc ?_ ?_ _) | (with_reducible refine Below.setCell ?_ ?_ _) | (with_reducible refine Below.drew ?_) | (simp; done) | (simp; omega) | omega)))).mono ?_); rintro e w' ⟨r1, c1, k1, q1, cc1, rfl, hs, hb⟩; have HS1 := Lib.hid hs; clear hs; obtain ⟨p1, rfl⟩ := later_of_below hb; clear hb))
      refine bodyPost_ret (v := .tuple #[.agg #[.int .i64 0, .int .i64 0, .slice none 0 0], .int .i64 e0]) ?_ rfl ⟨0, 0, 0, none, 0, rfl, ⟨fun h => absurd h HNE.out, fun _ => ⟨rfl, rfl, rfl⟩⟩, (by (repeat' (first | with_reducible exact Below.refl _ _ | (with_reducible refine below_later_of ?_ ?_ _) | (with_reducible refine Below.alloc ?_ ?_ _) | (with_reducible refine Below.setCell ?_ ?_ _) | (with_reducible refine Below.drew ?_) | (simp; done) | (simp; omega) | omega)))⟩
      first | (simp [results, Tryz.results44, go_sem]; done) | simp [results, Tryz.results44, go_sem, ↓IntWalk.iteOmega]
  · rw [if_pos h1] at he
    obtain rfl : z1 = e0 := he
    have d1 : (z1 != 0) = true := by simpa using h1
    have HNE := Lib.hid h1
    clear h1 hz1 hz2
    generalize z1 = e0 at *
    go_enter Tryz.func44, Tryz.ntmps44
    go_wp2_with (first | (go_at_call 88; (with_reducible refine (HME.out _ (by (repeat' (first | with_reducible exact Below.refl _ _ | (with_reducible refine below_later_of ?_ ?_ _) | (with_reducible refine Below.alloc ?_ ?_ _) | (with_reducible refine Below.setCell ?_ ?_ _) | (with_reducible refine Below.drew ?_) | (simp; done) | (simp; omega) | omega)))).mono ?_); rintro e w' ⟨rfl, hb⟩; obtain ⟨pe, rfl⟩ := later_of_below hb; clear hb))
    refine bodyPost_ret (v := .tuple #[.agg #[.int .i64 0, .int .i64 0, .slice none 0 0], .int .i64 e0]) ?_ rfl ⟨0, 0, 0, none, 0, rfl, ⟨fun h => absurd h HNE.out, fun _ => ⟨rfl, rfl, rfl⟩⟩, (by (repeat' (first | with_reducible exact Below.refl _ _ | (with_reducible refine below_later_of ?_ ?_ _) | (with_reducible refine Below.alloc ?_ ?_ _) | (with_reducible refine Below.setCell ?_ ?_ _) | (with_reducible refine Below.drew ?_) | (simp; done) | (simp; omega) | omega)))⟩
    first | (simp [results, Tryz.results44, go_sem]; done) | simp [results, Tryz.results44, go_sem, ↓IntWalk.iteOmega]
end Go.Proofs.YtfiioadmpjmmgaaGreatDoor
