/- Chapter 4: the reference's Masked. -/
import Derived.Test.YtfiioadmpjmmgaaDoorX33
namespace Go.Proofs.YtfiioadmpjmmgaaDoor
set_option linter.unusedVariables false
set_option linter.unusedSimpArgs false
open Go.RowKit Ntt
set_option maxRecDepth 20000 in
set_option maxHeartbeats 4000000 in
theorem rMasked (R C : Int) (zs : List Int) (a : Option Addr) (cap : Nat) (ds : List Nat) (u : Value) (m : Int) (w : World) (hl : zs.length ≤ 100000) (hv : IntsV w (.slice a zs.length cap) zs) (hu : FlV w u ds) (hnz : zs.length = ds.length) (hpos : 0 < ds.length) (hfc : ∀ k, k < ds.length → fc4 (flAt ds k) = 0) :
    Calls Tryd.prog 38 #[.agg #[.int .i64 R, .int .i64 C, .slice a zs.length cap], .agg #[.int .i64 R, .int .i64 C, u], .int .i64 m] w fun e w' => ∃ a c, e = .returned (.agg #[.int .i64 R, .int .i64 C, .slice a zs.length c]) ∧ OwnIV w.heap.size w' (.slice a zs.length c) (maskL zs ds m) ∧ Below w.heap.size w w' := by
  obtain ⟨hl2, a2, cap2, he, h4⟩ := hv
  simp only [Value.slice.injEq, true_and] at he
  obtain ⟨rfl, rfl⟩ := he
  obtain ⟨hl3, a', cap', rfl, h5⟩ := hu
  obtain ⟨b, off, rfl, hbw, hc⟩ := h4 (by omega)
  obtain ⟨b', off', rfl, hbw', hc'⟩ := h5 hpos
  have HCP := Lib.hid (show ∀ W, Below w.heap.size w W → _ from fun W hW => copyPhases_own R C zs b off cap W (by omega) (by omega) (by have := hW.size; omega) (fun k hk => (hW.cell (p := ⟨b, off + k, none⟩) hbw).trans (hc k hk)))
  have HCQ := Lib.hid hc'
  have HCV := Lib.hid hfc
  have HNZ := Lib.hid hnz
  have HML := Lib.hid (show maskL zs ds m = (List.range zs.length).map (maskV zs ds m) from rfl)
  have HMV := Lib.hid (show ∀ k, maskV zs ds m k = if intB (flAt ds k) < m then 1000000000000 else intAt zs k from fun _ => rfl)
  generalize maskL zs ds m = L at *
  generalize maskV zs ds m = mv at *
  clear h4 h5 hc hc' hfc hnz
  go_enter Tryd.func38, Tryd.ntmps38
  go_wp2_with (first | (go_at_call 21; (with_reducible refine (HCP.out _ (by (repeat' (first | with_reducible exact Below.refl _ _ | (with_reducible refine below_later_of ?_ ?_ _) | (with_reducible refine Below.alloc ?_ ?_ _) | (with_reducible refine Below.setCell ?_ ?_ _) | (with_reducible refine Below.drew ?_) | (simp; done) | (simp; omega) | omega)))).mono ?_); rintro e w' ⟨g, c, rfl, hgb, ho, hb⟩; have HO := Lib.hid ho; clear ho; obtain ⟨pc, rfl⟩ := later_of_below hb; clear hb))
  have hgl := HO.out.1.1
  obtain ⟨B, hB⟩ : ∃ B, B = w.heap.size + 1 + 1 + 1 + pc.os.size := ⟨_, rfl⟩
  refine any_worldF (fun w' => (w'.cell? ⟨w.heap.size + 1, 2, none⟩ = some (.slice (some ⟨b', off', none⟩) ds.length cap')) ∧ (w'.cell? ⟨w.heap.size + 2, 0, none⟩ = some (.int .i64 0) ∧ w'.cell? ⟨w.heap.size + 2, 1, none⟩ = some (.int .i64 0) ∧ w'.cell? ⟨w.heap.size + 2, 2, none⟩ = some (.slice none 0 0)) ∧ (w'.frozen? ⟨w.heap.size + 2, 0, none⟩ = false ∧ w'.frozen? ⟨w.heap.size + 2, 1, none⟩ = false ∧ w'.frozen? ⟨w.heap.size + 2, 2, none⟩ = false) ∧ (w'.cell? ⟨B, 0, none⟩ = some (.int .i64 R) ∧ w'.cell? ⟨B, 1, none⟩ = some (.int .i64 C) ∧ w'.cell? ⟨B, 2, none⟩ = some (.slice (some ⟨g, 0, none⟩) zs.length c)) ∧ OwnF w' g zs.length (intAt zs) ∧ Below w.heap.size w w' ∧ (w.heap.size + 2 < g ∧ g < B ∧ B < w'.heap.size)) ⟨(by (first | (simp [go_sem]; done) | simp [go_sem, ↓IntWalk.iteOmega])), ⟨(by (first | (simp [go_sem]; done) | simp [go_sem, ↓IntWalk.iteOmega])), (by (first | (simp [go_sem]; done) | simp [go_sem, ↓IntWalk.iteOmega])), (by (first | (simp [go_sem]; done) | simp [go_sem, ↓IntWalk.iteOmega]))⟩, ⟨(by (first | (simp [go_sem]; done) | simp [go_sem, ↓IntWalk.iteOmega])), (by (first | (simp [go_sem]; done) | simp [go_sem, ↓IntWalk.iteOmega])), (by (first | (simp [go_sem]; done) | simp [go_sem, ↓IntWalk.iteOmega]))⟩, ?_, ?_, (by (repeat' (first | with_reducible exact Below.refl _ _ | (with_reducible refine below_later_of ?_ ?_ _) | (with_reducible refine Below.alloc ?_ ?_ _) | (with_reducible refine Below.setCell ?_ ?_ _) | (with_reducible refine Below.drew ?_) | (simp; done) | (simp; omega) | omega))), ?_⟩ ?_
  · rw [hB]
    exact ⟨(by (first | (simp [go_sem]; done) | simp [go_sem, ↓IntWalk.iteOmega])), (by (first | (simp [go_sem]; done) | simp [go_sem, ↓IntWalk.iteOmega])), (by (first | (simp [go_sem]; done) | simp [go_sem, ↓IntWalk.iteOmega]))⟩
  · exact HO.out.below (by (repeat' (first | with_reducible exact Below.refl _ _ | (with_reducible refine below_later_of ?_ ?_ _) | (with_reducible refine Below.alloc ?_ ?_ _) | (with_reducible refine Below.setCell ?_ ?_ _) | (with_reducible refine Below.drew ?_) | (simp; done) | (simp; omega) | omega)); done)
  · simp at hgb hgl ⊢
    omega
  rintro W2 ⟨kq2, ⟨d0', d1', d2'⟩, ⟨g0', g1', g2'⟩, ⟨o0, o1, o2⟩, hown, hb, ⟨hg1, hgB, hB2⟩⟩
  simp only [← hB]
  have HB2 := Lib.hid hb
  have HOW := Lib.hid hown
  have hgw := hown.1.1
  have hwp : w.heap.size + 1 < W2.heap.size := by omega
  have hBg : B ≠ g := by omega
  clear hown HCP hb hB HO hgb hgl
  obtain ⟨n, hn⟩ : ∃ n, ds.length = n := ⟨_, rfl⟩
  have HZN := Lib.hid (HNZ.out.trans hn)
  rw [HNZ.out] at HOW HML o2 hl hl2
  rw [hn] at HOW HML o2 hl hl2 kq2 hpos HCV HCQ
  clear hn HNZ hl3
  go_wp2
  go_loopw [8] (fun i wr => ∃ k : Nat, k ≤ n ∧ i = .int .i64 k ∧ OwnF wr g n (fun j => if j < k then mv j else intAt zs j) ∧ (wr.cell? ⟨B, 0, none⟩ = some (.int .i64 R) ∧ wr.cell? ⟨B, 1, none⟩ = some (.int .i64 C) ∧ wr.cell? ⟨B, 2, none⟩ = some (.slice (some ⟨g, 0, none⟩) n c)) ∧ Below (w.heap.size + 3) W2 wr) (fun i _ => n - (intOf i).toNat)
  case atStart => exact ⟨0, Nat.zero_le _, rfl, HOW.out.same (fun j _ => by simp), ⟨o0, o1, o2⟩, Below.refl _ _⟩
  case round =>
    obtain ⟨k, hk, rfl, ho, ⟨q0, q1, q2⟩, hbz⟩ := hrel
    have HO := Lib.hid ho
    have HBZ := Lib.hid hbz
    have hsz := hbz.size
    have hgz := ho.1.1
    have hwz : w.heap.size + 1 < wr.heap.size := by omega
    have hBz : B < wr.heap.size := by omega
    have HX := Lib.hid (HB2.out.trans (hbz.mono (by omega)))
    by_cases hlt : k < n
    · have hdk : decide ((k : Int) < (n : Int)) = true := by simp; omega
      have hk0 : (0 : Int) ≤ (k : Int) := by omega
      have hk1 : (k : Int) < (n : Int) := by omega
      have ck := (HX.out.cell (p := ⟨b', off' + k, none⟩) hbw').trans (HCQ.out k hlt)
      have cq := (hbz.cell (p := ⟨w.heap.size + 1, 2, none⟩) (by simp <;> omega)).trans kq2
      have hcv := fun w => conv_fc (HCV.out k hlt) w
      have hbr : b' < wr.heap.size := by omega
      have gk := ho.1.2 k hlt
      have fk := ho.2 k hlt
      simp only [Nat.lt_irrefl, if_false] at gk
      have HV := Lib.hid (HMV.out k)
      clear ho hbz
      generalize flAt ds k = x at ck hcv HV
      generalize intB x = T at hcv HV
      by_cases hT : T < m
      · have hdT : decide (T < m) = true := by simpa using hT
        have HV2 := Lib.hid (show mv k = 1000000000000 by rw [HV.out, if_pos hT])
        clear HV hT
        go_wp2
        go_roundw
        case rel => exact ⟨k + 1, by omega, by go_num, HO.out.set hlt (fun j hj => by
          by_cases e : j = k
          · subst e; rw [if_pos (by omega), if_pos rfl, HV2.out]
          · rw [if_neg e]
            by_cases c : j < k
            · rw [if_pos c, if_pos (by omega)]
            · rw [if_neg c, if_neg (by omega)]), ⟨(World.cell?_setCell_other _ _ _ _ (fun e => hBg (congrArg Addr.block e).symm)).trans q0, (World.cell?_setCell_other _ _ _ _ (fun e => hBg (congrArg Addr.block e).symm)).trans q1, (World.cell?_setCell_other _ _ _ _ (fun e => hBg (congrArg Addr.block e).symm)).trans q2⟩, HBZ.out.trans (by (repeat' (first | with_reducible exact Below.refl _ _ | (with_reducible refine below_later_of ?_ ?_ _) | (with_reducible refine Below.alloc ?_ ?_ _) | (with_reducible refine Below.setCell ?_ ?_ _) | (with_reducible refine Below.drew ?_) | (simp; done) | (simp; omega) | omega)))⟩
        case measure => simp [intOf]; omega
      · have hdT : decide (T < m) = false := by simpa using hT
        have HV2 := Lib.hid (show mv k = intAt zs k by rw [HV.out, if_neg hT])
        clear HV hT
        go_wp2
        go_roundw
        case rel => exact ⟨k + 1, by omega, by go_num, HO.out.same (fun j hj => by
          by_cases e : j = k
          · subst e; rw [if_neg (by omega), if_pos (by omega), HV2.out]
          · by_cases c : j < k
            · rw [if_pos c, if_pos (by omega)]
            · rw [if_neg c, if_neg (by omega)]), ⟨q0, q1, q2⟩, HBZ.out⟩
        case measure => simp [intOf]; omega
    · obtain rfl : k = n := by omega
      have hdk : decide ((k : Int) < (k : Int)) = false := by simp
      have p0 := (hbz.cell (p := ⟨w.heap.size + 2, 0, none⟩) (by simp <;> omega)).trans d0'
      have p1 := (hbz.cell (p := ⟨w.heap.size + 2, 1, none⟩) (by simp <;> omega)).trans d1'
      have p2 := (hbz.cell (p := ⟨w.heap.size + 2, 2, none⟩) (by simp <;> omega)).trans d2'
      have r0 := (hbz.frozen (p := ⟨w.heap.size + 2, 0, none⟩) (by simp <;> omega)).trans g0'
      have r1 := (hbz.frozen (p := ⟨w.heap.size + 2, 1, none⟩) (by simp <;> omega)).trans g1'
      have r2 := (hbz.frozen (p := ⟨w.heap.size + 2, 2, none⟩) (by simp <;> omega)).trans g2'
      have HL := Lib.hid (show OwnF wr g k mv from HO.out.same (fun j hj => if_pos hj))
      clear ho hbz HO
      go_wp2
      refine bodyPost_ret ?_ rfl ⟨some ⟨g, 0, none⟩, c, rfl, ?_, ?_⟩
      · (first | (simp [results, Tryd.results38, go_sem, p0, p1, p2, HZN.out]; done) | simp [results, Tryd.results38, go_sem, p0, p1, p2, HZN.out, ↓IntWalk.iteOmega])
      · rw [HML.out, HZN.out]
        refine ownIV_of (OwnF.off4 (OwnF.off4 (OwnF.off4 HL.out ?_ _) ?_ _) ?_ _) ?_ ?_ <;> first | omega | (simp <;> omega)
      · exact HX.out.trans (by (repeat' (first | with_reducible exact Below.refl _ _ | (with_reducible refine below_later_of ?_ ?_ _) | (with_reducible refine Below.alloc ?_ ?_ _) | (with_reducible refine Below.setCell ?_ ?_ _) | (with_reducible refine Below.drew ?_) | (simp; done) | (simp; omega) | omega)))
end Go.Proofs.YtfiioadmpjmmgaaDoor
