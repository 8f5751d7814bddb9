/- Chapter 4: ModelPhases. -/
import Derived.Test.YtfiioadmpjmmgaaGreatDoorX72
namespace Go.Proofs.YtfiioadmpjmmgaaGreatDoor
set_option linter.unusedVariables false
set_option linter.unusedSimpArgs false
open Go.RowKit Ieee Ntt
theorem idx4_0 (a b c d : Int) (w : World) : (Instr.index 161 (.agg #[.int .i64 a, .int .i64 b, .int .i64 c, .int .i64 d]) (.int .i64 0)).run Tryz.prog w = .ok (.int .i64 a) w := by kernel_rfl
theorem idx4_1 (a b c d : Int) (w : World) : (Instr.index 161 (.agg #[.int .i64 a, .int .i64 b, .int .i64 c, .int .i64 d]) (.int .i64 1)).run Tryz.prog w = .ok (.int .i64 b) w := by kernel_rfl
theorem idx4_2 (a b c d : Int) (w : World) : (Instr.index 161 (.agg #[.int .i64 a, .int .i64 b, .int .i64 c, .int .i64 d]) (.int .i64 2)).run Tryz.prog w = .ok (.int .i64 c) w := by kernel_rfl
theorem idx4_3 (a b c d : Int) (w : World) : (Instr.index 161 (.agg #[.int .i64 a, .int .i64 b, .int .i64 c, .int .i64 d]) (.int .i64 3)).run Tryz.prog w = .ok (.int .i64 d) w := by kernel_rfl
theorem mdl_ok {x : Mdl} (h : ∀ j, j < 4 → inM (x.at j) = true) : x.ok = true := by
  have h0 : inM x.a = true := h 0 (by decide)
  have h1 : inM x.b = true := h 1 (by decide)
  have h2 : inM x.c = true := h 2 (by decide)
  have h3 : inM x.d = true := h 3 (by decide)
  unfold Mdl.ok
  rw [h0, h1, h2, h3]
  rfl
theorem mdl_bad {x : Mdl} {j : Nat} (hj : j < 4) (h : inM (x.at j) = false) : x.ok = false := by
  unfold Mdl.ok
  rcases (show j = 0 ∨ j = 1 ∨ j = 2 ∨ j = 3 by omega) with rfl | rfl | rfl | rfl <;> (unfold Mdl.at at h; simp at h; simp [h])
theorem mp_map (x : Mdl) (R C : Nat) (ds : List Nat) (A H b off cap : Nat) (W : World) (hx : x.ok = true) (hR : R ≤ 64) (hC : C ≤ 64) (hn : ds.length = R * C) (hbw : b < W.heap.size) (hfc : ∀ k, k < ds.length → fc4 (flAt ds k) = 0)
    (a0 : W.cell? ⟨A, 0, none⟩ = some (.int .i64 x.a)) (a1 : W.cell? ⟨A, 1, none⟩ = some (.int .i64 x.b)) (a2 : W.cell? ⟨A, 2, none⟩ = some (.int .i64 x.c)) (a3 : W.cell? ⟨A, 3, none⟩ = some (.int .i64 x.d))
    (h1 : W.cell? ⟨H, 1, none⟩ = some (.int .i64 C)) (h2 : W.cell? ⟨H, 2, none⟩ = some (.slice (some ⟨b, off, none⟩) ds.length cap)) (hci : ∀ k, k < ds.length → W.cell? ⟨b, off + k, none⟩ = some (.float .f32 (flAt ds k))) :
    Calls Tryz.prog 105 #[.int .i64 R, .int .i64 C, .func (.func 106) #[] #[.pointer (some ⟨A, 0, none⟩), .pointer (some ⟨H, 0, none⟩)]] W (GiPost R C ds.length (modP x ds C) W) := by
  have hA : A < W.heap.size := World.block_lt_of_cell? _ _ a0
  have hH : H < W.heap.size := World.block_lt_of_cell? _ _ h1
  have hl : ds.length ≤ 5000 := by have := Nat.mul_le_mul hR hC; omega
  have := mapped_i R C 106 #[.pointer (some ⟨A, 0, none⟩), .pointer (some ⟨H, 0, none⟩)] (modP x ds C) W hR hC (enters_of Tryz.func106 (by kernel_rfl) rfl) (fun W2 hW2 r c hr hc => by
    have hz := hW2.size
    have hin : r * C + c < ds.length := by
      have h1 : (r + 1) * C ≤ R * C := Nat.mul_le_mul_right _ hr
      rw [Nat.add_mul, Nat.one_mul] at h1
      omega
    exact model1 x R C ds A H b off cap r c (r * C + c) C W2 rfl hx (by omega) (by omega) (by omega) (by omega) hc hC rfl hin hl (hfc _ hin) ((hW2.cell (p := ⟨A, 0, none⟩) hA).trans a0) ((hW2.cell (p := ⟨A, 1, none⟩) hA).trans a1) ((hW2.cell (p := ⟨A, 2, none⟩) hA).trans a2) ((hW2.cell (p := ⟨A, 3, none⟩) hA).trans a3)
      ((hW2.cell (p := ⟨H, 1, none⟩) hH).trans h1) ((hW2.cell (p := ⟨H, 2, none⟩) hH).trans h2) ((hW2.cell (p := ⟨b, off + (r * C + c), none⟩) hbw).trans (hci _ hin)))
  rwa [← hn] at this
set_option maxRecDepth 20000 in
set_option maxHeartbeats 4000000 in
theorem mp_det (x : Mdl) (R C : Int) (ds : List Nat) (v : Value) (w : World) (hv : FlV w v ds) {e0 : Int} (he : modE x R C ds = e0) :
    Calls Tryz.prog 42 #[.agg #[.int .i64 x.a, .int .i64 x.b, .int .i64 x.c, .int .i64 x.d], .agg #[.int .i64 R, .int .i64 C, v]] w fun e w' => ∃ r c k q cc, e = .returned (.tuple #[.agg #[.int .i64 r, .int .i64 c, .slice q k cc], .int .i64 e0]) ∧ MkSay w' w.heap.size R C ds.length (modL x ds C.toNat) e0 r c k q cc ∧ Below w.heap.size w w' := by
  have HFE := Lib.hid (show ∀ W, Below w.heap.size w W → _ from fun W hW => floatErr_any R C ds v W (hv.below hW) rfl)
  have HV := Lib.hid hv
  obtain ⟨-, a, cap, rfl, h4⟩ := hv
  have HE := Lib.hid he
  have hi0 := idx4_0 x.a x.b x.c x.d
  have hi1 := idx4_1 x.a x.b x.c x.d
  have hi2 := idx4_2 x.a x.b x.c x.d
  have hi3 := idx4_3 x.a x.b x.c x.d
  have HX := Lib.hid (fun j (hj : j < 4) (h : inM (x.at j) = false) => mdl_bad hj h)
  obtain ⟨z1, hz1⟩ : ∃ z1, (fmE R C ds).2 = z1 := ⟨_, rfl⟩
  rw [hz1] at HFE
  have HZ1 := Lib.hid hz1
  clear he h4 hz1
  go_enter Tryz.func42, Tryz.ntmps42
  go_wp2
  go_loop [19] (fun i => ∃ k : Nat, k ≤ 4 ∧ i = .int .i64 k ∧ ∀ j, j < k → inM (x.at j) = true) (fun i => 4 - (intOf i).toNat)
  case atStart => exact ⟨0, by decide, rfl, fun j hj => absurd hj (Nat.not_lt_zero _)⟩
  case round =>
    obtain ⟨k, hk, rfl, hz⟩ := hrel
    by_cases hlt : k < 4
    · obtain ⟨q, hq⟩ : ∃ q, inM (x.at k) = q := ⟨_, rfl⟩
      cases q
      · have hE : (2 : Int) = e0 := by rw [← HE.out]; unfold modE; rw [HX.out k hlt hq]; rfl
        subst hE
        rcases (show k = 0 ∨ k = 1 ∨ k = 2 ∨ k = 3 by omega) with rfl | rfl | rfl | rfl
        · have HW := Lib.hid (show inE (-100000000) 100000000 x.a = false from hq)
          clear hz hq HE
          go_wp2_with (first | (go_at_call 89; (with_reducible refine (fWithin _ _ _ _ HW.out).mono ?_); rintro e w' ⟨rfl, rfl⟩))
          refine bodyPost_ret (v := .tuple #[.agg #[.int .i64 0, .int .i64 0, .slice none 0 0], .int .i64 2]) ?_ rfl ⟨0, 0, 0, none, 0, rfl, ⟨fun h => absurd h (by decide), fun _ => ⟨rfl, rfl, rfl⟩⟩, (by (repeat' (first | with_reducible exact Below.refl _ _ | (with_reducible refine below_later_of ?_ ?_ _) | (with_reducible refine Below.alloc ?_ ?_ _) | (with_reducible refine Below.setCell ?_ ?_ _) | (with_reducible refine Below.drew ?_) | (simp; done) | (simp; omega) | omega)))⟩
          first | (simp [results, Tryz.results42, go_sem]; done) | simp [results, Tryz.results42, go_sem, ↓IntWalk.iteOmega]
        · have HW := Lib.hid (show inE (-100000000) 100000000 x.b = false from hq)
          clear hz hq HE
          go_wp2_with (first | (go_at_call 89; (with_reducible refine (fWithin _ _ _ _ HW.out).mono ?_); rintro e w' ⟨rfl, rfl⟩))
          refine bodyPost_ret (v := .tuple #[.agg #[.int .i64 0, .int .i64 0, .slice none 0 0], .int .i64 2]) ?_ rfl ⟨0, 0, 0, none, 0, rfl, ⟨fun h => absurd h (by decide), fun _ => ⟨rfl, rfl, rfl⟩⟩, (by (repeat' (first | with_reducible exact Below.refl _ _ | (with_reducible refine below_later_of ?_ ?_ _) | (with_reducible refine Below.alloc ?_ ?_ _) | (with_reducible refine Below.setCell ?_ ?_ _) | (with_reducible refine Below.drew ?_) | (simp; done) | (simp; omega) | omega)))⟩
          first | (simp [results, Tryz.results42, go_sem]; done) | simp [results, Tryz.results42, go_sem, ↓IntWalk.iteOmega]
        · have HW := Lib.hid (show inE (-100000000) 100000000 x.c = false from hq)
          clear hz hq HE
          go_wp2_with (first | (go_at_call 89; (with_reducible refine (fWithin _ _ _ _ HW.out).mono ?_); rintro e w' ⟨rfl, rfl⟩))
          refine bodyPost_ret (v := .tuple #[.agg #[.int .i64 0, .int .i64 0, .slice none 0 0], .int .i64 2]) ?_ rfl ⟨0, 0, 0, none, 0, rfl, ⟨fun h => absurd h (by decide), fun _ => ⟨rfl, rfl, rfl⟩⟩, (by (repeat' (first | with_reducible exact Below.refl _ _ | (with_reducible refine below_later_of ?_ ?_ _) | (with_reducible refine Below.alloc ?_ ?_ _) | (with_reducible refine Below.setCell ?_ ?_ _) | (with_reducible refine Below.drew ?_) | (simp; done) | (simp; omega) | omega)))⟩
          first | (simp [results, Tryz.results42, go_sem]; done) | simp [results, Tryz.results42, go_sem, ↓IntWalk.iteOmega]
        · have HW := Lib.hid (show inE (-100000000) 100000000 x.d = false from hq)
          clear hz hq HE
          go_wp2_with (first | (go_at_call 89; (with_reducible refine (fWithin _ _ _ _ HW.out).mono ?_); rintro e w' ⟨rfl, rfl⟩))
          refine bodyPost_ret (v := .tuple #[.agg #[.int .i64 0, .int .i64 0, .slice none 0 0], .int .i64 2]) ?_ rfl ⟨0, 0, 0, none, 0, rfl, ⟨fun h => absurd h (by decide), fun _ => ⟨rfl, rfl, rfl⟩⟩, (by (repeat' (first | with_reducible exact Below.refl _ _ | (with_reducible refine below_later_of ?_ ?_ _) | (with_reducible refine Below.alloc ?_ ?_ _) | (with_reducible refine Below.setCell ?_ ?_ _) | (with_reducible refine Below.drew ?_) | (simp; done) | (simp; omega) | omega)))⟩
          first | (simp [results, Tryz.results42, go_sem]; done) | simp [results, Tryz.results42, go_sem, ↓IntWalk.iteOmega]
      · have HK2 := Lib.hid (show ∀ j, j < k + 1 → inM (x.at j) = true from fun j hj => by
          rcases Nat.lt_succ_iff_lt_or_eq.1 hj with h | rfl
          · exact hz j h
          · exact hq)
        rcases (show k = 0 ∨ k = 1 ∨ k = 2 ∨ k = 3 by omega) with rfl | rfl | rfl | rfl
        · have HW := Lib.hid (show inE (-100000000) 100000000 x.a = true from hq)
          clear hz hq
          go_wp2_with (first | (go_at_call 89; (with_reducible refine (fWithin _ _ _ _ HW.out).mono ?_); rintro e w' ⟨rfl, rfl⟩))
          go_round
          case rel => exact ⟨_, hlt, by go_num, HK2.out⟩
          case measure => simp [intOf]
        · have HW := Lib.hid (show inE (-100000000) 100000000 x.b = true from hq)
          clear hz hq
          go_wp2_with (first | (go_at_call 89; (with_reducible refine (fWithin _ _ _ _ HW.out).mono ?_); rintro e w' ⟨rfl, rfl⟩))
          go_round
          case rel => exact ⟨_, hlt, by go_num, HK2.out⟩
          case measure => simp [intOf]
        · have HW := Lib.hid (show inE (-100000000) 100000000 x.c = true from hq)
          clear hz hq
          go_wp2_with (first | (go_at_call 89; (with_reducible refine (fWithin _ _ _ _ HW.out).mono ?_); rintro e w' ⟨rfl, rfl⟩))
          go_round
          case rel => exact ⟨_, hlt, by go_num, HK2.out⟩
          case measure => simp [intOf]
        · have HW := Lib.hid (show inE (-100000000) 100000000 x.d = true from hq)
          clear hz hq
          go_wp2_with (first | (go_at_call 89; (with_reducible refine (fWithin _ _ _ _ HW.out).mono ?_); rintro e w' ⟨rfl, rfl⟩))
          go_round
          case rel => exact ⟨_, hlt, by go_num, HK2.out⟩
          case measure => simp [intOf]
    · obtain rfl : k = 4 := by omega
      have hok := mdl_ok hz
      have HOK := Lib.hid hok
      clear hz hlt
      by_cases h1 : z1 = 0
      · subst h1
        obtain ⟨g1, g2⟩ := fmE_zero HZ1.out
        obtain ⟨⟨r1, r2⟩, ⟨c1', c2'⟩, hnd⟩ := sizeE_okU g1
        obtain ⟨Rn, rfl⟩ : ∃ m : Nat, R = m := ⟨R.toNat, by omega⟩
        obtain ⟨Cn, rfl⟩ : ∃ m : Nat, C = m := ⟨C.toNat, by omega⟩
        have hnn : ds.length = Rn * Cn := by exact_mod_cast hnd
        have hpos : 0 < ds.length := by rw [hnn]; exact Nat.mul_pos (by omega) (by omega)
        have hl5 : ds.length ≤ 5000 := by have := Nat.mul_le_mul (show Rn ≤ 64 by omega) (show Cn ≤ 64 by omega); omega
        obtain ⟨-, _, _, hve, h4⟩ := HV.out
        cases hve
        obtain ⟨b, off, rfl, hbw, hci⟩ := h4 hpos
        have HMA := Lib.hid (show ∀ W, Below w.heap.size w W → _ from fun W hW => mp_map x Rn Cn ds w.heap.size (w.heap.size + 1) b off cap W hok (by omega) (by omega) hnn (by have := hW.size; omega) g2)
        have HMA := Lib.hid (show ∀ W, Below w.heap.size w W → _ from fun W hW a0 a1 a2 a3 h1 h2 => HMA.out W hW a0 a1 a2 a3 h1 h2 (fun k hk => (hW.cell (p := ⟨b, off + k, none⟩) hbw).trans (hci k hk)))
        obtain ⟨L, hL⟩ : ∃ L, largeM x ds Cn = L := ⟨_, rfl⟩
        have HLG := Lib.hid (show ((List.range ds.length).map (modP x ds Cn)).any (fun p => !inM p) = L from hL)
        have hE : (if L then 8 else 0 : Int) = e0 := by
          rw [← HE.out]
          unfold modE
          rw [hok, HZ1.out, Int.toNat_natCast, hL]
          rfl
        have hML : modL x ds (Cn : Int).toNat = (List.range ds.length).map (modP x ds Cn) := by rw [Int.toNat_natCast]; rfl
        have HML := Lib.hid hML
        clear h4 hci hnn hnd hpos g1 g2 hok hL r1 r2 c1' c2' HV HE hML
        cases L
        · simp only [Bool.false_eq_true, if_false] at hE
          subst hE
          go_wp2_with (first | (go_at_call 104; (with_reducible refine (HFE.out _ (by (repeat' (first | with_reducible exact Below.refl _ _ | (with_reducible refine below_later_of ?_ ?_ _) | (with_reducible refine Below.alloc ?_ ?_ _) | (with_reducible refine Below.setCell ?_ ?_ _) | (with_reducible refine Below.drew ?_) | (simp; done) | (simp; omega) | omega)))).mono ?_); rintro e w' ⟨rfl, hb⟩; obtain ⟨p1, rfl⟩ := later_of_below hb; clear hb) | (go_at_call 105; (with_reducible refine (HMA.out _ (by (repeat' (first | with_reducible exact Below.refl _ _ | (with_reducible refine below_later_of ?_ ?_ _) | (with_reducible refine Below.alloc ?_ ?_ _) | (with_reducible refine Below.setCell ?_ ?_ _) | (with_reducible refine Below.drew ?_) | (simp; done) | (simp; omega) | omega))) (by (first | (simp [go_sem]; done) | simp [go_sem, ↓IntWalk.iteOmega])) (by (first | (simp [go_sem]; done) | simp [go_sem, ↓IntWalk.iteOmega])) (by (first | (simp [go_sem]; done) | simp [go_sem, ↓IntWalk.iteOmega])) (by (first | (simp [go_sem]; done) | simp [go_sem, ↓IntWalk.iteOmega])) (by (first | (simp [go_sem]; done) | simp [go_sem, ↓IntWalk.iteOmega])) (by (first | (simp [go_sem]; done) | simp [go_sem, ↓IntWalk.iteOmega]))).mono ?_); rintro e w' ⟨a5, c5, rfl, ho, hb⟩; have HO := Lib.hid ho; clear ho; obtain ⟨p2, rfl⟩ := later_of_below hb; clear hb) | (go_at_call 108; (with_reducible refine (containsFunc_q ((List.range ds.length).map (modP x ds Cn)) _ _ (by simp; omega) (OwnIV.ints (HO.out.below (by (repeat' (first | with_reducible exact Below.refl _ _ | (with_reducible refine below_later_of ?_ ?_ _) | (with_reducible refine Below.alloc ?_ ?_ _) | (with_reducible refine Below.setCell ?_ ?_ _) | (with_reducible refine Below.drew ?_) | (simp; done) | (simp; omega) | omega))))) HLG.out).mono ?_); rintro e w' ⟨rfl, rfl⟩))
          refine bodyPost_ret (v := .tuple #[.agg #[.int .i64 Rn, .int .i64 Cn, .slice a5 ds.length c5], .int .i64 0]) ?_ rfl ⟨Rn, Cn, ds.length, a5, c5, rfl, ⟨fun _ => ⟨rfl, rfl, rfl, ?_⟩, fun h => absurd rfl h⟩, (by (repeat' (first | with_reducible exact Below.refl _ _ | (with_reducible refine below_later_of ?_ ?_ _) | (with_reducible refine Below.alloc ?_ ?_ _) | (with_reducible refine Below.setCell ?_ ?_ _) | (with_reducible refine Below.drew ?_) | (simp; done) | (simp; omega) | omega)))⟩
          · first | (simp [results, Tryz.results42, go_sem]; done) | simp [results, Tryz.results42, go_sem, ↓IntWalk.iteOmega]
          · rw [HML.out]
            refine OwnIV.mono (OwnIV.set (OwnIV.set (OwnIV.set (HO.out.below (by (repeat' (first | with_reducible exact Below.refl _ _ | (with_reducible refine below_later_of ?_ ?_ _) | (with_reducible refine Below.alloc ?_ ?_ _) | (with_reducible refine Below.setCell ?_ ?_ _) | (with_reducible refine Below.drew ?_) | (simp; done) | (simp; omega) | omega)))) ?_ _) ?_ _) ?_ _) ?_ <;> first | omega | (simp <;> omega)
        · simp only [if_true] at hE
          subst hE
          go_wp2_with (first | (go_at_call 104; (with_reducible refine (HFE.out _ (by (repeat' (first | with_reducible exact Below.refl _ _ | (with_reducible refine below_later_of ?_ ?_ _) | (with_reducible refine Below.alloc ?_ ?_ _) | (with_reducible refine Below.setCell ?_ ?_ _) | (with_reducible refine Below.drew ?_) | (simp; done) | (simp; omega) | omega)))).mono ?_); rintro e w' ⟨rfl, hb⟩; obtain ⟨p1, rfl⟩ := later_of_below hb; clear hb) | (go_at_call 105; (with_reducible refine (HMA.out _ (by (repeat' (first | with_reducible exact Below.refl _ _ | (with_reducible refine below_later_of ?_ ?_ _) | (with_reducible refine Below.alloc ?_ ?_ _) | (with_reducible refine Below.setCell ?_ ?_ _) | (with_reducible refine Below.drew ?_) | (simp; done) | (simp; omega) | omega))) (by (first | (simp [go_sem]; done) | simp [go_sem, ↓IntWalk.iteOmega])) (by (first | (simp [go_sem]; done) | simp [go_sem, ↓IntWalk.iteOmega])) (by (first | (simp [go_sem]; done) | simp [go_sem, ↓IntWalk.iteOmega])) (by (first | (simp [go_sem]; done) | simp [go_sem, ↓IntWalk.iteOmega])) (by (first | (simp [go_sem]; done) | simp [go_sem, ↓IntWalk.iteOmega])) (by (first | (simp [go_sem]; done) | simp [go_sem, ↓IntWalk.iteOmega]))).mono ?_); rintro e w' ⟨a5, c5, rfl, ho, hb⟩; have HO := Lib.hid ho; clear ho; obtain ⟨p2, rfl⟩ := later_of_below hb; clear hb) | (go_at_call 108; (with_reducible refine (containsFunc_q ((List.range ds.length).map (modP x ds Cn)) _ _ (by simp; omega) (OwnIV.ints (HO.out.below (by (repeat' (first | with_reducible exact Below.refl _ _ | (with_reducible refine below_later_of ?_ ?_ _) | (with_reducible refine Below.alloc ?_ ?_ _) | (with_reducible refine Below.setCell ?_ ?_ _) | (with_reducible refine Below.drew ?_) | (simp; done) | (simp; omega) | omega))))) HLG.out).mono ?_); rintro e w' ⟨rfl, rfl⟩))
          refine bodyPost_ret (v := .tuple #[.agg #[.int .i64 0, .int .i64 0, .slice none 0 0], .int .i64 8]) ?_ rfl ⟨0, 0, 0, none, 0, rfl, ⟨fun h => absurd h (by decide), fun _ => ⟨rfl, rfl, rfl⟩⟩, (by (repeat' (first | with_reducible exact Below.refl _ _ | (with_reducible refine below_later_of ?_ ?_ _) | (with_reducible refine Below.alloc ?_ ?_ _) | (with_reducible refine Below.setCell ?_ ?_ _) | (with_reducible refine Below.drew ?_) | (simp; done) | (simp; omega) | omega)))⟩
          first | (simp [results, Tryz.results42, go_sem]; done) | simp [results, Tryz.results42, go_sem, ↓IntWalk.iteOmega]
      · have hE : z1 = e0 := by
          rw [← HE.out]
          unfold modE
          rw [hok, HZ1.out, if_pos rfl, if_neg h1]
        subst hE
        have d1 : (z1 != 0) = true := by simpa using h1
        have HNE := Lib.hid h1
        clear h1 hok HE
        go_wp2_with (first | (go_at_call 104; (with_reducible refine (HFE.out _ (by (repeat' (first | with_reducible exact Below.refl _ _ | (with_reducible refine below_later_of ?_ ?_ _) | (with_reducible refine Below.alloc ?_ ?_ _) | (with_reducible refine Below.setCell ?_ ?_ _) | (with_reducible refine Below.drew ?_) | (simp; done) | (simp; omega) | omega)))).mono ?_); rintro e w' ⟨rfl, hb⟩; obtain ⟨p1, rfl⟩ := later_of_below hb; clear hb))
        refine bodyPost_ret (v := .tuple #[.agg #[.int .i64 0, .int .i64 0, .slice none 0 0], .int .i64 z1]) ?_ rfl ⟨0, 0, 0, none, 0, rfl, ⟨fun h => absurd h HNE.out, fun _ => ⟨rfl, rfl, rfl⟩⟩, (by (repeat' (first | with_reducible exact Below.refl _ _ | (with_reducible refine below_later_of ?_ ?_ _) | (with_reducible refine Below.alloc ?_ ?_ _) | (with_reducible refine Below.setCell ?_ ?_ _) | (with_reducible refine Below.drew ?_) | (simp; done) | (simp; omega) | omega)))⟩
        first | (simp [results, Tryz.results42, go_sem]; done) | simp [results, Tryz.results42, go_sem, ↓IntWalk.iteOmega]
end Go.Proofs.YtfiioadmpjmmgaaGreatDoor
