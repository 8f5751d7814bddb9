/- Chapter 4: the phases of a model: plain, and the closures. -/
import Derived.Test.YtfiioadmpjmmgaaGreatDoorX71
import Derived.Test.YtfiioadmpjmmgaaGreatDoorXF
namespace Go.Proofs.YtfiioadmpjmmgaaGreatDoor
set_option linter.unusedVariables false
set_option linter.unusedSimpArgs false
open Go.RowKit Ieee Ntt
/-- The parameters of a model. -/
structure Mdl where
  a : Int
  b : Int
  c : Int
  d : Int
def Mdl.at (x : Mdl) : Nat → Int
  | 0 => x.a
  | 1 => x.b
  | 2 => x.c
  | _ => x.d
def inM (p : Int) : Bool := inE (-100000000) 100000000 p
def Mdl.ok (x : Mdl) : Bool := inM x.a && (inM x.b && (inM x.c && inM x.d))
/-- The phase of a model at a pixel. -/
def modN (x : Mdl) (ds : List Nat) (C i : Nat) : Int := x.a + ((i / C : Nat) : Int) * x.b + ((i % C : Nat) : Int) * x.c + intB (flAt ds i) * x.d
def modP (x : Mdl) (ds : List Nat) (C i : Nat) : Int := (modN x ds C i + 500) / 1000
theorem modP_two (n : Int) : (2 * n + 1000) / 2000 = (n + 500) / 1000 := by omega
def modL (x : Mdl) (ds : List Nat) (C : Nat) : List Int := (List.range ds.length).map (modP x ds C)
def largeM (x : Mdl) (ds : List Nat) (C : Nat) : Bool := (modL x ds C).any fun p => !inM p
/-- The error of ModelPhases. -/
def modE (x : Mdl) (R C : Int) (ds : List Nat) : Int := if x.ok then (if (fmE R C ds).2 = 0 then (if largeM x ds C.toNat then 8 else 0) else (fmE R C ds).2) else 2
theorem modN_bd {x : Mdl} {ds : List Nat} {C i : Nat} (hx : x.ok = true) (hr : i / C ≤ 64) (hc : i % C ≤ 64) (hd : -100000 ≤ intB (flAt ds i) ∧ intB (flAt ds i) ≤ 100000) :
    ((-100000000 ≤ x.a ∧ x.a ≤ 100000000) ∧ (-6400000000 ≤ ((i / C : Nat) : Int) * x.b ∧ ((i / C : Nat) : Int) * x.b ≤ 6400000000) ∧ (-6400000000 ≤ ((i % C : Nat) : Int) * x.c ∧ ((i % C : Nat) : Int) * x.c ≤ 6400000000) ∧ (-10000000000000 ≤ intB (flAt ds i) * x.d ∧ intB (flAt ds i) * x.d ≤ 10000000000000)) := by
  generalize i / C = q at *
  generalize i % C = p at *
  unfold Mdl.ok inM at hx
  simp only [Bool.and_eq_true] at hx
  obtain ⟨h1, h2, h3, h4⟩ := hx
  have a1 := inE_iff.1 h1
  have a2 := mul_bd2 (x := (q : Int)) (A := 64) (by omega) (inE_iff.1 h2)
  have a3 := mul_bd2 (x := (p : Int)) (A := 64) (by omega) (inE_iff.1 h3)
  have a4 := mul_bd2 hd (inE_iff.1 h4)
  simp only [Int.reduceMul] at a2 a3 a4
  exact ⟨a1, a2, a3, a4⟩
set_option maxHeartbeats 400000 in
theorem model2 (p : Int) (w : World) {c : Bool} (hc : inM p = c) : Calls Tryz.prog 109 #[.int .i64 p] w fun e w' => e = .returned (.bool (!c)) ∧ w = w' := by
  have HW := Lib.hid (show inE (-100000000) 100000000 p = c from hc)
  clear hc
  go_enter Tryz.func109, Tryz.ntmps109
  go_wp2_with (first | (go_at_call 89; (with_reducible refine (fWithin _ _ _ _ HW.out).mono ?_); rintro e w' ⟨rfl, rfl⟩))
  go_ret
  exact ⟨rfl, rfl⟩
theorem anyM_hit {zs : List Int} {k : Nat} (hk : k < zs.length) (h : inM (intAt zs k) = false) : (zs.any fun p => !inM p) = true := by
  rw [List.any_eq_true]
  have : zs[k]? = some (intAt zs k) := by unfold intAt; simp [hk]
  exact ⟨intAt zs k, List.mem_of_getElem? this, by rw [h]; rfl⟩
theorem anyM_no {zs : List Int} (h : ∀ k, k < zs.length → inM (intAt zs k) = true) : (zs.any fun p => !inM p) = false := by
  rw [List.any_eq_false]
  intro p hp
  obtain ⟨k, hk, rfl⟩ := List.mem_iff_getElem.1 hp
  have := h k hk
  unfold intAt at this
  simp [hk] at this
  simp [this]
set_option maxHeartbeats 1000000 in
theorem indexFunc_q (zs : List Int) (v : Value) (w : World) (hl : zs.length ≤ 100000) (hv : IntsV w v zs) :
    Calls Tryz.prog 127 #[v, .func (.func 109) #[] #[]] w fun e w' => ∃ i : Int, e = .returned (.int .i64 i) ∧ decide (0 ≤ i) = (zs.any fun p => !inM p) ∧ (-1 ≤ i ∧ i ≤ 100000) ∧ w = w' := by
  obtain ⟨-, a, cap, rfl, h4⟩ := hv
  have H4 := Lib.hid h4
  have HN := Lib.hid (anyM_no (zs := zs))
  have HH := Lib.hid (fun k => anyM_hit (zs := zs) (k := k))
  obtain ⟨n, hn⟩ : ∃ n, zs.length = n := ⟨_, rfl⟩
  rw [hn] at hl H4 HN HH ⊢
  clear h4
  go_enter Tryz.func127, Tryz.ntmps127
  go_wp2
  go_loop [8] (fun i => ∃ k : Nat, k ≤ n ∧ i = .int .i64 k ∧ ∀ j, j < k → inM (intAt zs j) = true) (fun i => n - (intOf i).toNat)
  case atStart => exact ⟨0, Nat.zero_le _, rfl, fun j hj => absurd hj (Nat.not_lt_zero _)⟩
  case round =>
    obtain ⟨k, hk, rfl, hz⟩ := hrel
    have HZ := Lib.hid hz
    clear hz
    by_cases hlt : k < n
    · have hdk : decide ((k : Int) < (n : Int)) = true := by simp; omega
      obtain ⟨b, off, rfl, hbw, hc⟩ := H4.out (by omega)
      have ck := hc k hlt
      clear hc
      rcases (show inM (intAt zs k) = false ∨ inM (intAt zs k) = true by cases inM (intAt zs k) <;> simp) with h0 | h0
      · have HP := Lib.hid (fun W => model2 (intAt zs k) W h0)
        have HT := Lib.hid (HH.out k hlt h0)
        clear h0 HZ
        generalize intAt zs k = p at ck HP
        go_wp2_with (first | (go_at_call 109; (with_reducible refine (HP.out _).mono ?_); rintro e w' ⟨rfl, rfl⟩))
        go_ret
        exact ⟨k, rfl, by rw [HT.out]; simp, by omega, rfl⟩
      · have HP := Lib.hid (fun W => model2 (intAt zs k) W h0)
        have H0 := Lib.hid h0
        clear h0
        generalize intAt zs k = p at ck HP
        go_wp2_with (first | (go_at_call 109; (with_reducible refine (HP.out _).mono ?_); rintro e w' ⟨rfl, rfl⟩))
        go_round
        case rel => exact ⟨k + 1, by omega, by go_num, fun j hj => by rcases Nat.lt_succ_iff_lt_or_eq.1 hj with h | rfl; exact HZ.out j h; exact H0.out⟩
        case measure => simp [intOf]; omega
    · obtain rfl : k = n := by omega
      have hdk : decide ((k : Int) < (k : Int)) = false := by simp
      have HT := Lib.hid (HN.out HZ.out)
      clear HZ
      go_wp2
      go_ret
      exact ⟨-1, rfl, by rw [HT.out]; decide, by omega, rfl⟩
set_option maxHeartbeats 1000000 in
theorem containsFunc_q (zs : List Int) (v : Value) (w : World) (hl : zs.length ≤ 100000) (hv : IntsV w v zs) {c : Bool} (hc : (zs.any fun p => !inM p) = c) :
    Calls Tryz.prog 108 #[v, .func (.func 109) #[] #[]] w fun e w' => e = .returned (.bool c) ∧ w = w' := by
  have HI := Lib.hid (indexFunc_q zs v w hl hv)
  rw [hc] at HI
  obtain ⟨-, a, cap, rfl, -⟩ := hv
  clear hc
  go_enter Tryz.func108, Tryz.ntmps108
  go_wp2_with (first | (go_at_call 127; (with_reducible refine (HI.out).mono ?_); rintro e w' ⟨i, rfl, hc, ⟨hi1, hi2⟩, rfl⟩; have HC := Lib.hid hc; clear hc))
  go_ret
  exact ⟨ret_bool HC.out, rfl⟩
set_option maxRecDepth 20000 in
set_option maxHeartbeats 4000000 in
theorem model1 (x : Mdl) (R C : Int) (ds : List Nat) (A H b off cap r c i : Nat) (C' : Nat) (w : World) (hC : C = C') (hx : x.ok = true) (hA : A < w.heap.size) (hH : H < w.heap.size) (hbw : b < w.heap.size) (hr : r ≤ 64) (hc2 : c < C') (hC2 : C' ≤ 64) (hi : r * C' + c = i) (hin : i < ds.length) (hl : ds.length ≤ 5000) (hfc : fc4 (flAt ds i) = 0)
    (a0 : w.cell? ⟨A, 0, none⟩ = some (.int .i64 x.a)) (a1 : w.cell? ⟨A, 1, none⟩ = some (.int .i64 x.b)) (a2 : w.cell? ⟨A, 2, none⟩ = some (.int .i64 x.c)) (a3 : w.cell? ⟨A, 3, none⟩ = some (.int .i64 x.d))
    (h1 : w.cell? ⟨H, 1, none⟩ = some (.int .i64 C)) (h2 : w.cell? ⟨H, 2, none⟩ = some (.slice (some ⟨b, off, none⟩) ds.length cap)) (ci : w.cell? ⟨b, off + i, none⟩ = some (.float .f32 (flAt ds i))) :
    Calls Tryz.prog 106 #[.int .i64 r, .int .i64 c, .pointer (some ⟨A, 0, none⟩), .pointer (some ⟨H, 0, none⟩)] w fun e w' => e = .returned (.int .i64 (modP x ds C' i)) ∧ Below w.heap.size w w' := by
  subst hC
  have e1 : i / C' = r := by rw [← hi, Nat.mul_comm, Nat.mul_add_div (by omega), Nat.div_eq_of_lt hc2, Nat.add_zero]
  have e2 : i % C' = c := by rw [← hi, Nat.mul_comm, Nat.mul_add_mod, Nat.mod_eq_of_lt hc2]
  obtain ⟨-, d1, d2⟩ := fc4_zero hfc
  have hbd := modN_bd (x := x) (ds := ds) (C := C') (i := i) hx (by omega) (by omega) ⟨d1, d2⟩
  have cw := fun w => conv_fc hfc w
  have hm : modP x ds C' i = (2 * (x.a + (r : Int) * x.b + (c : Int) * x.c + intB (flAt ds i) * x.d) + 1000) / 2000 := by
    unfold modP modN
    rw [e1, e2, modP_two]
  rw [e1, e2] at hbd
  rw [hm]
  obtain ⟨⟨b1, b2⟩, ⟨b3, b4⟩, ⟨b5, b6⟩, b7, b8⟩ := hbd
  have hic : (r : Int) * (C' : Int) + (c : Int) = (i : Int) := by rw [← hi, Int.natCast_add, Int.natCast_mul]
  have hi1 : (i : Int) < (ds.length : Int) := by omega
  have hi0 : (0 : Int) ≤ (i : Int) := by omega
  have hmm : (0 : Int) ≤ (r : Int) * (C' : Int) := Int.mul_nonneg (by omega) (by omega)
  have hm2 : (r : Int) * (C' : Int) ≤ 5000 := by omega
  clear hm e1 e2 hi hfc
  generalize intB (flAt ds i) = z at *
  generalize flAt ds i = zb at *
  generalize x.a = xa at *
  generalize x.b = xb at *
  generalize x.c = xc at *
  generalize x.d = xd at *
  have hN1 : -20000000000000 ≤ xa + (r : Int) * xb + (c : Int) * xc + z * xd ∧ xa + (r : Int) * xb + (c : Int) * xc + z * xd ≤ 20000000000000 := by omega
  obtain ⟨N, hN⟩ : ∃ N, xa + (r : Int) * xb + (c : Int) * xc + z * xd = N := ⟨_, rfl⟩
  rw [hN] at hN1 ⊢
  obtain ⟨n1, n2⟩ := hN1
  have HFL := Lib.hid (fun w => fFloor (2 * N + 1000) 2000 w (by omega) (by omega) (by decide) (by decide) (v := (2 * N + 1000) / 2000) rfl)
  generalize (2 * N + 1000) / 2000 = Q at *
  go_enter Tryz.func106, Tryz.ntmps106
  go_wp2
  refine wp_region_calm (by kernel_rfl) (by kernel_rfl) ?_
  repeat (go_big_quiet_step (fail))
  refine wpQuiet_nil ?_
  rintro _ ⟨pq, rfl⟩
  go_wp2_with (first | (go_at_call 107; (with_reducible refine (HFL.out _).mono ?_); rintro e w' ⟨rfl, rfl⟩))
  go_ret
  exact ⟨rfl, (by (repeat' (first | with_reducible exact Below.refl _ _ | (with_reducible refine below_later_of ?_ ?_ _) | (with_reducible refine Below.alloc ?_ ?_ _) | (with_reducible refine Below.setCell ?_ ?_ _) | (with_reducible refine Below.drew ?_) | (simp; done) | (simp; omega) | omega)))⟩
end Go.Proofs.YtfiioadmpjmmgaaGreatDoor
