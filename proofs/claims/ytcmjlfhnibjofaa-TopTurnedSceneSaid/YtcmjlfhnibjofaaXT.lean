import Derived.Test.YtcmjlfhnibjofaaXA
import Derived.Test.YtcmjlfhnibjofaaShelf
import Derived.Test.YtcmjlfhnibjofaaXO
import Derived.Test.YtcmjlfhnibjofaaZN
import Derived.Stop.RegionWithIn
import Derived.Test.YtcmjlfhnibjofaaXM
import Derived.Test.YtcmjlfhnibjofaaXB
import Derived.Deep.CutRange
import Derived.Deep.RegionHeld3
import Derived.Test.YtcmjlfhnibjofaaX27
/- Chapter 4: the coherence of three sums: the greatest number of thousandths. -/
namespace Go.Proofs.Ytcmjlfhnibjofaa
set_option linter.unusedVariables false
set_option linter.unusedSimpArgs false
open Go.RowKit Ieee Ntt
def cohG (s a : Nat) : Nat → Nat
  | 0 => 0
  | t + 1 => if (t + 1) * (t + 1) * a ≤ 1000000 * s then t + 1 else cohG s a t
/-- The greatest number of thousandths whose square times all is at most a million times some. -/
def cohP (s a : Nat) : Nat := if a = 0 then 0 else cohG s a 1000
theorem cohG_le (s a : Nat) : ∀ n, cohG s a n ≤ n
  | 0 => Nat.le_refl _
  | n + 1 => by
    rw [cohG]
    split
    · omega
    · have := cohG_le s a n; omega
theorem sq_le_sq {t u a : Nat} (h : t ≤ u) : t * t * a ≤ u * u * a := Nat.mul_le_mul_right _ (Nat.mul_le_mul h h)
theorem cohG_eq {s a t : Nat} (h1 : t * t * a ≤ 1000000 * s) : ∀ n, t ≤ n → (t = n ∨ 1000000 * s < (t + 1) * (t + 1) * a) → cohG s a n = t
  | 0, h, _ => by rw [cohG]; omega
  | n + 1, h, h2 => by
    rw [cohG]
    rcases (show t = n + 1 ∨ t ≤ n by omega) with rfl | c
    · rw [if_pos h1]
    · rcases h2 with e | h2
      · omega
      · have := sq_le_sq (t := t + 1) (u := n + 1) (a := a) (by omega)
        rw [if_neg (by omega)]
        exact cohG_eq h1 n c (.inr h2)
theorem cohP_le (s a : Nat) : cohP s a ≤ 1000 := by
  unfold cohP
  split
  · omega
  · exact cohG_le s a 1000
theorem cohP_eq {s a t : Nat} (ha : a ≠ 0) (h0 : t ≤ 1000) (h1 : t * t * a ≤ 1000000 * s) (h2 : t = 1000 ∨ 1000000 * s < (t + 1) * (t + 1) * a) : cohP s a = t := by
  unfold cohP
  rw [if_neg ha]
  exact cohG_eq h1 1000 h0 h2
set_option maxRecDepth 20000 in
set_option maxHeartbeats 4000000 in
theorem fCoherent (s a : Nat) (w : World) (hs : s < 4611686018427387904) (ha : a < 4611686018427387904) :
    Calls Try.prog 98 #[.int .i64 s, .int .i64 a] w fun e w' => e = .returned (.int .i64 (cohP s a : Nat)) ∧ w = w' := by
  by_cases h0 : a = 0
  · subst h0
    have e : cohP s 0 = 0 := by unfold cohP; rw [if_pos rfl]
    rw [e]
    go_enter Try.func98, Try.ntmps98
    go_wp2
    go_ret
    exact ⟨rfl, rfl⟩
  · obtain ⟨H, hH⟩ : ∃ H, 1000000 * s / 18446744073709551616 = H := ⟨_, rfl⟩
    obtain ⟨J, hJ⟩ : ∃ J, 1000000 * s % 18446744073709551616 = J := ⟨_, rfl⟩
    have HM1 := Lib.hid (show ∀ W, Calls Try.prog 149 #[.int .u64 1000000, .int .u64 s] W fun e w' => e = .returned (.tuple #[.int .u64 H, .int .u64 J]) ∧ W = w' from fun W => by
      refine (Try.bits_Mul64 1000000 s (by decide) (by omega) W).mono ?_
      rintro e w' ⟨rfl, rfl⟩
      rw [hH, hJ]
      exact ⟨rfl, rfl⟩)
    have hw0 : IntKind.u64.wrap (s : Int) = (s : Int) := IntWalk.u64_in _ (by omega)
    have hw1 : IntKind.u64.wrap (a : Int) = (a : Int) := IntWalk.u64_in _ (by omega)
    have hne : ((a : Int) == 0) = false := by simp; omega
    have HEQ := Lib.hid (show ∀ t, t ≤ 1000 → t * t * a ≤ 1000000 * s → (t = 1000 ∨ 1000000 * s < (t + 1) * (t + 1) * a) → cohP s a = t from fun t => cohP_eq h0)
    have HHJ := Lib.hid (And.intro hH hJ)
    generalize cohP s a = R at HEQ ⊢
    clear hH hJ
    go_enter Try.func98, Try.ntmps98
    go_wp2_with (first | (go_at_call 149; (with_reducible refine (HM1.out _).mono ?_); rintro e w' ⟨rfl, rfl⟩))
    go_loop [7, 8] (fun i j => ∃ l h : Nat, i = .int .i64 l ∧ j = .int .i64 h ∧ l ≤ h ∧ h ≤ 1000 ∧ l * l * a ≤ 1000000 * s ∧ (h = 1000 ∨ 1000000 * s < (h + 1) * (h + 1) * a)) (fun i j => (intOf j).toNat - (intOf i).toNat)
    case atStart => exact ⟨0, 1000, rfl, rfl, by decide, by decide, by omega, .inl rfl⟩
    case round =>
      obtain ⟨l, h, rfl, rfl, hlh, hh, h1, h2⟩ := hrel
      rcases (show l < h ∨ l = h by omega) with c | rfl
      · have hd : decide ((l : Int) < (h : Int)) = true := by simp; omega
        obtain ⟨t, ht⟩ : ∃ t, (l + h + 1) / 2 = t := ⟨_, rfl⟩
        have hq : Int.tdiv ((l : Int) + (h : Int) + 1) 2 = (t : Int) := by
          rw [Int.tdiv_eq_ediv_of_nonneg (by omega)]
          omega
        have ht1 : l < t := by omega
        have ht2 : t ≤ h := by omega
        obtain ⟨T, hT⟩ : ∃ T, t * t = T := ⟨_, rfl⟩
        have hTb : T ≤ 1000000 := by rw [← hT]; exact Nat.mul_le_mul (show t ≤ 1000 by omega) (show t ≤ 1000 by omega)
        have hTT : (t : Int) * (t : Int) = (T : Int) := by rw [← hT, Int.natCast_mul]
        have hw2 : IntKind.u64.wrap (T : Int) = (T : Int) := IntWalk.u64_in _ (by omega)
        have hw3 : IntKind.i64.wrap (T : Int) = (T : Int) := IntWalk.i64_in _ (by omega)
        obtain ⟨P, hP⟩ : ∃ P, T * a = P := ⟨_, rfl⟩
        obtain ⟨U, hU⟩ : ∃ U, P / 18446744073709551616 = U := ⟨_, rfl⟩
        obtain ⟨V, hV⟩ : ∃ V, P % 18446744073709551616 = V := ⟨_, rfl⟩
        have HM2 := Lib.hid (show ∀ W, Calls Try.prog 149 #[.int .u64 T, .int .u64 a] W fun e w' => e = .returned (.tuple #[.int .u64 U, .int .u64 V]) ∧ W = w' from fun W => by
          refine (Try.bits_Mul64 T a (by omega) (by omega) W).mono ?_
          rintro e w' ⟨rfl, rfl⟩
          rw [hP, hU, hV]
          exact ⟨rfl, rfl⟩)
        obtain ⟨hH, hJ⟩ := HHJ.out
        have HLE := Lib.hid (show P ≤ 1000000 * s → t * t * a ≤ 1000000 * s from fun g => by rw [hT, hP]; exact g)
        have HGT := Lib.hid (show ¬ P ≤ 1000000 * s → (t - 1 + 1) * (t - 1 + 1) * a > 1000000 * s from fun g => by rw [show t - 1 + 1 = t by omega, hT, hP]; omega)
        have HH2 := Lib.hid h2
        have HH1 := Lib.hid h1
        have e1 : ((t : Int) - 1) = ((t - 1 : Nat) : Int) := by omega
        have HUV := Lib.hid (And.intro hU hV)
        clear h1 h2 hT hP hU hV hH hJ
        go_wp2_with (first | (go_at_call 149; (with_reducible refine (HM2.out _).mono ?_); rintro e w' ⟨rfl, rfl⟩))
        all_goals
          obtain ⟨hH, hJ⟩ := HHJ.out
          obtain ⟨hU, hV⟩ := HUV.out
          first
            | (have g := HLE.out (by omega)
               go_round
               case rel => exact ⟨t, h, rfl, rfl, ht2, hh, g, HH2.out⟩
               case measure => simp [intOf]; omega)
            | (have g := HGT.out (by omega)
               go_round
               case rel => exact ⟨l, t - 1, rfl, by first | rfl | (congr 1), by omega, by omega, HH1.out, .inr g⟩
               case measure => simp [intOf]; omega)
      · have hd : decide ((l : Int) < (l : Int)) = false := by simp
        have HR := Lib.hid (HEQ.out l hh h1 h2)
        clear h1 h2
        go_wp2
        go_ret
        exact ⟨ret_intE (by rw [HR.out]), rfl⟩
end Go.Proofs.Ytcmjlfhnibjofaa

/- Chapter 4: Coherence's closure: what its rounds meet. -/
namespace Go.Proofs.Ytcmjlfhnibjofaa
set_option linter.unusedVariables false
set_option linter.unusedSimpArgs false
open Go.RowKit Ieee Ntt
theorem eg_bd {x : Int} (h : -1000000000 ≤ x ∧ x ≤ 1000000000) : 0 ≤ x * x ∧ x * x ≤ 1000000000000000000 := by
  have h1 := Int.mul_nonneg (show 0 ≤ 1000000000 - x by omega) (show 0 ≤ 1000000000 + x by omega)
  have h2 : (1000000000 - x) * (1000000000 + x) = 1000000000000000000 - x * x := by grind
  rcases Int.lt_or_le x 0 with c | c
  · have := Int.mul_nonneg (show 0 ≤ -x by omega) (show 0 ≤ -x by omega)
    have e : -x * -x = x * x := by grind
    omega
  · have := Int.mul_nonneg c c
    omega
set_option maxHeartbeats 1000000 in
theorem fEnergy (x y : Int) (w : World) (h1 : -1000000000 ≤ x ∧ x ≤ 1000000000) (h2 : -1000000000 ≤ y ∧ y ≤ 1000000000) {t : Int} (ht : x * x + y * y = t) :
    Calls Try.prog 97 #[.agg #[.int .i64 x, .int .i64 y]] w fun e w' => e = .returned (.int .i64 t) ∧ Below w.heap.size w w' := by
  obtain ⟨a1, a2⟩ := eg_bd h1
  obtain ⟨b1, b2⟩ := eg_bd h2
  obtain ⟨p, hp⟩ : ∃ p, x * x = p := ⟨_, rfl⟩
  obtain ⟨q, hq⟩ : ∃ q, y * y = q := ⟨_, rfl⟩
  rw [hp] at a1 a2 ht
  rw [hq] at b1 b2 ht
  have hw1 : IntKind.i64.wrap p = p := IntWalk.i64_in _ (by omega)
  have hw2 : IntKind.i64.wrap q = q := IntWalk.i64_in _ (by omega)
  have hw3 : IntKind.i64.wrap t = t := IntWalk.i64_in _ (by omega)
  go_enter Try.func97, Try.ntmps97
  go_wp2
  go_ret
  exact ⟨ret_intE (by omega), (by (repeat' (first | with_reducible exact Below.refl _ _ | (with_reducible refine below_later_of ?_ ?_ _) | (with_reducible refine Below.alloc ?_ ?_ _) | (with_reducible refine Below.setCell ?_ ?_ _) | (with_reducible refine Below.drew ?_) | (simp; done) | (simp; omega) | omega)))⟩
/-- The energies of pairs. -/
def enF (G : Nat → Int × Int) (i : Nat) : Int := (G i).1 * (G i).1 + (G i).2 * (G i).2
theorem cntW_9 {l half L : Nat} (hh : half ≤ 4) : cntW l half L ≤ 9 := by unfold cntW hiW loW; omega
/-- What a round of Coherence's closure meets. -/
structure CoSt (w w5 : World) (B L S g n cap l s half : Nat) (F : Nat → Int × Int) (a b p q : Int) (W : World) : Prop where
  aro : AroS B L S g n cap l s half F W
  r0 : W.cell? ⟨w.heap.size, 0, none⟩ = some (.int .i64 a)
  r1 : W.cell? ⟨w.heap.size, 1, none⟩ = some (.int .i64 b)
  rp : W.cell? ⟨w.heap.size + 1, 0, none⟩ = some (.int .i64 p)
  rq : W.cell? ⟨w.heap.size + 2, 0, none⟩ = some (.int .i64 q)
  f0 : W.frozen? ⟨w.heap.size, 0, none⟩ = false
  f1 : W.frozen? ⟨w.heap.size, 1, none⟩ = false
  fp : W.frozen? ⟨w.heap.size + 1, 0, none⟩ = false
  fq : W.frozen? ⟨w.heap.size + 2, 0, none⟩ = false
  bel : Below w.heap.size w W
  sz : w5.heap.size ≤ W.heap.size
theorem CoSt.below {w w5 W W' : World} {B L S g n cap l s half : Nat} {F : Nat → Int × Int} {a b p q : Int} (h : CoSt w w5 B L S g n cap l s half F a b p q W) (hR : w.heap.size + 2 < w5.heap.size) (hB : B + 3 < w5.heap.size) (hg : g < w5.heap.size) (hb : Below w5.heap.size W W') : CoSt w w5 B L S g n cap l s half F a b p q W' := by
  obtain ⟨⟨h1, h2, h3, h4⟩, r0, r1, rp, rq, f0, f1, fp, fq, bel, sz⟩ := h
  have hs := hb.size
  have k : ∀ i j, i ≤ w.heap.size + 2 → W'.cell? ⟨i, j, none⟩ = W.cell? ⟨i, j, none⟩ := fun i j hi => hb.cell (p := ⟨i, j, none⟩) (show i < w5.heap.size by omega)
  have kf : ∀ i j, i ≤ w.heap.size + 2 → W'.frozen? ⟨i, j, none⟩ = W.frozen? ⟨i, j, none⟩ := fun i j hi => hb.frozen (p := ⟨i, j, none⟩) (show i < w5.heap.size by omega)
  exact ⟨⟨h1.below hb hB, fun k hk => by
    obtain ⟨q1, q2⟩ := h2 k hk
    exact ⟨(hb.cell (p := ⟨g, k * 2, none⟩) hg).trans q1, (hb.cell (p := ⟨g, k * 2 + 1, none⟩) hg).trans q2⟩, by omega, by omega⟩,
    (k _ _ (by omega)).trans r0, (k _ _ (by omega)).trans r1, (k _ _ (by omega)).trans rp, (k _ _ (by omega)).trans rq, (kf _ _ (by omega)).trans f0, (kf _ _ (by omega)).trans f1, (kf _ _ (by omega)).trans fp, (kf _ _ (by omega)).trans fq, bel.trans (hb.mono (by omega)), by omega⟩
theorem AroS.set {B L S g n cap l s half : Nat} {F : Nat → Int × Int} {W : World} (h : AroS B L S g n cap l s half F W) {R j : Nat} (hR : R < B) (hg : g ≠ R) (v : Value) : AroS B L S g n cap l s half F (W.setCell ⟨R, j, none⟩ v) := by
  obtain ⟨⟨c0, c1, c2, cl, cs, ch⟩, h2, h3, h4⟩ := h
  have q : ∀ x i, x ≠ R → (W.setCell ⟨R, j, none⟩ v).cell? ⟨x, i, none⟩ = W.cell? ⟨x, i, none⟩ := fun x i hx => World.cell?_setCell_other _ _ _ _ (fun e => hx (congrArg Addr.block e).symm)
  refine ⟨⟨?_, ?_, ?_, ?_, ?_, ?_⟩, fun k hk => ?_, by simpa using h3, by simpa using h4⟩
  · rw [q _ _ (by omega)]; exact c0
  · rw [q _ _ (by omega)]; exact c1
  · rw [q _ _ (by omega)]; exact c2
  · rw [q _ _ (by omega)]; exact cl
  · rw [q _ _ (by omega)]; exact cs
  · rw [q _ _ (by omega)]; exact ch
  · rw [q _ _ hg, q _ _ hg]; exact h2 k hk
theorem CoSt.put {w w5 W : World} {B L S g n cap l s half : Nat} {F : Nat → Int × Int} {a b p q : Int} (h : CoSt w w5 B L S g n cap l s half F a b p q W) (hR : w.heap.size + 2 < B) (hg : g < w.heap.size) (a' b' : Int) : CoSt w w5 B L S g n cap l s half F a' b' p q ((W.setCell ⟨w.heap.size, 0, none⟩ (.int .i64 a')).setCell ⟨w.heap.size, 1, none⟩ (.int .i64 b')) := by
  obtain ⟨aro, r0, r1, rp, rq, f0, f1, fp, fq, bel, sz⟩ := h
  exact ⟨(aro.set (by omega) (by omega) _).set (by omega) (by omega) _, by simp [go_sem, r0], by simp [go_sem, r1], by simp [go_sem, rp], by simp [go_sem, rq], by simp [go_sem, f0], by simp [go_sem, f1], by simp [go_sem, fp], by simp [go_sem, fq],
    (bel.setCell (p := ⟨w.heap.size, 0, none⟩) (Nat.le_refl _) _).setCell (p := ⟨w.heap.size, 1, none⟩) (Nat.le_refl _) _, by simpa using sz⟩
theorem CoSt.putP {w w5 W : World} {B L S g n cap l s half : Nat} {F : Nat → Int × Int} {a b p q : Int} (h : CoSt w w5 B L S g n cap l s half F a b p q W) (hR : w.heap.size + 2 < B) (hg : g < w.heap.size) (p' : Int) : CoSt w w5 B L S g n cap l s half F a b p' q (W.setCell ⟨w.heap.size + 1, 0, none⟩ (.int .i64 p')) := by
  obtain ⟨aro, r0, r1, rp, rq, f0, f1, fp, fq, bel, sz⟩ := h
  exact ⟨aro.set (by omega) (by omega) _, by simp [go_sem, r0], by simp [go_sem, r1], by simp [go_sem, rp], by simp [go_sem, rq], by simp [go_sem, f0], by simp [go_sem, f1], by simp [go_sem, fp], by simp [go_sem, fq],
    bel.setCell (p := ⟨w.heap.size + 1, 0, none⟩) (Nat.le_succ _) _, by simpa using sz⟩
theorem CoSt.putQ {w w5 W : World} {B L S g n cap l s half : Nat} {F : Nat → Int × Int} {a b p q : Int} (h : CoSt w w5 B L S g n cap l s half F a b p q W) (hR : w.heap.size + 2 < B) (hg : g < w.heap.size) (q' : Int) : CoSt w w5 B L S g n cap l s half F a b p q' (W.setCell ⟨w.heap.size + 2, 0, none⟩ (.int .i64 q')) := by
  obtain ⟨aro, r0, r1, rp, rq, f0, f1, fp, fq, bel, sz⟩ := h
  exact ⟨aro.set (by omega) (by omega) _, by simp [go_sem, r0], by simp [go_sem, r1], by simp [go_sem, rp], by simp [go_sem, rq], by simp [go_sem, f0], by simp [go_sem, f1], by simp [go_sem, fp], by simp [go_sem, fq],
    bel.setCell (p := ⟨w.heap.size + 2, 0, none⟩) (by simp) _, by simpa using sz⟩
end Go.Proofs.Ytcmjlfhnibjofaa

/- Chapter 4: Coherence's closure: the sums of three windows, and what they give. -/
namespace Go.Proofs.Ytcmjlfhnibjofaa
set_option linter.unusedVariables false
set_option linter.unusedSimpArgs false
open Go.RowKit Ieee Ntt
/-- The coherence of a place, in thousandths, as a float's bits. -/
def cohV (F G K : Nat → Int × Int) (L S half l s : Nat) : Nat :=
  floatOfInt .f32 (cohP (winP (fun i => (F i).1) L S half l s * winP (fun i => (F i).1) L S half l s + winP (fun i => (F i).2) L S half l s * winP (fun i => (F i).2) L S half l s).toNat (winP (enF G) L S half l s * winP (enF K) L S half l s).toNat : Nat)
theorem sumN_nn {f : Nat → Int} {a : Nat} : ∀ {k : Nat}, (∀ j, j < k → 0 ≤ f (a + j)) → 0 ≤ sumN f a k
  | 0, _ => Int.le_refl _
  | k + 1, h => by
    have := sumN_nn (k := k) fun j hj => h j (by omega)
    have := h k (by omega)
    rw [sumN]
    omega
/-- Marks of loops that have ended. -/
def Mk (ms : List Nat) (W : World) : Prop := ∀ m, m ∈ ms → W.heap[m]? = some (.deferred (some []))
theorem Mk.below {ms : List Nat} {D : Nat} {W W' : World} (h : Mk ms W) (hm : ∀ m, m ∈ ms → m < D) (hb : Below D W W') : Mk ms W' := fun m h1 => (hb.block m (hm m h1)).trans (h m h1)
theorem Mk.set {ms : List Nat} {W : World} (h : Mk ms W) {p : Addr} (hm : ∀ m, m ∈ ms → p.block < m) (v : Value) : Mk ms (W.setCell p v) := fun m h1 => (Below.heap_setCell _ _ _ _ (by have := hm m h1; omega)).trans (h m h1)
theorem heap_lt {W : World} {m : Nat} {o : Obj} (h : W.heap[m]? = some o) : m < W.heap.size := (Array.getElem?_eq_some_iff.1 h).1
theorem psW_next (G : Nat → Int) (S l0 s0 sc k : Nat) : psW G S l0 s0 sc (k + 1) = psW G S l0 s0 sc k + G (winI S l0 s0 sc k) := by unfold psW; rw [sumN, Nat.zero_add]
theorem enF_bd {n : Nat} {G : Nat → Int × Int} (h : SmallP n G 2047) {i : Nat} (hi : i < n) : 0 ≤ enF G i ∧ enF G i ≤ 8400000 := by
  obtain ⟨⟨a1, a2⟩, b1, b2⟩ := h i hi
  have e1 := Int.mul_nonneg (show 0 ≤ 2047 - (G i).1 by omega) (show 0 ≤ 2047 + (G i).1 by omega)
  have e2 : (2047 - (G i).1) * (2047 + (G i).1) = 4190209 - (G i).1 * (G i).1 := by grind
  have e3 := Int.mul_nonneg (show 0 ≤ 2047 - (G i).2 by omega) (show 0 ≤ 2047 + (G i).2 by omega)
  have e4 : (2047 - (G i).2) * (2047 + (G i).2) = 4190209 - (G i).2 * (G i).2 := by grind
  have p1 := eg_bd (x := (G i).1) (by omega)
  have p2 := eg_bd (x := (G i).2) (by omega)
  unfold enF
  omega
set_option maxRecDepth 20000 in
set_option maxHeartbeats 8000000 in
theorem coh1 (A X Y H L S gz gx gy n cz cx cy l s half : Nat) (F G K : Nat → Int × Int) (w : World) (hn : n = L * S) (l2 : L ≤ 64) (s2 : S ≤ 64) (hl : l < L) (hs : s < S) (hh : half ≤ 4) (hA : A < w.heap.size) (hX : X < w.heap.size) (hY : Y < w.heap.size) (hH : H < w.heap.size) (hgz : gz < w.heap.size) (hgx : gx < w.heap.size) (hgy : gy < w.heap.size)
    (z0 : w.cell? ⟨A, 0, none⟩ = some (.int .i64 L)) (z1 : w.cell? ⟨A, 1, none⟩ = some (.int .i64 S)) (z2 : w.cell? ⟨A, 2, none⟩ = some (.slice (some ⟨gz, 0, none⟩) n cz)) (x0 : w.cell? ⟨X, 0, none⟩ = some (.int .i64 L)) (x1 : w.cell? ⟨X, 1, none⟩ = some (.int .i64 S)) (x2 : w.cell? ⟨X, 2, none⟩ = some (.slice (some ⟨gx, 0, none⟩) n cx)) (y0 : w.cell? ⟨Y, 0, none⟩ = some (.int .i64 L)) (y1 : w.cell? ⟨Y, 1, none⟩ = some (.int .i64 S)) (y2 : w.cell? ⟨Y, 2, none⟩ = some (.slice (some ⟨gy, 0, none⟩) n cy)) (ch : w.cell? ⟨H, 0, none⟩ = some (.int .i64 half))
    (hF : PairsAt w gz n F) (hG : PairsAt w gx n G) (hK : PairsAt w gy n K) (sF : SmallP n F 8400000) (sG : SmallP n G 2047) (sK : SmallP n K 2047) :
    Calls Try.prog 95 #[.int .i64 l, .int .i64 s, .pointer (some ⟨A, 0, none⟩), .pointer (some ⟨H, 0, none⟩), .pointer (some ⟨X, 0, none⟩), .pointer (some ⟨Y, 0, none⟩)] w fun e w' => e = .returned (.float .f32 (cohV F G K L S half l s)) ∧ Below w.heap.size w w' := by
  have HN := Lib.hid hn
  clear hn
  have HAR1 := Lib.hid (fun w => around_any L S gz n cz l s half w)
  have HAR2 := Lib.hid (fun w => around_any L S gx n cx l s half w)
  have HAR3 := Lib.hid (fun w => around_any L S gy n cy l s half w)
  obtain ⟨t1, t2⟩ := cntW_le (half := half) hl
  obtain ⟨t3, t4⟩ := cntW_le (half := half) hs
  have t5 := cntW_9 (l := l) (L := L) hh
  have t6 := cntW_9 (l := s) (L := S) hh
  have HW1 := Lib.hid (show winP (fun i => (F i).1) L S half l s = psW (fun i => (F i).1) S (loW l half) (loW s half) (cntW s half S) (cntW l half L * cntW s half S) from (psW_rows _ _ _ _ _ _).symm)
  have HW2 := Lib.hid (show winP (fun i => (F i).2) L S half l s = psW (fun i => (F i).2) S (loW l half) (loW s half) (cntW s half S) (cntW l half L * cntW s half S) from (psW_rows _ _ _ _ _ _).symm)
  have HW3 := Lib.hid (show winP (enF G) L S half l s = psW (enF G) S (loW l half) (loW s half) (cntW s half S) (cntW l half L * cntW s half S) from (psW_rows _ _ _ _ _ _).symm)
  have HW4 := Lib.hid (show winP (enF K) L S half l s = psW (enF K) S (loW l half) (loW s half) (cntW s half S) (cntW l half L * cntW s half S) from (psW_rows _ _ _ _ _ _).symm)
  have HIT1 := Lib.hid (show ∀ B W, _ from fun B W => around_iter 5 8 (by omega) B L S gz n cz l s half F HN.out l2 s2 hl hs hh W)
  have HIT2 := Lib.hid (show ∀ B W, _ from fun B W => around_iter 5 8 (by omega) B L S gx n cx l s half G HN.out l2 s2 hl hs hh W)
  have HIT3 := Lib.hid (show ∀ B W, _ from fun B W => around_iter 5 8 (by omega) B L S gy n cy l s half K HN.out l2 s2 hl hs hh W)
  obtain ⟨l0, hl0⟩ : ∃ l0, loW l half = l0 := ⟨_, rfl⟩
  obtain ⟨s0, hs0⟩ : ∃ s0, loW s half = s0 := ⟨_, rfl⟩
  obtain ⟨lc, hlc⟩ : ∃ lc, cntW l half L = lc := ⟨_, rfl⟩
  obtain ⟨sc, hsc⟩ : ∃ sc, cntW s half S = sc := ⟨_, rfl⟩
  rw [hl0, hlc] at t1
  rw [hs0, hsc] at t3
  rw [hlc] at t5
  rw [hsc] at t6
  rw [hl0, hs0, hlc, hsc] at HIT1 HIT2 HIT3 HW1 HW2 HW3 HW4
  clear hl0 hs0 hlc hsc t2 t4
  have HTT := Lib.hid (show lc * sc ≤ 81 from Nat.mul_le_mul t5 t6)
  have HWI := Lib.hid (show ∀ j, j < lc * sc → winI S l0 s0 sc j < n from fun j hj => by rw [HN.out]; exact winI_lt t1 t3 hj)
  have HBF := Lib.hid (show ∀ k, k ≤ lc * sc → (-680400000 ≤ psW (fun i => (F i).1) S l0 s0 sc k ∧ psW (fun i => (F i).1) S l0 s0 sc k ≤ 680400000) ∧ -680400000 ≤ psW (fun i => (F i).2) S l0 s0 sc k ∧ psW (fun i => (F i).2) S l0 s0 sc k ≤ 680400000 from fun k hk => by
    have e1 := psW_bd (G := fun i => (F i).1) (n := n) (B := 8400000) (fun i hi => (sF i hi).1) (S := S) (l0 := l0) (s0 := s0) (sc := sc) (k := k) (fun j hj => HWI.out j (by omega))
    have e2 := psW_bd (G := fun i => (F i).2) (n := n) (B := 8400000) (fun i hi => (sF i hi).2) (S := S) (l0 := l0) (s0 := s0) (sc := sc) (k := k) (fun j hj => HWI.out j (by omega))
    have := HTT.out
    omega)
  have HBG := Lib.hid (show ∀ k, k ≤ lc * sc → -680400000 ≤ psW (enF G) S l0 s0 sc k ∧ psW (enF G) S l0 s0 sc k ≤ 680400000 from fun k hk => by
    have e1 := psW_bd (G := enF G) (n := n) (B := 8400000) (fun i hi => by have := enF_bd sG hi; omega) (S := S) (l0 := l0) (s0 := s0) (sc := sc) (k := k) (fun j hj => HWI.out j (by omega))
    have := HTT.out
    omega)
  have HBK := Lib.hid (show ∀ k, k ≤ lc * sc → -680400000 ≤ psW (enF K) S l0 s0 sc k ∧ psW (enF K) S l0 s0 sc k ≤ 680400000 from fun k hk => by
    have e1 := psW_bd (G := enF K) (n := n) (B := 8400000) (fun i hi => by have := enF_bd sK hi; omega) (S := S) (l0 := l0) (s0 := s0) (sc := sc) (k := k) (fun j hj => HWI.out j (by omega))
    have := HTT.out
    omega)
  have HNG := Lib.hid (show 0 ≤ psW (enF G) S l0 s0 sc (lc * sc) from sumN_nn fun j hj => (enF_bd sG (by rw [Nat.zero_add]; exact HWI.out j hj)).1)
  have HNK := Lib.hid (show 0 ≤ psW (enF K) S l0 s0 sc (lc * sc) from sumN_nn fun j hj => (enF_bd sK (by rw [Nat.zero_add]; exact HWI.out j hj)).1)
  have HSF := Lib.hid sF
  have HSG := Lib.hid sG
  have HSK := Lib.hid sK
  have HCX := Lib.hid (And.intro hX (And.intro x0 (And.intro x1 (And.intro x2 hG))))
  have HCY := Lib.hid (And.intro hY (And.intro y0 (And.intro y1 (And.intro y2 hK))))
  have HCH := Lib.hid (And.intro hH ch)
  have HFA := Lib.hid hF
  clear hF hG hK sF sG sK x0 x1 x2 y0 y1 y2 hX hY l2 s2 hh t1 t3 t5 t6 hl hs
  refine callsIn_wide.1 (callsIn_of_wp_marks (F := Fence.wide) (n := 9) Try.func95 rfl trivial (wpIn_wide.2 ?_) rfl)
  simp only [Try.ntmps95, List.size_toArray, List.length_cons, List.length_nil, Nat.reduceAdd, Nat.reduceSub, Array.replicate_succ, Array.replicate_zero, List.push_toArray, List.append_toArray, List.nil_append, List.cons_append]
  go_wp2_with (first | (go_at_call 96; (with_reducible refine (HAR1.out _).mono ?_); rintro e wa1 ⟨B1, hB1, rfl, hab1, hBw1, hb1⟩; have HAB1 := Lib.hid hab1; have HB51 := Lib.hid hb1; have HBB1 := Lib.hid hB1; have HBW1 := Lib.hid hBw1; clear hab1 hb1 hB1 hBw1))
  have hb5 := HB51.out
  have hBe1 := HBB1.out
  have hBw1 := HBW1.out
  (try simp at hBe1)
  have hRB1 : w.heap.size + 2 < B1 := by omega
  have hw51 : w.heap.size + 2 < wa1.heap.size := by omega
  have HST1 := Lib.hid (show CoSt w wa1 B1 L S gz n cz l s half F (psW (fun i => (F i).1) S l0 s0 sc 0) (psW (fun i => (F i).2) S l0 s0 sc 0) 0 0 wa1 from by
    have hba : Below w.heap.size w (((w.alloc (.cells #[.int .i64 0, .int .i64 0] 173)).alloc (.cells #[.int .i64 0] 3)).alloc (.cells #[.int .i64 0] 3)) := (by (repeat' (first | with_reducible exact Below.refl _ _ | (with_reducible refine below_later_of ?_ ?_ _) | (with_reducible refine Below.alloc ?_ ?_ _) | (with_reducible refine Below.setCell ?_ ?_ _) | (with_reducible refine Below.drew ?_) | (simp; done) | (simp; omega) | omega)))
    have hb6 : Below w.heap.size w wa1 := hba.trans (hb5.mono (by simp <;> omega))
    refine ⟨⟨HAB1.out, (fun k hk => ?_), by omega, hBw1⟩, ?_, ?_, ?_, ?_, ?_, ?_, ?_, ?_, hb6, Nat.le_refl _⟩
    · obtain ⟨q1, q2⟩ := HFA.out k hk
      exact ⟨(hb6.cell (p := ⟨gz, k * 2, none⟩) hgz).trans q1, (hb6.cell (p := ⟨gz, k * 2 + 1, none⟩) hgz).trans q2⟩
    · exact (hb5.cell (p := ⟨w.heap.size + 0, 0, none⟩) (by simp <;> omega)).trans (by (first | (simp [go_sem, psW, sumN]; done) | simp [go_sem, psW, sumN, ↓IntWalk.iteOmega]))
    · exact (hb5.cell (p := ⟨w.heap.size + 0, 1, none⟩) (by simp <;> omega)).trans (by (first | (simp [go_sem, psW, sumN]; done) | simp [go_sem, psW, sumN, ↓IntWalk.iteOmega]))
    · exact (hb5.cell (p := ⟨w.heap.size + 1, 0, none⟩) (by simp <;> omega)).trans (by (first | (simp [go_sem, psW, sumN]; done) | simp [go_sem, psW, sumN, ↓IntWalk.iteOmega]))
    · exact (hb5.cell (p := ⟨w.heap.size + 2, 0, none⟩) (by simp <;> omega)).trans (by (first | (simp [go_sem, psW, sumN]; done) | simp [go_sem, psW, sumN, ↓IntWalk.iteOmega]))
    · exact (hb5.frozen (p := ⟨w.heap.size + 0, 0, none⟩) (by simp <;> omega)).trans (by (first | (simp [go_sem]; done) | simp [go_sem, ↓IntWalk.iteOmega]))
    · exact (hb5.frozen (p := ⟨w.heap.size + 0, 1, none⟩) (by simp <;> omega)).trans (by (first | (simp [go_sem]; done) | simp [go_sem, ↓IntWalk.iteOmega]))
    · exact (hb5.frozen (p := ⟨w.heap.size + 1, 0, none⟩) (by simp <;> omega)).trans (by (first | (simp [go_sem]; done) | simp [go_sem, ↓IntWalk.iteOmega]))
    · exact (hb5.frozen (p := ⟨w.heap.size + 2, 0, none⟩) (by simp <;> omega)).trans (by (first | (simp [go_sem]; done) | simp [go_sem, ↓IntWalk.iteOmega])))
  have HBE1 := Lib.hid hBe1
  clear HAB1 HB51 HBB1 HBW1 hb5 hBe1 z0 z1 z2 ch HFA
  have HMK1 := Lib.hid (show Mk [] wa1 from fun m h => by cases h)
  have hma1 : ∀ m, m ∈ [] → m < wa1.heap.size := by intro m h; cases h
  have hmb1 : ∀ m, m ∈ [] → w.heap.size + 2 < m := by intro m h; cases h
  refine wpIn_wide.1 (wpIn_rangeCapW 5 (AroS B1 L S gz n cz l s half F) (n := 9) rfl (by omega) (gf := 148) (cap := #[.pointer (some ⟨B1 + 1, 0, none⟩), .pointer (some ⟨B1 + 3, 0, none⟩), .pointer (some ⟨B1, 0, none⟩), .pointer (some ⟨B1 + 2, 0, none⟩)]) rfl trivial (enters_of Try.func148 (by kernel_rfl) rfl) (N := lc * sc) (enc := encW F S l0 s0 sc) (fun k => rfl)
    (fun W _ => HIT1.out _ W)
    (fun k W => CoSt w wa1 B1 L S gz n cz l s half F (psW (fun i => (F i).1) S l0 s0 sc k) (psW (fun i => (F i).2) S l0 s0 sc k) 0 0 W ∧ Mk [] W)
    (fun _ _ => False)
    (fun k W1 W2 h hb hc => ⟨h.1.below hw51 hBw1 (by omega) hb, h.2.below hma1 hb⟩)
    (fun c W1 W2 h hb hc => h)
    (fun k W h => h.1.aro)
    ⟨HST1.out, HMK1.out⟩
    (fun T k W => (T.setIfInBounds 20 (.agg #[.int .i64 (F (winI S l0 s0 sc k)).1, .int .i64 (F (winI S l0 s0 sc k)).2])).setIfInBounds 12 (.pointer (some ⟨W.heap.size, 0, none⟩)))
    (fun k W => W.alloc (.cells #[.int .i64 (F (winI S l0 s0 sc k)).1, .int .i64 (F (winI S l0 s0 sc k)).2] 173))
    (fun k W => (Below.refl W.heap.size W).alloc (Nat.le_refl _) _)
    ?assign1 ?body1 ?done1 ?stop1)
  case assign1 =>
    intro ll k W K1 hK1
    simp only [encW]
    simp only [List.setIfInBounds_toArray, List.set_cons_succ, List.set_cons_zero] at hK1
    gi_wp2
    exact hK1
  case body1 =>
    rintro ll k W Wb ⟨hst, hmk⟩ hkN hWs hcs hsz
    have e0 : Wb.cell? ⟨W.heap.size, 0, none⟩ = _ := cell_same hcs (v := .int .i64 (F (winI S l0 s0 sc k)).1) (by simp [go_sem])
    have e1 : Wb.cell? ⟨W.heap.size, 1, none⟩ = _ := cell_same hcs (v := .int .i64 (F (winI S l0 s0 sc k)).2) (by simp [go_sem])
    have hin := HWI.out k hkN
    obtain ⟨⟨b1, b2⟩, b3, b4⟩ := HSF.out _ hin
    obtain ⟨⟨q1, q2⟩, q3, q4⟩ := HBF.out k (by omega)
    have n1 := psW_next (fun i => (F i).1) S l0 s0 sc k
    have n2 := psW_next (fun i => (F i).2) S l0 s0 sc k
    rw [n1, n2]
    generalize psW (fun i => (F i).1) S l0 s0 sc k = ua at *
    generalize psW (fun i => (F i).2) S l0 s0 sc k = ub at *
    dsimp only
    generalize (F (winI S l0 s0 sc k)).1 = x at *
    generalize (F (winI S l0 s0 sc k)).2 = y at *
    have HPL := Lib.hid (fun W => fPlus ua ub x y W (by omega) (by omega) (by omega) (by omega))
    have HSB := Lib.hid hst
    have HMB := Lib.hid hmk
    have r0 := hst.r0
    have r1 := hst.r1
    have rp := hst.rp
    have rq := hst.rq
    have f0 := hst.f0
    have f1 := hst.f1
    have fp := hst.fp
    have fq := hst.fq
    have hsW := hst.sz
    have hWl : W.heap.size < Wb.heap.size := by rw [← hsz]; simp
    clear hmk hst hcs hsz hin b1 b2 b3 b4 n1 n2 q3 q4
    gi_wp2_with (first | (refine ⟨trivial, ?_⟩; gi_at_call 88; refine (callsIn_rw (HPL.out _)).mono ?_; rintro e w' ⟨rfl, hb⟩; obtain ⟨p1, rfl⟩ := later_of_below hb; clear hb))
    exact ⟨((KeepT.below (below_later Wb p1)).setCell (p := ⟨w.heap.size, 0, none⟩) (show w.heap.size < wa1.heap.size by omega) _).setCell (p := ⟨w.heap.size, 1, none⟩) (show w.heap.size < wa1.heap.size by omega) _, (HSB.out.below hw51 hBw1 (by omega) ((below_later Wb p1).mono hsW)).put hRB1 hgz _ _, fun m h => by cases h⟩
  case stop1 =>
    rintro c W h hD
    exact h.elim
  case done1 =>
    rintro W ⟨hst, hmk1⟩ hD1
    have HB := Lib.hid hst.bel
    have HDD1 := Lib.hid hD1
    have r0 := hst.r0
    have r1 := hst.r1
    have rp := hst.rp
    have rq := hst.rq
    have f0 := hst.f0
    have f1 := hst.f1
    have fp := hst.fp
    have fq := hst.fq
    have hsW1 := hst.sz
    obtain ⟨pa, hpa⟩ : ∃ pa, psW (fun i => (F i).1) S l0 s0 sc (lc * sc) = pa := ⟨_, rfl⟩
    obtain ⟨pb, hpb⟩ : ∃ pb, psW (fun i => (F i).2) S l0 s0 sc (lc * sc) = pb := ⟨_, rfl⟩
    have HBA := Lib.hid (HBF.out (lc * sc) (Nat.le_refl _))
    rw [hpa] at r0 HW1 HBA
    rw [hpb] at r1 HW2 HBA
    clear hpa hpb
    clear hst hD1
    obtain ⟨hv, v0, v1, v2, -⟩ := HCX.out
    obtain ⟨hH, ch⟩ := HCH.out
    replace v0 := (HB.out.cell (p := ⟨X, 0, none⟩) hv).trans v0
    replace v1 := (HB.out.cell (p := ⟨X, 1, none⟩) hv).trans v1
    replace v2 := (HB.out.cell (p := ⟨X, 2, none⟩) hv).trans v2
    replace ch := (HB.out.cell (p := ⟨H, 0, none⟩) hH).trans ch
    have hWz := HB.out.size
    have hWm1 := heap_lt HDD1.out
    go_wp2_with (first | (go_at_call 96; (with_reducible refine (HAR2.out _).mono ?_); rintro e wa2 ⟨B2, hB2, rfl, hab2, hBw2, hb2⟩; have HAB2 := Lib.hid hab2; have HB52 := Lib.hid hb2; have HBB2 := Lib.hid hB2; have HBW2 := Lib.hid hBw2; clear hab2 hb2 hB2 hBw2))
    clear v0 v1 v2 ch
    have HMK2 := Lib.hid (show Mk [wa1.heap.size] wa2 from by
      refine Mk.below (W := W) (D := W.heap.size) ?_ ?_ HB52.out
      · intro m h
        simp only [List.mem_cons, List.not_mem_nil, or_false] at h
        subst h
        exact HDD1.out
      · intro m h
        simp only [List.mem_cons, List.not_mem_nil, or_false] at h
        omega)
    have hwm1 : wa1.heap.size < wa2.heap.size := by have := HB52.out.size; omega
    have hb5 := HB52.out
    have hBe2 := HBB2.out
    have hBw2 := HBW2.out
    (try simp at hBe2)
    have hRB2 : w.heap.size + 2 < B2 := by omega
    have hw52 : w.heap.size + 2 < wa2.heap.size := by omega
    have HST2 := Lib.hid (show CoSt w wa2 B2 L S gx n cx l s half G pa pb (psW (enF G) S l0 s0 sc 0) 0 wa2 from by
      have hb6 : Below w.heap.size w wa2 := HB.out.trans (hb5.mono HB.out.size)
      refine ⟨⟨HAB2.out, (fun k hk => ?_), by omega, hBw2⟩, (hb5.cell (p := ⟨w.heap.size, 0, none⟩) (show w.heap.size < W.heap.size by omega)).trans r0, (hb5.cell (p := ⟨w.heap.size, 1, none⟩) (show w.heap.size < W.heap.size by omega)).trans r1, (hb5.cell (p := ⟨w.heap.size + 1, 0, none⟩) (show w.heap.size + 1 < W.heap.size by omega)).trans rp, (hb5.cell (p := ⟨w.heap.size + 2, 0, none⟩) (show w.heap.size + 2 < W.heap.size by omega)).trans rq, (hb5.frozen (p := ⟨w.heap.size, 0, none⟩) (show w.heap.size < W.heap.size by omega)).trans f0, (hb5.frozen (p := ⟨w.heap.size, 1, none⟩) (show w.heap.size < W.heap.size by omega)).trans f1, (hb5.frozen (p := ⟨w.heap.size + 1, 0, none⟩) (show w.heap.size + 1 < W.heap.size by omega)).trans fp, (hb5.frozen (p := ⟨w.heap.size + 2, 0, none⟩) (show w.heap.size + 2 < W.heap.size by omega)).trans fq, hb6, Nat.le_refl _⟩
      obtain ⟨q1, q2⟩ := HCX.out.2.2.2.2 k hk
      exact ⟨(hb6.cell (p := ⟨gx, k * 2, none⟩) hgx).trans q1, (hb6.cell (p := ⟨gx, k * 2 + 1, none⟩) hgx).trans q2⟩)
    have HBE2 := Lib.hid hBe2
    clear HAB2 HB52 HBB2 HBW2 hb5 hBe2 r0 r1 rp rq f0 f1 fp fq
    have hma2 : ∀ m, m ∈ [wa1.heap.size] → m < wa2.heap.size := by intro m h; simp only [List.mem_cons, List.not_mem_nil, or_false] at h; omega
    have hmb2 : ∀ m, m ∈ [wa1.heap.size] → w.heap.size + 2 < m := by intro m h; simp only [List.mem_cons, List.not_mem_nil, or_false] at h; omega
    refine wpIn_wide.1 (wpIn_rangeCapW 5 (AroS B2 L S gx n cx l s half G) (n := 9) rfl (by omega) (gf := 148) (cap := #[.pointer (some ⟨B2 + 1, 0, none⟩), .pointer (some ⟨B2 + 3, 0, none⟩), .pointer (some ⟨B2, 0, none⟩), .pointer (some ⟨B2 + 2, 0, none⟩)]) rfl trivial (enters_of Try.func148 (by kernel_rfl) rfl) (N := lc * sc) (enc := encW G S l0 s0 sc) (fun k => rfl)
      (fun W _ => HIT2.out _ W)
      (fun k W => CoSt w wa2 B2 L S gx n cx l s half G pa pb (psW (enF G) S l0 s0 sc k) 0 W ∧ Mk [wa1.heap.size] W)
      (fun _ _ => False)
      (fun k W1 W2 h hb hc => ⟨h.1.below hw52 hBw2 (by omega) hb, h.2.below hma2 hb⟩)
      (fun c W1 W2 h hb hc => h)
      (fun k W h => h.1.aro)
      ⟨HST2.out, HMK2.out⟩
      (fun T k W => (T.setIfInBounds 29 (.agg #[.int .i64 (G (winI S l0 s0 sc k)).1, .int .i64 (G (winI S l0 s0 sc k)).2])).setIfInBounds 13 (.pointer (some ⟨W.heap.size, 0, none⟩)))
      (fun k W => W.alloc (.cells #[.int .i64 (G (winI S l0 s0 sc k)).1, .int .i64 (G (winI S l0 s0 sc k)).2] 173))
      (fun k W => (Below.refl W.heap.size W).alloc (Nat.le_refl _) _)
      ?assign2 ?body2 ?done2 ?stop2)
    case assign2 =>
      intro ll k W K1 hK1
      simp only [encW]
      simp only [List.setIfInBounds_toArray, List.set_cons_succ, List.set_cons_zero] at hK1
      gi_wp2
      exact hK1
    case body2 =>
      rintro ll k W Wb ⟨hst, hmk⟩ hkN hWs hcs hsz
      have e0 : Wb.cell? ⟨W.heap.size, 0, none⟩ = _ := cell_same hcs (v := .int .i64 (G (winI S l0 s0 sc k)).1) (by simp [go_sem])
      have e1 : Wb.cell? ⟨W.heap.size, 1, none⟩ = _ := cell_same hcs (v := .int .i64 (G (winI S l0 s0 sc k)).2) (by simp [go_sem])
      have hin := HWI.out k hkN
      obtain ⟨⟨b1, b2⟩, b3, b4⟩ := HSG.out _ hin
      obtain ⟨q1, q2⟩ := HBG.out k (by omega)
      obtain ⟨q5, q6⟩ := enF_bd HSG.out hin
      have n1 := psW_next (enF G) S l0 s0 sc k
      rw [n1]
      generalize psW (enF G) S l0 s0 sc k = ua at *
      obtain ⟨t, ht⟩ : ∃ t, enF G (winI S l0 s0 sc k) = t := ⟨_, rfl⟩
      rw [ht] at q5 q6 ⊢
      unfold enF at ht
      generalize (G (winI S l0 s0 sc k)).1 = x at *
      generalize (G (winI S l0 s0 sc k)).2 = y at *
      have HEN := Lib.hid (fun W => fEnergy x y W (by omega) (by omega) ht)
      have hwv : IntKind.i64.wrap (ua + t) = ua + t := IntWalk.i64_in _ (by omega)
      have HSB := Lib.hid hst
      have HMB := Lib.hid hmk
      have r0 := hst.r0
      have r1 := hst.r1
      have rp := hst.rp
      have rq := hst.rq
      have f0 := hst.f0
      have f1 := hst.f1
      have fp := hst.fp
      have fq := hst.fq
      have hsW := hst.sz
      have hWl : W.heap.size < Wb.heap.size := by rw [← hsz]; simp
      clear hmk hst hcs hsz hin b1 b2 b3 b4 n1 ht
      gi_wp2_with fail
      gi_region_with (first | (refine ⟨trivial, ?_⟩; gi_at_call 97; refine (callsIn_rw (HEN.out _)).mono ?_; rintro e w' ⟨rfl, hb⟩; obtain ⟨p1, rfl⟩ := later_of_below hb; clear hb))
      all_goals
        gi_wp2_with fail
        exact ⟨(KeepT.below (show Below Wb.heap.size Wb _ from (by (repeat' (first | with_reducible exact Below.refl _ _ | (with_reducible refine below_later_of ?_ ?_ _) | (with_reducible refine Below.alloc ?_ ?_ _) | (with_reducible refine Below.setCell ?_ ?_ _) | (with_reducible refine Below.drew ?_) | (simp; done) | (simp; omega) | omega))))).setCell (p := ⟨w.heap.size + 1, 0, none⟩) (show w.heap.size + 1 < wa2.heap.size by omega) _, (HSB.out.below hw52 hBw2 (by omega) ((show Below Wb.heap.size Wb _ from (by (repeat' (first | with_reducible exact Below.refl _ _ | (with_reducible refine below_later_of ?_ ?_ _) | (with_reducible refine Below.alloc ?_ ?_ _) | (with_reducible refine Below.setCell ?_ ?_ _) | (with_reducible refine Below.drew ?_) | (simp; done) | (simp; omega) | omega)))).mono hsW)).putP hRB2 hgx _, (HMB.out.below hma2 ((show Below Wb.heap.size Wb _ from (by (repeat' (first | with_reducible exact Below.refl _ _ | (with_reducible refine below_later_of ?_ ?_ _) | (with_reducible refine Below.alloc ?_ ?_ _) | (with_reducible refine Below.setCell ?_ ?_ _) | (with_reducible refine Below.drew ?_) | (simp; done) | (simp; omega) | omega)))).mono hsW)).set (fun m h => by have := hmb2 m h; dsimp only; omega) _⟩
    case stop2 =>
      rintro c W h hD
      exact h.elim
    case done2 =>
      rintro W ⟨hst, hmk2⟩ hD2
      have HB := Lib.hid hst.bel
      have HDD2 := Lib.hid hD2
      have r0 := hst.r0
      have r1 := hst.r1
      have rp := hst.rp
      have rq := hst.rq
      have f0 := hst.f0
      have f1 := hst.f1
      have fp := hst.fp
      have fq := hst.fq
      have hsW2 := hst.sz
      obtain ⟨pg, hpg⟩ : ∃ pg, psW (enF G) S l0 s0 sc (lc * sc) = pg := ⟨_, rfl⟩
      have HBP := Lib.hid (HBG.out (lc * sc) (Nat.le_refl _))
      rw [hpg] at rp HW3 HBP HNG
      clear hpg
      clear hst hD2
      obtain ⟨hv, v0, v1, v2, -⟩ := HCY.out
      obtain ⟨hH, ch⟩ := HCH.out
      replace v0 := (HB.out.cell (p := ⟨Y, 0, none⟩) hv).trans v0
      replace v1 := (HB.out.cell (p := ⟨Y, 1, none⟩) hv).trans v1
      replace v2 := (HB.out.cell (p := ⟨Y, 2, none⟩) hv).trans v2
      replace ch := (HB.out.cell (p := ⟨H, 0, none⟩) hH).trans ch
      have hWz := HB.out.size
      have hWm2 := heap_lt HDD2.out
      go_wp2_with (first | (go_at_call 96; (with_reducible refine (HAR3.out _).mono ?_); rintro e wa3 ⟨B3, hB3, rfl, hab3, hBw3, hb3⟩; have HAB3 := Lib.hid hab3; have HB53 := Lib.hid hb3; have HBB3 := Lib.hid hB3; have HBW3 := Lib.hid hBw3; clear hab3 hb3 hB3 hBw3))
      clear v0 v1 v2 ch
      have HMK3 := Lib.hid (show Mk [wa2.heap.size, wa1.heap.size] wa3 from by
        refine Mk.below (W := W) (D := W.heap.size) ?_ ?_ HB53.out
        · intro m h
          simp only [List.mem_cons, List.not_mem_nil, or_false] at h
          rcases h with rfl | rfl
          · exact HDD2.out
          · exact hmk2 _ (by simp)
        · intro m h
          simp only [List.mem_cons, List.not_mem_nil, or_false] at h
          omega)
      have hwm2 : wa2.heap.size < wa3.heap.size := by have := HB53.out.size; omega
      have hb5 := HB53.out
      have hBe3 := HBB3.out
      have hBw3 := HBW3.out
      (try simp at hBe3)
      have hRB3 : w.heap.size + 2 < B3 := by omega
      have hw53 : w.heap.size + 2 < wa3.heap.size := by omega
      have HST3 := Lib.hid (show CoSt w wa3 B3 L S gy n cy l s half K pa pb pg (psW (enF K) S l0 s0 sc 0) wa3 from by
        have hb6 : Below w.heap.size w wa3 := HB.out.trans (hb5.mono HB.out.size)
        refine ⟨⟨HAB3.out, (fun k hk => ?_), by omega, hBw3⟩, (hb5.cell (p := ⟨w.heap.size, 0, none⟩) (show w.heap.size < W.heap.size by omega)).trans r0, (hb5.cell (p := ⟨w.heap.size, 1, none⟩) (show w.heap.size < W.heap.size by omega)).trans r1, (hb5.cell (p := ⟨w.heap.size + 1, 0, none⟩) (show w.heap.size + 1 < W.heap.size by omega)).trans rp, (hb5.cell (p := ⟨w.heap.size + 2, 0, none⟩) (show w.heap.size + 2 < W.heap.size by omega)).trans rq, (hb5.frozen (p := ⟨w.heap.size, 0, none⟩) (show w.heap.size < W.heap.size by omega)).trans f0, (hb5.frozen (p := ⟨w.heap.size, 1, none⟩) (show w.heap.size < W.heap.size by omega)).trans f1, (hb5.frozen (p := ⟨w.heap.size + 1, 0, none⟩) (show w.heap.size + 1 < W.heap.size by omega)).trans fp, (hb5.frozen (p := ⟨w.heap.size + 2, 0, none⟩) (show w.heap.size + 2 < W.heap.size by omega)).trans fq, hb6, Nat.le_refl _⟩
        obtain ⟨q1, q2⟩ := HCY.out.2.2.2.2 k hk
        exact ⟨(hb6.cell (p := ⟨gy, k * 2, none⟩) hgy).trans q1, (hb6.cell (p := ⟨gy, k * 2 + 1, none⟩) hgy).trans q2⟩)
      have HBE3 := Lib.hid hBe3
      clear HAB3 HB53 HBB3 HBW3 hb5 hBe3 r0 r1 rp rq f0 f1 fp fq
      have hma3 : ∀ m, m ∈ [wa2.heap.size, wa1.heap.size] → m < wa3.heap.size := by intro m h; simp only [List.mem_cons, List.not_mem_nil, or_false] at h; omega
      have hmb3 : ∀ m, m ∈ [wa2.heap.size, wa1.heap.size] → w.heap.size + 2 < m := by intro m h; simp only [List.mem_cons, List.not_mem_nil, or_false] at h; omega
      refine wpIn_wide.1 (wpIn_rangeCapW 5 (AroS B3 L S gy n cy l s half K) (n := 9) rfl (by omega) (gf := 148) (cap := #[.pointer (some ⟨B3 + 1, 0, none⟩), .pointer (some ⟨B3 + 3, 0, none⟩), .pointer (some ⟨B3, 0, none⟩), .pointer (some ⟨B3 + 2, 0, none⟩)]) rfl trivial (enters_of Try.func148 (by kernel_rfl) rfl) (N := lc * sc) (enc := encW K S l0 s0 sc) (fun k => rfl)
        (fun W _ => HIT3.out _ W)
        (fun k W => CoSt w wa3 B3 L S gy n cy l s half K pa pb pg (psW (enF K) S l0 s0 sc k) W ∧ Mk [wa2.heap.size, wa1.heap.size] W)
        (fun _ _ => False)
        (fun k W1 W2 h hb hc => ⟨h.1.below hw53 hBw3 (by omega) hb, h.2.below hma3 hb⟩)
        (fun c W1 W2 h hb hc => h)
        (fun k W h => h.1.aro)
        ⟨HST3.out, HMK3.out⟩
        (fun T k W => (T.setIfInBounds 39 (.agg #[.int .i64 (K (winI S l0 s0 sc k)).1, .int .i64 (K (winI S l0 s0 sc k)).2])).setIfInBounds 14 (.pointer (some ⟨W.heap.size, 0, none⟩)))
        (fun k W => W.alloc (.cells #[.int .i64 (K (winI S l0 s0 sc k)).1, .int .i64 (K (winI S l0 s0 sc k)).2] 173))
        (fun k W => (Below.refl W.heap.size W).alloc (Nat.le_refl _) _)
        ?assign3 ?body3 ?done3 ?stop3)
      case assign3 =>
        intro ll k W K1 hK1
        simp only [encW]
        simp only [List.setIfInBounds_toArray, List.set_cons_succ, List.set_cons_zero] at hK1
        gi_wp2
        exact hK1
      case body3 =>
        rintro ll k W Wb ⟨hst, hmk⟩ hkN hWs hcs hsz
        have e0 : Wb.cell? ⟨W.heap.size, 0, none⟩ = _ := cell_same hcs (v := .int .i64 (K (winI S l0 s0 sc k)).1) (by simp [go_sem])
        have e1 : Wb.cell? ⟨W.heap.size, 1, none⟩ = _ := cell_same hcs (v := .int .i64 (K (winI S l0 s0 sc k)).2) (by simp [go_sem])
        have hin := HWI.out k hkN
        obtain ⟨⟨b1, b2⟩, b3, b4⟩ := HSK.out _ hin
        obtain ⟨q1, q2⟩ := HBK.out k (by omega)
        obtain ⟨q5, q6⟩ := enF_bd HSK.out hin
        have n1 := psW_next (enF K) S l0 s0 sc k
        rw [n1]
        generalize psW (enF K) S l0 s0 sc k = ua at *
        obtain ⟨t, ht⟩ : ∃ t, enF K (winI S l0 s0 sc k) = t := ⟨_, rfl⟩
        rw [ht] at q5 q6 ⊢
        unfold enF at ht
        generalize (K (winI S l0 s0 sc k)).1 = x at *
        generalize (K (winI S l0 s0 sc k)).2 = y at *
        have HEN := Lib.hid (fun W => fEnergy x y W (by omega) (by omega) ht)
        have hwv : IntKind.i64.wrap (ua + t) = ua + t := IntWalk.i64_in _ (by omega)
        have HSB := Lib.hid hst
        have HMB := Lib.hid hmk
        have r0 := hst.r0
        have r1 := hst.r1
        have rp := hst.rp
        have rq := hst.rq
        have f0 := hst.f0
        have f1 := hst.f1
        have fp := hst.fp
        have fq := hst.fq
        have hsW := hst.sz
        have hWl : W.heap.size < Wb.heap.size := by rw [← hsz]; simp
        clear hmk hst hcs hsz hin b1 b2 b3 b4 n1 ht
        gi_wp2_with fail
        gi_region_with (first | (refine ⟨trivial, ?_⟩; gi_at_call 97; refine (callsIn_rw (HEN.out _)).mono ?_; rintro e w' ⟨rfl, hb⟩; obtain ⟨p1, rfl⟩ := later_of_below hb; clear hb))
        all_goals
          gi_wp2_with fail
          exact ⟨(KeepT.below (show Below Wb.heap.size Wb _ from (by (repeat' (first | with_reducible exact Below.refl _ _ | (with_reducible refine below_later_of ?_ ?_ _) | (with_reducible refine Below.alloc ?_ ?_ _) | (with_reducible refine Below.setCell ?_ ?_ _) | (with_reducible refine Below.drew ?_) | (simp; done) | (simp; omega) | omega))))).setCell (p := ⟨w.heap.size + 2, 0, none⟩) (show w.heap.size + 2 < wa3.heap.size by omega) _, (HSB.out.below hw53 hBw3 (by omega) ((show Below Wb.heap.size Wb _ from (by (repeat' (first | with_reducible exact Below.refl _ _ | (with_reducible refine below_later_of ?_ ?_ _) | (with_reducible refine Below.alloc ?_ ?_ _) | (with_reducible refine Below.setCell ?_ ?_ _) | (with_reducible refine Below.drew ?_) | (simp; done) | (simp; omega) | omega)))).mono hsW)).putQ hRB3 hgy _, (HMB.out.below hma3 ((show Below Wb.heap.size Wb _ from (by (repeat' (first | with_reducible exact Below.refl _ _ | (with_reducible refine below_later_of ?_ ?_ _) | (with_reducible refine Below.alloc ?_ ?_ _) | (with_reducible refine Below.setCell ?_ ?_ _) | (with_reducible refine Below.drew ?_) | (simp; done) | (simp; omega) | omega)))).mono hsW)).set (fun m h => by have := hmb3 m h; dsimp only; omega) _⟩
      case stop3 =>
        rintro c W h hD
        exact h.elim
      case done3 =>
        rintro W ⟨hst, hmk3⟩ hD3
        have HB := Lib.hid hst.bel
        have HDD3 := Lib.hid hD3
        have r0 := hst.r0
        have r1 := hst.r1
        have rp := hst.rp
        have rq := hst.rq
        have f0 := hst.f0
        have f1 := hst.f1
        have fp := hst.fp
        have fq := hst.fq
        have hsW3 := hst.sz
        obtain ⟨pk, hpk⟩ : ∃ pk, psW (enF K) S l0 s0 sc (lc * sc) = pk := ⟨_, rfl⟩
        have HBQ := Lib.hid (HBK.out (lc * sc) (Nat.le_refl _))
        rw [hpk] at rq HW4 HBQ HNK
        clear hpk
        clear hst hD3
        obtain ⟨⟨u1, u2⟩, u3, u4⟩ := HBA.out
        obtain ⟨u5, u6⟩ := HBP.out
        obtain ⟨u7, u8⟩ := HBQ.out
        have u9 := HNG.out
        have u10 := HNK.out
        have e1 := eg_bd (x := pa) (by omega)
        have e2 := eg_bd (x := pb) (by omega)
        have e3 := Int.mul_nonneg u9 u10
        have e4 : pg * pk ≤ 680400000 * 680400000 := Int.mul_le_mul u6 u8 u10 (by decide)
        obtain ⟨se, hse⟩ : ∃ se, pa * pa + pb * pb = se := ⟨_, rfl⟩
        obtain ⟨aq, haq⟩ : ∃ aq, pg * pk = aq := ⟨_, rfl⟩
        have HEE := Lib.hid (fun W => fEnergy pa pb W (by omega) (by omega) hse)
        obtain ⟨sN, hsN⟩ := Int.eq_ofNat_of_zero_le (show 0 ≤ se by omega)
        obtain ⟨aN, haN⟩ := Int.eq_ofNat_of_zero_le (show 0 ≤ aq by omega)
        have hww : IntKind.i64.wrap (pg * pk) = aq := by rw [haq]; exact IntWalk.i64_in _ (by omega)
        have HCO := Lib.hid (fun W => fCoherent sN aN W (by omega) (by omega))
        rw [← hsN, ← haN] at HCO
        obtain ⟨t, ht⟩ : ∃ t, cohP sN aN = t := ⟨_, rfl⟩
        rw [ht] at HCO
        have k1 := fun W => conv_f32 (t : Int) W
        have HV := Lib.hid (show cohV F G K L S half l s = floatOfInt .f32 (t : Int) from by unfold cohV; rw [HW1.out, HW2.out, HW3.out, HW4.out, hse, haq, hsN, haN, Int.toNat_natCast, Int.toNat_natCast, ht])
        generalize floatOfInt .f32 (t : Int) = fb at k1 HV
        have hRW : w.heap.size + 2 < W.heap.size := by omega
        clear u1 u2 u3 u4 u5 u6 u7 u8 u9 u10 e1 e2 e3 e4 hse haq hsN haN ht
        go_wp2_with fail
        refine wp_region_calm (by kernel_rfl) (by kernel_rfl) ?_
        repeat (go_big_quiet_step ((first | (go_at_call 97; exact calm_of (HEE.out _)) | (go_at_call 98; exact calm_same (HCO.out _)))))
        refine wpQuiet_nil ?_
        rintro _ ⟨pz, rfl⟩
        go_wp2_with fail
        have hWm3 := heap_lt HDD3.out
        have q3 : (later W pz).heap[wa3.heap.size]? = some (.deferred (some [])) := ((below_later W pz).block _ hWm3).trans HDD3.out
        have m2 := hmk3 wa2.heap.size (by simp)
        have m1 := hmk3 wa1.heap.size (by simp)
        have q2 : (later W pz).heap[wa2.heap.size]? = some (.deferred (some [])) := ((below_later W pz).block _ (heap_lt m2)).trans m2
        have q1 : (later W pz).heap[wa1.heap.size]? = some (.deferred (some [])) := ((below_later W pz).block _ (heap_lt m1)).trans m1
        refine ⟨by simp, .inl ⟨_, _, rfl, run_takeDeferred q3, ⟨by simp, .inl ⟨_, _, rfl, run_takeDeferred ((World.putObj_heap_other (by omega)).trans q2), ⟨by simp, .inl ⟨_, _, rfl, run_takeDeferred ((World.putObj_heap_other (by omega)).trans ((World.putObj_heap_other (by omega)).trans q1)), ?_⟩⟩⟩⟩⟩⟩
        refine ⟨.float .f32 fb, ?_, by rw [HV.out], ?_⟩
        · simp [results, Try.results95, go_sem]
        · exact HB.out.trans ((((below_later W pz).mono HB.out.size).trans ((below_putObj (Nat.le_refl _) _).mono (by omega))).trans (((below_putObj (Nat.le_refl _) _).mono (by omega)).trans ((below_putObj (Nat.le_refl _) _).mono (by omega))))
end Go.Proofs.Ytcmjlfhnibjofaa

/- Chapter 4: grids of floats. -/
namespace Go.Proofs.Ytcmjlfhnibjofaa
set_option linter.unusedVariables false
set_option linter.unusedSimpArgs false
open Go.RowKit Ieee Ntt
def fcC (F : Nat → Nat) (n : Nat) : List Value := (List.range n).map fun i => .float .f32 (F i)
theorem fcC_succ (F : Nat → Nat) (n : Nat) : fcC F (n + 1) = fcC F n ++ [.float .f32 (F n)] := by unfold fcC; rw [List.range_succ, List.map_append]; rfl
/-- A grid of integers that is returned. -/
def GfPost (L S n : Nat) (F : Nat → Nat) (w : World) (e : Ending) (w' : World) : Prop :=
  ∃ a c, e = .returned (.agg #[.int .i64 L, .int .i64 S, .slice a n c]) ∧ OwnFV w.heap.size w' (.slice a n c) ((List.range n).map F) ∧ Below w.heap.size w w'
theorem sfR_own {W : World} {base n c : Nat} {a : Option Addr} {l : List Nat} (h : W.ownsRow base 121 1 (.slice a n c) n (l.map (.float .f32))) (hl : l.length = n) (hn : n ≤ 1000000000) : OwnFV base W (.slice a n c) l := by
  by_cases h0 : 0 < n
  · obtain ⟨g, c', he⟩ := row_slice h h0
    rw [he] at h ⊢
    exact ownFV_own h hn
  · obtain rfl : n = 0 := by omega
    obtain rfl : l = [] := List.length_eq_zero_iff.1 hl
    exact ⟨by simp, a, c, rfl, fun h => absurd h (by simp)⟩
set_option maxRecDepth 20000 in
set_option maxHeartbeats 4000000 in
theorem mapped_f (L S : Nat) (gf : FuncId) (cap : Array Value) (F : Nat → Nat) (w : World) (hL : L ≤ 64) (hS : S ≤ 64) (eg : ∀ args w, (callFunc gf args).run Try.prog w = .ok (.enter gf args) w)
    (hc : ∀ W, Below w.heap.size w W → ∀ l s : Nat, l < L → s < S → Calls Try.prog gf (#[.int .i64 l, .int .i64 s] ++ cap) W fun e w' => e = .returned (.float .f32 (F (l * S + s))) ∧ Below W.heap.size W w') :
    Calls Try.prog 94 #[.int .i64 L, .int .i64 S, .func (.func gf) #[] cap] w (GfPost L S (L * S) F w) := by
  obtain ⟨i0, hi0, hz0, hz1, hz2⟩ := info_parts infoF121
  have HC := Lib.hid hc
  clear hc
  go_enter Try.func94, Try.ntmps94
  go_wp2
  refine wp_worldG (fun W => TriN w w.heap.size (w.heap.size + 1) L S 121 1 (.slice none 0 0) 0 (fcC F 0) W)
    ⟨by simp [go_sem], by simp [go_sem], by simp [go_sem], by simp [go_sem], by simp [go_sem], by simp [go_sem], by simp [go_sem], by simp [go_sem], by simp [go_sem], by simp [go_sem], World.ownsRow_nil _ _ _ _, (by (repeat' (first | with_reducible exact Below.refl _ _ | (with_reducible refine below_later_of ?_ ?_ _) | (with_reducible refine Below.alloc ?_ ?_ _) | (with_reducible refine Below.setCell ?_ ?_ _) | (with_reducible refine Below.drew ?_) | (simp; done) | (simp; omega) | omega))), by simp, by omega⟩ ?_
  rintro W2 hst
  have HST := Lib.hid hst
  clear hst
  go_loopw [14] (fun i wr => ∃ (l : Nat) (v : Value), l ≤ L ∧ i = .int .i64 l ∧ TriN w w.heap.size (w.heap.size + 1) L S 121 1 v (l * S) (fcC F (l * S)) wr) (fun i _ => L - (intOf i).toNat)
  case atStart => exact ⟨0, _, Nat.zero_le _, rfl, by rw [Nat.zero_mul]; exact HST.out⟩
  case round =>
    obtain ⟨l, v, hl, rfl, hst⟩ := hrel
    have HS1 := Lib.hid hst
    by_cases hlt : l < L
    · have hdl : decide ((l : Int) < (L : Int)) = true := by simp; omega
      clear hst
      go_wp2
      go_loopw [18] (fun i wr => ∃ (s : Nat) (v : Value), s ≤ S ∧ i = .int .i64 s ∧ TriN w w.heap.size (w.heap.size + 1) L S 121 1 v (l * S + s) (fcC F (l * S + s)) wr) (fun i _ => S - (intOf i).toNat)
      case atStart => exact ⟨0, v, Nat.zero_le _, rfl, HS1.out⟩
      case round =>
        obtain ⟨s, v, hs, rfl, hst⟩ := hrel
        by_cases hst2 : s < S
        · have hds : decide ((s : Int) < (S : Int)) = true := by simp; omega
          have HCL := Lib.hid (show ∀ W, Below wr.heap.size wr W → _ from fun W hW => HC.out W (hst.bel.trans (hW.mono hst.bel.size)) l s hlt hst2)
          obtain ⟨i, hi⟩ : ∃ i, l * S + s = i := ⟨_, rfl⟩
          have hin : i ≤ 5000 := by
            have h1 : l * S ≤ 64 * 64 := Nat.mul_le_mul (by omega) hS
            omega
          have HI := Lib.hid hi
          rw [hi] at hst HCL
          have HS2 := Lib.hid hst
          have HPN := Lib.hid (fcC_succ F i)
          obtain ⟨x, hx⟩ : ∃ x, F i = x := ⟨_, rfl⟩
          rw [hx] at HCL HPN
          have c2 := hst.c2
          have f2 := hst.f2
          have hltO := hst.lt
          clear hst hi hx
          go_wp2_with fail
          go_region_law (first | (refine step_append_lies _ rfl (.tmp 22) (.tmp 27) 22 rfl (w.heap.size + 1 + 1) 121 i0 (.float .f32 0) 1 4 Try.underlying22 hi0 hz0 hz1 hz2 rfl (by decide) v i (fcC F i) (by simp [Act.eval, Act.put]) (HSW.out.own.alloc _) ⟨wc.heap.size, 0, none⟩ 1 1 [.float .f32 x] (by simp [Act.eval, Act.put]) rfl (by intro j u hj; rcases j with _ | j; (focus (simp at hj; subst hj; (first | (simp [Addr.add, go_sem]; done) | simp [Addr.add, go_sem, ↓IntWalk.iteOmega]))); (focus (simp at hj))) (by intro u hu; simp at hu; subst hu; rfl) (by decide) (by unfold maxLen; omega) (by omega) (by first | omega | (simp; omega)) _ rfl ?_; intro g' cc' w1 hown' hgrow _ _; have HN2 := Lib.hid (HSW.out.put hown' hgrow); obtain ⟨hcb, hfb⟩ := HSW.out.still hgrow; clear hown' hgrow) | (go_simp; (go_at_fn gf; (with_reducible refine (HCL.out _ (by (repeat' (first | with_reducible exact Below.refl _ _ | (with_reducible refine below_later_of ?_ ?_ _) | (with_reducible refine Below.alloc ?_ ?_ _) | (with_reducible refine Below.setCell ?_ ?_ _) | (with_reducible refine Below.drew ?_) | (simp; done) | (simp; omega) | omega)))).mono ?_); rintro e wc ⟨rfl, hb⟩; have HSW := Lib.hid ((HS2.out.below (Below.refl _ _).drew).below hb); have c2w := HSW.out.c2; have f2w := HSW.out.f2; have hltw := HSW.out.lt; clear hb)))
          all_goals
            go_wp2
            go_roundw
            case rel => exact ⟨s + 1, _, by omega, by go_num, by rw [← Nat.add_assoc, HI.out, HPN.out]; exact HN2.out⟩
            case measure => simp [intOf]; omega
        · obtain rfl : s = S := by omega
          have hds : decide ((s : Int) < (s : Int)) = false := by simp
          have HSE := Lib.hid hst
          clear hst
          go_wp2
          go_roundw
          case rel => exact ⟨l + 1, v, by omega, by go_num, by rw [Nat.add_mul, Nat.one_mul]; exact HSE.out⟩
          case measure => simp [intOf]; omega
    · obtain rfl : l = L := by omega
      have hdl : decide ((l : Int) < (l : Int)) = false := by simp
      obtain ⟨a', c', rfl⟩ := own_slice2 hst.own
      obtain ⟨e0, e1, e2, -, r0, r1, r2, g0, g1, g2, hown, hbel, -, -⟩ := hst
      have HOW := Lib.hid hown
      have HBE := Lib.hid hbel
      clear hown hbel
      go_wp2
      refine bodyPost_ret ?_ rfl ⟨a', c', rfl, OwnFV.mono (OwnFV.set (OwnFV.set (OwnFV.set (sfR_own (l := (List.range (l * S)).map F) (by rw [List.map_map]; exact HOW.out) (by simp) (by have := Nat.mul_le_mul hL hS; omega)) ?_ _) ?_ _) ?_ _) ?_, HBE.out.trans (by (repeat' (first | with_reducible exact Below.refl _ _ | (with_reducible refine below_later_of ?_ ?_ _) | (with_reducible refine Below.alloc ?_ ?_ _) | (with_reducible refine Below.setCell ?_ ?_ _) | (with_reducible refine Below.drew ?_) | (simp; done) | (simp; omega) | omega)))⟩
      · first | (simp [results, Try.results94, go_sem, r0, r1, r2]; done) | simp [results, Try.results94, go_sem, r0, r1, r2, ↓IntWalk.iteOmega]
      all_goals first | omega | (simp <;> omega)
end Go.Proofs.Ytcmjlfhnibjofaa

/- Chapter 4: Coherence of the program. -/
namespace Go.Proofs.Ytcmjlfhnibjofaa
set_option linter.unusedVariables false
set_option linter.unusedSimpArgs false
open Go.RowKit Ieee Ntt
/-- The coherence of all places. -/
def cohF (F G K : Nat → Int × Int) (L S half i : Nat) : Nat := cohV F G K L S half (i / S) (i % S)
theorem coh_map {L S n : Nat} {F G K : Nat → Int × Int} (hn : n = L * S) (h0 : 0 < n) (hL : L ≤ 64) (hS1 : 1 ≤ S) (hS : S ≤ 64) (half : Nat) (hh : half ≤ 4) (sF : SmallP n F 8400000) (sG : SmallP n G 2047) (sK : SmallP n K 2047) (W : World) (a1 a2 a3 : Option Addr) (c1 c2 c3 A X Y H : Nat) {B1 B2 B3 : Nat} {Wa Wb Wc : World}
    (h3 : OwnPr B3 Wc n F a3) (b3 : Below Wc.heap.size Wc W) (h1 : OwnPr B1 Wa n G a1) (b1 : Below Wa.heap.size Wa W) (h2 : OwnPr B2 Wb n K a2) (b2 : Below Wb.heap.size Wb W)
    (z0 : W.cell? ⟨A, 0, none⟩ = some (.int .i64 L)) (z1 : W.cell? ⟨A, 1, none⟩ = some (.int .i64 S)) (z2 : W.cell? ⟨A, 2, none⟩ = some (.slice a3 n c3)) (x0 : W.cell? ⟨X, 0, none⟩ = some (.int .i64 L)) (x1 : W.cell? ⟨X, 1, none⟩ = some (.int .i64 S)) (x2 : W.cell? ⟨X, 2, none⟩ = some (.slice a1 n c1)) (y0 : W.cell? ⟨Y, 0, none⟩ = some (.int .i64 L)) (y1 : W.cell? ⟨Y, 1, none⟩ = some (.int .i64 S)) (y2 : W.cell? ⟨Y, 2, none⟩ = some (.slice a2 n c2)) (qh : W.cell? ⟨H, 0, none⟩ = some (.int .i64 half)) :
    Calls Try.prog 94 #[.int .i64 L, .int .i64 S, .func (.func 95) #[] #[.pointer (some ⟨A, 0, none⟩), .pointer (some ⟨H, 0, none⟩), .pointer (some ⟨X, 0, none⟩), .pointer (some ⟨Y, 0, none⟩)]] W (GfPost L S n (cohF F G K L S half) W) := by
  obtain ⟨gz, rfl, hgz, hpz⟩ := ownPr_at h3 h0 b3
  obtain ⟨gx, rfl, hgx, hpx⟩ := ownPr_at h1 h0 b1
  obtain ⟨gy, rfl, hgy, hpy⟩ := ownPr_at h2 h0 b2
  have hA : A < W.heap.size := World.block_lt_of_cell? _ _ z0
  have hX : X < W.heap.size := World.block_lt_of_cell? _ _ x0
  have hY : Y < W.heap.size := World.block_lt_of_cell? _ _ y0
  have hH : H < W.heap.size := World.block_lt_of_cell? _ _ qh
  have := mapped_f L S 95 #[.pointer (some ⟨A, 0, none⟩), .pointer (some ⟨H, 0, none⟩), .pointer (some ⟨X, 0, none⟩), .pointer (some ⟨Y, 0, none⟩)] (cohF F G K L S half) W hL hS (enters_of Try.func95 (by kernel_rfl) rfl) (fun W2 hW2 l s hl hs => by
    have hz := hW2.size
    have := coh1 A X Y H L S gz gx gy n c3 c1 c2 l s half F G K W2 hn hL hS hl hs hh (by omega) (by omega) (by omega) (by omega) (by omega) (by omega) (by omega) ((hW2.cell (p := ⟨A, 0, none⟩) hA).trans z0) ((hW2.cell (p := ⟨A, 1, none⟩) hA).trans z1) ((hW2.cell (p := ⟨A, 2, none⟩) hA).trans z2) ((hW2.cell (p := ⟨X, 0, none⟩) hX).trans x0) ((hW2.cell (p := ⟨X, 1, none⟩) hX).trans x1) ((hW2.cell (p := ⟨X, 2, none⟩) hX).trans x2) ((hW2.cell (p := ⟨Y, 0, none⟩) hY).trans y0) ((hW2.cell (p := ⟨Y, 1, none⟩) hY).trans y1) ((hW2.cell (p := ⟨Y, 2, none⟩) hY).trans y2) ((hW2.cell (p := ⟨H, 0, none⟩) hH).trans qh) (hpz.below hgz hW2) (hpx.below hgx hW2) (hpy.below hgy hW2) sF sG sK
    have e1 : (l * S + s) / S = l := by rw [Nat.mul_comm, Nat.mul_add_div (by omega), Nat.div_eq_of_lt hs, Nat.add_zero]
    have e2 : (l * S + s) % S = s := by rw [Nat.mul_comm, Nat.mul_add_mod, Nat.mod_eq_of_lt hs]
    unfold cohF
    rw [e1, e2]
    exact this)
  rwa [← hn] at this
/-- The error of Coherence. -/
def cohE (L S : Int) (n : Nat) (f : Nat → Nat × Nat) (L' S' : Int) (n' : Nat) (f' : Nat → Nat × Nat) (half : Int) : Int := first2 (pairE L S n f L' S' n' f') (winE half)
set_option maxHeartbeats 2000000 in
theorem coherence_bad (L S : Int) (n cap : Nat) (f : Nat → Nat × Nat) (a : Option Addr) (L' S' : Int) (n' cap' : Nat) (f' : Nat → Nat × Nat) (a' : Option Addr) (half : Int) (w : World) (hl : n ≤ 100000) (hl' : n' ≤ 100000) (hd : DataAt w L S n f a) (hd' : DataAt w L' S' n' f' a') {e0 : Int} (he : cohE L S n f L' S' n' f' half = e0) (h0 : e0 ≠ 0) :
    Calls Try.prog 39 #[.agg #[.int .i64 L, .int .i64 S, .slice a n cap], .agg #[.int .i64 L', .int .i64 S', .slice a' n' cap'], .int .i64 half] w fun e w' => e = .returned (.tuple #[.agg #[.int .i64 0, .int .i64 0, .slice none 0 0], .int .i64 e0]) ∧ Below w.heap.size w w' := by
  have HE1 := Lib.hid (show ∀ W, Below w.heap.size w W → _ from fun W hW => fImagesErr L S n cap f a L' S' n' cap' f' a' W hl hl' (hd.below hW) (hd'.below hW) rfl)
  have HE2 := Lib.hid (fun w => fWindowErr half w rfl)
  have HF := Lib.hid (show first2 (pairE L S n f L' S' n' f') (winE half) = e0 from he)
  have hne : (e0 != 0) = true := by simpa using h0
  clear hd hd' he h0
  generalize pairE L S n f L' S' n' f' = z1 at *
  generalize winE half = z2 at *
  go_enter Try.func39, Try.ntmps39
  go_wp2
  refine wp_region_calm_tail 5 (by kernel_rfl) (by kernel_rfl) ?_
  simp only [List.take_succ_cons, List.take_zero, List.drop_succ_cons, List.drop_zero]
  repeat (go_big_quiet_step (first | (go_at_call 79; with_reducible exact calm_of (HE1.out _ (by (repeat' (first | with_reducible exact Below.refl _ _ | (with_reducible refine below_later_of ?_ ?_ _) | (with_reducible refine Below.alloc ?_ ?_ _) | (with_reducible refine Below.setCell ?_ ?_ _) | (with_reducible refine Below.drew ?_) | (simp; done) | (simp; omega) | omega))))) | (go_at_call 93; with_reducible exact calm_same (HE2.out _))))
  refine wpQuiet_nil ?_
  rintro _ ⟨pz, rfl⟩
  go_wp2_with (first | (go_at_call 92; refine (fFirst2 _ _ _ _ HF.out (by (first | (simp [go_sem]; done) | simp [go_sem, ↓IntWalk.iteOmega])) (by (first | (simp [go_sem]; done) | simp [go_sem, ↓IntWalk.iteOmega]))).mono ?_; rintro e w' ⟨rfl, rfl⟩))
  refine bodyPost_ret ?_ rfl ⟨rfl, (by (repeat' (first | with_reducible exact Below.refl _ _ | (with_reducible refine below_later_of ?_ ?_ _) | (with_reducible refine Below.alloc ?_ ?_ _) | (with_reducible refine Below.setCell ?_ ?_ _) | (with_reducible refine Below.drew ?_) | (simp; done) | (simp; omega) | omega)))⟩
  first | (simp [results, Try.results39, go_sem]; done) | simp [results, Try.results39, go_sem, ↓IntWalk.iteOmega]
theorem OwnFV.below {B : Nat} {w w' : World} {v : Value} {ds : List Nat} (h : OwnFV B w v ds) (hw : Below w.heap.size w w') : OwnFV B w' v ds := by
  obtain ⟨h1, a, cap, h2, h3⟩ := h
  refine ⟨h1, a, cap, h2, fun h0 => ?_⟩
  obtain ⟨b, off, h4, h5, h6, h7⟩ := h3 h0
  exact ⟨b, off, h4, h5, by have := hw.size; omega, fun k hk => (hw.cell (p := ⟨b, off + k, none⟩) h6).trans (h7 k hk)⟩
theorem kb_keep {w W W' : World} {L S b off n cap b' off' cap' : Nat} (h : W.cell? ⟨w.heap.size, 0, none⟩ = some (.int .i64 L) ∧ W.cell? ⟨w.heap.size, 1, none⟩ = some (.int .i64 S) ∧ W.cell? ⟨w.heap.size, 2, none⟩ = some (.slice (some ⟨b, off, none⟩) n cap) ∧ W.cell? ⟨w.heap.size + 1, 0, none⟩ = some (.int .i64 L) ∧ W.cell? ⟨w.heap.size + 1, 1, none⟩ = some (.int .i64 S) ∧ W.cell? ⟨w.heap.size + 1, 2, none⟩ = some (.slice (some ⟨b', off', none⟩) n cap')) (hlt : w.heap.size + 3 < W.heap.size) (hb : Below W.heap.size W W') :
    W'.cell? ⟨w.heap.size, 0, none⟩ = some (.int .i64 L) ∧ W'.cell? ⟨w.heap.size, 1, none⟩ = some (.int .i64 S) ∧ W'.cell? ⟨w.heap.size, 2, none⟩ = some (.slice (some ⟨b, off, none⟩) n cap) ∧ W'.cell? ⟨w.heap.size + 1, 0, none⟩ = some (.int .i64 L) ∧ W'.cell? ⟨w.heap.size + 1, 1, none⟩ = some (.int .i64 S) ∧ W'.cell? ⟨w.heap.size + 1, 2, none⟩ = some (.slice (some ⟨b', off', none⟩) n cap') := by
  obtain ⟨k0, k1, k2, k3, k4, k5⟩ := h
  have q : ∀ i j, i ≤ w.heap.size + 1 → W'.cell? ⟨i, j, none⟩ = W.cell? ⟨i, j, none⟩ := fun i j hi => hb.cell (p := ⟨i, j, none⟩) (show i < W.heap.size by omega)
  exact ⟨(q _ _ (by omega)).trans k0, (q _ _ (by omega)).trans k1, (q _ _ (by omega)).trans k2, (q _ _ (by omega)).trans k3, (q _ _ (by omega)).trans k4, (q _ _ (by omega)).trans k5⟩
theorem sz_alloc (W : World) (o : Obj) : (W.alloc o).heap.size = W.heap.size + 1 := by simp
theorem sz_set (W : World) (p : Addr) (v : Value) : (W.setCell p v).heap.size = W.heap.size := by simp
theorem sz_drew (W : World) : W.drew.heap.size = W.heap.size := rfl
/-- Pairs in a block between two bounds. -/
def OwnPr2 (B C : Nat) (W : World) (n : Nat) (F : Nat → Int × Int) (a : Option Addr) : Prop := 0 < n → ∃ g, a = some ⟨g, 0, none⟩ ∧ B ≤ g ∧ g < C ∧ PairsAt W g n F
theorem OwnPr2.of {B n : Nat} {W : World} {F : Nat → Int × Int} {a : Option Addr} (h : OwnPr B W n F a) : OwnPr2 B W.heap.size W n F a := h
theorem OwnPr2.own {B C n : Nat} {W : World} {F : Nat → Int × Int} {a : Option Addr} (h : OwnPr2 B C W n F a) (hC : C ≤ W.heap.size) : OwnPr 0 W n F a := fun h0 => by
  obtain ⟨g, h1, h2, h3, h4⟩ := h h0
  exact ⟨g, h1, Nat.zero_le _, by omega, h4⟩
theorem OwnPr2.set {B C n : Nat} {W : World} {F : Nat → Int × Int} {a : Option Addr} (h : OwnPr2 B C W n F a) {p : Addr} (hp : p.block < B ∨ C ≤ p.block) (v : Value) : OwnPr2 B C (W.setCell p v) n F a := fun h0 => by
  obtain ⟨g, h1, h2, h3, h4⟩ := h h0
  have q : ∀ j, (W.setCell p v).cell? ⟨g, j, none⟩ = W.cell? ⟨g, j, none⟩ := fun j => World.cell?_setCell_other _ _ _ _ (fun e => by have := congrArg Addr.block e; dsimp only at this; omega)
  exact ⟨g, h1, h2, h3, fun k hk => by rw [q, q]; exact h4 k hk⟩
theorem OwnPr2.grow {B C n : Nat} {W W' : World} {F : Nat → Int × Int} {a : Option Addr} (h : OwnPr2 B C W n F a) (hb : Below C W W') : OwnPr2 B C W' n F a := fun h0 => by
  obtain ⟨g, h1, h2, h3, h4⟩ := h h0
  exact ⟨g, h1, h2, h3, fun k hk => by
    obtain ⟨q1, q2⟩ := h4 k hk
    exact ⟨(hb.cell (p := ⟨g, k * 2, none⟩) h3).trans q1, (hb.cell (p := ⟨g, k * 2 + 1, none⟩) h3).trans q2⟩⟩
theorem OwnPr2.later {B C n : Nat} {W : World} {F : Nat → Int × Int} {a : Option Addr} (h : OwnPr2 B C W n F a) (hC : C ≤ W.heap.size) (p : Regrown) : OwnPr2 B C (later W p) n F a := h.grow ((below_later W p).mono hC)
theorem OwnPr2.alloc {B C n : Nat} {W : World} {F : Nat → Int × Int} {a : Option Addr} (h : OwnPr2 B C W n F a) (hC : C ≤ W.heap.size) (o : Obj) : OwnPr2 B C (W.alloc o) n F a := h.grow ((Below.refl _ _).alloc hC o)
def CoPost (L S n : Nat) (F : Nat → Nat) (w : World) (e : Ending) (w' : World) : Prop :=
  ∃ a c, e = .returned (.tuple #[.agg #[.int .i64 L, .int .i64 S, .slice a n c], .int .i64 0]) ∧ OwnFV w.heap.size w' (.slice a n c) ((List.range n).map F) ∧ Below w.heap.size w w'
end Go.Proofs.Ytcmjlfhnibjofaa

/- Chapter 4: Coherence of the program at right images. -/
namespace Go.Proofs.Ytcmjlfhnibjofaa
set_option linter.unusedVariables false
set_option linter.unusedSimpArgs false
open Go.RowKit Ieee Ntt
set_option maxRecDepth 20000 in
set_option maxHeartbeats 8000000 in
theorem coherence_ok (L S : Nat) (n cap : Nat) (f : Nat → Nat × Nat) (a : Option Addr) (n' cap' : Nat) (f' : Nat → Nat × Nat) (a' : Option Addr) (half : Nat) (w : World) (hl : n ≤ 100000) (hl' : n' ≤ 100000) (hd : DataAt w L S n f a) (hd' : DataAt w L S n' f' a') (he : cohE L S n f L S n' f' half = 0) :
    Calls Try.prog 39 #[.agg #[.int .i64 L, .int .i64 S, .slice a n cap], .agg #[.int .i64 L, .int .i64 S, .slice a' n' cap'], .int .i64 half] w (CoPost L S n (cohF (intfF (xB f) (yB f) (xB f') (yB f')) (partsF (xB f) (yB f)) (partsF (xB f') (yB f')) L S half) w) := by
  have HE1 := Lib.hid (show ∀ W, Below w.heap.size w W → _ from fun W hW => fImagesErr L S n cap f a L S n' cap' f' a' W hl hl' (hd.below hW) (hd'.below hW) rfl)
  have HE2 := Lib.hid (fun w => fWindowErr (half : Int) w rfl)
  have HF := Lib.hid (show first2 (pairE L S n f L S n' f') (winE half) = 0 from he)
  obtain ⟨e0, ew⟩ := first2_z (show first2 (pairE L S n f L S n' f') (winE half) = 0 from he)
  have hh : half ≤ 4 := by
    unfold winE at ew
    split at ew
    · rename_i h; have := (inE_iff.1 h); omega
    · exact absurd ew (by decide)
  obtain ⟨e1, e2, -, -⟩ := pairE_zero e0
  obtain ⟨s1, g1⟩ := imgE_zero e1
  obtain ⟨s2, g2⟩ := imgE_zero e2
  obtain ⟨⟨hL1, hL⟩, ⟨hS1, hS⟩, hn⟩ := sizeE_okU s1
  obtain ⟨-, -, hn'⟩ := sizeE_okU s2
  obtain rfl : n' = n := by omega
  have hnn : n' = L * S := by exact_mod_cast hn
  obtain ⟨b, off, rfl, hbw, hf⟩ := hd s1
  obtain ⟨b', off', rfl, hbw', hf'⟩ := hd' s2
  have hX : SmallS n' f (xB f) (yB f) 2047 := smallS_of (by decide) g1
  have hU : SmallS n' f' (xB f') (yB f') 2047 := smallS_of (by decide) g2
  have hL1 : 1 ≤ L := by omega
  have hL : L ≤ 64 := by omega
  have hS1 : 1 ≤ S := by omega
  have hS : S ≤ 64 := by omega
  have HN0 := Lib.hid (show 0 < n' by rw [hnn]; exact Nat.mul_pos (by omega) (by omega))
  have hn5 : n' ≤ 5000 := by have := Nat.mul_le_mul hL hS; omega
  have hP1 : SmallP n' (partsF (xB f) (yB f)) 2047 := fun k hk => by
    obtain ⟨-, h1, h2⟩ := hX k hk
    unfold partsF
    dsimp only
    omega
  have hP2 : SmallP n' (partsF (xB f') (yB f')) 2047 := fun k hk => by
    obtain ⟨-, h1, h2⟩ := hU k hk
    unfold partsF
    dsimp only
    omega
  have hP3 : SmallP n' (intfF (xB f) (yB f) (xB f') (yB f')) 8400000 := fun k hk => by
    have := intfF_bd (hX k hk).2 (hU k hk).2
    omega
  have hQ1 : SmallP n' (partsF (xB f) (yB f)) 1000000000 := fun k hk => by have := hP1 k hk; omega
  have hQ2 : SmallP n' (partsF (xB f') (yB f')) 1000000000 := fun k hk => by have := hP2 k hk; omega
  have HSA := Lib.hid (show ∀ W, Below w.heap.size w W → _ from fun W hW => fSamplesOf L S n' cap b off f (xB f) (yB f) W hnn hL1 hL hS1 hS (by have := hW.size; omega) (hf.below hbw hW) hX)
  have HSB := Lib.hid (show ∀ W, Below w.heap.size w W → _ from fun W hW => fSamplesOf L S n' cap' b' off' f' (xB f') (yB f') W hnn hL1 hL hS1 hS (by have := hW.size; omega) (hf'.below hbw' hW) hU)
  have HPR := Lib.hid (products_of (L := L) (S := S) hnn HN0.out hL1 hL hS1 hS hQ1 hQ2)
  have HMA := Lib.hid (coh_map (L := L) (S := S) hnn HN0.out hL hS1 hS half hh hP3 hP1 hP2)
  rw [show prodF (partsF (xB f) (yB f)) (partsF (xB f') (yB f')) = intfF (xB f) (yB f) (xB f') (yB f') from rfl] at HPR
  generalize intfF (xB f) (yB f) (xB f') (yB f') = FZ at *
  generalize partsF (xB f) (yB f) = FX at *
  generalize partsF (xB f') (yB f') = FY at *
  clear hd hd' he e0 e1 e2 ew s1 s2 g1 g2 hn hn' hnn hf hf' hX hU hP1 hP2 hP3 hQ1 hQ2
  generalize pairE L S n' f L S n' f' = y1 at *
  generalize winE (half : Int) = y2 at *
  generalize n' = n at *
  go_enter Try.func39, Try.ntmps39
  go_wp2
  refine wp_region_calm_tail 5 (by kernel_rfl) (by kernel_rfl) ?_
  simp only [List.take_succ_cons, List.take_zero, List.drop_succ_cons, List.drop_zero]
  repeat (go_big_quiet_step (first | (go_at_call 79; with_reducible exact calm_of (HE1.out _ (by (repeat' (first | with_reducible exact Below.refl _ _ | (with_reducible refine below_later_of ?_ ?_ _) | (with_reducible refine Below.alloc ?_ ?_ _) | (with_reducible refine Below.setCell ?_ ?_ _) | (with_reducible refine Below.drew ?_) | (simp; done) | (simp; omega) | omega))))) | (go_at_call 93; with_reducible exact calm_same (HE2.out _))))
  refine wpQuiet_nil ?_
  rintro _ ⟨pz, rfl⟩
  go_wp2_with (first | (go_at_call 92; refine (fFirst2 _ _ _ _ HF.out (by (first | (simp [go_sem]; done) | simp [go_sem, ↓IntWalk.iteOmega])) (by (first | (simp [go_sem]; done) | simp [go_sem, ↓IntWalk.iteOmega]))).mono ?_; rintro e w' ⟨rfl, rfl⟩))
  refine any_worldF (fun w' => (w'.cell? ⟨w.heap.size, 0, none⟩ = some (.int .i64 L) ∧ w'.cell? ⟨w.heap.size, 1, none⟩ = some (.int .i64 S) ∧ w'.cell? ⟨w.heap.size, 2, none⟩ = some (.slice (some ⟨b, off, none⟩) n cap) ∧ w'.cell? ⟨w.heap.size + 1, 0, none⟩ = some (.int .i64 L) ∧ w'.cell? ⟨w.heap.size + 1, 1, none⟩ = some (.int .i64 S) ∧ w'.cell? ⟨w.heap.size + 1, 2, none⟩ = some (.slice (some ⟨b', off', none⟩) n cap')) ∧ w'.cell? ⟨w.heap.size + 2, 0, none⟩ = some (.int .i64 half) ∧ Below w.heap.size w w' ∧ ((w'.cell? ⟨w.heap.size + 3, 0, none⟩ = some (.int .i64 0) ∧ w'.cell? ⟨w.heap.size + 3, 1, none⟩ = some (.int .i64 0) ∧ w'.cell? ⟨w.heap.size + 3, 2, none⟩ = some (.slice none 0 0)) ∧ w'.frozen? ⟨w.heap.size + 3, 0, none⟩ = false ∧ w'.frozen? ⟨w.heap.size + 3, 1, none⟩ = false ∧ w'.frozen? ⟨w.heap.size + 3, 2, none⟩ = false) ∧ w.heap.size + 3 < w'.heap.size) ⟨⟨(by (first | (simp [go_sem]; done) | simp [go_sem, ↓IntWalk.iteOmega])), (by (first | (simp [go_sem]; done) | simp [go_sem, ↓IntWalk.iteOmega])), (by (first | (simp [go_sem]; done) | simp [go_sem, ↓IntWalk.iteOmega])), (by (first | (simp [go_sem]; done) | simp [go_sem, ↓IntWalk.iteOmega])), (by (first | (simp [go_sem]; done) | simp [go_sem, ↓IntWalk.iteOmega])), (by (first | (simp [go_sem]; done) | simp [go_sem, ↓IntWalk.iteOmega]))⟩, (by (first | (simp [go_sem]; done) | simp [go_sem, ↓IntWalk.iteOmega])), (by (repeat' (first | with_reducible exact Below.refl _ _ | (with_reducible refine below_later_of ?_ ?_ _) | (with_reducible refine Below.alloc ?_ ?_ _) | (with_reducible refine Below.setCell ?_ ?_ _) | (with_reducible refine Below.drew ?_) | (simp; done) | (simp; omega) | omega))), ⟨⟨(by (first | (simp [go_sem]; done) | simp [go_sem, ↓IntWalk.iteOmega])), (by (first | (simp [go_sem]; done) | simp [go_sem, ↓IntWalk.iteOmega])), (by (first | (simp [go_sem]; done) | simp [go_sem, ↓IntWalk.iteOmega]))⟩, (by (first | (simp [go_sem]; done) | simp [go_sem, ↓IntWalk.iteOmega])), (by (first | (simp [go_sem]; done) | simp [go_sem, ↓IntWalk.iteOmega])), (by (first | (simp [go_sem]; done) | simp [go_sem, ↓IntWalk.iteOmega]))⟩, (by first | (simp; done) | (simp <;> omega))⟩ ?_
  rintro W1 ⟨⟨k0, k1, k2, k3, k4, k5⟩, kh, hb1, ⟨⟨r0, r1, r2⟩, f0, f1, f2⟩, hlt1⟩
  have HB1 := Lib.hid hb1
  have hs1 := hb1.size
  have HSA := Lib.hid (show ∀ W, Below W1.heap.size W1 W → _ from fun W hW => HSA.out W (HB1.out.trans (hW.mono hs1)))
  have HSB := Lib.hid (show ∀ W, Below W1.heap.size W1 W → _ from fun W hW => HSB.out W (HB1.out.trans (hW.mono hs1)))
  clear hb1
  go_wp2_with fail
  go_cut [9, 10] from 24 to 27 (fun X Y wx => ∃ B9 a1 c1 B10 a2 c2, X = .pointer (some ⟨B9, 0, none⟩) ∧ Y = .pointer (some ⟨B10, 0, none⟩) ∧ (wx.cell? ⟨B9, 0, none⟩ = some (.int .i64 L) ∧ wx.cell? ⟨B9, 1, none⟩ = some (.int .i64 S) ∧ wx.cell? ⟨B9, 2, none⟩ = some (.slice a1 n c1)) ∧ (wx.cell? ⟨B10, 0, none⟩ = some (.int .i64 L) ∧ wx.cell? ⟨B10, 1, none⟩ = some (.int .i64 S) ∧ wx.cell? ⟨B10, 2, none⟩ = some (.slice a2 n c2)) ∧ OwnPr 0 wx n FX a1 ∧ OwnPr 0 wx n FY a2 ∧ B9 < wx.heap.size ∧ B10 < wx.heap.size ∧ Below W1.heap.size W1 wx)
  case first =>
    go_region_held3 (fun w' => w'.cell? ⟨w.heap.size, 0, none⟩ = some (.int .i64 L) ∧ w'.cell? ⟨w.heap.size, 1, none⟩ = some (.int .i64 S) ∧ w'.cell? ⟨w.heap.size, 2, none⟩ = some (.slice (some ⟨b, off, none⟩) n cap) ∧ w'.cell? ⟨w.heap.size + 1, 0, none⟩ = some (.int .i64 L) ∧ w'.cell? ⟨w.heap.size + 1, 1, none⟩ = some (.int .i64 S) ∧ w'.cell? ⟨w.heap.size + 1, 2, none⟩ = some (.slice (some ⟨b', off', none⟩) n cap')) (exact kb_keep ⟨k0, k1, k2, k3, k4, k5⟩ hlt1 (by (repeat' (first | with_reducible exact Below.refl _ _ | (with_reducible refine below_later_of ?_ ?_ _) | (with_reducible refine Below.alloc ?_ ?_ _) | (with_reducible refine Below.setCell ?_ ?_ _) | (with_reducible refine Below.drew ?_) | (simp; done) | (simp; omega) | omega)))) (first | (go_at_call 82; (with_reducible refine (HSA.out _ (by (repeat' (first | with_reducible exact Below.refl _ _ | (with_reducible refine below_later_of ?_ ?_ _) | (with_reducible refine Below.alloc ?_ ?_ _) | (with_reducible refine Below.setCell ?_ ?_ _) | (with_reducible refine Below.drew ?_) | (simp; done) | (simp; omega) | omega)))).mono ?_); rintro e w' ⟨a1, c1, rfl, ho, -, hb⟩; have HO1 := Lib.hid ho; clear ho; obtain ⟨p1, rfl⟩ := later_of_below hb; clear hb) | (go_at_call 82; (with_reducible refine (HSB.out _ (by (repeat' (first | with_reducible exact Below.refl _ _ | (with_reducible refine below_later_of ?_ ?_ _) | (with_reducible refine Below.alloc ?_ ?_ _) | (with_reducible refine Below.setCell ?_ ?_ _) | (with_reducible refine Below.drew ?_) | (simp; done) | (simp; omega) | omega)))).mono ?_); rintro e w' ⟨a2, c2, rfl, ho, -, hb⟩; have HO2 := Lib.hid ho; clear ho; obtain ⟨p2, rfl⟩ := later_of_below hb; clear hb))
    all_goals
      rename_i hheld
      clear hheld
      go_wp2_with fail
      go_meet
      clear hh hL1 hL hS1 hS hbw hbw' HE1 HE2 HF HSA HSB HPR HMA hn5 hl hl' kh r0 r1 r2 f0 f1 f2 k0 k1 k2 k3 k4 k5 HB1 hs1 HN0
      refine ⟨_, a1, c1, _, a2, c2, rfl, rfl, ⟨(by (first | (simp [go_sem]; done) | simp [go_sem, ↓IntWalk.iteOmega])), (by (first | (simp [go_sem]; done) | simp [go_sem, ↓IntWalk.iteOmega])), (by (first | (simp [go_sem]; done) | simp [go_sem, ↓IntWalk.iteOmega]))⟩, ⟨(by (first | (simp [go_sem]; done) | simp [go_sem, ↓IntWalk.iteOmega])), (by (first | (simp [go_sem]; done) | simp [go_sem, ↓IntWalk.iteOmega])), (by (first | (simp [go_sem]; done) | simp [go_sem, ↓IntWalk.iteOmega]))⟩, ?_, ?_, (by (first | omega | (simp only [size_later, sz_alloc, sz_set, sz_drew]; omega))), (by (first | omega | (simp only [size_later, sz_alloc, sz_set, sz_drew]; omega))), (by (repeat' (first | with_reducible exact Below.refl _ _ | (with_reducible refine below_later_of ?_ ?_ _) | (with_reducible refine Below.alloc ?_ ?_ _) | (with_reducible refine Below.setCell ?_ ?_ _) | (with_reducible refine Below.drew ?_) | (simp; done) | (simp; omega) | omega)))⟩
      · refine OwnPr2.own (B := ?_) (C := ?_) ?_ ?_
        rotate_left 2
        · (repeat' (first | (with_reducible exact OwnPr2.of HO1.out) | (with_reducible exact OwnPr2.of HO2.out) | (with_reducible refine OwnPr2.set ?_ ?_ _) | (with_reducible refine OwnPr2.later ?_ ?_ _) | (with_reducible refine OwnPr2.alloc ?_ ?_ _) | (simp only [size_later, sz_alloc, sz_set, sz_drew]; omega) | omega))
        · (first | omega | (simp only [size_later, sz_alloc, sz_set, sz_drew]; omega))
      · refine OwnPr2.own (B := ?_) (C := ?_) ?_ ?_
        rotate_left 2
        · (repeat' (first | (with_reducible exact OwnPr2.of HO1.out) | (with_reducible exact OwnPr2.of HO2.out) | (with_reducible refine OwnPr2.set ?_ ?_ _) | (with_reducible refine OwnPr2.later ?_ ?_ _) | (with_reducible refine OwnPr2.alloc ?_ ?_ _) | (simp only [size_later, sz_alloc, sz_set, sz_drew]; omega) | omega))
        · (first | omega | (simp only [size_later, sz_alloc, sz_set, sz_drew]; omega))
  case rest =>
    obtain ⟨B9, a1, c1, B10, a2, c2, rfl, rfl, ⟨x0, x1, x2⟩, ⟨y0, y1, y2⟩, ho1, ho2, hB9, hB10, hb⟩ := hcut
    obtain ⟨W3, hW3⟩ : ∃ W3 : World, W3 = wc := ⟨_, rfl⟩
    subst hW3
    have hs3 := hb.size
    have HB3 := Lib.hid (HB1.out.trans (hb.mono hs1))
    have HO1 := Lib.hid ho1
    have HO2 := Lib.hid ho2
    replace k0 := (hb.cell (p := ⟨w.heap.size, 0, none⟩) (by simp; omega)).trans k0
    replace k1 := (hb.cell (p := ⟨w.heap.size, 1, none⟩) (by simp; omega)).trans k1
    replace k2 := (hb.cell (p := ⟨w.heap.size, 2, none⟩) (by simp; omega)).trans k2
    replace kh := (hb.cell (p := ⟨w.heap.size + 2, 0, none⟩) (by simp; omega)).trans kh
    replace r0 := (hb.cell (p := ⟨w.heap.size + 3, 0, none⟩) (by simp; omega)).trans r0
    replace r1 := (hb.cell (p := ⟨w.heap.size + 3, 1, none⟩) (by simp; omega)).trans r1
    replace r2 := (hb.cell (p := ⟨w.heap.size + 3, 2, none⟩) (by simp; omega)).trans r2
    replace f0 := (hb.frozen (p := ⟨w.heap.size + 3, 0, none⟩) (by simp; omega)).trans f0
    replace f1 := (hb.frozen (p := ⟨w.heap.size + 3, 1, none⟩) (by simp; omega)).trans f1
    replace f2 := (hb.frozen (p := ⟨w.heap.size + 3, 2, none⟩) (by simp; omega)).trans f2
    have hw3 : w.heap.size + 3 < W3.heap.size := by omega
    clear hb ho1 ho2 HSA HSB k3 k4 k5
    have k3 := True.intro
    have k4 := True.intro
    have k5 := True.intro
    go_wp2_with (first | (go_at_call 81; (with_reducible refine (HPR.out _ _ _ _ _ HO1.out (by (repeat' (first | with_reducible exact Below.refl _ _ | (with_reducible refine below_later_of ?_ ?_ _) | (with_reducible refine Below.alloc ?_ ?_ _) | (with_reducible refine Below.setCell ?_ ?_ _) | (with_reducible refine Below.drew ?_) | (simp; done) | (simp; omega) | omega))) HO2.out (by (repeat' (first | with_reducible exact Below.refl _ _ | (with_reducible refine below_later_of ?_ ?_ _) | (with_reducible refine Below.alloc ?_ ?_ _) | (with_reducible refine Below.setCell ?_ ?_ _) | (with_reducible refine Below.drew ?_) | (simp; done) | (simp; omega) | omega)))).mono ?_); rintro e w' ⟨a3, c3, rfl, ho, -, hb⟩; have HO3 := Lib.hid ho; clear ho; obtain ⟨p3, rfl⟩ := later_of_below hb; clear hb) | (go_at_call 94; (with_reducible refine (HMA.out _ _ _ _ c1 c2 c3 _ _ _ _ HO3.out (by (repeat' (first | with_reducible exact Below.refl _ _ | (with_reducible refine below_later_of ?_ ?_ _) | (with_reducible refine Below.alloc ?_ ?_ _) | (with_reducible refine Below.setCell ?_ ?_ _) | (with_reducible refine Below.drew ?_) | (simp; done) | (simp; omega) | omega))) HO1.out (by (repeat' (first | with_reducible exact Below.refl _ _ | (with_reducible refine below_later_of ?_ ?_ _) | (with_reducible refine Below.alloc ?_ ?_ _) | (with_reducible refine Below.setCell ?_ ?_ _) | (with_reducible refine Below.drew ?_) | (simp; done) | (simp; omega) | omega))) HO2.out (by (repeat' (first | with_reducible exact Below.refl _ _ | (with_reducible refine below_later_of ?_ ?_ _) | (with_reducible refine Below.alloc ?_ ?_ _) | (with_reducible refine Below.setCell ?_ ?_ _) | (with_reducible refine Below.drew ?_) | (simp; done) | (simp; omega) | omega))) (by (first | (simp [go_sem, k0, k1, k2, k3, k4, k5, kh, x0, x1, x2, y0, y1, y2]; done) | simp [go_sem, k0, k1, k2, k3, k4, k5, kh, x0, x1, x2, y0, y1, y2, ↓IntWalk.iteOmega])) (by (first | (simp [go_sem, k0, k1, k2, k3, k4, k5, kh, x0, x1, x2, y0, y1, y2]; done) | simp [go_sem, k0, k1, k2, k3, k4, k5, kh, x0, x1, x2, y0, y1, y2, ↓IntWalk.iteOmega])) (by (first | (simp [go_sem, k0, k1, k2, k3, k4, k5, kh, x0, x1, x2, y0, y1, y2]; done) | simp [go_sem, k0, k1, k2, k3, k4, k5, kh, x0, x1, x2, y0, y1, y2, ↓IntWalk.iteOmega])) (by (first | (simp [go_sem, k0, k1, k2, k3, k4, k5, kh, x0, x1, x2, y0, y1, y2]; done) | simp [go_sem, k0, k1, k2, k3, k4, k5, kh, x0, x1, x2, y0, y1, y2, ↓IntWalk.iteOmega])) (by (first | (simp [go_sem, k0, k1, k2, k3, k4, k5, kh, x0, x1, x2, y0, y1, y2]; done) | simp [go_sem, k0, k1, k2, k3, k4, k5, kh, x0, x1, x2, y0, y1, y2, ↓IntWalk.iteOmega])) (by (first | (simp [go_sem, k0, k1, k2, k3, k4, k5, kh, x0, x1, x2, y0, y1, y2]; done) | simp [go_sem, k0, k1, k2, k3, k4, k5, kh, x0, x1, x2, y0, y1, y2, ↓IntWalk.iteOmega])) (by (first | (simp [go_sem, k0, k1, k2, k3, k4, k5, kh, x0, x1, x2, y0, y1, y2]; done) | simp [go_sem, k0, k1, k2, k3, k4, k5, kh, x0, x1, x2, y0, y1, y2, ↓IntWalk.iteOmega])) (by (first | (simp [go_sem, k0, k1, k2, k3, k4, k5, kh, x0, x1, x2, y0, y1, y2]; done) | simp [go_sem, k0, k1, k2, k3, k4, k5, kh, x0, x1, x2, y0, y1, y2, ↓IntWalk.iteOmega])) (by (first | (simp [go_sem, k0, k1, k2, k3, k4, k5, kh, x0, x1, x2, y0, y1, y2]; done) | simp [go_sem, k0, k1, k2, k3, k4, k5, kh, x0, x1, x2, y0, y1, y2, ↓IntWalk.iteOmega])) (by (first | (simp [go_sem, k0, k1, k2, k3, k4, k5, kh, x0, x1, x2, y0, y1, y2]; done) | simp [go_sem, k0, k1, k2, k3, k4, k5, kh, x0, x1, x2, y0, y1, y2, ↓IntWalk.iteOmega]))).mono ?_); rintro e w' ⟨a4, c4, rfl, ho, hb⟩; have HO4 := Lib.hid ho; clear ho; obtain ⟨p4, rfl⟩ := later_of_below hb; clear hb))
    refine bodyPost_ret (v := .tuple #[.agg #[.int .i64 L, .int .i64 S, .slice a4 n c4], .int .i64 0]) ?_ rfl ⟨a4, c4, rfl, ?_, ?_⟩
    · first | (simp [results, Try.results39, go_sem]; done) | simp [results, Try.results39, go_sem, r0, r1, r2, ↓IntWalk.iteOmega]
    · exact OwnFV.mono (OwnFV.set (OwnFV.set (OwnFV.set (HO4.out.below (by (repeat' (first | with_reducible exact Below.refl _ _ | (with_reducible refine below_later_of ?_ ?_ _) | (with_reducible refine Below.alloc ?_ ?_ _) | (with_reducible refine Below.setCell ?_ ?_ _) | (with_reducible refine Below.drew ?_) | (simp; done) | (simp; omega) | omega)))) (by simp <;> omega) _) (by simp <;> omega) _) (by simp <;> omega) _) (by simp <;> omega)
    · refine Below.setCell (Below.setCell (Below.setCell (HB3.out.trans (below_mono_of HB3.out.size (by (repeat' (first | with_reducible exact Below.refl _ _ | (with_reducible refine below_later_of ?_ ?_ _) | (with_reducible refine Below.alloc ?_ ?_ _) | (with_reducible refine Below.setCell ?_ ?_ _) | (with_reducible refine Below.drew ?_) | (simp; done) | (simp; omega) | omega))))) ?_ _) ?_ _) ?_ _
      all_goals (first | (simp; done) | (simp <;> omega))
end Go.Proofs.Ytcmjlfhnibjofaa

/- Chapter 4: maps of floats that are the same; the coherence of images in one statement. -/
namespace Go.Proofs.Ytcmjlfhnibjofaa
set_option linter.unusedVariables false
set_option linter.unusedSimpArgs false
open Go.RowKit Ieee Ntt
theorem sumN_neg {f g : Nat → Int} {a : Nat} : ∀ {k : Nat}, (∀ j, j < k → g (a + j) = -f (a + j)) → sumN g a k = -sumN f a k
  | 0, _ => rfl
  | k + 1, h => by rw [sumN, sumN, sumN_neg (k := k) (fun j hj => h j (by omega)), h k (Nat.lt_succ_self k)]; omega
theorem winP_neg {F G : Nat → Int} (h : ∀ i, G i = -F i) (L S half l s : Nat) : winP G L S half l s = -winP F L S half l s :=
  sumN_neg fun j _ => sumN_neg fun i _ => h _
theorem run_bits4 (b : Nat) (w : World) : (callFunc 150 #[.float .f32 b]).run Try.prog w = .ok (.value (.int .u32 b)) w := by
  rw [run_callFunc_extern (e := Extern.MathFloatBits.float32bits) Try.func150 (by kernel_rfl) (by kernel_rfl) (by kernel_rfl) (by kernel_rfl)]
  rfl
set_option maxHeartbeats 2000000 in
theorem sameFls_true (ds : List Nat) (v u : Value) (w : World) (hx : FlV w v ds) (hy : FlV w u ds) :
    Calls Try.prog 99 #[v, u] w fun e w' => e = .returned (.bool true) ∧ Below w.heap.size w w' := by
  obtain ⟨x1, a, cap, rfl, x4⟩ := hx
  obtain ⟨y1, a', cap', rfl, y4⟩ := hy
  obtain ⟨n, hn⟩ : ∃ n, ds.length = n := ⟨_, rfl⟩
  rw [hn] at x1 x4 y1 y4 ⊢
  have hl' : ((n : Int) != (n : Int)) = false := bne_self_eq_false _
  clear hn
  by_cases h0 : 0 < n
  · obtain ⟨b, off, rfl, hbw, hcx⟩ := x4 h0
    obtain ⟨b', off', rfl, hbw', hcy⟩ := y4 h0
    have HCX := Lib.hid hcx
    have HCY := Lib.hid hcy
    clear x4 y4 hcx hcy
    go_enter Try.func99, Try.ntmps99
    go_wp2
    go_loopw [5] (fun i wr => ∃ k : Nat, k ≤ n ∧ i = .int .i64 k ∧ Below w.heap.size w wr) (fun i _ => n - (intOf i).toNat)
    case atStart => exact ⟨0, Nat.zero_le _, rfl, Below.refl _ _⟩
    case round =>
      obtain ⟨k, hk, rfl, hnx⟩ := hrel
      have HX := Lib.hid hnx
      have hsz := hnx.size
      rcases (show k < n ∨ k = n by omega) with hlt | rfl
      · have cx := (hnx.cell (p := ⟨b, off + k, none⟩) hbw).trans (HCX.out k hlt)
        have cy := (hnx.cell (p := ⟨b', off' + k, none⟩) hbw').trans (HCY.out k hlt)
        have hbr : b < wr.heap.size := by omega
        have hbr' : b' < wr.heap.size := by omega
        have hdk : decide ((k : Int) < (n : Int)) = true := by simp; omega
        have hk0 : (0 : Int) ≤ (k : Int) := by omega
        have hk1 : (k : Int) < (n : Int) := by omega
        obtain ⟨p, hp⟩ : ∃ p, flAt ds k = p := ⟨_, rfl⟩
        rw [hp] at cx cy
        clear hnx hp
        have r1 := fun w => run_bits4 p w
        have d1 : ((p : Int) != (p : Int)) = false := bne_self_eq_false _
        go_wp2
        refine wp_region_calm (by kernel_rfl) (by kernel_rfl) ?_
        repeat (go_big_quiet_step (fail))
        refine wpQuiet_nil ?_
        rintro _ ⟨pp, rfl⟩
        go_wp2
        go_roundw
        case rel => exact ⟨k + 1, by omega, by go_num, HX.out.trans (below_mono_of hsz (by (repeat' (first | with_reducible exact Below.refl _ _ | (with_reducible refine below_later_of ?_ ?_ _) | (with_reducible refine Below.alloc ?_ ?_ _) | (with_reducible refine Below.setCell ?_ ?_ _) | (with_reducible refine Below.drew ?_) | (simp; done) | (simp; omega) | omega))))⟩
        case measure => simp [intOf]; omega
      · have hdk : decide ((k : Int) < (k : Int)) = false := by simp
        clear hnx
        go_wp2
        go_ret
        exact ⟨rfl, HX.out⟩
  · obtain rfl : n = 0 := by omega
    clear x4 y4
    go_enter Try.func99, Try.ntmps99
    go_wp2
    go_loopw [5] (fun i wr => i = .int .i64 0 ∧ Below w.heap.size w wr) (fun _ _ => 0)
    case atStart => exact ⟨rfl, Below.refl _ _⟩
    case round =>
      obtain ⟨rfl, hnx⟩ := hrel
      have HX := Lib.hid hnx
      clear hnx
      go_wp2
      go_ret
      exact ⟨rfl, HX.out⟩
set_option maxHeartbeats 2000000 in
theorem sameFlMap_true (R C : Int) (ds : List Nat) (v u : Value) (w : World) (hx : FlV w v ds) (hy : FlV w u ds) :
    Calls Try.prog 40 #[.agg #[.int .i64 R, .int .i64 C, v], .agg #[.int .i64 R, .int .i64 C, u]] w fun e w' => e = .returned (.bool true) ∧ Below w.heap.size w w' := by
  have HSF := Lib.hid (show ∀ W, Below w.heap.size w W → _ from fun W hW => sameFls_true ds v u W (hx.below hW) (hy.below hW))
  obtain ⟨-, a, cap, rfl, -⟩ := hx
  obtain ⟨-, a', cap', rfl, -⟩ := hy
  go_enter Try.func40, Try.ntmps40
  go_wp2_with (first | (go_at_call 99; (with_reducible refine (HSF.out _ (by (repeat' (first | with_reducible exact Below.refl _ _ | (with_reducible refine below_later_of ?_ ?_ _) | (with_reducible refine Below.alloc ?_ ?_ _) | (with_reducible refine Below.setCell ?_ ?_ _) | (with_reducible refine Below.drew ?_) | (simp; done) | (simp; omega) | omega)))).mono ?_); rintro e w' ⟨rfl, hb⟩; obtain ⟨p1, rfl⟩ := later_of_below hb; clear hb))
  go_ret
  exact ⟨rfl, (by (repeat' (first | with_reducible exact Below.refl _ _ | (with_reducible refine below_later_of ?_ ?_ _) | (with_reducible refine Below.alloc ?_ ?_ _) | (with_reducible refine Below.setCell ?_ ?_ _) | (with_reducible refine Below.drew ?_) | (simp; done) | (simp; omega) | omega)))⟩
/-- The coherence of two images, as floats' bits. -/
def cohD (L S : Int) (n : Nat) (f f' : Nat → Nat × Nat) (half : Int) : List Nat :=
  (List.range n).map (cohF (intfF (xB f) (yB f) (xB f') (yB f')) (partsF (xB f) (yB f)) (partsF (xB f') (yB f')) L.toNat S.toNat half.toNat)
theorem cohD_len (L S : Int) (n : Nat) (f f' : Nat → Nat × Nat) (half : Int) : (cohD L S n f f' half).length = n := by unfold cohD; simp
theorem cohV_swap (F F' G K : Nat → Int × Int) (h1 : ∀ i, (F' i).1 = (F i).1) (h2 : ∀ i, (F' i).2 = -(F i).2) (L S half l s : Nat) : cohV F' K G L S half l s = cohV F G K L S half l s := by
  have e1 : (fun i => (F' i).1) = fun i => (F i).1 := funext h1
  unfold cohV
  rw [e1, winP_neg (F := fun i => (F i).2) (G := fun i => (F' i).2) h2, Int.mul_comm (winP (enF K) L S half l s)]
  generalize winP (fun i => (F i).2) L S half l s = y
  have : -y * -y = y * y := by grind
  rw [this]
/-- It does not depend on the order. -/
theorem cohD_swap (L S : Int) (n : Nat) (f f' : Nat → Nat × Nat) (half : Int) : cohD L S n f' f half = cohD L S n f f' half := by
  unfold cohD
  congr 1
  funext i
  unfold cohF
  refine cohV_swap _ _ _ _ (fun i => ?_) (fun i => ?_) _ _ _ _ _
  · show xB f' i * xB f i + yB f' i * yB f i = xB f i * xB f' i + yB f i * yB f' i
    grind
  · show yB f' i * xB f i - xB f' i * yB f i = -(yB f i * xB f' i - xB f i * yB f' i)
    grind
/-- What a map of floats says that is returned with an error. -/
structure CoSay (W : World) (B : Nat) (L S : Int) (n : Nat) (ds : List Nat) (E : Int) (l s : Int) (k : Nat) (a : Option Addr) (c : Nat) : Prop where
  ok : E = 0 → l = L ∧ s = S ∧ k = n ∧ OwnFV B W (.slice a k c) ds
  bad : E ≠ 0 → l = 0 ∧ s = 0 ∧ k = 0
theorem CoSay.below {W W' : World} {B : Nat} {L S : Int} {n : Nat} {ds : List Nat} {E : Int} {l s : Int} {k : Nat} {a : Option Addr} {c : Nat} (h : CoSay W B L S n ds E l s k a c) (hb : Below W.heap.size W W') : CoSay W' B L S n ds E l s k a c :=
  ⟨fun e => by
    obtain ⟨h1, h2, h3, h4⟩ := h.ok e
    exact ⟨h1, h2, h3, h4.below hb⟩, h.bad⟩
theorem CoSay.mono {W : World} {B B' : Nat} {L S : Int} {n : Nat} {ds : List Nat} {E : Int} {l s : Int} {k : Nat} {a : Option Addr} {c : Nat} (h : CoSay W B L S n ds E l s k a c) (hb : B' ≤ B) : CoSay W B' L S n ds E l s k a c :=
  ⟨fun e => by
    obtain ⟨h1, h2, h3, h4⟩ := h.ok e
    exact ⟨h1, h2, h3, h4.mono hb⟩, h.bad⟩
theorem CoSay.set {W : World} {B : Nat} {L S : Int} {n : Nat} {ds : List Nat} {E : Int} {l s : Int} {k : Nat} {a : Option Addr} {c : Nat} (h : CoSay W B L S n ds E l s k a c) {p : Addr} (hp : p.block < B) (v : Value) : CoSay (W.setCell p v) B L S n ds E l s k a c :=
  ⟨fun e => by
    obtain ⟨h1, h2, h3, h4⟩ := h.ok e
    exact ⟨h1, h2, h3, h4.set hp v⟩, h.bad⟩
theorem coh_det (L S : Int) (n cap : Nat) (f : Nat → Nat × Nat) (a : Option Addr) (L' S' : Int) (n' cap' : Nat) (f' : Nat → Nat × Nat) (a' : Option Addr) (half : Int) (w : World) (hl : n ≤ 100000) (hl' : n' ≤ 100000) (hd : DataAt w L S n f a) (hd' : DataAt w L' S' n' f' a') {E : Int} (hE : cohE L S n f L' S' n' f' half = E) :
    Calls Try.prog 39 #[.agg #[.int .i64 L, .int .i64 S, .slice a n cap], .agg #[.int .i64 L', .int .i64 S', .slice a' n' cap'], .int .i64 half] w
      fun e w' => ∃ l s k q c, e = .returned (.tuple #[.agg #[.int .i64 l, .int .i64 s, .slice q k c], .int .i64 E]) ∧ CoSay w' w.heap.size L S n (cohD L S n f f' half) E l s k q c ∧ Below w.heap.size w w' := by
  by_cases h0 : E = 0
  · subst h0
    obtain ⟨e0, ew⟩ := first2_z (show first2 (pairE L S n f L' S' n' f') (winE half) = 0 from hE)
    have hh : 0 ≤ half ∧ half ≤ 4 := by
      unfold winE at ew
      split at ew
      · rename_i h; exact inE_iff.1 h
      · exact absurd ew (by decide)
    obtain ⟨e1, e2, rfl, rfl⟩ := pairE_zero e0
    obtain ⟨s1, g1⟩ := imgE_zero e1
    obtain ⟨⟨l1, l2⟩, ⟨l3, l4⟩, -⟩ := sizeE_okU s1
    obtain ⟨L, rfl⟩ := Int.eq_ofNat_of_zero_le (show 0 ≤ L by omega)
    obtain ⟨S, rfl⟩ := Int.eq_ofNat_of_zero_le (show 0 ≤ S by omega)
    obtain ⟨half, rfl⟩ := Int.eq_ofNat_of_zero_le hh.1
    refine (coherence_ok L S n cap f a n' cap' f' a' half w hl hl' hd hd' hE).mono ?_
    rintro e w' ⟨q, c, rfl, ho, hb⟩
    exact ⟨_, _, _, q, c, rfl, ⟨fun _ => ⟨rfl, rfl, rfl, ho⟩, fun h => absurd rfl h⟩, hb⟩
  · refine (coherence_bad L S n cap f a L' S' n' cap' f' a' half w hl hl' hd hd' hE h0).mono ?_
    rintro e w' ⟨rfl, hb⟩
    exact ⟨0, 0, 0, none, 0, rfl, ⟨fun h => absurd h h0, fun _ => ⟨rfl, rfl, rfl⟩⟩, hb⟩
end Go.Proofs.Ytcmjlfhnibjofaa
