import Derived.Test.YtkoiknmijjiicaaGreatDoorXA
import Derived.Test.YtkoiknmijjiicaaGreatDoorXE
import Derived.Test.YtkoiknmijjiicaaGreatDoorZR
import Derived.TacticsIn
import Derived.BigFrameIn
import Derived.OwnWalkIn
import Derived.TacticsInMore
import Derived.LoopNIn
import Derived.LoopIn
/- Chapter 4, plain: sums over windows and blocks. -/
namespace Go.Proofs.YtkoiknmijjiicaaGreatDoor
set_option linter.unusedVariables false
set_option linter.unusedSimpArgs false
open Go.RowKit Ntt
def sumN (f : Nat → Int) (a : Nat) : Nat → Int
  | 0 => 0
  | k + 1 => sumN f a k + f (a + k)
theorem sumN_bd {f : Nat → Int} {a : Nat} {B : Int} : ∀ {k : Nat}, (∀ j, j < k → -B ≤ f (a + j) ∧ f (a + j) ≤ B) → -(k * B) ≤ sumN f a k ∧ sumN f a k ≤ k * B
  | 0, _ => by simp [sumN]
  | k + 1, h => by
    have ih := sumN_bd (k := k) (fun j hj => h j (by omega))
    have h1 := h k (Nat.lt_succ_self k)
    rw [sumN, show (((k + 1 : Nat) : Int) * B) = k * B + B by rw [Int.natCast_succ, Int.add_mul, Int.one_mul]]
    omega
theorem sumN_congr {f g : Nat → Int} {a : Nat} : ∀ {k : Nat}, (∀ j, j < k → f (a + j) = g (a + j)) → sumN f a k = sumN g a k
  | 0, _ => rfl
  | k + 1, h => by rw [sumN, sumN, sumN_congr (k := k) (fun j hj => h j (by omega)), h k (Nat.lt_succ_self k)]
/-- A part of a row, and a block. -/
def rowW (F : Nat → Int) (S l a k : Nat) : Int := sumN (fun s => F (l * S + s)) a k
def winW (F : Nat → Int) (S a k b m : Nat) : Int := sumN (fun l => rowW F S l a k) b m
theorem rowW_bd {F : Nat → Int} {L S l a k : Nat} {B : Int} (h : ∀ i, i < L * S → -B ≤ F i ∧ F i ≤ B) (hl : l < L) (hk : a + k ≤ S) : -(k * B) ≤ rowW F S l a k ∧ rowW F S l a k ≤ k * B :=
  sumN_bd fun j hj => h _ (by
    have h1 : (l + 1) * S ≤ L * S := Nat.mul_le_mul_right _ hl
    rw [Nat.add_mul, Nat.one_mul] at h1
    omega)
theorem mul_le3 {x y : Int} {k n : Nat} (h1 : -(k * x) ≤ y ∧ y ≤ k * x) (hk : k ≤ n) (hx : 0 ≤ x) : -(n * x) ≤ y ∧ y ≤ n * x := by
  have : (k : Int) * x ≤ (n : Int) * x := Int.mul_le_mul_of_nonneg_right (by omega) hx
  omega
theorem winW_bd {F : Nat → Int} {L S a k b m : Nat} {B : Int} (h : ∀ i, i < L * S → -B ≤ F i ∧ F i ≤ B) (hB : 0 ≤ B) (hL : L ≤ 64) (hS : S ≤ 64) (hm : b + m ≤ L) (hk : a + k ≤ S) : -(4096 * B) ≤ winW F S a k b m ∧ winW F S a k b m ≤ 4096 * B := by
  have h1 : ∀ j, j < m → -(64 * B) ≤ rowW F S (b + j) a k ∧ rowW F S (b + j) a k ≤ 64 * B := fun j hj => mul_le3 (n := 64) (rowW_bd (L := L) h (by omega) hk) (by omega) hB
  have h2 := sumN_bd (f := fun l => rowW F S l a k) (a := b) (k := m) h1
  have h3 := mul_le3 (n := 64) h2 (by omega) (by omega)
  unfold winW
  omega
/-- Where a window starts and ends. -/
def loW (l half : Nat) : Nat := l - half
def hiW (l half L : Nat) : Nat := min (l + half + 1) L
def cntW (l half L : Nat) : Nat := hiW l half L - loW l half
theorem cntW_le {l half L : Nat} (h : l < L) : loW l half + cntW l half L ≤ L ∧ loW l half + cntW l half L = hiW l half L := by unfold cntW hiW loW; omega
/-- The sum of the window around a place. -/
def winP (F : Nat → Int) (L S half l s : Nat) : Int := winW F S (loW s half) (cntW s half S) (loW l half) (cntW l half L)
theorem winP_bd {F : Nat → Int} {L S half l s : Nat} {B : Int} (h : ∀ i, i < L * S → -B ≤ F i ∧ F i ≤ B) (hB : 0 ≤ B) (hL : L ≤ 64) (hS : S ≤ 64) (hl : l < L) (hs : s < S) : -(4096 * B) ≤ winP F L S half l s ∧ winP F L S half l s ≤ 4096 * B :=
  winW_bd h hB hL hS (cntW_le hl).1 (cntW_le hs).1
theorem rowW_succ (F : Nat → Int) (S l a k : Nat) : rowW F S l a (k + 1) = rowW F S l a k + F (l * S + (a + k)) := rfl
theorem winW_succ (F : Nat → Int) (S a k b m : Nat) : winW F S a k b (m + 1) = winW F S a k b m + rowW F S (b + m) a k := rfl
theorem sumN_shift {f g : Nat → Int} {a b : Nat} : ∀ {k : Nat}, (∀ j, j < k → f (a + j) = g (b + j)) → sumN f a k = sumN g b k
  | 0, _ => rfl
  | k + 1, h => by rw [sumN, sumN, sumN_shift (k := k) (fun j hj => h j (by omega)), h k (Nat.lt_succ_self k)]
theorem sumN_add (f : Nat → Int) (a m : Nat) : ∀ k, sumN f a (m + k) = sumN f a m + sumN f (a + m) k
  | 0 => by simp [sumN]
  | k + 1 => by rw [← Nat.add_assoc, sumN, sumN_add f a m k, sumN, Nat.add_assoc]; omega
end Go.Proofs.YtkoiknmijjiicaaGreatDoor

/- Chapter 4: around: the pairs of a window, as an iterator. -/
namespace Go.Proofs.YtkoiknmijjiicaaGreatDoor
set_option linter.unusedVariables false
set_option linter.unusedSimpArgs false
open Go.RowKit
/-- The boxes that around's closure has captured: the grid, the line, the sample, half. -/
structure AroB (W : World) (B L S g n cap line sample half : Nat) : Prop where
  c0 : W.cell? ⟨B, 0, none⟩ = some (.int .i64 L)
  c1 : W.cell? ⟨B, 1, none⟩ = some (.int .i64 S)
  c2 : W.cell? ⟨B, 2, none⟩ = some (.slice (some ⟨g, 0, none⟩) n cap)
  cl : W.cell? ⟨B + 1, 0, none⟩ = some (.int .i64 line)
  cs : W.cell? ⟨B + 2, 0, none⟩ = some (.int .i64 sample)
  ch : W.cell? ⟨B + 3, 0, none⟩ = some (.int .i64 half)
theorem AroB.below {W W' : World} {D B L S g n cap line sample half : Nat} (h : AroB W B L S g n cap line sample half) (hb : Below D W W') (hB : B + 3 < D) : AroB W' B L S g n cap line sample half :=
  ⟨(hb.cell (p := ⟨B, 0, none⟩) (show B < D by omega)).trans h.c0, (hb.cell (p := ⟨B, 1, none⟩) (show B < D by omega)).trans h.c1, (hb.cell (p := ⟨B, 2, none⟩) (show B < D by omega)).trans h.c2, (hb.cell (p := ⟨B + 1, 0, none⟩) (show B + 1 < D by omega)).trans h.cl, (hb.cell (p := ⟨B + 2, 0, none⟩) (show B + 2 < D by omega)).trans h.cs, (hb.cell (p := ⟨B + 3, 0, none⟩) (show B + 3 < D by omega)).trans h.ch⟩
set_option maxHeartbeats 400000 in
theorem around_any (L S g n cap line sample half : Nat) (w : World) :
    Calls Tryz.prog 41 #[.agg #[.int .i64 L, .int .i64 S, .slice (some ⟨g, 0, none⟩) n cap], .int .i64 line, .int .i64 sample, .int .i64 half] w fun e w' =>
      ∃ B, B = w.heap.size ∧ e = .returned (.func (.func 88) #[] #[.pointer (some ⟨B + 1, 0, none⟩), .pointer (some ⟨B + 3, 0, none⟩), .pointer (some ⟨B, 0, none⟩), .pointer (some ⟨B + 2, 0, none⟩)]) ∧ AroB w' B L S g n cap line sample half ∧ B + 3 < w'.heap.size ∧ Below w.heap.size w w' := by
  go_enter Tryz.func41, Tryz.ntmps41
  go_wp2
  go_ret
  exact ⟨w.heap.size, rfl, rfl, ⟨by simp [go_sem], by simp [go_sem], by simp [go_sem], by simp [go_sem], by simp [go_sem], by simp [go_sem]⟩, by simp <;> omega, (by (repeat' (first | with_reducible exact Below.refl _ _ | (with_reducible refine below_later_of ?_ ?_ _) | (with_reducible refine Below.alloc ?_ ?_ _) | (with_reducible refine Below.setCell ?_ ?_ _) | (with_reducible refine Below.drew ?_) | (simp; done) | (simp; omega) | omega)))⟩
/-- The pair number k of a window. -/
def winI (S l0 s0 sc k : Nat) : Nat := (l0 + k / sc) * S + (s0 + k % sc)
def encW (F : Nat → Int × Int) (S l0 s0 sc k : Nat) : Array Value := #[.agg #[.int .i64 (F (winI S l0 s0 sc k)).1, .int .i64 (F (winI S l0 s0 sc k)).2]]
theorem winI_at {S l0 s0 sc a b : Nat} (hb : b < sc) : winI S l0 s0 sc (a * sc + b) = (l0 + a) * S + (s0 + b) := by
  unfold winI
  rw [Nat.mul_comm a sc, Nat.mul_add_div (by omega), Nat.div_eq_of_lt hb, Nat.mul_add_mod, Nat.mod_eq_of_lt hb, Nat.add_zero]
def AroS (B L S g n cap line sample half : Nat) (F : Nat → Int × Int) (W : World) : Prop := AroB W B L S g n cap line sample half ∧ PairsAt W g n F ∧ g < W.heap.size ∧ B + 3 < W.heap.size
set_option maxRecDepth 20000 in
set_option maxHeartbeats 4000000 in
theorem around_iter (T : TypeId) (q : Nat) (hq : 1 ≤ q) (B L S g n cap line sample half : Nat) (F : Nat → Int × Int) (hn : n = L * S) (l2 : L ≤ 64) (s2 : S ≤ 64) (hl : line < L) (hs : sample < S) (hh : half ≤ 4) (W : World) :
    IterOkT T (AroS B L S g n cap line sample half F) Fence.wide q Tryz.prog 88 #[.pointer (some ⟨B + 1, 0, none⟩), .pointer (some ⟨B + 3, 0, none⟩), .pointer (some ⟨B, 0, none⟩), .pointer (some ⟨B + 2, 0, none⟩)] (cntW line half L * cntW sample half S) (encW F S (loW line half) (loW sample half) (cntW sample half S)) W := by
  intro l J Jx hJ hJx hS hY h0
  have HJ := Lib.hid hJ
  have HS := Lib.hid hS
  have HY := Lib.hid hY
  have H0 := Lib.hid h0
  obtain ⟨l0, hl0⟩ : ∃ l0, loW line half = l0 := ⟨_, rfl⟩
  obtain ⟨s0, hs0⟩ : ∃ s0, loW sample half = s0 := ⟨_, rfl⟩
  obtain ⟨lc, hlc⟩ : ∃ lc, cntW line half L = lc := ⟨_, rfl⟩
  obtain ⟨sc, hsc⟩ : ∃ sc, cntW sample half S = sc := ⟨_, rfl⟩
  obtain ⟨t1, t2⟩ := cntW_le (half := half) hl
  obtain ⟨t3, t4⟩ := cntW_le (half := half) hs
  rw [hl0, hlc] at t1 t2
  rw [hs0, hsc] at t3 t4
  have em1 : max ((line : Int) - (half : Int)) 0 = (l0 : Int) := by unfold loW at hl0; omega
  have em2 : max ((sample : Int) - (half : Int)) 0 = (s0 : Int) := by unfold loW at hs0; omega
  obtain ⟨le, hle⟩ : ∃ le, l0 + lc = le := ⟨_, rfl⟩
  obtain ⟨se, hse⟩ : ∃ se, s0 + sc = se := ⟨_, rfl⟩
  have en1 : min ((line : Int) + (half : Int)) ((L : Int) - 1) = (le : Int) - 1 := by rw [← hle, t2]; unfold hiW; omega
  have en2 : min ((sample : Int) + (half : Int)) ((S : Int) - 1) = (se : Int) - 1 := by rw [← hse, t4]; unfold hiW; omega
  rw [hl0, hs0, hlc, hsc] at HY
  rw [hlc, hsc]
  clear hJ hJx hY h0 hS hl0 hs0 hlc hsc t2 t4
  refine callsIn_of_wp Tryz.func88 rfl trivial ?_ rfl
  simp only [Tryz.ntmps88, List.size_toArray, List.length_cons, List.length_nil, Nat.reduceAdd, Nat.reduceSub, Array.replicate_succ, Array.replicate_zero, List.push_toArray, List.append_toArray, List.nil_append, List.cons_append]
  obtain ⟨⟨c0, c1, c2, cl, cs, ch⟩, -, -, hB0⟩ := HS.out 0 _ H0.out
  gi_wp2
  gi_loopw [6] (fun v wr => ∃ la : Nat, l0 ≤ la ∧ la ≤ le ∧ v = .int .i64 la ∧ J ((la - l0) * sc) wr ∧ W.heap.size ≤ wr.heap.size) (fun v _ => le - (intOf v).toNat)
  case atStart => exact ⟨l0, Nat.le_refl _, by omega, rfl, by rw [Nat.sub_self, Nat.zero_mul]; exact H0.out, Nat.le_refl _⟩
  case round =>
    clear c0 c1 c2 cl cs ch hB0
    obtain ⟨la, ha0, ha, rfl, hj, hsz⟩ := hrel
    have HJI := Lib.hid hj
    obtain ⟨⟨c0, c1, c2, cl, cs, ch⟩, -, -, hB0⟩ := HS.out _ wr hj
    by_cases hlt : la < le
    · have hd1 : decide ((la : Int) ≤ (le : Int) - 1) = true := by simp; omega
      clear hj
      gi_wp2
      gi_loopw [7] (fun v wr => ∃ sb : Nat, s0 ≤ sb ∧ sb ≤ se ∧ v = .int .i64 sb ∧ J ((la - l0) * sc + (sb - s0)) wr ∧ W.heap.size ≤ wr.heap.size) (fun v _ => se - (intOf v).toNat)
      case atStart => exact ⟨s0, Nat.le_refl _, by omega, rfl, by rw [Nat.sub_self, Nat.add_zero]; exact HJI.out, hsz⟩
      case round =>
        clear c0 c1 c2 cl cs ch hB0
        obtain ⟨sb, hb0, hb, rfl, hj, hsz⟩ := hrel
        have HJB := Lib.hid hj
        obtain ⟨⟨c0, c1, c2, cl, cs, ch⟩, hpr, hgw, hB0⟩ := HS.out _ wr hj
        by_cases hlb : sb < se
        · have hd2 : decide ((sb : Int) ≤ (se : Int) - 1) = true := by simp; omega
          have hk : (la - l0) * sc + (sb - s0) < lc * sc := by
            have h1 : (la - l0 + 1) * sc ≤ lc * sc := Nat.mul_le_mul_right _ (by omega)
            rw [Nat.add_mul, Nat.one_mul] at h1
            omega
          obtain ⟨i, hi⟩ : ∃ i, la * S + sb = i := ⟨_, rfl⟩
          have hin : i < n := by
            have h1 : (la + 1) * S ≤ L * S := Nat.mul_le_mul_right _ (by omega)
            rw [Nat.add_mul, Nat.one_mul] at h1
            omega
          have hic : (la : Int) * (S : Int) + (sb : Int) = (i : Int) := by rw [← hi, Int.natCast_add, Int.natCast_mul]
          have hi1 : (i : Int) < (n : Int) := by omega
          have hi0 : (0 : Int) ≤ (i : Int) := by omega
          have him : i ≤ 4096 := by
            have := Nat.mul_le_mul l2 s2
            omega
          have hmm : (la : Int) * (S : Int) ≤ 4096 ∧ 0 ≤ (la : Int) * (S : Int) := by
            have h1 : (0 : Int) ≤ (la : Int) * (S : Int) := Int.mul_nonneg (by omega) (by omega)
            omega
          obtain ⟨m1, m2⟩ := hmm
          obtain ⟨p1, p2⟩ := hpr i hin
          obtain ⟨fn, tmps, assign, body, hy, hR⟩ := HY.out _ wr hj hk hsz
          unfold encW at hy
          rw [winI_at (by omega), show l0 + (la - l0) = la by omega, show s0 + (sb - s0) = sb by omega, hi] at hy
          have HR := Lib.hid hR
          clear hR hj hpr
          generalize (F i).1 = x at *
          generalize (F i).2 = y at *
          gi_wp2
          refine HR.out.mono ?_
          rintro e W3 (⟨rfl, hJ3, hk3⟩ | ⟨rfl, hJx3⟩)
          · have HJ3 := Lib.hid hJ3
            have hs3 := hk3.size
            clear hk3 hJ3 c0 c1 c2 cl cs ch p1 p2 hB0 hgw
            gi_wp2
            go_roundw
            case rel => exact ⟨sb + 1, by omega, by omega, by go_num, by rw [show sb + 1 - s0 = sb - s0 + 1 by omega, ← Nat.add_assoc]; exact HJ3.out, by omega⟩
            case measure => simp [intOf]; omega
          · gi_wp2
            refine bodyPost_ret (results_none rfl _ _ _) rfl ?_
            exact ⟨⟨_, rfl⟩, .inr hJx3⟩
        · obtain rfl : sb = se := by omega
          have hd2 : decide ((sb : Int) ≤ (sb : Int) - 1) = false := by simp; omega
          clear hj hpr
          gi_wp2
          go_roundw
          case rel => exact ⟨la + 1, by omega, by omega, by go_num, by rw [show la + 1 - l0 = la - l0 + 1 by omega, Nat.add_mul, Nat.one_mul, show sc = sb - s0 by omega]; exact (show sc = sb - s0 by omega) ▸ HJB.out, hsz⟩
          case measure => simp [intOf]; omega
    · obtain rfl : la = le := by omega
      have hd1 : decide ((la : Int) ≤ (la : Int) - 1) = false := by simp; omega
      clear hj
      gi_wp2
      go_end0
      exact ⟨⟨_, rfl⟩, .inl (by have := HJI.out; rwa [show la - l0 = lc by omega] at this)⟩
end Go.Proofs.YtkoiknmijjiicaaGreatDoor

/- A range over a closure whose loop variable lies in memory: the round begins with blocks of its own. No program in sight. (After Q3.) -/
namespace Go.Proofs.YtkoiknmijjiicaaGreatDoor
set_option linter.unusedVariables false
set_option linter.unusedSimpArgs false
open Go Go.RowKit
section
variable {F : Fence} {n : Nat} {P : Program}
theorem wpIn_rangeCapW (T : TypeId) (S : World → Prop) {g : Operand} {ps : Array Tmp} {assign body : Code} {Q : Exit → Act → World → Prop} {a : Act} {w : World}
    (hro : F.round = none) (h1 : 1 ≤ n) {gf : Nat} {cap : Array Value} (hg : a.eval g = .func (.func gf) #[] cap) (hFg : F.fn gf) (eg : ∀ args w, (callFunc gf args).run P w = .ok (.enter gf args) w)
    {N : Nat} {enc : Nat → Array Value} (hps : ∀ k, (enc k).size = ps.size)
    (hseq : ∀ W, Below w.heap.size w W → IterOkT T S F (n - 1) P gf cap N enc W)
    (I : Nat → World → Prop) (Ix : Code → World → Prop) (hI : ∀ k W1 W2, I k W1 → Below w.heap.size W1 W2 → CellsSame W1 W2 → I k W2) (hIx : ∀ c W1 W2, Ix c W1 → Below w.heap.size W1 W2 → CellsSame W1 W2 → Ix c W2) (hS : ∀ k W, I k W → S W) (h0 : I 0 w) (f : Array Value → Nat → World → Array Value) (gw : Nat → World → World) (hgw : ∀ k W, Below W.heap.size W (gw k W))
    (hassign : ∀ (l : Nat) (k : Nat) (W : World) (K : Act → World → Prop), K { tmps := f a.tmps k W, defers := [] } (gw k W) →
      assign.wpIn (F.inRound l) (n - 1 - 1) P (Exit.then K (fun _ _ _ => False)) { tmps := (ps.zip (enc k)).foldl (fun t (p, v) => t.setIfInBounds p v) a.tmps, defers := [] } W)
    (hbody : ∀ (l : Nat) (k : Nat) (W Wb : World), I k Wb → k < N → w.heap.size ≤ W.heap.size → CellsSame (gw k W) Wb → (gw k W).heap.size = Wb.heap.size → body.wpIn (F.inRound l) (n - 1 - 1) P (boundPostT T w.heap.size (I (k + 1)) Ix Wb) { tmps := f a.tmps k W, defers := [] } Wb)
    (hdone : ∀ (W : World), I N W → W.heap[w.heap.size]? = some (.deferred (some [])) → Q .normal { a with defers := { target := .collected w.heap.size, args := #[] } :: a.defers } W)
    (hstop : ∀ (c : Code) (W : World), Ix c W → W.heap[w.heap.size]? = some (.deferred (some [])) → c.wpIn F n P Q { a with defers := { target := .collected w.heap.size, args := #[] } :: a.defers } W) :
    (Code.rangeFunc g ps assign body).wpIn F n P Q a w := by
  refine wpIn_rangeFunc ?_
  intro fn hfn
  rw [hro]
  obtain ⟨rec, hrec⟩ : ∃ rec : LoopState → Option Code → Loop, rec = fun st pe => { state := st, pending := pe, fn, tmps := a.tmps, params := ps, assign, body, defers := w.heap.size } := ⟨_, rfl⟩
  obtain ⟨W1, hW1⟩ : ∃ W1, (w.alloc (.deferred (some []))).alloc (.loop (rec .ready none)) = W1 := ⟨_, rfl⟩
  have hz1 : W1.heap.size = w.heap.size + 2 := by rw [← hW1]; simp
  have hL1 : W1.heap[w.heap.size + 1]? = some (.loop (rec .ready none)) := by
    rw [← hW1]; have := World.alloc_heap_new (w.alloc (.deferred (some []))) (.loop (rec .ready none)); rwa [World.size_alloc] at this
  have hK1 : W1.heap[w.heap.size]? = some (.deferred (some [])) := by
    rw [← hW1]; exact (Below.heap_alloc _ _ _ (by simp)).trans (World.alloc_heap_new w _)
  have hb1 : Below w.heap.size w W1 := by
    rw [← hW1]; exact ((Below.refl _ w).alloc (Nat.le_refl _) _).alloc (by simp) _
  refine ⟨w.heap.size + 1, [{ target := .collected w.heap.size, args := #[] }], W1, { target := .fn (.func gf) cap, args := #[.func (.yield (w.heap.size + 1)) #[] #[]] }, W1, gf,
    #[.func (.yield (w.heap.size + 1)) #[] #[]] ++ cap, W1, ?_, ?_, ?_, ?_, fun _ => h1, ?_⟩
  · rw [← hW1, hrec]; exact run_enterLoop_outer _ _ _ _ _
  · simp only [resolve, hg]
    simp [go_sem]
  · intro f' hf'; simp [Target.leads] at hf'; subst hf'; exact hFg
  · simp [invoke, go_sem, eg]
  · refine ((hseq W1 hb1) (w.heap.size + 1)
      (fun k W => I k W ∧ W.heap[w.heap.size + 1]? = some (.loop (rec .ready none)) ∧ W.heap[w.heap.size]? = some (.deferred (some [])))
      (fun W => ∃ c, Ix c W ∧ W.heap[w.heap.size + 1]? = some (.loop (rec .done (some c))) ∧ W.heap[w.heap.size]? = some (.deferred (some [])))
      (fun k A B hs hb hc => ⟨hI k A B hs.1 (hb.mono (by omega)) hc, (hb.block _ (by omega)).trans hs.2.1, (hb.block _ (by omega)).trans hs.2.2⟩)
      (fun A B hs hb hc' => by
        obtain ⟨c, hc, hl, hk⟩ := hs
        exact ⟨c, hIx c A B hc (hb.mono (by omega)) hc', (hb.block _ (by omega)).trans hl, (hb.block _ (by omega)).trans hk⟩)
      (fun k A hs => hS k A hs.1) ?_ ⟨hI 0 _ _ h0 hb1 (CellsSame.below hb1), hL1, hK1⟩).mono ?_
    · rintro k W ⟨hi, hl, hk⟩ hkN hWs
      have hlt : w.heap.size + 1 < W.heap.size := (Array.getElem?_eq_some_iff.1 hl).1
      have hy := run_yield (P := P) (args := enc k) hl (by rw [hrec]; simp [hps k])
      rw [hrec] at hy
      obtain ⟨Wg, hWg⟩ : ∃ Wg, gw k W = Wg := ⟨_, rfl⟩
      have hbg : Below W.heap.size W Wg := by rw [← hWg]; exact hgw k W
      have hgs := hbg.size
      have hlg : Wg.heap[w.heap.size + 1]? = some (.loop (rec .ready none)) := (hbg.block _ hlt).trans hl
      have hkg : Wg.heap[w.heap.size]? = some (.deferred (some [])) := (hbg.block _ (by omega)).trans hk
      refine ⟨fn, _, assign, body, hy, roundIn_of_wpIn hfn (hassign _ k W _ ?_)⟩
      rw [hWg]
      refine ⟨_, run_beginRound hlg (by rw [hrec]), ?_⟩
      obtain ⟨Wb, hWb⟩ : ∃ Wb, Wg.putObj (w.heap.size + 1) (.loop { rec .ready none with state := .busy }) = Wb := ⟨_, rfl⟩
      have hl2 : Wb.heap[w.heap.size + 1]? = some (.loop { rec .ready none with state := .busy }) := by rw [← hWb]; exact World.putObj_heap_same (by omega)
      have hk2 : Wb.heap[w.heap.size]? = some (.deferred (some [])) := by rw [← hWb]; exact (World.putObj_heap_other (by omega)).trans hkg
      have hbb : Below w.heap.size Wg Wb := by rw [← hWb]; exact below_putObj (by omega) _
      have hWz : Wb.heap.size = Wg.heap.size := by rw [← hWb]; simp
      have hcs0 : CellsSame Wg Wb := by rw [← hWb]; exact CellsSame.putObj hlg _
      have hkt : KeepT T W1.heap.size W Wb := ⟨by omega, fun i h1 h2 _ => by rw [← hWb]; exact (World.putObj_heap_other (by omega)).trans (hbg.block i h2)⟩
      rw [hWb]
      refine wpIn_mono (hbody _ k W Wb (hI k _ _ (hI k _ _ hi (hbg.mono (by omega)) (CellsSame.below hbg)) hbb hcs0) hkN (by omega) (by rw [hWg]; exact hcs0) (by rw [hWg]; exact hWz.symm)) ?_
      have fin : ∀ (jump : Option Code) (W3 : World), KeepT T w.heap.size Wb W3 →
          (Instr.endRound (w.heap.size + 1) jump).run P W3 = .ok (.bool jump.isNone) (W3.putObj (w.heap.size + 1) (.loop (rec (if jump.isNone then .ready else .done) jump))) ∧
          Below w.heap.size W3 (W3.putObj (w.heap.size + 1) (.loop (rec (if jump.isNone then .ready else .done) jump))) ∧
          (W3.putObj (w.heap.size + 1) (.loop (rec (if jump.isNone then .ready else .done) jump))).heap[w.heap.size + 1]? = some (.loop (rec (if jump.isNone then .ready else .done) jump)) ∧
          (W3.putObj (w.heap.size + 1) (.loop (rec (if jump.isNone then .ready else .done) jump))).heap[w.heap.size]? = some (.deferred (some [])) ∧
          KeepT T W1.heap.size W (W3.putObj (w.heap.size + 1) (.loop (rec (if jump.isNone then .ready else .done) jump))) ∧ CellsSame W3 (W3.putObj (w.heap.size + 1) (.loop (rec (if jump.isNone then .ready else .done) jump))) := fun jump W3 hk3 => by
        have hl3 := (hk3.same _ (by omega) (by omega) (fun cs fr h => by rw [hl2] at h; cases h)).trans hl2
        have := run_endRound (P := P) jump hl3
        rw [hrec] at this ⊢
        refine ⟨this, below_putObj (by omega) _, World.putObj_heap_same (Array.getElem?_eq_some_iff.1 hl3).1, (World.putObj_heap_other (by omega)).trans ((hk3.same _ (by omega) (by omega) (fun cs fr h => by rw [hk2] at h; cases h)).trans hk2), ?_, CellsSame.putObj hl3 _⟩
        refine hkt.trans ((hk3.mono (by omega)).trans ⟨by simp, fun i h1 _ _ => World.putObj_heap_other (by omega)⟩)
      rintro e a3 W3 hp
      cases e with
      | normal =>
        obtain ⟨hk3, hi3⟩ := hp
        obtain ⟨hr, hb3, hl4, hk4, ht, hcs⟩ := fin none W3 hk3
        exact ⟨_, _, hr, .inl ⟨rfl, ⟨hI _ _ _ hi3 hb3 hcs, hl4, hk4⟩, ht⟩⟩
      | ret =>
        obtain ⟨hk3, hi3⟩ := hp
        obtain ⟨hr, hb3, hl4, hk4, ht, hcs⟩ := fin (some .ret) W3 hk3
        exact ⟨_, _, hr, .inr ⟨rfl, .ret, hIx _ _ _ hi3 hb3 hcs, hl4, hk4⟩⟩
      | exit id =>
        obtain ⟨hk3, hi3⟩ := hp
        obtain ⟨hr, hb3, hl4, hk4, ht, hcs⟩ := fin (some (.exit id)) W3 hk3
        exact ⟨_, _, hr, .inr ⟨rfl, .exit id, hIx _ _ _ hi3 hb3 hcs, hl4, hk4⟩⟩
      | goto t =>
        obtain ⟨hk3, hi3⟩ := hp
        obtain ⟨hr, hb3, hl4, hk4, ht, hcs⟩ := fin (some (.goto t)) W3 hk3
        exact ⟨_, _, hr, .inr ⟨rfl, .goto t, hIx _ _ _ hi3 hb3 hcs, hl4, hk4⟩⟩
      | panic ch => exact hp.elim
      | outgrown => exact hp.elim
    · rintro e W2 ⟨⟨v, rfl⟩, (⟨hi, hl, hk⟩ | ⟨c, hi, hl, hk⟩)⟩
      · exact ⟨none, _, by have := run_endLoop (P := P) hl (by rw [hrec]; simp); rw [hrec] at this; exact this, hdone _ (hI _ _ _ hi (below_putObj (by omega) _) (CellsSame.putObj hl _)) ((World.putObj_heap_other (by omega)).trans hk)⟩
      · exact ⟨some c, _, by have := run_endLoop (P := P) hl (by rw [hrec]; simp); rw [hrec] at this; exact this, hstop c _ (hIx _ _ _ hi (below_putObj (by omega) _) (CellsSame.putObj hl _)) ((World.putObj_heap_other (by omega)).trans hk)⟩
end
theorem callsIn_rw {l m : Nat} {P : Program} {f : FuncId} {args : Array Value} {w : World} {R : Ending → World → Prop} (h : Calls P f args w R) : CallsIn (Fence.wide.inRound l) m P f args w R := callsIn_wide (n := m).2 h
end Go.Proofs.YtkoiknmijjiicaaGreatDoor

/- Chapter 4: Filtered's closure: the sum of a window. -/
namespace Go.Proofs.YtkoiknmijjiicaaGreatDoor
set_option linter.unusedVariables false
set_option linter.unusedSimpArgs false
open Go.RowKit
set_option maxHeartbeats 1000000 in
theorem fPlus (x y u v : Int) (w : World) (h1 : -1000000000000000 ≤ x ∧ x ≤ 1000000000000000) (h2 : -1000000000000000 ≤ y ∧ y ≤ 1000000000000000) (h3 : -1000000000000000 ≤ u ∧ u ≤ 1000000000000000) (h4 : -1000000000000000 ≤ v ∧ v ≤ 1000000000000000) :
    Calls Tryz.prog 42 #[.agg #[.int .i64 x, .int .i64 y], .agg #[.int .i64 u, .int .i64 v]] w fun e w' => e = .returned (.agg #[.int .i64 (x + u), .int .i64 (y + v)]) ∧ Below w.heap.size w w' := by
  obtain ⟨a1, a2⟩ := h1
  obtain ⟨a3, a4⟩ := h2
  obtain ⟨a5, a6⟩ := h3
  obtain ⟨a7, a8⟩ := h4
  go_enter Tryz.func42, Tryz.ntmps42
  go_wp2
  refine bodyPost_ret ?_ rfl ⟨rfl, (by (repeat' (first | with_reducible exact Below.refl _ _ | (with_reducible refine below_later_of ?_ ?_ _) | (with_reducible refine Below.alloc ?_ ?_ _) | (with_reducible refine Below.setCell ?_ ?_ _) | (with_reducible refine Below.drew ?_) | (simp; done) | (simp; omega) | omega)))⟩
  first | (simp [results, Tryz.results42, go_sem]; done) | simp [results, Tryz.results42, go_sem, ↓IntWalk.iteOmega]
theorem cell_same {W W' : World} (h : CellsSame W W') {p : Addr} {v : Value} (hc : W.cell? p = some v) : W'.cell? p = some v := by
  unfold World.cell? at hc ⊢
  cases hk : W.heap[p.block]? with
  | none => rw [hk] at hc; cases hc
  | some o =>
    rw [hk] at hc
    cases o with
    | cells c T fr => rw [h _ _ _ _ hk]; exact hc
    | _ => cases hc
/-- The sum of a window, pair by pair. -/
def psW (G : Nat → Int) (S l0 s0 sc k : Nat) : Int := sumN (fun j => G (winI S l0 s0 sc j)) 0 k
theorem psW_rows (G : Nat → Int) (S l0 s0 sc : Nat) : ∀ m, psW G S l0 s0 sc (m * sc) = winW G S s0 sc l0 m
  | 0 => by rw [Nat.zero_mul]; rfl
  | m + 1 => by
    have h := psW_rows G S l0 s0 sc m
    unfold psW at h ⊢
    rw [Nat.add_mul, Nat.one_mul, sumN_add, h, winW_succ, Nat.zero_add]
    congr 1
    exact sumN_shift fun j hj => by rw [winI_at hj]
theorem psW_bd {G : Nat → Int} {n : Nat} {B : Int} (hG : ∀ i, i < n → -B ≤ G i ∧ G i ≤ B) {S l0 s0 sc k : Nat} (hk : ∀ j, j < k → winI S l0 s0 sc j < n) : -(k * B) ≤ psW G S l0 s0 sc k ∧ psW G S l0 s0 sc k ≤ k * B :=
  sumN_bd fun j hj => hG _ (by rw [Nat.zero_add]; exact hk j hj)
theorem winI_lt {L S l0 s0 lc sc k : Nat} (h1 : l0 + lc ≤ L) (h2 : s0 + sc ≤ S) (hk : k < lc * sc) : winI S l0 s0 sc k < L * S := by
  have hsc : 0 < sc := Nat.pos_of_ne_zero (by rintro rfl; simp at hk)
  have hd : k / sc < lc := (Nat.div_lt_iff_lt_mul hsc).2 hk
  have hm := Nat.mod_lt k hsc
  unfold winI
  have h3 : (l0 + k / sc + 1) * S ≤ L * S := Nat.mul_le_mul_right _ (by omega)
  rw [Nat.add_mul, Nat.one_mul] at h3
  omega
/-- What a round of Filtered's closure meets. -/
structure FiSt (w w5 : World) (B L S g n cap l s half : Nat) (F : Nat → Int × Int) (a b : Int) (W : World) : Prop where
  aro : AroS B L S g n cap l s half F W
  r0 : W.cell? ⟨w.heap.size, 0, none⟩ = some (.int .i64 a)
  r1 : W.cell? ⟨w.heap.size, 1, none⟩ = some (.int .i64 b)
  f0 : W.frozen? ⟨w.heap.size, 0, none⟩ = false
  f1 : W.frozen? ⟨w.heap.size, 1, none⟩ = false
  bel : Below w.heap.size w W
  sz : w5.heap.size ≤ W.heap.size
theorem FiSt.below {w w5 W W' : World} {B L S g n cap l s half : Nat} {F : Nat → Int × Int} {a b : Int} (h : FiSt w w5 B L S g n cap l s half F a b W) (hR : w.heap.size < w5.heap.size) (hB : B + 3 < w5.heap.size) (hg : g < w5.heap.size) (hb : Below w5.heap.size W W') : FiSt w w5 B L S g n cap l s half F a b W' := by
  obtain ⟨⟨h1, h2, h3, h4⟩, r0, r1, f0, f1, bel, sz⟩ := h
  have hs := hb.size
  exact ⟨⟨h1.below hb hB, fun k hk => by
    obtain ⟨q1, q2⟩ := h2 k hk
    exact ⟨(hb.cell (p := ⟨g, k * 2, none⟩) hg).trans q1, (hb.cell (p := ⟨g, k * 2 + 1, none⟩) hg).trans q2⟩, by omega, by omega⟩,
    (hb.cell (p := ⟨w.heap.size, 0, none⟩) hR).trans r0, (hb.cell (p := ⟨w.heap.size, 1, none⟩) hR).trans r1, (hb.frozen (p := ⟨w.heap.size, 0, none⟩) hR).trans f0, (hb.frozen (p := ⟨w.heap.size, 1, none⟩) hR).trans f1, bel.trans (hb.mono (by omega)), by omega⟩
theorem FiSt.put {w w5 W : World} {B L S g n cap l s half : Nat} {F : Nat → Int × Int} {a b : Int} (h : FiSt w w5 B L S g n cap l s half F a b W) (hR : w.heap.size < B) (hg : g < w.heap.size) (a' b' : Int) : FiSt w w5 B L S g n cap l s half F a' b' ((W.setCell ⟨w.heap.size, 0, none⟩ (.int .i64 a')).setCell ⟨w.heap.size, 1, none⟩ (.int .i64 b')) := by
  obtain ⟨⟨⟨c0, c1, c2, cl, cs, ch⟩, h2, h3, h4⟩, r0, r1, f0, f1, bel, sz⟩ := h
  have hne : ∀ (x i j : Nat), x ≠ w.heap.size → (⟨w.heap.size, j, none⟩ : Addr) ≠ ⟨x, i, none⟩ := fun x i j hx e => hx (congrArg Addr.block e).symm
  have q : ∀ x i, x ≠ w.heap.size → ((W.setCell ⟨w.heap.size, 0, none⟩ (.int .i64 a')).setCell ⟨w.heap.size, 1, none⟩ (.int .i64 b')).cell? ⟨x, i, none⟩ = W.cell? ⟨x, i, none⟩ := fun x i hx => by
    rw [World.cell?_setCell_other _ _ _ _ (hne x i 1 hx), World.cell?_setCell_other _ _ _ _ (hne x i 0 hx)]
  refine ⟨⟨⟨?_, ?_, ?_, ?_, ?_, ?_⟩, fun k hk => ?_, by simpa using h3, by simpa using h4⟩, by simp [go_sem, r0], by simp [go_sem, r1], by simp [go_sem, f0], by simp [go_sem, f1], ?_, by simpa using sz⟩
  · rw [q _ _ (by omega)]; exact c0
  · rw [q _ _ (by omega)]; exact c1
  · rw [q _ _ (by omega)]; exact c2
  · rw [q _ _ (by omega)]; exact cl
  · rw [q _ _ (by omega)]; exact cs
  · rw [q _ _ (by omega)]; exact ch
  · rw [q _ _ (by omega), q _ _ (by omega)]; exact h2 k hk
  · exact (bel.setCell (p := ⟨w.heap.size, 0, none⟩) (Nat.le_refl _) _).setCell (p := ⟨w.heap.size, 1, none⟩) (Nat.le_refl _) _
end Go.Proofs.YtkoiknmijjiicaaGreatDoor

/- Chapter 4: numbers of a field; Filtered. -/
namespace Go.Proofs.YtkoiknmijjiicaaGreatDoor
set_option linter.unusedVariables false
set_option linter.unusedSimpArgs false
open Go.RowKit Ieee Ntt
def winE (half : Int) : Int := if inE 0 4 half then 0 else 2
set_option maxHeartbeats 400000 in
theorem fWindowErr (half : Int) (w : World) {e0 : Int} (he : winE half = e0) : Calls Tryz.prog 36 #[.int .i64 half] w fun e w' => e = .returned (.int .i64 e0) ∧ w = w' := by
  subst he
  unfold winE
  rcases (show inE 0 4 half = false ∨ inE 0 4 half = true by cases inE 0 4 half <;> simp) with hw | hw
  · rw [hw, if_neg (by decide)]
    have HW := Lib.hid hw
    clear hw
    go_enter Tryz.func36, Tryz.ntmps36
    go_wp2_with (first | (go_at_call 64; (with_reducible refine (fWithin _ _ _ _ HW.out).mono ?_); rintro e w' ⟨rfl, rfl⟩))
    go_ret
    exact ⟨rfl, rfl⟩
  · rw [hw, if_pos rfl]
    have HW := Lib.hid hw
    clear hw
    go_enter Tryz.func36, Tryz.ntmps36
    go_wp2_with (first | (go_at_call 64; (with_reducible refine (fWithin _ _ _ _ HW.out).mono ?_); rintro e w' ⟨rfl, rfl⟩))
    go_ret
    exact ⟨rfl, rfl⟩
/-- The sums of windows. -/
def filF (X Y : Nat → Int) (L S half i : Nat) : Int × Int := (winP X L S half (i / S) (i % S), winP Y L S half (i / S) (i % S))
theorem field_large {L S n : Nat} {F : Nat → Int × Int} (h0 : 0 < n) (hn : n ≤ 5000) (hc : anyL n F = true) (W : World) (a : Option Addr) (c : Nat) {B : Nat} {Wa : World} (h1 : OwnPr B Wa n F a) (b1 : Below Wa.heap.size Wa W) :
    Calls Tryz.prog 79 #[.agg #[.int .i64 L, .int .i64 S, .slice a n c]] W fun e w' => e = .returned (.tuple #[.agg #[.int .i64 0, .int .i64 0, .slice none 0 0], .int .i64 8]) ∧ Below W.heap.size W w' := by
  obtain ⟨g1, rfl, hg1, hp1⟩ := ownPr_at h1 h0 b1
  exact fieldOf_large L S n c g1 F W (by omega) hg1 hp1 hc
/-- The error of Filtered ahead of its sums. -/
def filE (L S : Int) (n : Nat) (f : Nat → Nat × Nat) (half : Int) : Int := first2 (fldE L S n f).2 (winE half)
theorem alloc_cell5 {W : World} {cs : Array Value} {T : TypeId} {B j : Nat} {v : Value} (h : B = W.heap.size) (hv : cs[j]? = some v) : (W.alloc (.cells cs T)).cell? ⟨B, j, none⟩ = some v := by
  subst h
  rw [World.cell?_alloc_new]
  exact hv
end Go.Proofs.YtkoiknmijjiicaaGreatDoor
