import Derived.Test.YtkoiknmijjiicaaGreatDoorProg
import Derived.Test.YtkoiknmijjiicaaGreatDoorZL
import Derived.Test.YtkoiknmijjiicaaGreatDoorZU
import Derived.WalkKit
import Derived.Lib.Hide
import Derived.Below
import Derived.Maps.AppendAt
import Derived.Deep.AppendLies
import Derived.Deep.CutRange
import Derived.RegionTactic
import Derived.ChangeAlike
import Derived.BigRegion
import Derived.Deep.RegionHeld3
/- Chapter 1: powers modulo the prime, the roots, the inverses. -/
namespace Go.Proofs.YtkoiknmijjiicaaGreatDoor
set_option linter.unusedVariables false
set_option linter.unusedSimpArgs false
open Go.RowKit Ntt
theorem ret_intE {k : IntKind} {a b : Int} (h : a = b) : Ending.returned (.int k a) = .returned (.int k b) := by rw [h]
theorem pp_mul {a b : Int} (h1 : 0 ≤ a) (h2 : a < 998244353) (k1 : 0 ≤ b) (k2 : b < 998244353) : 0 ≤ a * b ∧ a * b ≤ 996491788296388609 := by
  refine ⟨Int.mul_nonneg h1 k1, ?_⟩
  have := Int.mul_le_mul (show a ≤ 998244353 by omega) (show b ≤ 998244353 by omega) k1 (by decide)
  omega
theorem powF_zero (f : Nat) (a out : Int) : powF f a 0 out = out := by cases f <;> simp [powF]
end Go.Proofs.YtkoiknmijjiicaaGreatDoor

/- Chapter 1: lists that are transformed: their errors. -/
namespace Go.Proofs.YtkoiknmijjiicaaGreatDoor
set_option linter.unusedVariables false
set_option linter.unusedSimpArgs false
open Go.RowKit Ntt
/-- How many bits are 1, as Go's library finds it. -/
def onesE (n : Int) : Int :=
  let a := IntKind.u64.wrap (bits .and .u64 (n / 2) 6148914691236517205 + bits .and .u64 n 6148914691236517205)
  let b := IntKind.u64.wrap (bits .and .u64 (a / 4) 3689348814741910323 + bits .and .u64 a 3689348814741910323)
  let c := bits .and .u64 (IntKind.u64.wrap (b / 16 + b)) 1085102592571150095
  let d := IntKind.u64.wrap (c + c / 256)
  let e := IntKind.u64.wrap (d + d / 65536)
  let f := IntKind.u64.wrap (e + e / 4294967296)
  bits .and .i64 (wrap64 f) 127
theorem ones_one : ∀ n : Nat, n < 129 → (onesE n = 1 ↔ n ∈ [1, 2, 4, 8, 16, 32, 64, 128]) := by decide +kernel
/-- So many numbers may be transformed. -/
def twoB (n : Nat) : Bool := n ∈ [1, 2, 4, 8, 16, 32, 64, 128]
theorem ones_two {n : Nat} (hn : n ≤ 128) : (onesE n != 1) = !twoB n := by
  have := ones_one n (by omega)
  unfold twoB
  by_cases h : onesE n = 1
  · simp [h, this.1 h]
  · have h2 : ¬ n ∈ [1, 2, 4, 8, 16, 32, 64, 128] := fun h2 => h (this.2 h2)
    simp only [bne, beq_eq_false_iff_ne.2 h, decide_eq_false h2]
def inE (lo hi n : Int) : Bool := decide (lo ≤ n) && decide (n ≤ hi)
theorem within_e (n lo hi : Int) (w : World) {c : Bool} (hc : inE lo hi n = c) :
    Calls Tryz.prog 160 #[.int .i64 n, .int .i64 lo, .int .i64 hi] w fun e w' => e = .returned (.bool c) ∧ w = w' := by
  subst hc
  unfold inE
  go_enter Tryz.func160, Tryz.ntmps160
  by_cases h1 : lo ≤ n
  · go_wp2
    go_ret
    exact ⟨by simp [h1], rfl⟩
  · have hd : decide (lo ≤ n) = false := by simpa using h1
    go_wp2
    go_ret
    exact ⟨by simp, rfl⟩
end Go.Proofs.YtkoiknmijjiicaaGreatDoor

/- Chapter 1: lists of integers; the errors of those that are transformed. -/
namespace Go.Proofs.YtkoiknmijjiicaaGreatDoor
set_option linter.unusedVariables false
set_option linter.unusedSimpArgs false
open Go.RowKit Ntt
def intAt (zs : List Int) (k : Nat) : Int := zs[k]?.getD 0
/-- The value is a slice of these integers. -/
def IntsV (w : World) (v : Value) (zs : List Int) : Prop :=
  zs.length ≤ 1000000000 ∧ ∃ a cap, v = .slice a zs.length cap ∧ (0 < zs.length → ∃ b off, a = some ⟨b, off, none⟩ ∧ b < w.heap.size ∧ ∀ k, k < zs.length → w.cell? ⟨b, off + k, none⟩ = some (.int .i64 (intAt zs k)))
theorem IntsV.below {w w' : World} {v : Value} {zs : List Int} (h : IntsV w v zs) (hw : Below w.heap.size w w') : IntsV w' v zs := by
  obtain ⟨h1, a, cap, h3, h4⟩ := h
  refine ⟨h1, a, cap, h3, fun hp => ?_⟩
  obtain ⟨b, off, h5, h6, h7⟩ := h4 hp
  exact ⟨b, off, h5, Nat.lt_of_lt_of_le h6 hw.size, fun k hk => (hw.cell (p := ⟨b, off + k, none⟩) h6).trans (h7 k hk)⟩
theorem intsV_own {w : World} {base n cap g : Nat} {zs : List Int} (h : w.ownsRow base 3 1 (.slice (some ⟨g, 0, none⟩) n cap) n (zs.map (.int .i64))) (hm : n ≤ 1000000000) : IntsV w (.slice (some ⟨g, 0, none⟩) n cap) zs := by
  have hl : zs.length = n := by have := h.1; simpa using this
  subst hl
  refine ⟨hm, _, _, rfl, fun hp => ⟨g, 0, rfl, (h.lt g rfl).2, fun k hk => ?_⟩⟩
  rw [Nat.zero_add, h.cellAt k (by omega)]
  unfold intAt
  simp [hk]
theorem intAt_ext {xs ys : List Int} (hl : xs.length = ys.length) (h : ∀ k, k < xs.length → intAt xs k = intAt ys k) : xs = ys := by
  apply List.ext_getElem hl
  intro k h1 h2
  have := h k h1
  unfold intAt at this
  simpa [h1, h2] using this
/-- The error of a list that is transformed. -/
def listE (zs : List Int) : Int := if twoB zs.length then (if zs.all (inE 0 998244352) then 0 else 2) else 10
theorem intAt_all {zs : List Int} {f : Int → Bool} : zs.all f = true ↔ ∀ k, k < zs.length → f (intAt zs k) = true := by
  rw [List.all_eq_true]
  constructor
  · intro h k hk
    unfold intAt
    rw [List.getElem?_eq_getElem hk]
    exact h _ (List.getElem_mem hk)
  · intro h z hz
    obtain ⟨k, hk, rfl⟩ := List.getElem_of_mem hz
    have := h k hk
    unfold intAt at this
    rwa [List.getElem?_eq_getElem hk] at this
end Go.Proofs.YtkoiknmijjiicaaGreatDoor

/- Chapter 1: the transform, by halves. -/
namespace Go.Proofs.YtkoiknmijjiicaaGreatDoor
set_option linter.unusedVariables false
set_option linter.unusedSimpArgs false
open Go.RowKit Ntt
theorem info3 : (Tryz.prog.info? 3).map (fun i => (i.zero, i.size, i.bytes)) = some (some (.int .i64 0), 1, 8) := by kernel_rfl
/-- Every second number, from p on. -/
def hv (a : Nat → Int) (p n : Nat) : List Value := (List.range n).map fun i => .int .i64 (a (2 * i + p))
theorem hv_succ (a : Nat → Int) (p n : Nat) : hv a p (n + 1) = hv a p n ++ [.int .i64 (a (2 * n + p))] := by unfold hv; rw [List.range_succ, List.map_append]; rfl
def Apart (u v : Value) : Prop := ∀ g, u.ownBlock = some g → v.ownBlock ≠ some g
theorem Apart.symm {u v : Value} (h : Apart u v) : Apart v u := fun g h1 h2 => h g h2 h1
theorem Apart.or {u v : Value} (h : Apart u v) : u.ownBlock = none ∨ u.ownBlock ≠ v.ownBlock := by
  cases hu : u.ownBlock with
  | none => exact Or.inl rfl
  | some g => exact Or.inr fun e => h g hu e.symm
/-- The two halves, as they lie in the array B, k numbers having come. -/
structure Halves (w : World) (B k : Nat) (a : Nat → Int) (v0 v1 : Value) (wr : World) : Prop where
  c0 : wr.cell? ⟨B, 0, none⟩ = some v0
  c1 : wr.cell? ⟨B, 1, none⟩ = some v1
  f0 : wr.frozen? ⟨B, 0, none⟩ = false
  f1 : wr.frozen? ⟨B, 1, none⟩ = false
  o0 : wr.ownsRow (B + 1) 3 1 v0 ((k + 1) / 2) (hv a 0 ((k + 1) / 2))
  o1 : wr.ownsRow (B + 1) 3 1 v1 (k / 2) (hv a 1 (k / 2))
  ap : Apart v0 v1
  bel : Below B w wr
  lt : B < wr.heap.size
theorem row_slice {w : World} {base : Nat} {e : TypeId} {size n : Nat} {v : Value} {xs : List Value} (h : w.ownsRow base e size v n xs) (hn : 0 < n) : ∃ g cap, v = .slice (some ⟨g, 0, none⟩) n cap := by
  obtain ⟨-, ⟨-, rfl⟩ | ⟨g, cap, cur, rfl, -⟩⟩ := h
  · omega
  · exact ⟨g, cap, rfl⟩
theorem wp_worldU {P : Program} {c : Code} {Q : Exit → Act → World → Prop} {a : Act} {w : World} (F : World → Prop) (hf : F w) (h : ∀ W, F W → Code.wp P c Q a W) : Code.wp P c Q a w := h w hf
theorem Halves.still {w wr w1 : World} {B k : Nat} {a : Nat → Int} {v0 v1 : Value} {o : Obj} {row : Option Nat} (h : Halves w B k a v0 v1 wr) (hg : (wr.alloc o).grownBy w1 row) (hr : ∀ g, row = some g → B + 1 ≤ g) :
    w1.cell? ⟨B, 0, none⟩ = some v0 ∧ w1.cell? ⟨B, 1, none⟩ = some v1 ∧ w1.frozen? ⟨B, 0, none⟩ = false ∧ w1.frozen? ⟨B, 1, none⟩ = false := by
  have hlt := h.lt
  have hb1 : Below (B + 1) wr w1 := (((Below.refl (B + 1) wr).alloc (by omega) o)).grown hg (by simp; omega) hr
  exact ⟨(hb1.cell (p := ⟨B, 0, none⟩) (Nat.lt_succ_self B)).trans h.c0, (hb1.cell (p := ⟨B, 1, none⟩) (Nat.lt_succ_self B)).trans h.c1, (hb1.frozen (p := ⟨B, 0, none⟩) (Nat.lt_succ_self B)).trans h.f0, (hb1.frozen (p := ⟨B, 1, none⟩) (Nat.lt_succ_self B)).trans h.f1⟩
theorem Halves.put0 {w wr w1 : World} {B k : Nat} {a : Nat → Int} {v0 v1 v' : Value} {o : Obj} (h : Halves w B k a v0 v1 wr) (hk : k % 2 = 0)
    (ho : w1.ownsRow (B + 1) 3 1 v' ((k + 1) / 2 + 1) (hv a 0 ((k + 1) / 2) ++ [.int .i64 (a k)])) (hg : (wr.alloc o).grownBy w1 v0.ownBlock)
    (hloc : v'.ownBlock = v0.ownBlock ∨ v'.ownBlock = some (wr.heap.size + 1)) : Halves w B (k + 1) a v' v1 (w1.setCell ⟨B, 0, none⟩ v') := by
  have hlt := h.lt
  have hb1 : Below (B + 1) wr w1 := (((Below.refl (B + 1) wr).alloc (by omega) o)).grown hg (by simp; omega) (fun g hg => (h.o0.lt g hg).1)
  have c0 := (hb1.cell (p := ⟨B, 0, none⟩) (Nat.lt_succ_self B)).trans h.c0
  have c1 := (hb1.cell (p := ⟨B, 1, none⟩) (Nat.lt_succ_self B)).trans h.c1
  have f0 := (hb1.frozen (p := ⟨B, 0, none⟩) (Nat.lt_succ_self B)).trans h.f0
  have f1 := (hb1.frozen (p := ⟨B, 1, none⟩) (Nat.lt_succ_self B)).trans h.f1
  have hsz := hb1.size
  refine ⟨by simp [go_sem, c0], by simp [go_sem, c1], by simp [go_sem, f0], by simp [go_sem, f1], ?_, ?_, ?_, ?_, by simp; omega⟩
  · have e : (k + 1 + 1) / 2 = (k + 1) / 2 + 1 := by omega
    rw [e, hv_succ, show 2 * ((k + 1) / 2) + 0 = k by omega]
    exact ownsRow_setCell_below ho (Nat.lt_succ_self B) _
  · rw [show (k + 1) / 2 = k / 2 by omega]
    exact ownsRow_setCell_below ((h.o1.alloc o).kept hg h.ap.symm.or) (Nat.lt_succ_self B) _
  · intro g h1 h2
    rcases hloc with e | e
    · exact h.ap g (e ▸ h1) h2
    · rw [h1] at e
      have h3 := (h.o1.lt g h2).2
      have h4 := Option.some.inj e
      omega
  · exact (h.bel.trans (hb1.mono (Nat.le_succ B))).setCell (p := ⟨B, 0, none⟩) (Nat.le_refl _) _
theorem Halves.put1 {w wr w1 : World} {B k : Nat} {a : Nat → Int} {v0 v1 v' : Value} {o : Obj} (h : Halves w B k a v0 v1 wr) (hk : k % 2 = 1)
    (ho : w1.ownsRow (B + 1) 3 1 v' (k / 2 + 1) (hv a 1 (k / 2) ++ [.int .i64 (a k)])) (hg : (wr.alloc o).grownBy w1 v1.ownBlock)
    (hloc : v'.ownBlock = v1.ownBlock ∨ v'.ownBlock = some (wr.heap.size + 1)) : Halves w B (k + 1) a v0 v' (w1.setCell ⟨B, 1, none⟩ v') := by
  have hlt := h.lt
  have hb1 : Below (B + 1) wr w1 := (((Below.refl (B + 1) wr).alloc (by omega) o)).grown hg (by simp; omega) (fun g hg => (h.o1.lt g hg).1)
  have c0 := (hb1.cell (p := ⟨B, 0, none⟩) (Nat.lt_succ_self B)).trans h.c0
  have c1 := (hb1.cell (p := ⟨B, 1, none⟩) (Nat.lt_succ_self B)).trans h.c1
  have f0 := (hb1.frozen (p := ⟨B, 0, none⟩) (Nat.lt_succ_self B)).trans h.f0
  have f1 := (hb1.frozen (p := ⟨B, 1, none⟩) (Nat.lt_succ_self B)).trans h.f1
  have hsz := hb1.size
  refine ⟨by simp [go_sem, c0], by simp [go_sem, c1], by simp [go_sem, f0], by simp [go_sem, f1], ?_, ?_, ?_, ?_, by simp; omega⟩
  · rw [show (k + 1 + 1) / 2 = (k + 1) / 2 by omega]
    exact ownsRow_setCell_below ((h.o0.alloc o).kept hg h.ap.or) (Nat.lt_succ_self B) _
  · have e : (k + 1) / 2 = k / 2 + 1 := by omega
    rw [e, hv_succ, show 2 * (k / 2) + 1 = k by omega]
    exact ownsRow_setCell_below ho (Nat.lt_succ_self B) _
  · intro g h1 h2
    rcases hloc with e | e
    · exact h.ap g h1 (e ▸ h2)
    · rw [h2] at e
      have h3 := (h.o0.lt g h1).2
      have h4 := Option.some.inj e
      omega
  · exact (h.bel.trans (hb1.mono (Nat.le_succ B))).setCell (p := ⟨B, 1, none⟩) (Nat.le_refl _) _
/-- Block g holds the first n numbers of f. -/
def IntsAtF (W : World) (g n : Nat) (f : Nat → Int) : Prop := g < W.heap.size ∧ ∀ k, k < n → W.cell? ⟨g, k, none⟩ = some (.int .i64 (f k))
theorem IntsAtF.below {W W' : World} {g n : Nat} {f : Nat → Int} (h : IntsAtF W g n f) (hb : Below W.heap.size W W') : IntsAtF W' g n f :=
  ⟨Nat.lt_of_lt_of_le h.1 hb.size, fun k hk => (hb.cell (p := ⟨g, k, none⟩) h.1).trans (h.2 k hk)⟩
def TransPost (m : Nat) (a : Nat → Int) (r : Int) (w : World) (e : Ending) (w' : World) : Prop :=
  ∃ g c, e = .returned (.slice (some ⟨g, 0, none⟩) (2 ^ m) c) ∧ w.heap.size ≤ g ∧ IntsAtF w' g (2 ^ m) (fft PP m a r) ∧ (∀ k, k < 2 ^ m → w'.frozen? ⟨g, k, none⟩ = false) ∧ Below w.heap.size w w'
theorem fft_same {p : Int} : ∀ (m : Nat) {a b : Nat → Int} (r : Int) (k : Nat), (∀ i, i < 2 ^ m → a i = b i) → fft p m a r k = fft p m b r k
  | 0, a, b, r, k, h => h 0 (by decide)
  | m + 1, a, b, r, k, h => by
    unfold fft
    rw [fft_same m _ _ (fun i hi => h (2 * i) (by rw [Nat.pow_succ]; omega)), fft_same m _ _ (fun i hi => h (2 * i + 1) (by rw [Nat.pow_succ]; omega))]
def halfL (zs : List Int) (p n : Nat) : List Int := (List.range n).map fun i => intAt zs (2 * i + p)
theorem halfL_len (zs : List Int) (p n : Nat) : (halfL zs p n).length = n := by simp [halfL]
theorem halfL_at (zs : List Int) (p : Nat) {n k : Nat} (hk : k < n) : intAt (halfL zs p n) k = intAt zs (2 * k + p) := by
  unfold halfL
  conv => lhs; unfold intAt
  rw [List.getElem?_map, List.getElem?_range hk]
  rfl
theorem halfL_hv (zs : List Int) (p n : Nat) : (halfL zs p n).map (.int .i64) = hv (intAt zs) p n := by unfold halfL hv; rw [List.map_map]; rfl
end Go.Proofs.YtkoiknmijjiicaaGreatDoor

/- Chapter 1: the transform of twice as many numbers. -/
namespace Go.Proofs.YtkoiknmijjiicaaGreatDoor
set_option linter.unusedVariables false
set_option linter.unusedSimpArgs false
open Go.RowKit Ntt
/-- The first k numbers of the transform, zeros behind. -/
def outsL (p : Int) (m : Nat) (a : Nat → Int) (r : Int) (n k : Nat) : List Value := (List.range n).map fun j => .int .i64 (if j < k then fft p (m + 1) a r j else 0)
theorem outs_zero (p : Int) (m : Nat) (a : Nat → Int) (r : Int) (n : Nat) : outsL p m a r n 0 = List.replicate n (.int .i64 0) := by
  unfold outsL
  apply List.ext_getElem (by simp)
  intro i h1 h2
  simp
theorem outs_set (p : Int) (m : Nat) (a : Nat → Int) (r : Int) {n k : Nat} (hk : k < n) : (outsL p m a r n k).set k (.int .i64 (fft p (m + 1) a r k)) = outsL p m a r n (k + 1) := by
  unfold outsL
  apply List.ext_getElem (by simp)
  intro i h1 h2
  simp only [List.getElem_set, List.getElem_map, List.getElem_range]
  by_cases e : k = i
  · subst e; rw [if_pos rfl, if_pos (by omega)]
  · rw [if_neg e]
    by_cases c : i < k
    · rw [if_pos c, if_pos (by omega)]
    · rw [if_neg c, if_neg (by omega)]
theorem pwr_bd {r : Int} (k : Nat) : 0 ≤ pwr PP r k ∧ pwr PP r k < 998244353 := by
  cases k with
  | zero => exact ⟨by simp [pwr], by simp [pwr]⟩
  | succ k => exact ⟨Int.emod_nonneg _ (by decide), Int.emod_lt_of_pos _ (by decide)⟩
theorem fft_bd (m : Nat) {a : Nat → Int} (r : Int) (k : Nat) (h : ∀ i, i < 2 ^ m → 0 ≤ a i ∧ a i < 998244353) : 0 ≤ fft PP m a r k ∧ fft PP m a r k < 998244353 := by
  cases m with
  | zero => exact h 0 (by decide)
  | succ m => exact ⟨Int.emod_nonneg _ (by decide), Int.emod_lt_of_pos _ (by decide)⟩
theorem IntsAtF.drew {W : World} {g n : Nat} {f : Nat → Int} (h : IntsAtF W g n f) : IntsAtF W.drew g n f := h
theorem IntsAtF.set {W : World} {g n B k : Nat} {f : Nat → Int} {v : Value} (h : IntsAtF W g n f) (hne : g ≠ B) : IntsAtF (W.setCell ⟨B, k, none⟩ v) g n f :=
  ⟨by simpa using h.1, fun i hi => by
    rw [World.cell?_setCell_other _ _ _ _ (by intro e2; simp at e2 <;> omega)]
    exact h.2 i hi⟩
end Go.Proofs.YtkoiknmijjiicaaGreatDoor

/- Chapter 1: the list with a transform (back), Transform. -/
namespace Go.Proofs.YtkoiknmijjiicaaGreatDoor
set_option linter.unusedVariables false
set_option linter.unusedSimpArgs false
open Go.RowKit Ntt
/-- Block g holds the first n numbers of f, and may be written. -/
def OwnF (W : World) (g n : Nat) (f : Nat → Int) : Prop := IntsAtF W g n f ∧ ∀ k, k < n → W.frozen? ⟨g, k, none⟩ = false
theorem OwnF.set {W : World} {g n k : Nat} {f h : Nat → Int} {z : Int} (o : OwnF W g n f) (hk : k < n) (hh : ∀ j, j < n → h j = if j = k then z else f j) : OwnF (W.setCell ⟨g, k, none⟩ (.int .i64 z)) g n h := by
  obtain ⟨⟨h1, h2⟩, h3⟩ := o
  refine ⟨⟨by simpa using h1, fun j hj => ?_⟩, fun j hj => ?_⟩
  · rw [hh j hj]
    by_cases e : j = k
    · subst e
      rw [if_pos rfl]
      exact World.cell?_setCell_same _ _ _ (h2 j hj)
    · rw [if_neg e, World.cell?_setCell_other _ _ _ _ (by intro e2; simp at e2 <;> omega)]
      exact h2 j hj
  · have := h3 j hj
    simpa [go_sem] using this
theorem OwnF.below {W W' : World} {g n : Nat} {f : Nat → Int} (h : OwnF W g n f) (hb : Below W.heap.size W W') : OwnF W' g n f :=
  ⟨h.1.below hb, fun k hk => (hb.frozen (p := ⟨g, k, none⟩) h.1.1).trans (h.2 k hk)⟩
theorem OwnF.drew {W : World} {g n : Nat} {f : Nat → Int} (h : OwnF W g n f) : OwnF W.drew g n f := by
  refine ⟨h.1.drew, fun k hk => ?_⟩
  have := h.2 k hk
  simpa [go_sem] using this
theorem OwnF.same {W : World} {g n : Nat} {f h : Nat → Int} (o : OwnF W g n f) (hh : ∀ j, j < n → f j = h j) : OwnF W g n h :=
  ⟨⟨o.1.1, fun k hk => by rw [← hh k hk]; exact o.1.2 k hk⟩, o.2⟩
/-- The list with a transform, as the program finds it. -/
def backP (n m : Nat) (a : Nat → Int) (k : Nat) : Int := fft PP m a (invM (rootM n)) k * invM n % PP
def OwnPost (n : Nat) (f : Nat → Int) (w : World) (e : Ending) (w' : World) : Prop :=
  ∃ g c, e = .returned (.slice (some ⟨g, 0, none⟩) n c) ∧ w.heap.size ≤ g ∧ OwnF w' g n f ∧ Below w.heap.size w w'
/-- A list that is transformed: its length is a power of 2. -/
theorem two_pow {n : Nat} (h : twoB n = true) : ∃ m, m ≤ 7 ∧ n = 2 ^ m := by
  unfold twoB at h
  simp at h
  rcases h with rfl | rfl | rfl | rfl | rfl | rfl | rfl | rfl
  · exact ⟨0, by decide, rfl⟩
  · exact ⟨1, by decide, rfl⟩
  · exact ⟨2, by decide, rfl⟩
  · exact ⟨3, by decide, rfl⟩
  · exact ⟨4, by decide, rfl⟩
  · exact ⟨5, by decide, rfl⟩
  · exact ⟨6, by decide, rfl⟩
  · exact ⟨7, by decide, rfl⟩
theorem listE_ok {zs : List Int} (h : listE zs = 0) : (∃ m, m ≤ 7 ∧ zs.length = 2 ^ m) ∧ ∀ k, k < zs.length → 0 ≤ intAt zs k ∧ intAt zs k < 998244353 := by
  unfold listE at h
  split at h
  · rename_i h2
    split at h
    · rename_i h3
      refine ⟨two_pow h2, fun k hk => ?_⟩
      have := intAt_all.1 h3 k hk
      unfold inE at this
      simp at this
      omega
    · exact absurd h (by decide)
  · exact absurd h (by decide)
end Go.Proofs.YtkoiknmijjiicaaGreatDoor

/- Chapter 1: the first error; Transform, Correlate. -/
namespace Go.Proofs.YtkoiknmijjiicaaGreatDoor
set_option linter.unusedVariables false
set_option linter.unusedSimpArgs false
open Go.RowKit Ntt
def first2 (a b : Int) : Int := if a = 0 then b else a
def OwnPost2 (n : Nat) (f : Nat → Int) (w : World) (e : Ending) (w' : World) : Prop :=
  ∃ g c, e = .returned (.tuple #[.slice (some ⟨g, 0, none⟩) n c, .int .i64 0]) ∧ w.heap.size ≤ g ∧ OwnF w' g n f ∧ Below w.heap.size w w'
end Go.Proofs.YtkoiknmijjiicaaGreatDoor

/- Chapter 1: Correlate. -/
namespace Go.Proofs.YtkoiknmijjiicaaGreatDoor
set_option linter.unusedVariables false
set_option linter.unusedSimpArgs false
open Go.RowKit Ntt
theorem intAt_map {n : Nat} (f : Nat → Int) {k : Nat} (hk : k < n) : intAt ((List.range n).map f) k = f k := by
  unfold intAt
  rw [List.getElem?_map, List.getElem?_range hk]
  rfl
theorem intsV_of {W : World} {g n c : Nat} {f : Nat → Int} (h : OwnF W g n f) (hn : n ≤ 1000000000) : IntsV W (.slice (some ⟨g, 0, none⟩) n c) ((List.range n).map f) := by
  have hl : ((List.range n).map f).length = n := by simp
  refine ⟨by omega, _, c, by rw [hl], fun _ => ⟨g, 0, rfl, h.1.1, fun k hk => ?_⟩⟩
  rw [hl] at hk
  rw [Nat.zero_add, intAt_map f hk]
  exact h.1.2 k hk
/-- The correlation, as the program finds it, is the correlation. -/
theorem corr_plain {m : Nat} (hm : m ≤ 7) {n : Nat} (hn : n = 2 ^ m) (a b z : Nat → Int) (hz : ∀ j, j < n → z j = fft PP m a (rootM n) j * fft PP m b (invM (rootM n)) j % PP) (s : Nat) :
    backP n m z s = corr n a b s % PP := by
  subst hn
  have R := roots m hm
  have S := R.swap
  have h1 : Cg PP (fft PP m z (invM (rootM (2 ^ m))) s) (dft (2 ^ m) (fun k => dft (2 ^ m) a (rootM (2 ^ m)) k * dft (2 ^ m) b (invM (rootM (2 ^ m))) k) (invM (rootM (2 ^ m))) s) :=
    (fft_cg m z s S.one).trans (dft_list (fun j hj => by
      rw [hz j hj]
      exact (Cg.emod _).trans ((fft_cg m a j R.one).mul (fft_cg m b j S.one))) _ _)
  have h2 := (h1.mul (Cg.refl (p := PP) (invM ((2 ^ m : Nat) : Int))))
  rw [Int.mul_comm (dft _ _ _ _)] at h2
  have h3 := h2.trans (corr_dft R (parts m hm) a b s)
  unfold backP
  exact h3.emod_eq
end Go.Proofs.YtkoiknmijjiicaaGreatDoor

/- Chapter 1: Correlate, of right lists. -/
namespace Go.Proofs.YtkoiknmijjiicaaGreatDoor
set_option linter.unusedVariables false
set_option linter.unusedSimpArgs false
open Go.RowKit Ntt
theorem OwnF.other {W : World} {g h n k : Nat} {f : Nat → Int} {z : Value} (o : OwnF W h n f) (hne : h ≠ g) : OwnF (W.setCell ⟨g, k, none⟩ z) h n f := by
  obtain ⟨⟨h1, h2⟩, h3⟩ := o
  refine ⟨⟨by simpa using h1, fun j hj => ?_⟩, fun j hj => ?_⟩
  · rw [World.cell?_setCell_other _ _ _ _ (by intro e2; simp at e2 <;> omega)]
    exact h2 j hj
  · have := h3 j hj
    simpa [go_sem] using this
theorem wp_worldV {P : Program} {c : Code} {Q : Exit → Act → World → Prop} {a : Act} {w : World} (F : World → Prop) (hf : F w) (h : ∀ W, F W → Code.wp P c Q a W) : Code.wp P c Q a w := h w hf
end Go.Proofs.YtkoiknmijjiicaaGreatDoor
