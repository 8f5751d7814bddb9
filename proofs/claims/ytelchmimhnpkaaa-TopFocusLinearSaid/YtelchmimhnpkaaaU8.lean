/- Chapter 1: the transform, by halves. -/
import Derived.Test.YtelchmimhnpkaaaU7
import Derived.Maps.AppendAt
import Derived.Deep.AppendLies
namespace Go.Proofs.Ytelchmimhnpkaaa
set_option linter.unusedVariables false
open Go.RowKit Ntt
theorem info3 : (Try.prog.info? 3).map (fun i => (i.zero, i.size, i.bytes)) = some (some (.int .i64 0), 1, 8) := by kernel_rfl
/-- Every second number, from p on. -/
def hv (a : Nat → Int) (p n : Nat) : List Value := (List.range n).map fun i => .int .i64 (a (2 * i + p))
theorem hv_succ (a : Nat → Int) (p n : Nat) : hv a p (n + 1) = hv a p n ++ [.int .i64 (a (2 * n + p))] := by unfold hv; rw [List.range_succ, List.map_append]; rfl
def Apart (u v : Value) : Prop := ∀ g, u.ownBlock = some g → v.ownBlock ≠ some g
theorem Apart.symm {u v : Value} (h : Apart u v) : Apart v u := fun g h1 h2 => h g h2 h1
theorem Apart.or {u v : Value} (h : Apart u v) : u.ownBlock = none ∨ u.ownBlock ≠ v.ownBlock := by
  cases hu : u.ownBlock with
  | none => exact Or.inl rfl
  | some g => exact Or.inr fun e => h g hu e.symm
/-- The two halves, as they lie in the array B, k numbers having come. -/
structure Halves (w : World) (B k : Nat) (a : Nat → Int) (v0 v1 : Value) (wr : World) : Prop where
  c0 : wr.cell? ⟨B, 0, none⟩ = some v0
  c1 : wr.cell? ⟨B, 1, none⟩ = some v1
  f0 : wr.frozen? ⟨B, 0, none⟩ = false
  f1 : wr.frozen? ⟨B, 1, none⟩ = false
  o0 : wr.ownsRow (B + 1) 3 1 v0 ((k + 1) / 2) (hv a 0 ((k + 1) / 2))
  o1 : wr.ownsRow (B + 1) 3 1 v1 (k / 2) (hv a 1 (k / 2))
  ap : Apart v0 v1
  bel : Below B w wr
  lt : B < wr.heap.size
theorem row_slice {w : World} {base : Nat} {e : TypeId} {size n : Nat} {v : Value} {xs : List Value} (h : w.ownsRow base e size v n xs) (hn : 0 < n) : ∃ g cap, v = .slice (some ⟨g, 0, none⟩) n cap := by
  obtain ⟨-, ⟨-, rfl⟩ | ⟨g, cap, cur, rfl, -⟩⟩ := h
  · omega
  · exact ⟨g, cap, rfl⟩
theorem wp_worldU {P : Program} {c : Code} {Q : Exit → Act → World → Prop} {a : Act} {w : World} (F : World → Prop) (hf : F w) (h : ∀ W, F W → Code.wp P c Q a W) : Code.wp P c Q a w := h w hf
theorem Halves.still {w wr w1 : World} {B k : Nat} {a : Nat → Int} {v0 v1 : Value} {o : Obj} {row : Option Nat} (h : Halves w B k a v0 v1 wr) (hg : (wr.alloc o).grownBy w1 row) (hr : ∀ g, row = some g → B + 1 ≤ g) :
    w1.cell? ⟨B, 0, none⟩ = some v0 ∧ w1.cell? ⟨B, 1, none⟩ = some v1 ∧ w1.frozen? ⟨B, 0, none⟩ = false ∧ w1.frozen? ⟨B, 1, none⟩ = false := by
  have hlt := h.lt
  have hb1 : Below (B + 1) wr w1 := (((Below.refl (B + 1) wr).alloc (by omega) o)).grown hg (by simp; omega) hr
  exact ⟨(hb1.cell (p := ⟨B, 0, none⟩) (Nat.lt_succ_self B)).trans h.c0, (hb1.cell (p := ⟨B, 1, none⟩) (Nat.lt_succ_self B)).trans h.c1, (hb1.frozen (p := ⟨B, 0, none⟩) (Nat.lt_succ_self B)).trans h.f0, (hb1.frozen (p := ⟨B, 1, none⟩) (Nat.lt_succ_self B)).trans h.f1⟩
theorem Halves.put0 {w wr w1 : World} {B k : Nat} {a : Nat → Int} {v0 v1 v' : Value} {o : Obj} (h : Halves w B k a v0 v1 wr) (hk : k % 2 = 0)
    (ho : w1.ownsRow (B + 1) 3 1 v' ((k + 1) / 2 + 1) (hv a 0 ((k + 1) / 2) ++ [.int .i64 (a k)])) (hg : (wr.alloc o).grownBy w1 v0.ownBlock)
    (hloc : v'.ownBlock = v0.ownBlock ∨ v'.ownBlock = some (wr.heap.size + 1)) : Halves w B (k + 1) a v' v1 (w1.setCell ⟨B, 0, none⟩ v') := by
  have hlt := h.lt
  have hb1 : Below (B + 1) wr w1 := (((Below.refl (B + 1) wr).alloc (by omega) o)).grown hg (by simp; omega) (fun g hg => (h.o0.lt g hg).1)
  have c0 := (hb1.cell (p := ⟨B, 0, none⟩) (Nat.lt_succ_self B)).trans h.c0
  have c1 := (hb1.cell (p := ⟨B, 1, none⟩) (Nat.lt_succ_self B)).trans h.c1
  have f0 := (hb1.frozen (p := ⟨B, 0, none⟩) (Nat.lt_succ_self B)).trans h.f0
  have f1 := (hb1.frozen (p := ⟨B, 1, none⟩) (Nat.lt_succ_self B)).trans h.f1
  have hsz := hb1.size
  refine ⟨by simp [go_sem, c0], by simp [go_sem, c1], by simp [go_sem, f0], by simp [go_sem, f1], ?_, ?_, ?_, ?_, by simp; omega⟩
  · have e : (k + 1 + 1) / 2 = (k + 1) / 2 + 1 := by omega
    rw [e, hv_succ, show 2 * ((k + 1) / 2) + 0 = k by omega]
    exact ownsRow_setCell_below ho (Nat.lt_succ_self B) _
  · rw [show (k + 1) / 2 = k / 2 by omega]
    exact ownsRow_setCell_below ((h.o1.alloc o).kept hg h.ap.symm.or) (Nat.lt_succ_self B) _
  · intro g h1 h2
    rcases hloc with e | e
    · exact h.ap g (e ▸ h1) h2
    · rw [h1] at e
      have h3 := (h.o1.lt g h2).2
      have h4 := Option.some.inj e
      omega
  · exact (h.bel.trans (hb1.mono (Nat.le_succ B))).setCell (p := ⟨B, 0, none⟩) (Nat.le_refl _) _
theorem Halves.put1 {w wr w1 : World} {B k : Nat} {a : Nat → Int} {v0 v1 v' : Value} {o : Obj} (h : Halves w B k a v0 v1 wr) (hk : k % 2 = 1)
    (ho : w1.ownsRow (B + 1) 3 1 v' (k / 2 + 1) (hv a 1 (k / 2) ++ [.int .i64 (a k)])) (hg : (wr.alloc o).grownBy w1 v1.ownBlock)
    (hloc : v'.ownBlock = v1.ownBlock ∨ v'.ownBlock = some (wr.heap.size + 1)) : Halves w B (k + 1) a v0 v' (w1.setCell ⟨B, 1, none⟩ v') := by
  have hlt := h.lt
  have hb1 : Below (B + 1) wr w1 := (((Below.refl (B + 1) wr).alloc (by omega) o)).grown hg (by simp; omega) (fun g hg => (h.o1.lt g hg).1)
  have c0 := (hb1.cell (p := ⟨B, 0, none⟩) (Nat.lt_succ_self B)).trans h.c0
  have c1 := (hb1.cell (p := ⟨B, 1, none⟩) (Nat.lt_succ_self B)).trans h.c1
  have f0 := (hb1.frozen (p := ⟨B, 0, none⟩) (Nat.lt_succ_self B)).trans h.f0
  have f1 := (hb1.frozen (p := ⟨B, 1, none⟩) (Nat.lt_succ_self B)).trans h.f1
  have hsz := hb1.size
  refine ⟨by simp [go_sem, c0], by simp [go_sem, c1], by simp [go_sem, f0], by simp [go_sem, f1], ?_, ?_, ?_, ?_, by simp; omega⟩
  · rw [show (k + 1 + 1) / 2 = (k + 1) / 2 by omega]
    exact ownsRow_setCell_below ((h.o0.alloc o).kept hg h.ap.or) (Nat.lt_succ_self B) _
  · have e : (k + 1) / 2 = k / 2 + 1 := by omega
    rw [e, hv_succ, show 2 * (k / 2) + 1 = k by omega]
    exact ownsRow_setCell_below ho (Nat.lt_succ_self B) _
  · intro g h1 h2
    rcases hloc with e | e
    · exact h.ap g h1 (e ▸ h2)
    · rw [h2] at e
      have h3 := (h.o0.lt g h1).2
      have h4 := Option.some.inj e
      omega
  · exact (h.bel.trans (hb1.mono (Nat.le_succ B))).setCell (p := ⟨B, 1, none⟩) (Nat.le_refl _) _
/-- Block g holds the first n numbers of f. -/
def IntsAtF (W : World) (g n : Nat) (f : Nat → Int) : Prop := g < W.heap.size ∧ ∀ k, k < n → W.cell? ⟨g, k, none⟩ = some (.int .i64 (f k))
theorem IntsAtF.below {W W' : World} {g n : Nat} {f : Nat → Int} (h : IntsAtF W g n f) (hb : Below W.heap.size W W') : IntsAtF W' g n f :=
  ⟨Nat.lt_of_lt_of_le h.1 hb.size, fun k hk => (hb.cell (p := ⟨g, k, none⟩) h.1).trans (h.2 k hk)⟩
def TransPost (m : Nat) (a : Nat → Int) (r : Int) (w : World) (e : Ending) (w' : World) : Prop :=
  ∃ g c, e = .returned (.slice (some ⟨g, 0, none⟩) (2 ^ m) c) ∧ w.heap.size ≤ g ∧ IntsAtF w' g (2 ^ m) (fft PP m a r) ∧ (∀ k, k < 2 ^ m → w'.frozen? ⟨g, k, none⟩ = false) ∧ Below w.heap.size w w'
def TransSpec (m : Nat) : Prop := ∀ (zs : List Int) (v : Value) (r : Int) (w : World), zs.length = 2 ^ m → IntsV w v zs → (∀ k, k < zs.length → 0 ≤ intAt zs k ∧ intAt zs k < 998244353) → 0 ≤ r → r < 998244353 → Calls Try.prog 63 #[v, .int .i64 r] w (TransPost m (intAt zs) r w)
theorem fft_same {p : Int} : ∀ (m : Nat) {a b : Nat → Int} (r : Int) (k : Nat), (∀ i, i < 2 ^ m → a i = b i) → fft p m a r k = fft p m b r k
  | 0, a, b, r, k, h => h 0 (by decide)
  | m + 1, a, b, r, k, h => by
    unfold fft
    rw [fft_same m _ _ (fun i hi => h (2 * i) (by rw [Nat.pow_succ]; omega)), fft_same m _ _ (fun i hi => h (2 * i + 1) (by rw [Nat.pow_succ]; omega))]
def halfL (zs : List Int) (p n : Nat) : List Int := (List.range n).map fun i => intAt zs (2 * i + p)
theorem halfL_len (zs : List Int) (p n : Nat) : (halfL zs p n).length = n := by simp [halfL]
theorem halfL_at (zs : List Int) (p : Nat) {n k : Nat} (hk : k < n) : intAt (halfL zs p n) k = intAt zs (2 * k + p) := by
  unfold halfL
  conv => lhs; unfold intAt
  rw [List.getElem?_map, List.getElem?_range hk]
  rfl
theorem halfL_hv (zs : List Int) (p n : Nat) : (halfL zs p n).map (.int .i64) = hv (intAt zs) p n := by unfold halfL hv; rw [List.map_map]; rfl
end Go.Proofs.Ytelchmimhnpkaaa
