/- Three calls that make fields, and three new places for them: what each operation of the region brings and keeps. -/
import Derived.Test.YtkoiknmijjiicaaGreatDoorX107
import Derived.Test.YtkoiknmijjiicaaGreatDoorX104
namespace Go.Proofs.YtkoiknmijjiicaaGreatDoor
set_option linter.unusedVariables false
set_option linter.unusedSimpArgs false
open Go.RowKit Ieee Ntt
/-- A block that a value tells. -/
def Blk (v : Value) (b : Nat) : Prop := v = .pointer (some ⟨b, 0, none⟩) ∨ ∃ (L S : Int) (n c : Nat), v = .agg #[.int .i64 L, .int .i64 S, .slice (some ⟨b, 0, none⟩) n c]
theorem Blk.ptr {b c : Nat} (h : Blk (.pointer (some ⟨b, 0, none⟩)) c) : c = b := by
  rcases h with h | ⟨_, _, _, _, h⟩
  · cases h; rfl
  · cases h
theorem Blk.agg {L S : Int} {g n k c : Nat} (h : Blk (.agg #[.int .i64 L, .int .i64 S, .slice (some ⟨g, 0, none⟩) n k]) c) : c = g := by
  rcases h with h | ⟨_, _, _, _, h⟩
  · cases h
  · cases h; rfl
def Apart3 (v u : Value) : Prop := ∀ b c, Blk v b → Blk u c → b ≠ c
theorem Apart3.symm {v u : Value} (h : Apart3 v u) : Apart3 u v := fun b c h1 h2 e => h c b h2 h1 e.symm
def IsC (L S : Int) (n : Nat) (f : Nat → Nat × Nat) (N : Nat) (v : Value) (w : World) : Prop := ∃ g c, v = .agg #[.int .i64 L, .int .i64 S, .slice (some ⟨g, 0, none⟩) n c] ∧ N ≤ g ∧ g < w.heap.size ∧ SumsAt w g 0 n f
def IsA (N : Nat) (v : Value) (w : World) : Prop := ∃ b, v = .pointer (some ⟨b, 0, none⟩) ∧ N ≤ b ∧ b < w.heap.size ∧ ∀ j, j < 3 → (∃ u, w.cell? ⟨b, j, none⟩ = some u) ∧ w.frozen? ⟨b, j, none⟩ = false
def IsS (v u : Value) (w : World) : Prop := ∃ (b : Nat) (L S : Int) (g n c : Nat), v = .pointer (some ⟨b, 0, none⟩) ∧ u = .agg #[.int .i64 L, .int .i64 S, .slice (some ⟨g, 0, none⟩) n c] ∧ b < w.heap.size ∧ w.cell? ⟨b, 0, none⟩ = some (.int .i64 L) ∧ w.cell? ⟨b, 1, none⟩ = some (.int .i64 S) ∧ w.cell? ⟨b, 2, none⟩ = some (.slice (some ⟨g, 0, none⟩) n c)
def Keeps (X : Nat → Prop) (w w' : World) : Prop := w.heap.size ≤ w'.heap.size ∧ ∀ b, b < w.heap.size → ¬ X b → w'.heap[b]? = w.heap[b]?
theorem keeps_below {w w' : World} (h : Below w.heap.size w w') : Keeps (fun _ => False) w w' := ⟨h.size, fun b hb _ => h.block b hb⟩
theorem cell_of {w w' : World} {b j : Nat} (h : w'.heap[b]? = w.heap[b]?) : w'.cell? ⟨b, j, none⟩ = w.cell? ⟨b, j, none⟩ := by unfold World.cell?; rw [h]
theorem IsC.keep {X : Nat → Prop} {L S : Int} {n N : Nat} {f : Nat → Nat × Nat} {v : Value} {w w' : World} (h : IsC L S n f N v w) (hk : Keeps X w w') (hx : ∀ b, X b → ¬ Blk v b) : IsC L S n f N v w' := by
  obtain ⟨g, c, rfl, h1, h2, h3⟩ := h
  have hg := hk.2 g h2 fun e => hx g e (.inr ⟨_, _, _, _, rfl⟩)
  exact ⟨g, c, rfl, h1, Nat.lt_of_lt_of_le h2 hk.1, fun k hk => (cell_of hg).trans (h3 k hk)⟩
theorem IsA.keep {X : Nat → Prop} {N : Nat} {v : Value} {w w' : World} (h : IsA N v w) (hk : Keeps X w w') (hx : ∀ b, X b → ¬ Blk v b) : IsA N v w' := by
  obtain ⟨b, rfl, h1, h2, h3⟩ := h
  have hg := hk.2 b h2 fun e => hx b e (.inl rfl)
  refine ⟨b, rfl, h1, Nat.lt_of_lt_of_le h2 hk.1, fun j hj => ?_⟩
  obtain ⟨⟨u, hu⟩, h4⟩ := h3 j hj
  exact ⟨⟨u, (cell_of hg).trans hu⟩, (frozenF_of_block hg).trans h4⟩
theorem IsS.keep {X : Nat → Prop} {v u : Value} {w w' : World} (h : IsS v u w) (hk : Keeps X w w') (hx : ∀ b, X b → ¬ Blk v b) : IsS v u w' := by
  obtain ⟨b, L, S, g, n, c, rfl, rfl, h2, h3, h4, h5⟩ := h
  have hg := hk.2 b h2 fun e => hx b e (.inl rfl)
  exact ⟨b, L, S, g, n, c, rfl, rfl, Nat.lt_of_lt_of_le h2 hk.1, (cell_of hg).trans h3, (cell_of hg).trans h4, (cell_of hg).trans h5⟩
def put3 (w : World) (b : Nat) (x y z : Value) : World := ((w.setCell ⟨b, 0, none⟩ x).setCell ⟨b, 1, none⟩ y).setCell ⟨b, 2, none⟩ z
theorem put3_keeps (w : World) (b : Nat) (x y z : Value) : Keeps (fun c => c = b) w (put3 w b x y z) := ⟨by simp [put3], fun c _ hc => by
  unfold put3
  rw [Below.heap_setCell _ _ _ _ (show c ≠ b from hc), Below.heap_setCell _ _ _ _ (show c ≠ b from hc), Below.heap_setCell _ _ _ _ (show c ≠ b from hc)]⟩
theorem put3_isA {N b : Nat} {w : World} (h : IsA N (.pointer (some ⟨b, 0, none⟩)) w) (x y z : Value) : IsA N (.pointer (some ⟨b, 0, none⟩)) (put3 w b x y z) := by
  obtain ⟨b', e, h1, h2, h3⟩ := h
  cases e
  obtain ⟨⟨u0, c0⟩, f0⟩ := h3 0 (by decide)
  obtain ⟨⟨u1, c1⟩, f1⟩ := h3 1 (by decide)
  obtain ⟨⟨u2, c2⟩, f2⟩ := h3 2 (by decide)
  refine ⟨b, rfl, h1, by simpa [put3] using h2, fun j hj => ?_⟩
  rcases (show j = 0 ∨ j = 1 ∨ j = 2 by omega) with rfl | rfl | rfl
  · exact ⟨⟨x, by simp [put3, go_sem, c0]⟩, by simp [put3, go_sem, f0]⟩
  · exact ⟨⟨y, by simp [put3, go_sem, c1]⟩, by simp [put3, go_sem, f1]⟩
  · exact ⟨⟨z, by simp [put3, go_sem, c2]⟩, by simp [put3, go_sem, f2]⟩
theorem put3_isS {N b : Nat} {w : World} (h : IsA N (.pointer (some ⟨b, 0, none⟩)) w) (L S : Int) (g n c : Nat) : IsS (.pointer (some ⟨b, 0, none⟩)) (.agg #[.int .i64 L, .int .i64 S, .slice (some ⟨g, 0, none⟩) n c]) (put3 w b (.int .i64 L) (.int .i64 S) (.slice (some ⟨g, 0, none⟩) n c)) := by
  obtain ⟨b', e, h1, h2, h3⟩ := h
  cases e
  obtain ⟨⟨u0, c0⟩, f0⟩ := h3 0 (by decide)
  obtain ⟨⟨u1, c1⟩, f1⟩ := h3 1 (by decide)
  obtain ⟨⟨u2, c2⟩, f2⟩ := h3 2 (by decide)
  exact ⟨b, L, S, g, n, c, rfl, rfl, by simpa [put3] using h2, by simp [put3, go_sem, c0], by simp [put3, go_sem, c1], by simp [put3, go_sem, c2]⟩
/-- What each of the thirteen operations brings. -/
def FF3 (VX VY : Value) (L S : Int) (n : Nat) (f0 f1 f2 : Nat → Nat × Nat) (N : Nat) (j : Nat) (v : Nat → Value) (w : World) : Prop :=
  match j with
  | 0 => v 27 = VX | 1 => v 28 = VY | 2 => IsC L S n f0 N (v 29) w | 3 => v 30 = VX | 4 => IsC L S n f1 N (v 31) w | 5 => v 32 = VY | 6 => IsC L S n f2 N (v 33) w
  | 7 => IsA N (v 8) w | 8 => IsA N (v 9) w | 9 => IsA N (v 10) w | 10 => IsS (v 8) (v 29) w | 11 => IsS (v 9) (v 31) w | 12 => IsS (v 10) (v 33) w | _ => True
def sl3 (j : Nat) : List Nat :=
  match j with
  | 0 => [27] | 1 => [28] | 2 => [29] | 3 => [30] | 4 => [31] | 5 => [32] | 6 => [33] | 7 => [8] | 8 => [9] | 9 => [10] | 10 => [8, 29] | 11 => [9, 31] | 12 => [10, 33] | _ => []
def mm3 : List Nat := [2, 4, 6, 7, 8, 9]
def dst3 (j : Nat) : Nat := match j with | 2 => 29 | 4 => 31 | 6 => 33 | 7 => 8 | 8 => 9 | 9 => 10 | _ => 0
def GG3 (j k : Nat) (v : Nat → Value) : Prop := j ∈ mm3 → k ∈ mm3 → Apart3 (v (dst3 j)) (v (dst3 k))
section
variable {VX VY : Value} {L S : Int} {n N : Nat} {f0 f1 f2 : Nat → Nat × Nat} {j : Nat} {v : Nat → Value} {w w' : World}
theorem FF3.put {d : Nat} {x : Value} (h : FF3 VX VY L S n f0 f1 f2 N j v w) (hb : Below w.heap.size w w') (hd : d ∉ sl3 j) : FF3 VX VY L S n f0 f1 f2 N j (fun s => if s = d then x else v s) w' := by
  have hk := keeps_below hb
  have hf : ∀ u b, (fun _ : Nat => False) b → ¬ Blk u b := fun _ _ h => h.elim
  rcases (show j = 0 ∨ j = 1 ∨ j = 2 ∨ j = 3 ∨ j = 4 ∨ j = 5 ∨ j = 6 ∨ j = 7 ∨ j = 8 ∨ j = 9 ∨ j = 10 ∨ j = 11 ∨ j = 12 ∨ ∃ i, j = i + 13 from by rcases Nat.lt_or_ge j 13 with h | h; (focus (omega)); (focus (iterate 13 right)); exact ⟨j - 13, by omega⟩) with rfl | rfl | rfl | rfl | rfl | rfl | rfl | rfl | rfl | rfl | rfl | rfl | rfl | ⟨i, rfl⟩
  all_goals simp only [sl3, List.mem_cons, List.not_mem_nil, or_false, not_or] at hd
  · show (if 27 = d then x else v 27) = VX
    rw [if_neg (by omega)]; exact h
  · show (if 28 = d then x else v 28) = VY
    rw [if_neg (by omega)]; exact h
  · show IsC L S n f0 N (if 29 = d then x else v 29) w'
    rw [if_neg (by omega)]; exact IsC.keep h hk (hf _)
  · show (if 30 = d then x else v 30) = VX
    rw [if_neg (by omega)]; exact h
  · show IsC L S n f1 N (if 31 = d then x else v 31) w'
    rw [if_neg (by omega)]; exact IsC.keep h hk (hf _)
  · show (if 32 = d then x else v 32) = VY
    rw [if_neg (by omega)]; exact h
  · show IsC L S n f2 N (if 33 = d then x else v 33) w'
    rw [if_neg (by omega)]; exact IsC.keep h hk (hf _)
  · show IsA N (if 8 = d then x else v 8) w'
    rw [if_neg (by omega)]; exact IsA.keep h hk (hf _)
  · show IsA N (if 9 = d then x else v 9) w'
    rw [if_neg (by omega)]; exact IsA.keep h hk (hf _)
  · show IsA N (if 10 = d then x else v 10) w'
    rw [if_neg (by omega)]; exact IsA.keep h hk (hf _)
  · show IsS (if 8 = d then x else v 8) (if 29 = d then x else v 29) w'
    rw [if_neg (by omega), if_neg (by omega)]; exact IsS.keep h hk (hf _)
  · show IsS (if 9 = d then x else v 9) (if 31 = d then x else v 31) w'
    rw [if_neg (by omega), if_neg (by omega)]; exact IsS.keep h hk (hf _)
  · show IsS (if 10 = d then x else v 10) (if 33 = d then x else v 33) w'
    rw [if_neg (by omega), if_neg (by omega)]; exact IsS.keep h hk (hf _)
  · trivial
theorem FF3.blk {b : Nat} (hj : j ∈ mm3) (h : FF3 VX VY L S n f0 f1 f2 N j v w) (hb : Blk (v (dst3 j)) b) : b < w.heap.size := by
  unfold mm3 at hj
  simp only [List.mem_cons, List.not_mem_nil, or_false] at hj
  rcases hj with rfl | rfl | rfl | rfl | rfl | rfl
  · obtain ⟨g, c, e, -, h2, -⟩ := h
    have hb : Blk (v 29) b := hb
    rw [e] at hb; rw [hb.agg]; exact h2
  · obtain ⟨g, c, e, -, h2, -⟩ := h
    have hb : Blk (v 31) b := hb
    rw [e] at hb; rw [hb.agg]; exact h2
  · obtain ⟨g, c, e, -, h2, -⟩ := h
    have hb : Blk (v 33) b := hb
    rw [e] at hb; rw [hb.agg]; exact h2
  · obtain ⟨g, e, -, h2, -⟩ := h
    have hb : Blk (v 8) b := hb
    rw [e] at hb; rw [hb.ptr]; exact h2
  · obtain ⟨g, e, -, h2, -⟩ := h
    have hb : Blk (v 9) b := hb
    rw [e] at hb; rw [hb.ptr]; exact h2
  · obtain ⟨g, e, -, h2, -⟩ := h
    have hb : Blk (v 10) b := hb
    rw [e] at hb; rw [hb.ptr]; exact h2
theorem dst3_sl {j : Nat} (hj : j ∈ mm3) : dst3 j ∈ sl3 j := by
  unfold mm3 at hj
  simp only [List.mem_cons, List.not_mem_nil, or_false] at hj
  rcases hj with rfl | rfl | rfl | rfl | rfl | rfl <;> decide
/-- A new value comes into a slot. -/
theorem step3_new {D : Nat → Prop} {i d : Nat} {x : Value} (hF : ∀ j, D j → FF3 VX VY L S n f0 f1 f2 N j v w) (hG : ∀ j k, D j → D k → j ≠ k → GG3 j k v) (hb : Below w.heap.size w w') (hd : ∀ j, D j → d ∉ sl3 j) (hi : i ∈ mm3 → dst3 i = d ∧ ∀ b, Blk x b → w.heap.size ≤ b) :
    (∀ j, D j → FF3 VX VY L S n f0 f1 f2 N j (fun s => if s = d then x else v s) w') ∧ (∀ j, D j → GG3 i j (fun s => if s = d then x else v s) ∧ GG3 j i (fun s => if s = d then x else v s)) ∧ ∀ j k, D j → D k → j ≠ k → GG3 j k (fun s => if s = d then x else v s) := by
  have hne : ∀ j, D j → j ∈ mm3 → dst3 j ≠ d := fun j hj hm e => hd j hj (e ▸ dst3_sl hm)
  have key : ∀ j, D j → GG3 i j (fun s => if s = d then x else v s) := fun j hj hi' hj' b c h1 h2 e => by
    obtain ⟨e1, e2⟩ := hi hi'
    dsimp only at h1 h2
    rw [if_pos e1] at h1
    rw [if_neg (hne j hj hj')] at h2
    have := e2 b h1
    have := FF3.blk hj' (hF j hj) h2
    omega
  refine ⟨fun j hj => (hF j hj).put hb (hd j hj), fun j hj => ⟨key j hj, fun hj' hi' => (key j hj hi' hj').symm⟩, fun j k hj hk hjk hj' hk' => ?_⟩
  dsimp only
  rw [if_neg (hne j hj hj'), if_neg (hne k hk hk')]
  exact hG j k hj hk hjk hj' hk'
/-- A field is written into its new place. -/
theorem step3_store {D : Nat → Prop} {ia b : Nat} {x y z : Value} (hm : ia = 7 ∨ ia = 8 ∨ ia = 9) (hD : D ia) (hn : ¬ D (ia + 3)) (h10 : D 10 → D 7) (h11 : D 11 → D 8) (h12 : D 12 → D 9) (hF : ∀ j, D j → FF3 VX VY L S n f0 f1 f2 N j v w) (hG : ∀ j k, D j → D k → j ≠ k → GG3 j k v) (hv : v (dst3 ia) = .pointer (some ⟨b, 0, none⟩)) :
    ∀ j, D j → FF3 VX VY L S n f0 f1 f2 N j v (put3 w b x y z) := by
  have hk := put3_keeps w b x y z
  have hmm : ia ∈ mm3 := by unfold mm3; rcases hm with rfl | rfl | rfl <;> simp
  have hx : ∀ k, k ∈ mm3 → k ≠ ia → D k → ∀ c, c = b → ¬ Blk (v (dst3 k)) c := fun k hkm hne hDk c e hb => by
    subst e
    exact hG ia k hD hDk (Ne.symm hne) hmm hkm c c (by rw [hv]; exact .inl rfl) hb rfl
  have hA : ∀ k, IsA N (v (dst3 k)) w → k = ia → IsA N (v (dst3 k)) (put3 w b x y z) := fun k h e => by
    subst e
    rw [hv] at h ⊢
    exact put3_isA h x y z
  intro j hj
  have h := hF j hj
  rcases (show j = 0 ∨ j = 1 ∨ j = 2 ∨ j = 3 ∨ j = 4 ∨ j = 5 ∨ j = 6 ∨ j = 7 ∨ j = 8 ∨ j = 9 ∨ j = 10 ∨ j = 11 ∨ j = 12 ∨ ∃ i, j = i + 13 from by rcases Nat.lt_or_ge j 13 with h | h; (focus (omega)); (focus (iterate 13 right)); exact ⟨j - 13, by omega⟩) with rfl | rfl | rfl | rfl | rfl | rfl | rfl | rfl | rfl | rfl | rfl | rfl | rfl | ⟨i, rfl⟩
  · exact h
  · exact h
  · exact IsC.keep h hk (hx 2 (by decide) (by omega) hj)
  · exact h
  · exact IsC.keep h hk (hx 4 (by decide) (by omega) hj)
  · exact h
  · exact IsC.keep h hk (hx 6 (by decide) (by omega) hj)
  · by_cases e : 7 = ia
    · exact hA 7 h e
    · exact IsA.keep h hk (hx 7 (by decide) e hj)
  · by_cases e : 8 = ia
    · exact hA 8 h e
    · exact IsA.keep h hk (hx 8 (by decide) e hj)
  · by_cases e : 9 = ia
    · exact hA 9 h e
    · exact IsA.keep h hk (hx 9 (by decide) e hj)
  · exact IsS.keep h hk (hx 7 (by decide) (fun e => hn (by subst e; exact hj)) (h10 hj))
  · exact IsS.keep h hk (hx 8 (by decide) (fun e => hn (by subst e; exact hj)) (h11 hj))
  · exact IsS.keep h hk (hx 9 (by decide) (fun e => hn (by subst e; exact hj)) (h12 hj))
  · trivial
end
/-- The slot of an operation that comes now is none of those that the others look at. -/
theorem sl3_off {D : Nat → Prop} {i d : Nat} (hid : (i, d) ∈ [(0, 27), (1, 28), (2, 29), (3, 30), (4, 31), (5, 32), (6, 33), (7, 8), (8, 9), (9, 10)]) (hnD : ¬ D i) (c10 : D 10 → D 7 ∧ D 2) (c11 : D 11 → D 8 ∧ D 4) (c12 : D 12 → D 9 ∧ D 6) : ∀ j, D j → d ∉ sl3 j := by
  intro j hj hm
  have no : ∀ k, D k → i ≠ k := fun k hk e => hnD (e ▸ hk)
  simp only [List.mem_cons, List.not_mem_nil, or_false, Prod.mk.injEq] at hid
  rcases (show j = 0 ∨ j = 1 ∨ j = 2 ∨ j = 3 ∨ j = 4 ∨ j = 5 ∨ j = 6 ∨ j = 7 ∨ j = 8 ∨ j = 9 ∨ j = 10 ∨ j = 11 ∨ j = 12 ∨ ∃ i, j = i + 13 from by rcases Nat.lt_or_ge j 13 with h | h; (focus (omega)); (focus (iterate 13 right)); exact ⟨j - 13, by omega⟩) with rfl | rfl | rfl | rfl | rfl | rfl | rfl | rfl | rfl | rfl | rfl | rfl | rfl | ⟨i, rfl⟩
  all_goals simp only [sl3, List.mem_cons, List.not_mem_nil, or_false] at hm
  all_goals first
    | (have := no _ hj; omega)
    | (have h1 := no _ (c10 hj).1; have h2 := no _ (c10 hj).2; omega)
    | (have h1 := no _ (c11 hj).1; have h2 := no _ (c11 hj).2; omega)
    | (have h1 := no _ (c12 hj).1; have h2 := no _ (c12 hj).2; omega)
end Go.Proofs.YtkoiknmijjiicaaGreatDoor
