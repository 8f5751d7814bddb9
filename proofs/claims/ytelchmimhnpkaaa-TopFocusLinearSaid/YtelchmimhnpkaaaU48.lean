/- Chapter 1: for the law TopFocusLinear: what lies in memory. -/
import Derived.Test.YtelchmimhnpkaaaU47
import Derived.Test.YtelchmimhnpkaaaU45
import Derived.Test.YtelchmimhnpkaaaU35
import Derived.Deep.Upon
import Derived.Lib.SlFresh
import Derived.ArgAppend
namespace Go.Proofs.Ytelchmimhnpkaaa
set_option linter.unusedVariables false
open Go.RowKit Ntt
theorem AddOk.below {W W' : World} {base : Nat} {L S : Int} {n : Nat} {f : Nat → Nat × Nat} {L' S' : Int} {m : Nat} {g : Nat → Nat × Nat} {l s : Int} {n' : Nat} {a : Option Addr} (h : AddOk W base L S n f L' S' m g l s n' a) (hb : Below W.heap.size W W') : AddOk W' base L S n f L' S' m g l s n' a := by
  obtain ⟨L0, S0, h1, h2, h3, h4, h5, h6, h7, h8, h9, h10, h11⟩ := h
  exact ⟨L0, S0, h1, h2, h3, h4, h5, h6, h7, h8, h9, h10, own_step2 h11 hb⟩
theorem AddOk.set {W : World} {base : Nat} {L S : Int} {n : Nat} {f : Nat → Nat × Nat} {L' S' : Int} {m : Nat} {g : Nat → Nat × Nat} {l s : Int} {n' : Nat} {a : Option Addr} (h : AddOk W base L S n f L' S' m g l s n' a) {p : Addr} (hp : p.block < base) (v : Value) : AddOk (W.setCell p v) base L S n f L' S' m g l s n' a := by
  obtain ⟨L0, S0, h1, h2, h3, h4, h5, h6, h7, h8, h9, h10, h11⟩ := h
  exact ⟨L0, S0, h1, h2, h3, h4, h5, h6, h7, h8, h9, h10, own_set h11 hp v⟩
theorem AddOk.mono {W : World} {base base' : Nat} {L S : Int} {n : Nat} {f : Nat → Nat × Nat} {L' S' : Int} {m : Nat} {g : Nat → Nat × Nat} {l s : Int} {n' : Nat} {a : Option Addr} (h : AddOk W base L S n f L' S' m g l s n' a) (hb : base' ≤ base) : AddOk W base' L S n f L' S' m g l s n' a := by
  obtain ⟨L0, S0, h1, h2, h3, h4, h5, h6, h7, h8, h9, h10, h11⟩ := h
  exact ⟨L0, S0, h1, h2, h3, h4, h5, h6, h7, h8, h9, h10, own_mono h11 hb⟩
theorem CompOkB.below {W W' : World} {base : Nat} {L S : Int} {n C : Nat} {f fc : Nat → Nat × Nat} {l s : Int} {n' : Nat} {a : Option Addr} (h : CompOkB W base L S n C f fc l s n' a) (hb : Below W.heap.size W W') : CompOkB W' base L S n C f fc l s n' a := by
  obtain ⟨L0, S0, h1, h2, h3, h4, h5, h6, h7, h8, h9, h10⟩ := h
  exact ⟨L0, S0, h1, h2, h3, h4, h5, h6, h7, h8, h9, h10.below hb⟩
theorem CompOkB.set {W : World} {base : Nat} {L S : Int} {n C : Nat} {f fc : Nat → Nat × Nat} {l s : Int} {n' : Nat} {a : Option Addr} (h : CompOkB W base L S n C f fc l s n' a) {p : Addr} (hp : p.block < base) (v : Value) : CompOkB (W.setCell p v) base L S n C f fc l s n' a := by
  obtain ⟨L0, S0, h1, h2, h3, h4, h5, h6, h7, h8, h9, h10⟩ := h
  exact ⟨L0, S0, h1, h2, h3, h4, h5, h6, h7, h8, h9, h10.set hp v⟩
theorem CompOkB.mono {W : World} {base base' : Nat} {L S : Int} {n C : Nat} {f fc : Nat → Nat × Nat} {l s : Int} {n' : Nat} {a : Option Addr} (h : CompOkB W base L S n C f fc l s n' a) (hb : base' ≤ base) : CompOkB W base' L S n C f fc l s n' a := by
  obtain ⟨L0, S0, h1, h2, h3, h4, h5, h6, h7, h8, h9, h10⟩ := h
  exact ⟨L0, S0, h1, h2, h3, h4, h5, h6, h7, h8, h9, h10.mono hb⟩
theorem FocOk.below {W W' : World} {base : Nat} {L S : Int} {n C : Nat} {f fc : Nat → Nat × Nat} {l s : Int} {n' : Nat} {a : Option Addr} (h : FocOk W base L S n C f fc l s n' a) (hb : Below W.heap.size W W') : FocOk W' base L S n C f fc l s n' a := by
  obtain ⟨L0, S0, h1, h2, h3, h4, h5, h6, h7, h8, h9, h10⟩ := h
  exact ⟨L0, S0, h1, h2, h3, h4, h5, h6, h7, h8, h9, h10.below hb⟩
theorem FocOk.set {W : World} {base : Nat} {L S : Int} {n C : Nat} {f fc : Nat → Nat × Nat} {l s : Int} {n' : Nat} {a : Option Addr} (h : FocOk W base L S n C f fc l s n' a) {p : Addr} (hp : p.block < base) (v : Value) : FocOk (W.setCell p v) base L S n C f fc l s n' a := by
  obtain ⟨L0, S0, h1, h2, h3, h4, h5, h6, h7, h8, h9, h10⟩ := h
  exact ⟨L0, S0, h1, h2, h3, h4, h5, h6, h7, h8, h9, h10.set hp v⟩
theorem FocOk.mono {W : World} {base base' : Nat} {L S : Int} {n C : Nat} {f fc : Nat → Nat × Nat} {l s : Int} {n' : Nat} {a : Option Addr} (h : FocOk W base L S n C f fc l s n' a) (hb : base' ≤ base) : FocOk W base' L S n C f fc l s n' a := by
  obtain ⟨L0, S0, h1, h2, h3, h4, h5, h6, h7, h8, h9, h10⟩ := h
  exact ⟨L0, S0, h1, h2, h3, h4, h5, h6, h7, h8, h9, h10.mono hb⟩
theorem codeAt_own2 {W W' : World} {B n : Nat} {a : Option Addr} {f : Nat → Nat × Nat} (h : 0 < n → ∃ g, a = some ⟨g, 0, none⟩ ∧ B ≤ g ∧ g < W.heap.size ∧ SamplesAt W g 0 n f) (hb : Below W.heap.size W W') : CodeAt W' n f a := fun h0 => by
  obtain ⟨g, h1, -, h3, h4⟩ := h h0
  exact ⟨g, 0, h1, by have := hb.size; omega, h4.below h3 hb⟩
/-- Samples somewhere in memory. -/
def DatAt (W : World) (n : Nat) (f : Nat → Nat × Nat) (a : Option Addr) : Prop := 0 < n → ∃ g, a = some ⟨g, 0, none⟩ ∧ g < W.heap.size ∧ SamplesAt W g 0 n f
theorem DatAt.below {W W' : World} {n : Nat} {a : Option Addr} {f : Nat → Nat × Nat} (h : DatAt W n f a) (hb : Below W.heap.size W W') : DatAt W' n f a := fun h0 => by
  obtain ⟨g, h1, h3, h4⟩ := h h0
  exact ⟨g, h1, by have := hb.size; omega, h4.below h3 hb⟩
theorem DatAt.of {W : World} {B n : Nat} {a : Option Addr} {f : Nat → Nat × Nat} (h : 0 < n → ∃ g, a = some ⟨g, 0, none⟩ ∧ B ≤ g ∧ g < W.heap.size ∧ SamplesAt W g 0 n f) : DatAt W n f a := fun h0 => by
  obtain ⟨g, h1, -, h3, h4⟩ := h h0
  exact ⟨g, h1, h3, h4⟩
theorem DatAt.data {W : World} {n : Nat} {L S : Int} {a : Option Addr} {f : Nat → Nat × Nat} (h : DatAt W n f a) : DataAt W L S n f a := fun hs => by
  obtain ⟨⟨l1, l2⟩, ⟨s1, s2⟩, hn⟩ := sizeE_zero hs
  have h0 : 0 < L * S := Int.mul_pos (by omega) (by omega)
  obtain ⟨g, h1, h3, h4⟩ := h (by omega)
  exact ⟨g, 0, h1, h3, h4⟩
theorem info_c32 : (Try.prog.info? 103).map (fun i => (i.zero, i.size, i.bytes)) = some (some (.complex .f32 0 0), 1, 8) := infoC32
/-- 'append([]complex64{}, code...)' in a region that draws its order. -/
theorem step_code {ops : Array Oper} {o : Oper} {av : Act} {w : World} {K : Act → World → Prop} {Q : Exit → Act → World → Prop} {E : Prop} {b : Addr}
    (hg : o.guard = none) (s x : Operand) (hop : o.op = Op.call { callee := Callee.builtin Builtin.append, args := #[s, x], argTypes := #[27, 27] })
    (hs : av.eval s = .slice (some b) 0 0) (n cap : Nat) (f : Nat → Nat × Nat) (ca : Option Addr) (hx : av.eval x = .slice ca n cap)
    (hl : n ≤ 100000) (hc : CodeAt w n f ca)
    (hK : ∀ a c p, CodeAt (later w p) n f a → K (av.put o.dst (.slice a n c)) (later w p)) :
    if Region.wanted o (yielded ops av.tmps) = true then Oper.wp Try.prog o av w K Q else E := by
  obtain ⟨i0, hi, hz0, hz1, hz2⟩ := info_parts info_c32
  have hw' : Region.wanted o (yielded ops av.tmps) = true := by simp [Region.wanted, hg]
  rw [if_pos hw']
  by_cases h0 : 0 < n
  · obtain ⟨cb, off, rfl, hbw, hf⟩ := hc h0
    obtain ⟨v', w1, hr, hown, hgrow⟩ := run_append_arg_grows (P := Try.prog) w 27 o.type 103 i0 (.complex .f32 0 0) 1 8 Try.underlying27 hi hz0 hz1 hz2 rfl (by decide) b 0 0 [] rfl (fun j u hj => by simp at hj)
      ⟨cb, off, none⟩ n cap (cv32 (firstL f n)) (by unfold cv32; rw [List.length_map, firstL_len, Nat.mul_one]) (by
        intro j u hj
        have hjn : j < n := by
          have := (List.getElem?_eq_some_iff.1 hj).1
          unfold cv32 at this
          rw [List.length_map, firstL_len] at this
          exact this
        have e : (⟨cb, off, none⟩ : Addr).add j = ⟨cb, off + j, none⟩ := by simp [Addr.add]
        rw [e]
        refine (hf j hjn).trans ?_
        unfold cv32 firstL at hj
        rw [List.getElem?_map, List.getElem?_map, List.getElem?_range hjn] at hj
        exact hj) (by omega) (by unfold maxLen; omega) (by omega)
    refine Lib.wp_append_run_sl _ s x 27 hop _ _ hs hx hr ?_
    have hown2 : w1.ownsRow w.heap.size 103 1 v' n (cv32 (firstL f n)) := by simpa using hown
    obtain ⟨a, c, rfl⟩ := own_slice hown2
    have hb : Below w.heap.size w w1 := (Below.refl _ _).grown hgrow (Nat.le_refl _) (fun g hg => by cases hg)
    obtain ⟨g', rfl, h2, h3, h4⟩ := samples_firstL hown2 h0 (Nat.le_refl _)
    obtain ⟨p, rfl⟩ := later_of_below hb
    exact hK _ c p fun _ => ⟨g', 0, rfl, h3, h4⟩
  · obtain rfl : n = 0 := by omega
    have hsrc : Src Try.prog i0.size 27 (.slice ca 0 cap) 0 [] w := by
      refine ⟨.inl ⟨_, Try.underlying27⟩, fun _ => rfl, ?_, ?_, by simp, fun u hu => by simp at hu⟩ <;> cases ca <;> simp [Builtin.firstCells, loadCells, loadCellsFrom]
    refine Lib.wp_append_run_sl _ s x 27 hop _ _ hs hx (run_append_nothing _ _ _ _ 103 i0 Try.underlying27 hi _ 0 0 (Nat.le_refl _) _ hsrc) ?_
    obtain ⟨p, hp⟩ := later_of_below (Below.refl w.heap.size w)
    have h := hK (some b) 0 p fun h => absurd h (by decide)
    rw [← hp] at h
    exact h
/-- Three images in a row. -/
def Im3 (W : World) (B : Nat) (L S : Int) (n : Nat) (A : Nat → Option Addr) (c : Nat → Nat) (F : Nat → Nat → Nat × Nat) : Prop :=
  B < W.heap.size ∧ ∀ j, j < 3 → (W.cell? ⟨B, j * 3, none⟩ = some (.int .i64 L) ∧ W.cell? ⟨B, j * 3 + 1, none⟩ = some (.int .i64 S) ∧ W.cell? ⟨B, j * 3 + 2, none⟩ = some (.slice (A j) n (c j))) ∧ DatAt W n (F j) (A j)
theorem Im3.below {W W' : World} {B : Nat} {L S : Int} {n : Nat} {A : Nat → Option Addr} {c : Nat → Nat} {F : Nat → Nat → Nat × Nat} (h : Im3 W B L S n A c F) (hb : Below W.heap.size W W') : Im3 W' B L S n A c F := by
  obtain ⟨h1, h2⟩ := h
  refine ⟨by have := hb.size; omega, fun j hj => ?_⟩
  obtain ⟨⟨k0, k1, k2⟩, k3⟩ := h2 j hj
  exact ⟨⟨(hb.cell (p := ⟨B, _, none⟩) h1).trans k0, (hb.cell (p := ⟨B, _, none⟩) h1).trans k1, (hb.cell (p := ⟨B, _, none⟩) h1).trans k2⟩, k3.below hb⟩
def tri {α : Type} (a b c : α) (j : Nat) : α := if j = 0 then a else if j = 1 then b else c
theorem im3_mk {W : World} {B : Nat} {L S : Int} {n : Nat} {a b c : Option Addr} {p q r : Nat} {f g h : Nat → Nat × Nat} (hB : B < W.heap.size)
    (h0 : W.cell? ⟨B, 0, none⟩ = some (.int .i64 L)) (h1 : W.cell? ⟨B, 1, none⟩ = some (.int .i64 S)) (h2 : W.cell? ⟨B, 2, none⟩ = some (.slice a n p))
    (h3 : W.cell? ⟨B, 3, none⟩ = some (.int .i64 L)) (h4 : W.cell? ⟨B, 4, none⟩ = some (.int .i64 S)) (h5 : W.cell? ⟨B, 5, none⟩ = some (.slice b n q))
    (h6 : W.cell? ⟨B, 6, none⟩ = some (.int .i64 L)) (h7 : W.cell? ⟨B, 7, none⟩ = some (.int .i64 S)) (h8 : W.cell? ⟨B, 8, none⟩ = some (.slice c n r))
    (d0 : DatAt W n f a) (d1 : DatAt W n g b) (d2 : DatAt W n h c) : Im3 W B L S n (tri a b c) (tri p q r) (tri f g h) := by
  refine ⟨hB, fun j hj => ?_⟩
  match j, hj with
  | 0, _ => exact ⟨⟨h0, h1, h2⟩, d0⟩
  | 1, _ => exact ⟨⟨h3, h4, h5⟩, d1⟩
  | 2, _ => exact ⟨⟨h6, h7, h8⟩, d2⟩
/-- Fields in a row, as cells hold them. -/
def fldC (L S : Int) (n : Nat) : List (Option Addr × Nat) → List Value
  | [] => []
  | z :: G => .int .i64 L :: .int .i64 S :: .slice z.1 n z.2 :: fldC L S n G
theorem fldC_snoc (L S : Int) (n : Nat) (G : List (Option Addr × Nat)) (z : Option Addr × Nat) : fldC L S n (G ++ [z]) = fldC L S n G ++ [.int .i64 L, .int .i64 S, .slice z.1 n z.2] := by
  induction G with
  | nil => rfl
  | cons y G ih => simp [fldC, ih]
theorem fldC_len (L S : Int) (n : Nat) (G : List (Option Addr × Nat)) : (fldC L S n G).length = G.length * 3 := by
  induction G with
  | nil => rfl
  | cons y G ih => simp [fldC, ih]; omega
def FieldsRow (W : World) (base : Nat) (L S : Int) (n : Nat) (G : List (Option Addr × Nat)) (v : Value) : Prop := W.ownsRow base 34 3 v G.length (fldC L S n G)
theorem FieldsRow.below {W W' : World} {base : Nat} {L S : Int} {n : Nat} {G : List (Option Addr × Nat)} {v : Value} (h : FieldsRow W base L S n G v) (hb : Below W.heap.size W W') : FieldsRow W' base L S n G v :=
  h.kept (row := none) ⟨hb.os, hb.tape, hb.output, hb.size, fun k hk _ => hb.block k hk⟩ (Classical.em _)
theorem infoF : (Try.prog.info? 34).map (fun i => (i.zero, i.size, i.bytes)) = some (some (.agg #[.int .i64 0, .int .i64 0, .slice none 0 0]), 3, 40) := by kernel_rfl
/-- The row of fields is no field's data. -/
theorem OwnS.apart {W : World} {base B n m : Nat} {f : Nat → Nat × Nat} {a : Option Addr} {L S : Int} {G : List (Option Addr × Nat)} {v : Value} (h : OwnS W B n f a) (h0 : 0 < n) (hr : FieldsRow W base L S m G v) (hG : 0 < G.length) :
    ∀ g, a = some ⟨g, 0, none⟩ → v.ownBlock ≠ some g := by
  intro g hg e
  obtain ⟨g', h1, -, h3, h4⟩ := h h0
  rw [hg] at h1
  obtain rfl : g = g' := by simpa using h1
  obtain ⟨gv, cap, hv, -, -⟩ := World.ownsRow.form hr hG
  subst hv
  have e2 : gv = g := by simpa [Value.ownBlock] using e
  subst e2
  have c1 := World.ownsRow.cellAt hr 0 (by omega)
  have c2 := h4 0 h0
  rw [show (0 : Nat) + 0 = 0 from rfl] at c2
  rw [c2] at c1
  cases G with
  | nil => simp at hG
  | cons y G => simp [fldC] at c1
theorem OwnS.grown {W W' : World} {B n : Nat} {f : Nat → Nat × Nat} {a : Option Addr} {ob : Option Nat} (h : OwnS W B n f a) (hg : W.grownBy W' ob) (hne : ∀ g, a = some ⟨g, 0, none⟩ → ob ≠ some g) : OwnS W' B n f a := fun h0 => by
  obtain ⟨g, h1, h2, h3, h4⟩ := h h0
  have hb := hg.block g h3 (fun e => hne g h1 e.symm)
  refine ⟨g, h1, h2, ?_, fun k hk => ?_⟩
  · have := hg.size; omega
  · rw [← h4 k hk]
    exact World.cell?_of_block (a := ⟨g, 0 + k, none⟩) hb
end Go.Proofs.Ytelchmimhnpkaaa
