/- A range over a method value (a function with a bound receiver): one law, over an iterator that yields so many times. No program in sight. -/
import Derived.RangeFuncNested
import Derived.RangeFuncLeaves
import Derived.Test.YthnfepfbkmafaaaL1
namespace Go.Proofs.Ythnfepfbkmafaaa
set_option linter.unusedVariables false
open Go Go.RowKit
variable {F : Fence} {n : Nat} {P : Program}

/-! In a round's frame an operation other than 'defer' does what it does elsewhere. -/
@[go_sem] theorem semAt_move (l : Nat) (ρ : Operand → Value) (d : Option Tmp) (x : Operand) (ty : TypeId) (pos : String) (af : Array Edge) (g : Option (Nat × Bool)) : Oper.semAt (some l) ρ ⟨d, .move x, ty, pos, af, g⟩ = execOp ρ ⟨d, .move x, ty, pos, af, g⟩ := rfl
@[go_sem] theorem semAt_assign (l : Nat) (ρ : Operand → Value) (d : Option Tmp) (x : Operand) (ty : TypeId) (pos : String) (af : Array Edge) (g : Option (Nat × Bool)) : Oper.semAt (some l) ρ ⟨d, .assign x, ty, pos, af, g⟩ = execOp ρ ⟨d, .assign x, ty, pos, af, g⟩ := rfl
@[go_sem] theorem semAt_pick (l : Nat) (ρ : Operand → Value) (d : Option Tmp) (c : Operand) (a : Operand) (b : Operand) (ty : TypeId) (pos : String) (af : Array Edge) (g : Option (Nat × Bool)) : Oper.semAt (some l) ρ ⟨d, .pick c a b, ty, pos, af, g⟩ = execOp ρ ⟨d, .pick c a b, ty, pos, af, g⟩ := rfl
@[go_sem] theorem semAt_alloc (l : Nat) (ρ : Operand → Value) (d : Option Tmp) (e : TypeId) (ty : TypeId) (pos : String) (af : Array Edge) (g : Option (Nat × Bool)) : Oper.semAt (some l) ρ ⟨d, .alloc e, ty, pos, af, g⟩ = execOp ρ ⟨d, .alloc e, ty, pos, af, g⟩ := rfl
@[go_sem] theorem semAt_box (l : Nat) (ρ : Operand → Value) (d : Option Tmp) (e : TypeId) (v : Operand) (ty : TypeId) (pos : String) (af : Array Edge) (g : Option (Nat × Bool)) : Oper.semAt (some l) ρ ⟨d, .box e v, ty, pos, af, g⟩ = execOp ρ ⟨d, .box e v, ty, pos, af, g⟩ := rfl
@[go_sem] theorem semAt_build (l : Nat) (ρ : Operand → Value) (d : Option Tmp) (t : TypeId) (ps : Array (Nat × Operand)) (ty : TypeId) (pos : String) (af : Array Edge) (g : Option (Nat × Bool)) : Oper.semAt (some l) ρ ⟨d, .build t ps, ty, pos, af, g⟩ = execOp ρ ⟨d, .build t ps, ty, pos, af, g⟩ := rfl
@[go_sem] theorem semAt_buildSlice (l : Nat) (ρ : Operand → Value) (d : Option Tmp) (t : TypeId) (n : Nat) (ps : Array (Nat × Operand)) (ty : TypeId) (pos : String) (af : Array Edge) (g : Option (Nat × Bool)) : Oper.semAt (some l) ρ ⟨d, .buildSlice t n ps, ty, pos, af, g⟩ = execOp ρ ⟨d, .buildSlice t n ps, ty, pos, af, g⟩ := rfl
@[go_sem] theorem semAt_load (l : Nat) (ρ : Operand → Value) (d : Option Tmp) (t : TypeId) (x : Operand) (ty : TypeId) (pos : String) (af : Array Edge) (g : Option (Nat × Bool)) : Oper.semAt (some l) ρ ⟨d, .load t x, ty, pos, af, g⟩ = execOp ρ ⟨d, .load t x, ty, pos, af, g⟩ := rfl
@[go_sem] theorem semAt_store (l : Nat) (ρ : Operand → Value) (d : Option Tmp) (t : TypeId) (x : Operand) (y : Operand) (ty : TypeId) (pos : String) (af : Array Edge) (g : Option (Nat × Bool)) : Oper.semAt (some l) ρ ⟨d, .store t x y, ty, pos, af, g⟩ = execOp ρ ⟨d, .store t x y, ty, pos, af, g⟩ := rfl
@[go_sem] theorem semAt_binOp (l : Nat) (ρ : Operand → Value) (d : Option Tmp) (op : BinOp) (t : TypeId) (x : Operand) (y : Operand) (u : TypeId) (ty : TypeId) (pos : String) (af : Array Edge) (g : Option (Nat × Bool)) : Oper.semAt (some l) ρ ⟨d, .binOp op t x y u, ty, pos, af, g⟩ = execOp ρ ⟨d, .binOp op t x y u, ty, pos, af, g⟩ := rfl
@[go_sem] theorem semAt_unOp (l : Nat) (ρ : Operand → Value) (d : Option Tmp) (op : UnOp) (t : TypeId) (x : Operand) (ty : TypeId) (pos : String) (af : Array Edge) (g : Option (Nat × Bool)) : Oper.semAt (some l) ρ ⟨d, .unOp op t x, ty, pos, af, g⟩ = execOp ρ ⟨d, .unOp op t x, ty, pos, af, g⟩ := rfl
@[go_sem] theorem semAt_convert (l : Nat) (ρ : Operand → Value) (d : Option Tmp) (s : TypeId) (t : TypeId) (x : Operand) (ty : TypeId) (pos : String) (af : Array Edge) (g : Option (Nat × Bool)) : Oper.semAt (some l) ρ ⟨d, .convert s t x, ty, pos, af, g⟩ = execOp ρ ⟨d, .convert s t x, ty, pos, af, g⟩ := rfl
@[go_sem] theorem semAt_makeSlice (l : Nat) (ρ : Operand → Value) (d : Option Tmp) (t : TypeId) (x : Operand) (y : Operand) (ty : TypeId) (pos : String) (af : Array Edge) (g : Option (Nat × Bool)) : Oper.semAt (some l) ρ ⟨d, .makeSlice t x y, ty, pos, af, g⟩ = execOp ρ ⟨d, .makeSlice t x y, ty, pos, af, g⟩ := rfl
@[go_sem] theorem semAt_slice (l : Nat) (ρ : Operand → Value) (d : Option Tmp) (t : TypeId) (x : Operand) (lo : Option Operand) (hi : Option Operand) (m : Option Operand) (ty : TypeId) (pos : String) (af : Array Edge) (g : Option (Nat × Bool)) : Oper.semAt (some l) ρ ⟨d, .slice t x lo hi m, ty, pos, af, g⟩ = execOp ρ ⟨d, .slice t x lo hi m, ty, pos, af, g⟩ := rfl
@[go_sem] theorem semAt_fieldAddr (l : Nat) (ρ : Operand → Value) (d : Option Tmp) (t : TypeId) (x : Operand) (f : Nat) (ty : TypeId) (pos : String) (af : Array Edge) (g : Option (Nat × Bool)) : Oper.semAt (some l) ρ ⟨d, .fieldAddr t x f, ty, pos, af, g⟩ = execOp ρ ⟨d, .fieldAddr t x f, ty, pos, af, g⟩ := rfl
@[go_sem] theorem semAt_field (l : Nat) (ρ : Operand → Value) (d : Option Tmp) (t : TypeId) (x : Operand) (f : Nat) (ty : TypeId) (pos : String) (af : Array Edge) (g : Option (Nat × Bool)) : Oper.semAt (some l) ρ ⟨d, .field t x f, ty, pos, af, g⟩ = execOp ρ ⟨d, .field t x f, ty, pos, af, g⟩ := rfl
@[go_sem] theorem semAt_indexAddr (l : Nat) (ρ : Operand → Value) (d : Option Tmp) (t : TypeId) (x : Operand) (y : Operand) (ty : TypeId) (pos : String) (af : Array Edge) (g : Option (Nat × Bool)) : Oper.semAt (some l) ρ ⟨d, .indexAddr t x y, ty, pos, af, g⟩ = execOp ρ ⟨d, .indexAddr t x y, ty, pos, af, g⟩ := rfl
@[go_sem] theorem semAt_index (l : Nat) (ρ : Operand → Value) (d : Option Tmp) (t : TypeId) (x : Operand) (y : Operand) (ty : TypeId) (pos : String) (af : Array Edge) (g : Option (Nat × Bool)) : Oper.semAt (some l) ρ ⟨d, .index t x y, ty, pos, af, g⟩ = execOp ρ ⟨d, .index t x y, ty, pos, af, g⟩ := rfl
@[go_sem] theorem semAt_extract (l : Nat) (ρ : Operand → Value) (d : Option Tmp) (x : Operand) (f : Nat) (ty : TypeId) (pos : String) (af : Array Edge) (g : Option (Nat × Bool)) : Oper.semAt (some l) ρ ⟨d, .extract x f, ty, pos, af, g⟩ = execOp ρ ⟨d, .extract x f, ty, pos, af, g⟩ := rfl
@[go_sem] theorem semAt_call (l : Nat) (ρ : Operand → Value) (d : Option Tmp) (c : Call) (ty : TypeId) (pos : String) (af : Array Edge) (g : Option (Nat × Bool)) : Oper.semAt (some l) ρ ⟨d, .call c, ty, pos, af, g⟩ = execOp ρ ⟨d, .call c, ty, pos, af, g⟩ := rfl

/-- Every block from B on lies as it lay. -/
structure KeepTop (B : Nat) (W W' : World) : Prop where
  size : W.heap.size ≤ W'.heap.size
  same : ∀ k, B ≤ k → k < W.heap.size → W'.heap[k]? = W.heap[k]?
theorem KeepTop.refl (B : Nat) (W : World) : KeepTop B W W := ⟨Nat.le_refl _, fun _ _ _ => rfl⟩
theorem KeepTop.trans {B : Nat} {X Y Z : World} (h : KeepTop B X Y) (k : KeepTop B Y Z) : KeepTop B X Z :=
  ⟨Nat.le_trans h.size k.size, fun i h1 h2 => (k.same i h1 (Nat.lt_of_lt_of_le h2 h.size)).trans (h.same i h1 h2)⟩
theorem KeepTop.mono {B B' : Nat} {X Y : World} (h : KeepTop B X Y) (hB : B ≤ B') : KeepTop B' X Y := ⟨h.size, fun i h1 h2 => h.same i (by omega) h2⟩
theorem KeepTop.below {B : Nat} {X Y : World} (h : Below X.heap.size X Y) : KeepTop B X Y := ⟨h.size, fun i _ h2 => h.block i h2⟩
theorem KeepTop.setCell {B : Nat} {X Y : World} (h : KeepTop B X Y) {p : Addr} (hp : p.block < B) (v : Value) : KeepTop B X (Y.setCell p v) :=
  ⟨by simpa [World.setCell] using h.size, fun i h1 h2 => (Below.heap_setCell _ _ _ _ (by omega)).trans (h.same i h1 h2)⟩

/-- An iterator with a bound receiver that yields N times, if it is let. -/
def IterOk (F : Fence) (n : Nat) (P : Program) (gf : FuncId) (bound : Array Value) (N : Nat) (enc : Nat → Array Value) (W : World) : Prop :=
  ∀ (l : Nat) (J : Nat → World → Prop) (Jx : World → Prop),
    (∀ k W1 W2, J k W1 → Below W.heap.size W1 W2 → J k W2) → (∀ W1 W2, Jx W1 → Below W.heap.size W1 W2 → Jx W2) →
    (∀ k W1, J k W1 → k < N → W.heap.size ≤ W1.heap.size → YieldAt F (n - 1) P l (enc k) W1 fun e W' =>
      (e = .returned (.bool true) ∧ J (k + 1) W' ∧ KeepTop W.heap.size W1 W') ∨ (e = .returned (.bool false) ∧ Jx W')) →
    J 0 W → CallsIn F n P gf (bound ++ #[.func (.yield l) #[] #[]]) W fun e W' => (∃ v, e = .returned v) ∧ (J N W' ∨ Jx W')

/-- How a round may be left. -/
def boundPost (B : Nat) (I : World → Prop) (Ix : Code → World → Prop) (W : World) : Exit → Act → World → Prop
  | .normal, _, W' => KeepTop B W W' ∧ I W'
  | .ret, _, W' => KeepTop B W W' ∧ Ix .ret W'
  | .exit id, _, W' => KeepTop B W W' ∧ Ix (.exit id) W'
  | .goto t, _, W' => KeepTop B W W' ∧ Ix (.goto t) W'
  | .panic _, _, _ => False
  | .outgrown, _, _ => False

theorem below_putObj {B : Nat} {W : World} {l : Nat} (hl : B ≤ l) (o : Obj) : Below B W (W.putObj l o) :=
  ⟨rfl, rfl, rfl, by simp, fun k hk => World.putObj_heap_other (by omega)⟩

theorem wpIn_rangeBound {g : Operand} {ps : Array Tmp} {assign body : Code} {Q : Exit → Act → World → Prop} {a : Act} {w : World}
    (hro : F.round = none) (h1 : 1 ≤ n) {gf : Nat} {bound : Array Value} (hg : a.eval g = .func (.func gf) bound #[]) (hFg : F.fn gf) (eg : ∀ args w, (callFunc gf args).run P w = .ok (.enter gf args) w)
    {N : Nat} {enc : Nat → Array Value} (hps : ∀ k, (enc k).size = ps.size)
    (hseq : ∀ W, Below w.heap.size w W → IterOk F (n - 1) P gf bound N enc W)
    (I : Nat → World → Prop) (Ix : Code → World → Prop) (hI : ∀ k W1 W2, I k W1 → Below w.heap.size W1 W2 → I k W2) (hIx : ∀ c W1 W2, Ix c W1 → Below w.heap.size W1 W2 → Ix c W2) (h0 : I 0 w) (f : Array Value → Nat → Array Value)
    (hassign : ∀ (l : Nat) (k : Nat) (W : World) (K : Act → World → Prop), K { tmps := f a.tmps k, defers := [] } W →
      assign.wpIn (F.inRound l) (n - 1 - 1) P (Exit.then K (fun _ _ _ => False)) { tmps := (ps.zip (enc k)).foldl (fun t (p, v) => t.setIfInBounds p v) a.tmps, defers := [] } W)
    (hbody : ∀ (l : Nat) (k : Nat) (W : World), I k W → k < N → w.heap.size ≤ W.heap.size → body.wpIn (F.inRound l) (n - 1 - 1) P (boundPost w.heap.size (I (k + 1)) Ix W) { tmps := f a.tmps k, defers := [] } W)
    (hdone : ∀ (W : World), I N W → W.heap[w.heap.size]? = some (.deferred (some [])) → Q .normal { a with defers := { target := .collected w.heap.size, args := #[] } :: a.defers } W)
    (hstop : ∀ (c : Code) (W : World), Ix c W → W.heap[w.heap.size]? = some (.deferred (some [])) → c.wpIn F n P Q { a with defers := { target := .collected w.heap.size, args := #[] } :: a.defers } W) :
    (Code.rangeFunc g ps assign body).wpIn F n P Q a w := by
  refine wpIn_rangeFunc ?_
  intro fn hfn
  rw [hro]
  obtain ⟨rec, hrec⟩ : ∃ rec : LoopState → Option Code → Loop, rec = fun st pe => { state := st, pending := pe, fn, tmps := a.tmps, params := ps, assign, body, defers := w.heap.size } := ⟨_, rfl⟩
  obtain ⟨W1, hW1⟩ : ∃ W1, (w.alloc (.deferred (some []))).alloc (.loop (rec .ready none)) = W1 := ⟨_, rfl⟩
  have hz1 : W1.heap.size = w.heap.size + 2 := by rw [← hW1]; simp
  have hL1 : W1.heap[w.heap.size + 1]? = some (.loop (rec .ready none)) := by
    rw [← hW1]; have := World.alloc_heap_new (w.alloc (.deferred (some []))) (.loop (rec .ready none)); rwa [World.size_alloc] at this
  have hK1 : W1.heap[w.heap.size]? = some (.deferred (some [])) := by
    rw [← hW1]; exact (Below.heap_alloc _ _ _ (by simp)).trans (World.alloc_heap_new w _)
  have hb1 : Below w.heap.size w W1 := by
    rw [← hW1]; exact ((Below.refl _ w).alloc (Nat.le_refl _) _).alloc (by simp) _
  refine ⟨w.heap.size + 1, [{ target := .collected w.heap.size, args := #[] }], W1, { target := .fn (.func gf) #[], args := bound ++ #[.func (.yield (w.heap.size + 1)) #[] #[]] }, W1, gf,
    bound ++ #[.func (.yield (w.heap.size + 1)) #[] #[]], W1, ?_, ?_, ?_, ?_, fun _ => h1, ?_⟩
  · rw [← hW1, hrec]; exact run_enterLoop_outer _ _ _ _ _
  · simp only [resolve, hg]
    simp [go_sem]
  · intro f' hf'; simp [Target.leads] at hf'; subst hf'; exact hFg
  · simp [invoke, go_sem, eg]
  · refine ((hseq W1 hb1) (w.heap.size + 1)
      (fun k W => I k W ∧ W.heap[w.heap.size + 1]? = some (.loop (rec .ready none)) ∧ W.heap[w.heap.size]? = some (.deferred (some [])))
      (fun W => ∃ c, Ix c W ∧ W.heap[w.heap.size + 1]? = some (.loop (rec .done (some c))) ∧ W.heap[w.heap.size]? = some (.deferred (some [])))
      (fun k A B hs hb => ⟨hI k A B hs.1 (hb.mono (by omega)), (hb.block _ (by omega)).trans hs.2.1, (hb.block _ (by omega)).trans hs.2.2⟩)
      (fun A B hs hb => by
        obtain ⟨c, hc, hl, hk⟩ := hs
        exact ⟨c, hIx c A B hc (hb.mono (by omega)), (hb.block _ (by omega)).trans hl, (hb.block _ (by omega)).trans hk⟩)
      ?_ ⟨hI 0 _ _ h0 hb1, hL1, hK1⟩).mono ?_
    · rintro k W ⟨hi, hl, hk⟩ hkN hWs
      have hlt : w.heap.size + 1 < W.heap.size := (Array.getElem?_eq_some_iff.1 hl).1
      have hy := run_yield (P := P) (args := enc k) hl (by rw [hrec]; simp [hps k])
      rw [hrec] at hy
      refine ⟨fn, _, assign, body, hy, roundIn_of_wpIn hfn (hassign _ k W _ ⟨_, run_beginRound hl (by rw [hrec]), ?_⟩)⟩
      obtain ⟨Wb, hWb⟩ : ∃ Wb, W.putObj (w.heap.size + 1) (.loop { rec .ready none with state := .busy }) = Wb := ⟨_, rfl⟩
      have hl2 : Wb.heap[w.heap.size + 1]? = some (.loop { rec .ready none with state := .busy }) := by rw [← hWb]; exact World.putObj_heap_same hlt
      have hk2 : Wb.heap[w.heap.size]? = some (.deferred (some [])) := by rw [← hWb]; exact (World.putObj_heap_other (by omega)).trans hk
      have hbb : Below w.heap.size W Wb := by rw [← hWb]; exact below_putObj (by omega) _
      have hWz : Wb.heap.size = W.heap.size := by rw [← hWb]; simp
      have hkt : KeepTop W1.heap.size W Wb := ⟨by omega, fun i h1 _ => by rw [← hWb]; exact World.putObj_heap_other (by omega)⟩
      rw [hWb]
      refine wpIn_mono (hbody _ k _ (hI k _ _ hi hbb) hkN (by omega)) ?_
      have fin : ∀ (jump : Option Code) (W3 : World), KeepTop w.heap.size Wb W3 →
          (Instr.endRound (w.heap.size + 1) jump).run P W3 = .ok (.bool jump.isNone) (W3.putObj (w.heap.size + 1) (.loop (rec (if jump.isNone then .ready else .done) jump))) ∧
          Below w.heap.size W3 (W3.putObj (w.heap.size + 1) (.loop (rec (if jump.isNone then .ready else .done) jump))) ∧
          (W3.putObj (w.heap.size + 1) (.loop (rec (if jump.isNone then .ready else .done) jump))).heap[w.heap.size + 1]? = some (.loop (rec (if jump.isNone then .ready else .done) jump)) ∧
          (W3.putObj (w.heap.size + 1) (.loop (rec (if jump.isNone then .ready else .done) jump))).heap[w.heap.size]? = some (.deferred (some [])) ∧
          KeepTop W1.heap.size W (W3.putObj (w.heap.size + 1) (.loop (rec (if jump.isNone then .ready else .done) jump))) := fun jump W3 hk3 => by
        have hl3 := (hk3.same _ (by omega) (by omega)).trans hl2
        have := run_endRound (P := P) jump hl3
        rw [hrec] at this ⊢
        refine ⟨this, below_putObj (by omega) _, World.putObj_heap_same (Array.getElem?_eq_some_iff.1 hl3).1, (World.putObj_heap_other (by omega)).trans ((hk3.same _ (by omega) (by omega)).trans hk2), ?_⟩
        refine hkt.trans ((hk3.mono (by omega)).trans ⟨by simp, fun i h1 _ => World.putObj_heap_other (by omega)⟩)
      rintro e a3 W3 hp
      cases e with
      | normal =>
        obtain ⟨hk3, hi3⟩ := hp
        obtain ⟨hr, hb3, hl4, hk4, ht⟩ := fin none W3 hk3
        exact ⟨_, _, hr, .inl ⟨rfl, ⟨hI _ _ _ hi3 hb3, hl4, hk4⟩, ht⟩⟩
      | ret =>
        obtain ⟨hk3, hi3⟩ := hp
        obtain ⟨hr, hb3, hl4, hk4, ht⟩ := fin (some .ret) W3 hk3
        exact ⟨_, _, hr, .inr ⟨rfl, .ret, hIx _ _ _ hi3 hb3, hl4, hk4⟩⟩
      | exit id =>
        obtain ⟨hk3, hi3⟩ := hp
        obtain ⟨hr, hb3, hl4, hk4, ht⟩ := fin (some (.exit id)) W3 hk3
        exact ⟨_, _, hr, .inr ⟨rfl, .exit id, hIx _ _ _ hi3 hb3, hl4, hk4⟩⟩
      | goto t =>
        obtain ⟨hk3, hi3⟩ := hp
        obtain ⟨hr, hb3, hl4, hk4, ht⟩ := fin (some (.goto t)) W3 hk3
        exact ⟨_, _, hr, .inr ⟨rfl, .goto t, hIx _ _ _ hi3 hb3, hl4, hk4⟩⟩
      | panic ch => exact hp.elim
      | outgrown => exact hp.elim
    · rintro e W2 ⟨⟨v, rfl⟩, (⟨hi, hl, hk⟩ | ⟨c, hi, hl, hk⟩)⟩
      · exact ⟨none, _, by have := run_endLoop (P := P) hl (by rw [hrec]; simp); rw [hrec] at this; exact this, hdone _ (hI _ _ _ hi (below_putObj (by omega) _)) ((World.putObj_heap_other (by omega)).trans hk)⟩
      · exact ⟨some c, _, by have := run_endLoop (P := P) hl (by rw [hrec]; simp); rw [hrec] at this; exact this, hstop c _ (hIx _ _ _ hi (below_putObj (by omega) _)) ((World.putObj_heap_other (by omega)).trans hk)⟩
end Go.Proofs.Ythnfepfbkmafaaa
