/- A range over a closure that keeps a state of its own in a cell (strings.Lines). No program in sight. (After Q3.) -/
import Derived.Test.YtkoiknmijjiicaaGreatDoorZR
namespace Go.Proofs.YtkoiknmijjiicaaGreatDoor
set_option linter.unusedVariables false
set_option linter.unusedSimpArgs false
open Go Go.RowKit
/-- The iterator's own cell. -/
def StB (W : World) (B : Nat) (v : Value) : Prop := W.cell? ⟨B, 0, none⟩ = some v ∧ W.frozen? ⟨B, 0, none⟩ = false
theorem StB.below {W W' : World} {D B : Nat} {v : Value} (h : StB W B v) (hb : Below D W W') (hB : B < D) : StB W' B v := ⟨(hb.cell (p := ⟨B, 0, none⟩) hB).trans h.1, (hb.frozen (p := ⟨B, 0, none⟩) hB).trans h.2⟩
theorem StB.set {W : World} {B : Nat} {v : Value} (h : StB W B v) (u : Value) : StB (W.setCell ⟨B, 0, none⟩ u) B u := ⟨World.cell?_setCell_same _ _ _ h.1, by simpa using h.2⟩
section
variable {F : Fence} {n : Nat} {P : Program}
/-- A closure that yields N times, if it is let, and turns its cell ahead of each yield. -/
def IterOkS (T : TypeId) (B : Nat) (st : Nat → Value) (F : Fence) (n : Nat) (P : Program) (gf : FuncId) (cap : Array Value) (N : Nat) (enc : Nat → Array Value) (W : World) : Prop :=
  ∀ (l : Nat) (J : Nat → World → Prop) (Jx : World → Prop),
    (∀ k W1 W2, J k W1 → Below W.heap.size W1 W2 → CellsSame W1 W2 → J k W2) → (∀ W1 W2, Jx W1 → Below W.heap.size W1 W2 → CellsSame W1 W2 → Jx W2) → (∀ k W1 v, J k W1 → J k (W1.setCell ⟨B, 0, none⟩ v)) →
    (∀ k W1, J k W1 → k < N → W.heap.size ≤ W1.heap.size → StB W1 B (st (k + 1)) → YieldAt F (n - 1) P l (enc k) W1 fun e W' =>
      (e = .returned (.bool true) ∧ J (k + 1) W' ∧ KeepT T W.heap.size W1 W' ∧ StB W' B (st (k + 1))) ∨ (e = .returned (.bool false) ∧ Jx W')) →
    J 0 W → StB W B (st 0) → CallsIn F n P gf (#[.func (.yield l) #[] #[]] ++ cap) W fun e W' => (∃ v, e = .returned v) ∧ (J N W' ∨ Jx W')

theorem wpIn_rangeCapS (T : TypeId) (B : Nat) (st : Nat → Value) {g : Operand} {ps : Array Tmp} {assign body : Code} {Q : Exit → Act → World → Prop} {a : Act} {w : World}
    (hro : F.round = none) (h1 : 1 ≤ n) {gf : Nat} {cap : Array Value} (hg : a.eval g = .func (.func gf) #[] cap) (hFg : F.fn gf) (eg : ∀ args w, (callFunc gf args).run P w = .ok (.enter gf args) w)
    {N : Nat} {enc : Nat → Array Value} (hps : ∀ k, (enc k).size = ps.size)
    (hseq : ∀ W, Below w.heap.size w W → IterOkS T B st F (n - 1) P gf cap N enc W)
    (I : Nat → World → Prop) (Ix : Code → World → Prop) (hI : ∀ k W1 W2, I k W1 → Below w.heap.size W1 W2 → CellsSame W1 W2 → I k W2) (hIx : ∀ c W1 W2, Ix c W1 → Below w.heap.size W1 W2 → CellsSame W1 W2 → Ix c W2) (hIB : ∀ k W v, I k W → I k (W.setCell ⟨B, 0, none⟩ v)) (hB : B < w.heap.size) (hst : StB w B (st 0)) (h0 : I 0 w) (f : Array Value → Nat → Array Value)
    (hassign : ∀ (l : Nat) (k : Nat) (W : World) (K : Act → World → Prop), K { tmps := f a.tmps k, defers := [] } W →
      assign.wpIn (F.inRound l) (n - 1 - 1) P (Exit.then K (fun _ _ _ => False)) { tmps := (ps.zip (enc k)).foldl (fun t (p, v) => t.setIfInBounds p v) a.tmps, defers := [] } W)
    (hbody : ∀ (l : Nat) (k : Nat) (W : World), I k W → k < N → w.heap.size ≤ W.heap.size → StB W B (st (k + 1)) → body.wpIn (F.inRound l) (n - 1 - 1) P (boundPostT T w.heap.size (fun W' => I (k + 1) W' ∧ StB W' B (st (k + 1))) Ix W) { tmps := f a.tmps k, defers := [] } W)
    (hdone : ∀ (W : World), I N W → W.heap[w.heap.size]? = some (.deferred (some [])) → Q .normal { a with defers := { target := .collected w.heap.size, args := #[] } :: a.defers } W)
    (hstop : ∀ (c : Code) (W : World), Ix c W → W.heap[w.heap.size]? = some (.deferred (some [])) → c.wpIn F n P Q { a with defers := { target := .collected w.heap.size, args := #[] } :: a.defers } W) :
    (Code.rangeFunc g ps assign body).wpIn F n P Q a w := by
  refine wpIn_rangeFunc ?_
  intro fn hfn
  rw [hro]
  obtain ⟨rec, hrec⟩ : ∃ rec : LoopState → Option Code → Loop, rec = fun st pe => { state := st, pending := pe, fn, tmps := a.tmps, params := ps, assign, body, defers := w.heap.size } := ⟨_, rfl⟩
  obtain ⟨W1, hW1⟩ : ∃ W1, (w.alloc (.deferred (some []))).alloc (.loop (rec .ready none)) = W1 := ⟨_, rfl⟩
  have hz1 : W1.heap.size = w.heap.size + 2 := by rw [← hW1]; simp
  have hL1 : W1.heap[w.heap.size + 1]? = some (.loop (rec .ready none)) := by
    rw [← hW1]; have := World.alloc_heap_new (w.alloc (.deferred (some []))) (.loop (rec .ready none)); rwa [World.size_alloc] at this
  have hK1 : W1.heap[w.heap.size]? = some (.deferred (some [])) := by
    rw [← hW1]; exact (Below.heap_alloc _ _ _ (by simp)).trans (World.alloc_heap_new w _)
  have hb1 : Below w.heap.size w W1 := by
    rw [← hW1]; exact ((Below.refl _ w).alloc (Nat.le_refl _) _).alloc (by simp) _
  refine ⟨w.heap.size + 1, [{ target := .collected w.heap.size, args := #[] }], W1, { target := .fn (.func gf) cap, args := #[.func (.yield (w.heap.size + 1)) #[] #[]] }, W1, gf,
    #[.func (.yield (w.heap.size + 1)) #[] #[]] ++ cap, W1, ?_, ?_, ?_, ?_, fun _ => h1, ?_⟩
  · rw [← hW1, hrec]; exact run_enterLoop_outer _ _ _ _ _
  · simp only [resolve, hg]
    simp [go_sem]
  · intro f' hf'; simp [Target.leads] at hf'; subst hf'; exact hFg
  · simp [invoke, go_sem, eg]
  · refine ((hseq W1 hb1) (w.heap.size + 1)
      (fun k W => I k W ∧ W.heap[w.heap.size + 1]? = some (.loop (rec .ready none)) ∧ W.heap[w.heap.size]? = some (.deferred (some [])))
      (fun W => ∃ c, Ix c W ∧ W.heap[w.heap.size + 1]? = some (.loop (rec .done (some c))) ∧ W.heap[w.heap.size]? = some (.deferred (some [])))
      (fun k A B hs hb hc => ⟨hI k A B hs.1 (hb.mono (by omega)) hc, (hb.block _ (by omega)).trans hs.2.1, (hb.block _ (by omega)).trans hs.2.2⟩)
      (fun A B hs hb hc' => by
        obtain ⟨c, hc, hl, hk⟩ := hs
        exact ⟨c, hIx c A B hc (hb.mono (by omega)) hc', (hb.block _ (by omega)).trans hl, (hb.block _ (by omega)).trans hk⟩)
      (fun k A v hs => ⟨hIB k A v hs.1, (Below.heap_setCell _ _ _ _ (by simp; omega)).trans hs.2.1, (Below.heap_setCell _ _ _ _ (by simp; omega)).trans hs.2.2⟩) ?_ ⟨hI 0 _ _ h0 hb1 (CellsSame.below hb1), hL1, hK1⟩ (hst.below hb1 hB)).mono ?_
    · rintro k W ⟨hi, hl, hk⟩ hkN hWs hsB
      have hlt : w.heap.size + 1 < W.heap.size := (Array.getElem?_eq_some_iff.1 hl).1
      have hy := run_yield (P := P) (args := enc k) hl (by rw [hrec]; simp [hps k])
      rw [hrec] at hy
      refine ⟨fn, _, assign, body, hy, roundIn_of_wpIn hfn (hassign _ k W _ ⟨_, run_beginRound hl (by rw [hrec]), ?_⟩)⟩
      obtain ⟨Wb, hWb⟩ : ∃ Wb, W.putObj (w.heap.size + 1) (.loop { rec .ready none with state := .busy }) = Wb := ⟨_, rfl⟩
      have hl2 : Wb.heap[w.heap.size + 1]? = some (.loop { rec .ready none with state := .busy }) := by rw [← hWb]; exact World.putObj_heap_same hlt
      have hk2 : Wb.heap[w.heap.size]? = some (.deferred (some [])) := by rw [← hWb]; exact (World.putObj_heap_other (by omega)).trans hk
      have hbb : Below w.heap.size W Wb := by rw [← hWb]; exact below_putObj (by omega) _
      have hWz : Wb.heap.size = W.heap.size := by rw [← hWb]; simp
      have hkt : KeepT T W1.heap.size W Wb := ⟨by omega, fun i h1 _ _ => by rw [← hWb]; exact World.putObj_heap_other (by omega)⟩
      rw [hWb]
      refine wpIn_mono (hbody _ k _ (hI k _ _ hi hbb (by rw [← hWb]; exact CellsSame.putObj hl _)) hkN (by omega) (hsB.below hbb hB)) ?_
      have fin : ∀ (jump : Option Code) (W3 : World), KeepT T w.heap.size Wb W3 →
          (Instr.endRound (w.heap.size + 1) jump).run P W3 = .ok (.bool jump.isNone) (W3.putObj (w.heap.size + 1) (.loop (rec (if jump.isNone then .ready else .done) jump))) ∧
          Below w.heap.size W3 (W3.putObj (w.heap.size + 1) (.loop (rec (if jump.isNone then .ready else .done) jump))) ∧
          (W3.putObj (w.heap.size + 1) (.loop (rec (if jump.isNone then .ready else .done) jump))).heap[w.heap.size + 1]? = some (.loop (rec (if jump.isNone then .ready else .done) jump)) ∧
          (W3.putObj (w.heap.size + 1) (.loop (rec (if jump.isNone then .ready else .done) jump))).heap[w.heap.size]? = some (.deferred (some [])) ∧
          KeepT T W1.heap.size W (W3.putObj (w.heap.size + 1) (.loop (rec (if jump.isNone then .ready else .done) jump))) ∧ CellsSame W3 (W3.putObj (w.heap.size + 1) (.loop (rec (if jump.isNone then .ready else .done) jump))) := fun jump W3 hk3 => by
        have hl3 := (hk3.same _ (by omega) (by omega) (fun cs fr h => by rw [hl2] at h; cases h)).trans hl2
        have := run_endRound (P := P) jump hl3
        rw [hrec] at this ⊢
        refine ⟨this, below_putObj (by omega) _, World.putObj_heap_same (Array.getElem?_eq_some_iff.1 hl3).1, (World.putObj_heap_other (by omega)).trans ((hk3.same _ (by omega) (by omega) (fun cs fr h => by rw [hk2] at h; cases h)).trans hk2), ?_, CellsSame.putObj hl3 _⟩
        refine hkt.trans ((hk3.mono (by omega)).trans ⟨by simp, fun i h1 _ _ => World.putObj_heap_other (by omega)⟩)
      rintro e a3 W3 hp
      cases e with
      | normal =>
        obtain ⟨hk3, hi3⟩ := hp
        obtain ⟨hr, hb3, hl4, hk4, ht, hcs⟩ := fin none W3 hk3
        exact ⟨_, _, hr, .inl ⟨rfl, ⟨hI _ _ _ hi3.1 hb3 hcs, hl4, hk4⟩, ht, hi3.2.below hb3 hB⟩⟩
      | ret =>
        obtain ⟨hk3, hi3⟩ := hp
        obtain ⟨hr, hb3, hl4, hk4, ht, hcs⟩ := fin (some .ret) W3 hk3
        exact ⟨_, _, hr, .inr ⟨rfl, .ret, hIx _ _ _ hi3 hb3 hcs, hl4, hk4⟩⟩
      | exit id =>
        obtain ⟨hk3, hi3⟩ := hp
        obtain ⟨hr, hb3, hl4, hk4, ht, hcs⟩ := fin (some (.exit id)) W3 hk3
        exact ⟨_, _, hr, .inr ⟨rfl, .exit id, hIx _ _ _ hi3 hb3 hcs, hl4, hk4⟩⟩
      | goto t =>
        obtain ⟨hk3, hi3⟩ := hp
        obtain ⟨hr, hb3, hl4, hk4, ht, hcs⟩ := fin (some (.goto t)) W3 hk3
        exact ⟨_, _, hr, .inr ⟨rfl, .goto t, hIx _ _ _ hi3 hb3 hcs, hl4, hk4⟩⟩
      | panic ch => exact hp.elim
      | outgrown => exact hp.elim
    · rintro e W2 ⟨⟨v, rfl⟩, (⟨hi, hl, hk⟩ | ⟨c, hi, hl, hk⟩)⟩
      · exact ⟨none, _, by have := run_endLoop (P := P) hl (by rw [hrec]; simp); rw [hrec] at this; exact this, hdone _ (hI _ _ _ hi (below_putObj (by omega) _) (CellsSame.putObj hl _)) ((World.putObj_heap_other (by omega)).trans hk)⟩
      · exact ⟨some c, _, by have := run_endLoop (P := P) hl (by rw [hrec]; simp); rw [hrec] at this; exact this, hstop c _ (hIx _ _ _ hi (below_putObj (by omega) _) (CellsSame.putObj hl _)) ((World.putObj_heap_other (by omega)).trans hk)⟩
end
end Go.Proofs.YtkoiknmijjiicaaGreatDoor
