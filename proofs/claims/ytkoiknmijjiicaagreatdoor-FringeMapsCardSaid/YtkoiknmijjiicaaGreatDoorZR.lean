import Derived.Test.YtkoiknmijjiicaaGreatDoorZL
import Derived.StillTail
import Derived.Test.YtkoiknmijjiicaaGreatDoorZQ
import Derived.TacticsIn
import Derived.BigFrameIn
import Derived.OwnWalkIn
import Derived.TacticsInMore
import Derived.LoopNIn
import Derived.LoopIn
/- A range over a closure (a function that has captured), whose rounds may write rows of one type: one law, over an iterator that yields so many times. No program in sight. (After C7 of wip/ground.) -/
namespace Go.Proofs.YtkoiknmijjiicaaGreatDoor
set_option linter.unusedVariables false
set_option linter.unusedSimpArgs false
open Go Go.RowKit
section
variable {F : Fence} {n : Nat} {P : Program}
/-- Every block from B on that is no row of type T lies as it lay. -/
structure KeepT (T : TypeId) (B : Nat) (W W' : World) : Prop where
  size : W.heap.size ≤ W'.heap.size
  same : ∀ k, B ≤ k → k < W.heap.size → (∀ cs fr, W.heap[k]? ≠ some (.cells cs T fr)) → W'.heap[k]? = W.heap[k]?
theorem KeepT.refl {T : TypeId} (B : Nat) (W : World) : KeepT T B W W := ⟨Nat.le_refl _, fun _ _ _ _ => rfl⟩
theorem KeepT.trans {T : TypeId} {B : Nat} {X Y Z : World} (h : KeepT T B X Y) (k : KeepT T B Y Z) : KeepT T B X Z :=
  ⟨Nat.le_trans h.size k.size, fun i h1 h2 h3 => by
    have e := h.same i h1 h2 h3
    exact (k.same i h1 (Nat.lt_of_lt_of_le h2 h.size) (fun cs fr h => h3 cs fr (by rw [← e]; exact h))).trans e⟩
theorem KeepT.mono {T : TypeId} {B B' : Nat} {X Y : World} (h : KeepT T B X Y) (hB : B ≤ B') : KeepT T B' X Y := ⟨h.size, fun i h1 h2 h3 => h.same i (by omega) h2 h3⟩
theorem KeepT.below {T : TypeId} {B : Nat} {X Y : World} (h : Below X.heap.size X Y) : KeepT T B X Y := ⟨h.size, fun i _ h2 _ => h.block i h2⟩
theorem KeepT.setCell {T : TypeId} {B : Nat} {X Y : World} (h : KeepT T B X Y) {p : Addr} (hp : p.block < B) (v : Value) : KeepT T B X (Y.setCell p v) :=
  ⟨by simpa [World.setCell] using h.size, fun i h1 h2 h3 => (Below.heap_setCell _ _ _ _ (by omega)).trans (h.same i h1 h2 h3)⟩
/-- Every row of cells lies as it lay. -/
def CellsSame (W W' : World) : Prop := ∀ (k : Nat) (cs : Array Value) (T : TypeId) (fr : Nat × Nat), W.heap[k]? = some (Obj.cells cs T fr) → W'.heap[k]? = some (Obj.cells cs T fr)
theorem CellsSame.below {W W' : World} (h : Below W.heap.size W W') : CellsSame W W' := fun k _ _ _ e => (h.block k (Array.getElem?_eq_some_iff.1 e).1).trans e
theorem CellsSame.putObj {W : World} {l : Nat} {lp : Loop} (h : W.heap[l]? = some (.loop lp)) (o : Obj) : CellsSame W (W.putObj l o) := fun k cs T fr e => by
  refine (World.putObj_heap_other ?_).trans e
  rintro rfl
  rw [h] at e
  cases e
theorem ownsRow_same {w w' : World} {base e size n : Nat} {v : Value} {xs : List Value} (h : w.ownsRow base e size v n xs) (hw : CellsSame w w') : w'.ownsRow base e size v n xs := by
  obtain ⟨h1, h2 | ⟨g, cap, cur, h3, h4, h5, h6⟩⟩ := h
  · exact ⟨h1, Or.inl h2⟩
  · exact ⟨h1, Or.inr ⟨g, cap, cur, h3, h4, hw _ _ _ _ h5, h6⟩⟩
/-- A closure that yields N times, if it is let. -/
def IterOkT (T : TypeId) (S : World → Prop) (F : Fence) (n : Nat) (P : Program) (gf : FuncId) (cap : Array Value) (N : Nat) (enc : Nat → Array Value) (W : World) : Prop :=
  ∀ (l : Nat) (J : Nat → World → Prop) (Jx : World → Prop),
    (∀ k W1 W2, J k W1 → Below W.heap.size W1 W2 → CellsSame W1 W2 → J k W2) → (∀ W1 W2, Jx W1 → Below W.heap.size W1 W2 → CellsSame W1 W2 → Jx W2) → (∀ k W1, J k W1 → S W1) →
    (∀ k W1, J k W1 → k < N → W.heap.size ≤ W1.heap.size → YieldAt F (n - 1) P l (enc k) W1 fun e W' =>
      (e = .returned (.bool true) ∧ J (k + 1) W' ∧ KeepT T W.heap.size W1 W') ∨ (e = .returned (.bool false) ∧ Jx W')) →
    J 0 W → CallsIn F n P gf (#[.func (.yield l) #[] #[]] ++ cap) W fun e W' => (∃ v, e = .returned v) ∧ (J N W' ∨ Jx W')

/-- How a round may be left. -/
def boundPostT (T : TypeId) (B : Nat) (I : World → Prop) (Ix : Code → World → Prop) (W : World) : Exit → Act → World → Prop
  | .normal, _, W' => KeepT T B W W' ∧ I W'
  | .ret, _, W' => KeepT T B W W' ∧ Ix .ret W'
  | .exit id, _, W' => KeepT T B W W' ∧ Ix (.exit id) W'
  | .goto t, _, W' => KeepT T B W W' ∧ Ix (.goto t) W'
  | .panic _, _, _ => False
  | .outgrown, _, _ => False

theorem wpIn_rangeCapT (T : TypeId) (S : World → Prop) {g : Operand} {ps : Array Tmp} {assign body : Code} {Q : Exit → Act → World → Prop} {a : Act} {w : World}
    (hro : F.round = none) (h1 : 1 ≤ n) {gf : Nat} {cap : Array Value} (hg : a.eval g = .func (.func gf) #[] cap) (hFg : F.fn gf) (eg : ∀ args w, (callFunc gf args).run P w = .ok (.enter gf args) w)
    {N : Nat} {enc : Nat → Array Value} (hps : ∀ k, (enc k).size = ps.size)
    (hseq : ∀ W, Below w.heap.size w W → IterOkT T S F (n - 1) P gf cap N enc W)
    (I : Nat → World → Prop) (Ix : Code → World → Prop) (hI : ∀ k W1 W2, I k W1 → Below w.heap.size W1 W2 → CellsSame W1 W2 → I k W2) (hIx : ∀ c W1 W2, Ix c W1 → Below w.heap.size W1 W2 → CellsSame W1 W2 → Ix c W2) (hS : ∀ k W, I k W → S W) (h0 : I 0 w) (f : Array Value → Nat → Array Value)
    (hassign : ∀ (l : Nat) (k : Nat) (W : World) (K : Act → World → Prop), K { tmps := f a.tmps k, defers := [] } W →
      assign.wpIn (F.inRound l) (n - 1 - 1) P (Exit.then K (fun _ _ _ => False)) { tmps := (ps.zip (enc k)).foldl (fun t (p, v) => t.setIfInBounds p v) a.tmps, defers := [] } W)
    (hbody : ∀ (l : Nat) (k : Nat) (W : World), I k W → k < N → w.heap.size ≤ W.heap.size → body.wpIn (F.inRound l) (n - 1 - 1) P (boundPostT T w.heap.size (I (k + 1)) Ix W) { tmps := f a.tmps k, defers := [] } W)
    (hdone : ∀ (W : World), I N W → W.heap[w.heap.size]? = some (.deferred (some [])) → Q .normal { a with defers := { target := .collected w.heap.size, args := #[] } :: a.defers } W)
    (hstop : ∀ (c : Code) (W : World), Ix c W → W.heap[w.heap.size]? = some (.deferred (some [])) → c.wpIn F n P Q { a with defers := { target := .collected w.heap.size, args := #[] } :: a.defers } W) :
    (Code.rangeFunc g ps assign body).wpIn F n P Q a w := by
  refine wpIn_rangeFunc ?_
  intro fn hfn
  rw [hro]
  obtain ⟨rec, hrec⟩ : ∃ rec : LoopState → Option Code → Loop, rec = fun st pe => { state := st, pending := pe, fn, tmps := a.tmps, params := ps, assign, body, defers := w.heap.size } := ⟨_, rfl⟩
  obtain ⟨W1, hW1⟩ : ∃ W1, (w.alloc (.deferred (some []))).alloc (.loop (rec .ready none)) = W1 := ⟨_, rfl⟩
  have hz1 : W1.heap.size = w.heap.size + 2 := by rw [← hW1]; simp
  have hL1 : W1.heap[w.heap.size + 1]? = some (.loop (rec .ready none)) := by
    rw [← hW1]; have := World.alloc_heap_new (w.alloc (.deferred (some []))) (.loop (rec .ready none)); rwa [World.size_alloc] at this
  have hK1 : W1.heap[w.heap.size]? = some (.deferred (some [])) := by
    rw [← hW1]; exact (Below.heap_alloc _ _ _ (by simp)).trans (World.alloc_heap_new w _)
  have hb1 : Below w.heap.size w W1 := by
    rw [← hW1]; exact ((Below.refl _ w).alloc (Nat.le_refl _) _).alloc (by simp) _
  refine ⟨w.heap.size + 1, [{ target := .collected w.heap.size, args := #[] }], W1, { target := .fn (.func gf) cap, args := #[.func (.yield (w.heap.size + 1)) #[] #[]] }, W1, gf,
    #[.func (.yield (w.heap.size + 1)) #[] #[]] ++ cap, W1, ?_, ?_, ?_, ?_, fun _ => h1, ?_⟩
  · rw [← hW1, hrec]; exact run_enterLoop_outer _ _ _ _ _
  · simp only [resolve, hg]
    simp [go_sem]
  · intro f' hf'; simp [Target.leads] at hf'; subst hf'; exact hFg
  · simp [invoke, go_sem, eg]
  · refine ((hseq W1 hb1) (w.heap.size + 1)
      (fun k W => I k W ∧ W.heap[w.heap.size + 1]? = some (.loop (rec .ready none)) ∧ W.heap[w.heap.size]? = some (.deferred (some [])))
      (fun W => ∃ c, Ix c W ∧ W.heap[w.heap.size + 1]? = some (.loop (rec .done (some c))) ∧ W.heap[w.heap.size]? = some (.deferred (some [])))
      (fun k A B hs hb hc => ⟨hI k A B hs.1 (hb.mono (by omega)) hc, (hb.block _ (by omega)).trans hs.2.1, (hb.block _ (by omega)).trans hs.2.2⟩)
      (fun A B hs hb hc' => by
        obtain ⟨c, hc, hl, hk⟩ := hs
        exact ⟨c, hIx c A B hc (hb.mono (by omega)) hc', (hb.block _ (by omega)).trans hl, (hb.block _ (by omega)).trans hk⟩)
      (fun k A hs => hS k A hs.1) ?_ ⟨hI 0 _ _ h0 hb1 (CellsSame.below hb1), hL1, hK1⟩).mono ?_
    · rintro k W ⟨hi, hl, hk⟩ hkN hWs
      have hlt : w.heap.size + 1 < W.heap.size := (Array.getElem?_eq_some_iff.1 hl).1
      have hy := run_yield (P := P) (args := enc k) hl (by rw [hrec]; simp [hps k])
      rw [hrec] at hy
      refine ⟨fn, _, assign, body, hy, roundIn_of_wpIn hfn (hassign _ k W _ ⟨_, run_beginRound hl (by rw [hrec]), ?_⟩)⟩
      obtain ⟨Wb, hWb⟩ : ∃ Wb, W.putObj (w.heap.size + 1) (.loop { rec .ready none with state := .busy }) = Wb := ⟨_, rfl⟩
      have hl2 : Wb.heap[w.heap.size + 1]? = some (.loop { rec .ready none with state := .busy }) := by rw [← hWb]; exact World.putObj_heap_same hlt
      have hk2 : Wb.heap[w.heap.size]? = some (.deferred (some [])) := by rw [← hWb]; exact (World.putObj_heap_other (by omega)).trans hk
      have hbb : Below w.heap.size W Wb := by rw [← hWb]; exact below_putObj (by omega) _
      have hWz : Wb.heap.size = W.heap.size := by rw [← hWb]; simp
      have hkt : KeepT T W1.heap.size W Wb := ⟨by omega, fun i h1 _ _ => by rw [← hWb]; exact World.putObj_heap_other (by omega)⟩
      rw [hWb]
      refine wpIn_mono (hbody _ k _ (hI k _ _ hi hbb (by rw [← hWb]; exact CellsSame.putObj hl _)) hkN (by omega)) ?_
      have fin : ∀ (jump : Option Code) (W3 : World), KeepT T w.heap.size Wb W3 →
          (Instr.endRound (w.heap.size + 1) jump).run P W3 = .ok (.bool jump.isNone) (W3.putObj (w.heap.size + 1) (.loop (rec (if jump.isNone then .ready else .done) jump))) ∧
          Below w.heap.size W3 (W3.putObj (w.heap.size + 1) (.loop (rec (if jump.isNone then .ready else .done) jump))) ∧
          (W3.putObj (w.heap.size + 1) (.loop (rec (if jump.isNone then .ready else .done) jump))).heap[w.heap.size + 1]? = some (.loop (rec (if jump.isNone then .ready else .done) jump)) ∧
          (W3.putObj (w.heap.size + 1) (.loop (rec (if jump.isNone then .ready else .done) jump))).heap[w.heap.size]? = some (.deferred (some [])) ∧
          KeepT T W1.heap.size W (W3.putObj (w.heap.size + 1) (.loop (rec (if jump.isNone then .ready else .done) jump))) ∧ CellsSame W3 (W3.putObj (w.heap.size + 1) (.loop (rec (if jump.isNone then .ready else .done) jump))) := fun jump W3 hk3 => by
        have hl3 := (hk3.same _ (by omega) (by omega) (fun cs fr h => by rw [hl2] at h; cases h)).trans hl2
        have := run_endRound (P := P) jump hl3
        rw [hrec] at this ⊢
        refine ⟨this, below_putObj (by omega) _, World.putObj_heap_same (Array.getElem?_eq_some_iff.1 hl3).1, (World.putObj_heap_other (by omega)).trans ((hk3.same _ (by omega) (by omega) (fun cs fr h => by rw [hk2] at h; cases h)).trans hk2), ?_, CellsSame.putObj hl3 _⟩
        refine hkt.trans ((hk3.mono (by omega)).trans ⟨by simp, fun i h1 _ _ => World.putObj_heap_other (by omega)⟩)
      rintro e a3 W3 hp
      cases e with
      | normal =>
        obtain ⟨hk3, hi3⟩ := hp
        obtain ⟨hr, hb3, hl4, hk4, ht, hcs⟩ := fin none W3 hk3
        exact ⟨_, _, hr, .inl ⟨rfl, ⟨hI _ _ _ hi3 hb3 hcs, hl4, hk4⟩, ht⟩⟩
      | ret =>
        obtain ⟨hk3, hi3⟩ := hp
        obtain ⟨hr, hb3, hl4, hk4, ht, hcs⟩ := fin (some .ret) W3 hk3
        exact ⟨_, _, hr, .inr ⟨rfl, .ret, hIx _ _ _ hi3 hb3 hcs, hl4, hk4⟩⟩
      | exit id =>
        obtain ⟨hk3, hi3⟩ := hp
        obtain ⟨hr, hb3, hl4, hk4, ht, hcs⟩ := fin (some (.exit id)) W3 hk3
        exact ⟨_, _, hr, .inr ⟨rfl, .exit id, hIx _ _ _ hi3 hb3 hcs, hl4, hk4⟩⟩
      | goto t =>
        obtain ⟨hk3, hi3⟩ := hp
        obtain ⟨hr, hb3, hl4, hk4, ht, hcs⟩ := fin (some (.goto t)) W3 hk3
        exact ⟨_, _, hr, .inr ⟨rfl, .goto t, hIx _ _ _ hi3 hb3 hcs, hl4, hk4⟩⟩
      | panic ch => exact hp.elim
      | outgrown => exact hp.elim
    · rintro e W2 ⟨⟨v, rfl⟩, (⟨hi, hl, hk⟩ | ⟨c, hi, hl, hk⟩)⟩
      · exact ⟨none, _, by have := run_endLoop (P := P) hl (by rw [hrec]; simp); rw [hrec] at this; exact this, hdone _ (hI _ _ _ hi (below_putObj (by omega) _) (CellsSame.putObj hl _)) ((World.putObj_heap_other (by omega)).trans hk)⟩
      · exact ⟨some c, _, by have := run_endLoop (P := P) hl (by rw [hrec]; simp); rw [hrec] at this; exact this, hstop c _ (hIx _ _ _ hi (below_putObj (by omega) _) (CellsSame.putObj hl _)) ((World.putObj_heap_other (by omega)).trans hk)⟩
theorem boundPostT_in {T : TypeId} {B : Nat} {I : World → Prop} {Ix : Code → World → Prop} {W : World} : ¬ LetsOut (boundPostT T B I Ix W) := fun ⟨_, _, h⟩ => h
end
end Go.Proofs.YtkoiknmijjiicaaGreatDoor

/- Door seat: slices.Chunk of samples: its closure yields the lines. -/
namespace Go.Proofs.YtkoiknmijjiicaaGreatDoor
set_option linter.unusedVariables false
set_option linter.unusedSimpArgs false
open Go.RowKit
/-- Line number k. -/
def encL (b off S k : Nat) : Array Value := #[.slice (some ⟨b, off + k * S, none⟩) S S]
def ChunkS (p1 p2 b off n cap S : Nat) (W : World) : Prop := W.heap[p1]? = some (.cells #[.slice (some ⟨b, off, none⟩) n cap] 32 (0, 0)) ∧ W.heap[p2]? = some (.cells #[.int .i64 S] 3 (0, 0))
theorem ChunkS.cells {p1 p2 b off n cap S : Nat} {W : World} (h : ChunkS p1 p2 b off n cap S W) : W.cell? ⟨p1, 0, none⟩ = some (.slice (some ⟨b, off, none⟩) n cap) ∧ W.cell? ⟨p2, 0, none⟩ = some (.int .i64 S) :=
  ⟨by rw [cell_of_row W p1 0 _ _ _ h.1]; rfl, by rw [cell_of_row W p2 0 _ _ _ h.2]; rfl⟩
end Go.Proofs.YtkoiknmijjiicaaGreatDoor
