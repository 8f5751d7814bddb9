/- A range over an iterator whose rounds may write rows of one type (a slice that grows): Derived/Test L3 and K6 once more, with a weaker keep. -/
import Derived.Test.YtokpdmlmlkkekaaZC
namespace Go.Proofs.Ytokpdmlmlkkekaa
set_option linter.unusedVariables false
open Go Go.RowKit
section
variable {F : Fence} {n : Nat} {P : Program}
/-- Every block from B on that is no row of type T lies as it lay. -/
structure KeepT (T : TypeId) (B : Nat) (W W' : World) : Prop where
  size : W.heap.size ≤ W'.heap.size
  same : ∀ k, B ≤ k → k < W.heap.size → (∀ cs fr, W.heap[k]? ≠ some (.cells cs T fr)) → W'.heap[k]? = W.heap[k]?
theorem KeepT.refl {T : TypeId} (B : Nat) (W : World) : KeepT T B W W := ⟨Nat.le_refl _, fun _ _ _ _ => rfl⟩
theorem KeepT.trans {T : TypeId} {B : Nat} {X Y Z : World} (h : KeepT T B X Y) (k : KeepT T B Y Z) : KeepT T B X Z :=
  ⟨Nat.le_trans h.size k.size, fun i h1 h2 h3 => by
    have e := h.same i h1 h2 h3
    exact (k.same i h1 (Nat.lt_of_lt_of_le h2 h.size) (fun cs fr h => h3 cs fr (by rw [← e]; exact h))).trans e⟩
theorem KeepT.mono {T : TypeId} {B B' : Nat} {X Y : World} (h : KeepT T B X Y) (hB : B ≤ B') : KeepT T B' X Y := ⟨h.size, fun i h1 h2 h3 => h.same i (by omega) h2 h3⟩
theorem KeepT.below {T : TypeId} {B : Nat} {X Y : World} (h : Below X.heap.size X Y) : KeepT T B X Y := ⟨h.size, fun i _ h2 _ => h.block i h2⟩
theorem KeepT.setCell {T : TypeId} {B : Nat} {X Y : World} (h : KeepT T B X Y) {p : Addr} (hp : p.block < B) (v : Value) : KeepT T B X (Y.setCell p v) :=
  ⟨by simpa [World.setCell] using h.size, fun i h1 h2 h3 => (Below.heap_setCell _ _ _ _ (by omega)).trans (h.same i h1 h2 h3)⟩
/-- Every row of cells lies as it lay. -/
def CellsSame (W W' : World) : Prop := ∀ (k : Nat) (cs : Array Value) (T : TypeId) (fr : Nat × Nat), W.heap[k]? = some (Obj.cells cs T fr) → W'.heap[k]? = some (Obj.cells cs T fr)
theorem CellsSame.below {W W' : World} (h : Below W.heap.size W W') : CellsSame W W' := fun k _ _ _ e => (h.block k (Array.getElem?_eq_some_iff.1 e).1).trans e
theorem CellsSame.putObj {W : World} {l : Nat} {lp : Loop} (h : W.heap[l]? = some (.loop lp)) (o : Obj) : CellsSame W (W.putObj l o) := fun k cs T fr e => by
  refine (World.putObj_heap_other ?_).trans e
  rintro rfl
  rw [h] at e
  cases e
theorem ownsRow_same {w w' : World} {base e size n : Nat} {v : Value} {xs : List Value} (h : w.ownsRow base e size v n xs) (hw : CellsSame w w') : w'.ownsRow base e size v n xs := by
  obtain ⟨h1, h2 | ⟨g, cap, cur, h3, h4, h5, h6⟩⟩ := h
  · exact ⟨h1, Or.inl h2⟩
  · exact ⟨h1, Or.inr ⟨g, cap, cur, h3, h4, hw _ _ _ _ h5, h6⟩⟩
/-- An iterator with a bound receiver that yields N times, if it is let. -/
def IterOkT (T : TypeId) (F : Fence) (n : Nat) (P : Program) (gf : FuncId) (bound : Array Value) (N : Nat) (enc : Nat → Array Value) (W : World) : Prop :=
  ∀ (l : Nat) (J : Nat → World → Prop) (Jx : World → Prop),
    (∀ k W1 W2, J k W1 → Below W.heap.size W1 W2 → CellsSame W1 W2 → J k W2) → (∀ W1 W2, Jx W1 → Below W.heap.size W1 W2 → CellsSame W1 W2 → Jx W2) →
    (∀ k W1, J k W1 → k < N → W.heap.size ≤ W1.heap.size → YieldAt F (n - 1) P l (enc k) W1 fun e W' =>
      (e = .returned (.bool true) ∧ J (k + 1) W' ∧ KeepT T W.heap.size W1 W') ∨ (e = .returned (.bool false) ∧ Jx W')) →
    J 0 W → CallsIn F n P gf (bound ++ #[.func (.yield l) #[] #[]]) W fun e W' => (∃ v, e = .returned v) ∧ (J N W' ∨ Jx W')

/-- How a round may be left. -/
def boundPostT (T : TypeId) (B : Nat) (I : World → Prop) (Ix : Code → World → Prop) (W : World) : Exit → Act → World → Prop
  | .normal, _, W' => KeepT T B W W' ∧ I W'
  | .ret, _, W' => KeepT T B W W' ∧ Ix .ret W'
  | .exit id, _, W' => KeepT T B W W' ∧ Ix (.exit id) W'
  | .goto t, _, W' => KeepT T B W W' ∧ Ix (.goto t) W'
  | .panic _, _, _ => False
  | .outgrown, _, _ => False

theorem wpIn_rangeBoundT (T : TypeId) {g : Operand} {ps : Array Tmp} {assign body : Code} {Q : Exit → Act → World → Prop} {a : Act} {w : World}
    (hro : F.round = none) (h1 : 1 ≤ n) {gf : Nat} {bound : Array Value} (hg : a.eval g = .func (.func gf) bound #[]) (hFg : F.fn gf) (eg : ∀ args w, (callFunc gf args).run P w = .ok (.enter gf args) w)
    {N : Nat} {enc : Nat → Array Value} (hps : ∀ k, (enc k).size = ps.size)
    (hseq : ∀ W, Below w.heap.size w W → IterOkT T F (n - 1) P gf bound N enc W)
    (I : Nat → World → Prop) (Ix : Code → World → Prop) (hI : ∀ k W1 W2, I k W1 → Below w.heap.size W1 W2 → CellsSame W1 W2 → I k W2) (hIx : ∀ c W1 W2, Ix c W1 → Below w.heap.size W1 W2 → CellsSame W1 W2 → Ix c W2) (h0 : I 0 w) (f : Array Value → Nat → Array Value)
    (hassign : ∀ (l : Nat) (k : Nat) (W : World) (K : Act → World → Prop), K { tmps := f a.tmps k, defers := [] } W →
      assign.wpIn (F.inRound l) (n - 1 - 1) P (Exit.then K (fun _ _ _ => False)) { tmps := (ps.zip (enc k)).foldl (fun t (p, v) => t.setIfInBounds p v) a.tmps, defers := [] } W)
    (hbody : ∀ (l : Nat) (k : Nat) (W : World), I k W → k < N → w.heap.size ≤ W.heap.size → body.wpIn (F.inRound l) (n - 1 - 1) P (boundPostT T w.heap.size (I (k + 1)) Ix W) { tmps := f a.tmps k, defers := [] } W)
    (hdone : ∀ (W : World), I N W → W.heap[w.heap.size]? = some (.deferred (some [])) → Q .normal { a with defers := { target := .collected w.heap.size, args := #[] } :: a.defers } W)
    (hstop : ∀ (c : Code) (W : World), Ix c W → W.heap[w.heap.size]? = some (.deferred (some [])) → c.wpIn F n P Q { a with defers := { target := .collected w.heap.size, args := #[] } :: a.defers } W) :
    (Code.rangeFunc g ps assign body).wpIn F n P Q a w := by
  refine wpIn_rangeFunc ?_
  intro fn hfn
  rw [hro]
  obtain ⟨rec, hrec⟩ : ∃ rec : LoopState → Option Code → Loop, rec = fun st pe => { state := st, pending := pe, fn, tmps := a.tmps, params := ps, assign, body, defers := w.heap.size } := ⟨_, rfl⟩
  obtain ⟨W1, hW1⟩ : ∃ W1, (w.alloc (.deferred (some []))).alloc (.loop (rec .ready none)) = W1 := ⟨_, rfl⟩
  have hz1 : W1.heap.size = w.heap.size + 2 := by rw [← hW1]; simp
  have hL1 : W1.heap[w.heap.size + 1]? = some (.loop (rec .ready none)) := by
    rw [← hW1]; have := World.alloc_heap_new (w.alloc (.deferred (some []))) (.loop (rec .ready none)); rwa [World.size_alloc] at this
  have hK1 : W1.heap[w.heap.size]? = some (.deferred (some [])) := by
    rw [← hW1]; exact (Below.heap_alloc _ _ _ (by simp)).trans (World.alloc_heap_new w _)
  have hb1 : Below w.heap.size w W1 := by
    rw [← hW1]; exact ((Below.refl _ w).alloc (Nat.le_refl _) _).alloc (by simp) _
  refine ⟨w.heap.size + 1, [{ target := .collected w.heap.size, args := #[] }], W1, { target := .fn (.func gf) #[], args := bound ++ #[.func (.yield (w.heap.size + 1)) #[] #[]] }, W1, gf,
    bound ++ #[.func (.yield (w.heap.size + 1)) #[] #[]], W1, ?_, ?_, ?_, ?_, fun _ => h1, ?_⟩
  · rw [← hW1, hrec]; exact run_enterLoop_outer _ _ _ _ _
  · simp only [resolve, hg]
    simp [go_sem]
  · intro f' hf'; simp [Target.leads] at hf'; subst hf'; exact hFg
  · simp [invoke, go_sem, eg]
  · refine ((hseq W1 hb1) (w.heap.size + 1)
      (fun k W => I k W ∧ W.heap[w.heap.size + 1]? = some (.loop (rec .ready none)) ∧ W.heap[w.heap.size]? = some (.deferred (some [])))
      (fun W => ∃ c, Ix c W ∧ W.heap[w.heap.size + 1]? = some (.loop (rec .done (some c))) ∧ W.heap[w.heap.size]? = some (.deferred (some [])))
      (fun k A B hs hb hc => ⟨hI k A B hs.1 (hb.mono (by omega)) hc, (hb.block _ (by omega)).trans hs.2.1, (hb.block _ (by omega)).trans hs.2.2⟩)
      (fun A B hs hb hc' => by
        obtain ⟨c, hc, hl, hk⟩ := hs
        exact ⟨c, hIx c A B hc (hb.mono (by omega)) hc', (hb.block _ (by omega)).trans hl, (hb.block _ (by omega)).trans hk⟩)
      ?_ ⟨hI 0 _ _ h0 hb1 (CellsSame.below hb1), hL1, hK1⟩).mono ?_
    · rintro k W ⟨hi, hl, hk⟩ hkN hWs
      have hlt : w.heap.size + 1 < W.heap.size := (Array.getElem?_eq_some_iff.1 hl).1
      have hy := run_yield (P := P) (args := enc k) hl (by rw [hrec]; simp [hps k])
      rw [hrec] at hy
      refine ⟨fn, _, assign, body, hy, roundIn_of_wpIn hfn (hassign _ k W _ ⟨_, run_beginRound hl (by rw [hrec]), ?_⟩)⟩
      obtain ⟨Wb, hWb⟩ : ∃ Wb, W.putObj (w.heap.size + 1) (.loop { rec .ready none with state := .busy }) = Wb := ⟨_, rfl⟩
      have hl2 : Wb.heap[w.heap.size + 1]? = some (.loop { rec .ready none with state := .busy }) := by rw [← hWb]; exact World.putObj_heap_same hlt
      have hk2 : Wb.heap[w.heap.size]? = some (.deferred (some [])) := by rw [← hWb]; exact (World.putObj_heap_other (by omega)).trans hk
      have hbb : Below w.heap.size W Wb := by rw [← hWb]; exact below_putObj (by omega) _
      have hWz : Wb.heap.size = W.heap.size := by rw [← hWb]; simp
      have hkt : KeepT T W1.heap.size W Wb := ⟨by omega, fun i h1 _ _ => by rw [← hWb]; exact World.putObj_heap_other (by omega)⟩
      rw [hWb]
      refine wpIn_mono (hbody _ k _ (hI k _ _ hi hbb (by rw [← hWb]; exact CellsSame.putObj hl _)) hkN (by omega)) ?_
      have fin : ∀ (jump : Option Code) (W3 : World), KeepT T w.heap.size Wb W3 →
          (Instr.endRound (w.heap.size + 1) jump).run P W3 = .ok (.bool jump.isNone) (W3.putObj (w.heap.size + 1) (.loop (rec (if jump.isNone then .ready else .done) jump))) ∧
          Below w.heap.size W3 (W3.putObj (w.heap.size + 1) (.loop (rec (if jump.isNone then .ready else .done) jump))) ∧
          (W3.putObj (w.heap.size + 1) (.loop (rec (if jump.isNone then .ready else .done) jump))).heap[w.heap.size + 1]? = some (.loop (rec (if jump.isNone then .ready else .done) jump)) ∧
          (W3.putObj (w.heap.size + 1) (.loop (rec (if jump.isNone then .ready else .done) jump))).heap[w.heap.size]? = some (.deferred (some [])) ∧
          KeepT T W1.heap.size W (W3.putObj (w.heap.size + 1) (.loop (rec (if jump.isNone then .ready else .done) jump))) ∧ CellsSame W3 (W3.putObj (w.heap.size + 1) (.loop (rec (if jump.isNone then .ready else .done) jump))) := fun jump W3 hk3 => by
        have hl3 := (hk3.same _ (by omega) (by omega) (fun cs fr h => by rw [hl2] at h; cases h)).trans hl2
        have := run_endRound (P := P) jump hl3
        rw [hrec] at this ⊢
        refine ⟨this, below_putObj (by omega) _, World.putObj_heap_same (Array.getElem?_eq_some_iff.1 hl3).1, (World.putObj_heap_other (by omega)).trans ((hk3.same _ (by omega) (by omega) (fun cs fr h => by rw [hk2] at h; cases h)).trans hk2), ?_, CellsSame.putObj hl3 _⟩
        refine hkt.trans ((hk3.mono (by omega)).trans ⟨by simp, fun i h1 _ _ => World.putObj_heap_other (by omega)⟩)
      rintro e a3 W3 hp
      cases e with
      | normal =>
        obtain ⟨hk3, hi3⟩ := hp
        obtain ⟨hr, hb3, hl4, hk4, ht, hcs⟩ := fin none W3 hk3
        exact ⟨_, _, hr, .inl ⟨rfl, ⟨hI _ _ _ hi3 hb3 hcs, hl4, hk4⟩, ht⟩⟩
      | ret =>
        obtain ⟨hk3, hi3⟩ := hp
        obtain ⟨hr, hb3, hl4, hk4, ht, hcs⟩ := fin (some .ret) W3 hk3
        exact ⟨_, _, hr, .inr ⟨rfl, .ret, hIx _ _ _ hi3 hb3 hcs, hl4, hk4⟩⟩
      | exit id =>
        obtain ⟨hk3, hi3⟩ := hp
        obtain ⟨hr, hb3, hl4, hk4, ht, hcs⟩ := fin (some (.exit id)) W3 hk3
        exact ⟨_, _, hr, .inr ⟨rfl, .exit id, hIx _ _ _ hi3 hb3 hcs, hl4, hk4⟩⟩
      | goto t =>
        obtain ⟨hk3, hi3⟩ := hp
        obtain ⟨hr, hb3, hl4, hk4, ht, hcs⟩ := fin (some (.goto t)) W3 hk3
        exact ⟨_, _, hr, .inr ⟨rfl, .goto t, hIx _ _ _ hi3 hb3 hcs, hl4, hk4⟩⟩
      | panic ch => exact hp.elim
      | outgrown => exact hp.elim
    · rintro e W2 ⟨⟨v, rfl⟩, (⟨hi, hl, hk⟩ | ⟨c, hi, hl, hk⟩)⟩
      · exact ⟨none, _, by have := run_endLoop (P := P) hl (by rw [hrec]; simp); rw [hrec] at this; exact this, hdone _ (hI _ _ _ hi (below_putObj (by omega) _) (CellsSame.putObj hl _)) ((World.putObj_heap_other (by omega)).trans hk)⟩
      · exact ⟨some c, _, by have := run_endLoop (P := P) hl (by rw [hrec]; simp); rw [hrec] at this; exact this, hstop c _ (hIx _ _ _ hi (below_putObj (by omega) _) (CellsSame.putObj hl _)) ((World.putObj_heap_other (by omega)).trans hk)⟩
theorem boundPostT_in {T : TypeId} {B : Nat} {I : World → Prop} {Ix : Code → World → Prop} {W : World} : ¬ LetsOut (boundPostT T B I Ix W) := fun ⟨_, _, h⟩ => h
end
set_option maxRecDepth 20000 in
set_option maxHeartbeats 1000000 in
theorem cells_iterT (T : TypeId) (hT : T ≠ 150) (n : Nat) (hn : 1 ≤ n) (t : Trk) (r : Rel) (b off cap : Nat) (o : r.Ok) (nr nc : Nat) (hnr : r.rows = nr) (hnc : r.cols = nc) (W : World) :
    IterOkT T Fence.wide n Try.prog 130 #[.agg #[.int .i64 t.sx, .int .i64 t.sy, .int .i64 t.sz, .int .i64 t.step, .int .i64 t.lines, .int .i64 t.near, .int .i64 t.bin, .int .i64 t.bins, .bool t.east, .int .i64 r.x, .int .i64 r.y, .int .i64 r.cell, .int .i64 r.rows, .int .i64 r.cols, .slice (some ⟨b, off, none⟩) r.ds.length cap]] (nr * nc) (encC nc) W := by
  intro l J Jx hJ hJx hY h0
  obtain ⟨-, -, -, -, -, -, r1, r2, l1, l2, -⟩ := o
  have HNR := Lib.hid hnr
  have HNC := Lib.hid hnc
  have HJ := Lib.hid hJ
  have HY := Lib.hid hY
  have H0 := Lib.hid h0
  clear hJ hJx hY h0
  refine callsIn_of_wp Try.func130 rfl trivial ?_ rfl
  simp only [Try.ntmps130, List.size_toArray, List.length_cons, List.length_nil, Nat.reduceAdd, Nat.reduceSub, Array.replicate_succ, Array.replicate_zero, List.push_toArray, List.append_toArray, List.nil_append, List.cons_append]
  have c1 : 1 ≤ nc := by omega
  have c2 : nc ≤ 64 := by omega
  have c3 : 1 ≤ nr := by omega
  have c4 : nr ≤ 64 := by omega
  clear hnr hnc
  gi_wp2
  obtain ⟨W2, hW2, hNT, hV2, hB2, hs2⟩ : ∃ W2, W.alloc (.cells #[.int .i64 t.sx, .int .i64 t.sy, .int .i64 t.sz, .int .i64 t.step, .int .i64 t.lines, .int .i64 t.near, .int .i64 t.bin, .int .i64 t.bins, .bool t.east, .int .i64 r.x, .int .i64 r.y, .int .i64 r.cell, .int .i64 r.rows, .int .i64 r.cols, .slice (some ⟨b, off, none⟩) r.ds.length cap] 150) = W2 ∧ (∀ cs fr, W2.heap[W.heap.size]? ≠ some (.cells cs T fr)) ∧ ViewAt W2 W.heap.size t r b off cap ∧ Below W.heap.size W W2 ∧ W2.heap.size = W.heap.size + 1 :=
    ⟨_, rfl, fun cs fr h => (by rw [heap_alloc_new] at h; simp at h; exact hT h.2.1.symm), viewAt_alloc _ _ _ _ _ _ _, (Below.refl _ _).alloc (Nat.le_refl _) _, by simp⟩
  rw [hW2]
  have HV2 := Lib.hid hV2
  have HNT := Lib.hid hNT
  have HJ0 := Lib.hid (HJ.out 0 _ _ H0.out hB2 (CellsSame.below hB2))
  have hlt2 : W.heap.size < W2.heap.size := by omega
  clear hW2 hNT hV2 hB2 hs2
  gi_loopw [11] (fun v wr => ∃ i : Nat, i ≤ nr ∧ v = .int .i64 i ∧ J (i * nc) wr ∧ KeepT T W.heap.size W2 wr) (fun v _ => nr - (intOf v).toNat)
  case atStart => exact ⟨0, Nat.zero_le _, rfl, by rw [Nat.zero_mul]; exact HJ0.out, KeepT.refl _ _⟩
  case round =>
    obtain ⟨i, hi, rfl, hj, hkt⟩ := hrel
    obtain ⟨c0, d1, d2, d3, d4, d5, d6, d7, d8, d9, d10, d11, d12, d13, d14⟩ := HV2.out.block (hkt.same _ (Nat.le_refl _) hlt2 HNT.out)
    clear c0 d1 d2 d3 d4 d5 d6 d7 d8 d9 d10 d11 d14
    have HKT := Lib.hid hkt
    have HJI := Lib.hid hj
    have hsz := hkt.size
    clear hj hkt
    by_cases hlt : i < nr
    · have hlt' : (i : Int) < r.rows := by have := HNR.out; omega
      gi_wp2
      gi_loopw [19] (fun v wr => ∃ j : Nat, j ≤ nc ∧ v = .int .i64 j ∧ J (i * nc + j) wr ∧ KeepT T W.heap.size W2 wr) (fun v _ => nc - (intOf v).toNat)
      case atStart => exact ⟨0, Nat.zero_le _, rfl, by rw [Nat.add_zero]; exact HJI.out, HKT.out⟩
      case round =>
        obtain ⟨j, hjn, rfl, hj2, hkt2⟩ := hrel
        by_cases hjl : j < nc
        · have hjl' : (j : Int) < r.cols := by have := HNC.out; omega
          have hk : i * nc + j < nr * nc := by
            have := Nat.mul_le_mul_right nc (show i + 1 ≤ nr by omega)
            rw [Nat.add_mul] at this; omega
          obtain ⟨fn, tmps, assign, body, hy, hR⟩ := HY.out _ _ hj2 hk (Nat.le_trans (Nat.le_of_lt hlt2) hkt2.size)
          rw [encC_at hjl] at hy
          have HR := Lib.hid hR
          have HK2 := Lib.hid hkt2
          clear hR hj2 hkt2
          gi_wp2
          refine HR.out.mono ?_
          rintro e W3 (⟨rfl, hJ3, hk3⟩ | ⟨rfl, hJx3⟩)
          · have HJ3 := Lib.hid hJ3
            have HK3 := Lib.hid (HK2.out.trans hk3)
            clear hJ3 hk3
            gi_wp2
            go_roundw
            case rel => exact ⟨j + 1, by omega, by go_num, HJ3.out, HK3.out⟩
            case measure => simp [intOf]; omega
          · gi_wp2
            refine bodyPost_ret (results_none rfl _ _ _) rfl ?_
            exact ⟨⟨_, rfl⟩, .inr hJx3⟩
        · have hjg : r.cols ≤ (j : Int) := by have := HNC.out; omega
          obtain rfl : j = nc := by omega
          have HJE := Lib.hid hj2
          have HKE := Lib.hid hkt2
          clear hj2 hkt2
          gi_wp2
          go_roundw
          case rel => exact ⟨i + 1, by omega, by go_num, by rw [Nat.add_mul, Nat.one_mul]; exact HJE.out, HKE.out⟩
          case measure => simp [intOf]; omega
    · have hge : r.rows ≤ (i : Int) := by have := HNR.out; omega
      obtain rfl : i = nr := by omega
      gi_wp2
      go_end0
      exact ⟨⟨_, rfl⟩, .inl HJI.out⟩
end Go.Proofs.Ytokpdmlmlkkekaa
