import Derived.Test.YtkoiknmijjiicaaGreatDoorZL
import Derived.Deep.RegionHeld3
/- A region that draws its order, by an invariant: one step for each operation, not one for each order. No program in sight. -/
namespace Go.Proofs.YtkoiknmijjiicaaGreatDoor
set_option linter.unusedVariables false
set_option linter.unusedSimpArgs false
open Go Go.RowKit Go.Sort
section
variable {P : Program} {ops : Array Oper} {md : Region.Mode} {Q : Exit → Act → World → Prop}
/-- How many operations are not yet listed. -/
def openOps (listed : Array Bool) : Nat := listed.toList.countP (fun b => !b)
theorem countP_set : ∀ (l : List Bool) (i : Nat), i < l.length → l.getD i false = false → (l.set i true).countP (fun b => !b) + 1 = l.countP (fun b => !b)
  | [], i, h, _ => by simp at h
  | b :: l, 0, _, h => by simp at h; subst h; simp
  | b :: l, i + 1, h, h2 => by
    have := countP_set l i (by simpa using h) (by simpa using h2)
    simp only [List.set_cons_succ, List.countP_cons]
    omega
theorem openOps_set {listed : Array Bool} {i : Nat} (h : i < listed.size) (h2 : listed.getD i false = false) : openOps (listed.setIfInBounds i true) + 1 = openOps listed := by
  unfold openOps
  have := countP_set listed.toList i (by simpa using h) (by simpa [Array.getD_eq_getD_getElem?] using h2)
  simpa using this
theorem any_of_inv (I : Array Bool → Act → World → Prop)
    (hstep : ∀ listed a w, listed.size = ops.size → I listed a w → ∀ i ∈ Region.ready md ops listed, wpOp P ops Q i (I (listed.setIfInBounds i true)) a w)
    (hdone : ∀ listed a w, listed.size = ops.size → I listed a w → Region.ready md ops listed = [] → Q .normal a w) :
    ∀ (f : Nat) (listed : Array Bool) (a : Act) (w : World), listed.size = ops.size → openOps listed ≤ f → I listed a w → wpAny P md ops Q f listed a w := by
  intro f
  induction f with
  | zero =>
    intro listed a w hs hf hI
    have hr : Region.ready md ops listed = [] := by
      apply List.eq_nil_iff_forall_not_mem.2
      intro i hi
      obtain ⟨h1, o, ho, -⟩ := mem_ready.1 hi
      have hlt : i < listed.size := by
        rw [hs]; exact (Array.getElem?_eq_some_iff.1 ho).1
      have := openOps_set hlt (by simpa [Array.getD_eq_getD_getElem?, hlt] using h1)
      omega
    exact ⟨hr, hdone _ _ _ hs hI hr⟩
  | succ f ih =>
    intro listed a w hs hf hI
    refine ⟨fun hr => hdone _ _ _ hs hI hr, fun i hi => ?_⟩
    obtain ⟨h1, o, ho, -⟩ := mem_ready.1 hi
    have hlt : i < listed.size := by
      rw [hs]; exact (Array.getElem?_eq_some_iff.1 ho).1
    have hc := openOps_set hlt (by simpa [Array.getD_eq_getD_getElem?, hlt] using h1)
    exact wpOp_mono (fun a' w' h => ih _ a' w' (by simpa using hs) (by omega) h) (hstep _ _ _ hs hI i hi)
theorem wp_region_inv {id : Nat} {a : Act} {w : World} {l : List Oper} (hm : P.follows .mixedOrders = true) (I : Array Bool → Act → World → Prop)
    (h0 : I (Array.replicate l.toArray.size false) a (World.drew w))
    (hstep : ∀ listed a w, listed.size = l.toArray.size → I listed a w → ∀ i ∈ Region.ready .any l.toArray listed, wpOp P l.toArray Q i (I (listed.setIfInBounds i true)) a w)
    (hdone : ∀ listed a w, listed.size = l.toArray.size → I listed a w → Region.ready .any l.toArray listed = [] → Q .normal a w) :
    (Code.region id l.toArray true).wp P Q a w :=
  wp_region_any hm (any_of_inv I hstep hdone _ _ _ _ (by simp) (by unfold openOps; exact Nat.le_trans List.countP_le_length (by simp)) h0)
/-- Nothing is ready: all is listed, where each operation waits for earlier ones alone. -/
def Region.waitsBackB (md : Region.Mode) (ops : Array Oper) : Bool :=
  (List.range ops.size).all fun i => match ops[i]? with | some o => o.after.all (fun e => decide (e.on < i)) | none => true
theorem all_of_ready {listed : Array Bool} (hs : listed.size = ops.size) (hb : Region.waitsBackB md ops = true) (hr : Region.ready md ops listed = []) :
    ∀ i, i < ops.size → listed.getD i false = true := by
  intro i
  induction i using Nat.strongRecOn with
  | _ i ih =>
    intro hi
    by_cases h : listed.getD i false = true
    · exact h
    · exfalso
      have hn : i ∈ Region.ready md ops listed := by
        refine mem_ready.2 ⟨?_, ops[i], by simp [hi], ?_⟩
        · have hlt : i < listed.size := by omega
          simpa [Array.getD_eq_getD_getElem?, hlt] using h
        · intro e he _
          have h1 := List.all_eq_true.1 hb i (List.mem_range.2 hi)
          simp only [Array.getElem?_eq_getElem hi] at h1
          have h2 : e.on < i := by
            have := Array.all_eq_true'.1 h1 e (by simpa using he)
            simpa using this
          exact ih _ h2 (by omega)
      rw [hr] at hn; cases hn
end
end Go.Proofs.YtkoiknmijjiicaaGreatDoor

/- A region that draws its order: what some loads read holds till one operation (a store) has come, which waits for them. No program in sight. -/
namespace Go.Proofs.YtkoiknmijjiicaaGreatDoor
set_option linter.unusedVariables false
set_option linter.unusedSimpArgs false
open Go Go.RowKit Go.Sort
section
variable {P : Program} {ops : Array Oper} {md : Region.Mode} {Q : Exit → Act → World → Prop} {b : Nat} {S F : World → Prop}
/-- S holds; F holds till operation b has come. -/
def Owed (b : Nat) (S F : World → Prop) (listed : Array Bool) (w : World) : Prop := S w ∧ (listed.getD b true = false → F w)
def wpAnyL (P : Program) (md : Region.Mode) (ops : Array Oper) (Q : Exit → Act → World → Prop) (b : Nat) (S F : World → Prop) : Nat → Array Bool → Act → World → Prop
  | 0, listed, a, w => Region.ready md ops listed = [] ∧ Q .normal a w
  | fuel + 1, listed, a, w => (Region.ready md ops listed = [] → Q .normal a w) ∧
    ∀ i ∈ Region.ready md ops listed, wpOp P ops Q i (fun a' w' => Owed b S F (listed.setIfInBounds i true) w' ∧ wpAnyL P md ops Q b S F fuel (listed.setIfInBounds i true) a' w') a w
theorem any_of_L : ∀ (fuel : Nat) (listed : Array Bool) (a : Act) (w : World), wpAnyL P md ops Q b S F fuel listed a w → wpAny P md ops Q fuel listed a w
  | 0, _, _, _, h => h
  | fuel + 1, _, _, _, h => ⟨h.1, fun i hi => wpOp_mono (fun a' w' h' => any_of_L fuel _ a' w' h'.2) (h.2 i hi)⟩
theorem owed_set {listed : Array Bool} {i : Nat} {w : World} (h : Owed b S F listed w) : Owed b S F (listed.setIfInBounds i true) w := by
  refine ⟨h.1, fun hb => h.2 ?_⟩
  by_cases e : i = b
  · subst e
    rcases Nat.lt_or_ge i listed.size with h' | h'
    · simp [h'] at hb
    · simp at hb
  · rwa [getD_set_ne true e] at hb
/-- What an operation may lean on: S, and F if b waits for it. -/
def OwedTo (fl : Bool) (S F : World → Prop) (w : World) : Prop := S w ∧ (fl = true → F w)
theorem anyL_first {i : Nat} {oi : Oper} {v : Value} {fl : Bool} (hi : ops[i]? = some oi) (hsel : ∀ (j : Nat) (o : Oper) cs b, ops[j]? = some o → o.op ≠ .select cs b)
    (hQ : ∀ c a w, Q (.panic c) (a.put oi.dst v) w → Q (.panic c) a w) (hne : b ≠ i) (hbi : fl = true → ∃ ob, ops[b]? = some ob ∧ ∃ e ∈ ob.after, Region.binds md e = true ∧ e.on = i) :
    ∀ (fuel : Nat) (listed : Array Bool) (a : Act) (w : World),
      (∀ j oj, ops[j]? = some oj → j ≠ i → listed.getD j true = false → (∀ e ∈ oj.after, Region.binds md e = true → e.on ≠ i) → oi.apart ops oj = true) →
      i ∈ Region.ready md ops listed → (fl = true → listed.getD b true = false) → YieldsIf P ops (OwedTo fl S F) oi v a → Owed b S F listed w →
      wpAnyL P md ops Q b S F fuel (listed.setIfInBounds i true) (a.put oi.dst v) w → wpAnyL P md ops Q b S F (fuel + 1) listed a w := by
  intro fuel
  induction fuel with
  | zero =>
    intro listed a w _ hr hb hy hS H
    refine ⟨fun h => (by rw [h] at hr; cases hr), fun j hj => ?_⟩
    by_cases hji : j = i
    · subst hji; exact hy.wpOp hi ⟨hS.1, fun h => hS.2 (hb h)⟩ ⟨owed_set hS, H⟩
    · have := ready_mono hj hji
      rw [H.1] at this
      cases this
  | succ fuel ih =>
    intro listed a w hfree hr hb hy hS H
    refine ⟨fun h => (by rw [h] at hr; cases hr), fun j hj => ?_⟩
    by_cases hji : j = i
    · subst hji; exact hy.wpOp hi ⟨hS.1, fun h => hS.2 (hb h)⟩ ⟨owed_set hS, H⟩
    · have h1 := H.2 j (ready_mono hj hji)
      obtain ⟨hjun, oj, hoj, hall⟩ := mem_ready.1 hj
      have hnot : ∀ e ∈ oj.after, Region.binds md e = true → e.on ≠ i := fun e he hb heq => by
        have h1 := hall e he hb
        have h0 := (mem_ready.1 hr).1
        rw [heq] at h1
        rcases Nat.lt_or_ge i listed.size with h' | h'
        · simp [h'] at h0 h1; rw [h0] at h1; cases h1
        · simp [Array.getElem?_eq_none h'] at h1
      have hjb : fl = true → j ≠ b := fun hf e => by
        obtain ⟨ob, hob, e', he', hbd, hon⟩ := hbi hf
        subst e
        rw [hoj] at hob
        cases hob
        exact hnot e' he' hbd hon
      have h2 := wpOp_putIf hoj (hfree j oj hoj hji hjun hnot) (fun cs b => hsel i oi cs b hi) (fun cs b => hsel j oj cs b hoj) hQ hy h1
      have hfree' : ∀ k ok, ops[k]? = some ok → k ≠ i → (listed.setIfInBounds j true).getD k true = false →
          (∀ e ∈ ok.after, Region.binds md e = true → e.on ≠ i) → oi.apart ops ok = true := fun k ok hk hki hun hno => by
        refine hfree k ok hk hki ?_ hno
        by_cases hjk : j = k
        · subst hjk; exact hjun
        · rw [getD_set_ne true hjk] at hun; exact hun
      have hb' : fl = true → (listed.setIfInBounds j true).getD b true = false := fun hf => by rw [getD_set_ne true (hjb hf)]; exact hb hf
      refine wpOp_mono (fun a' w' h3 => ?_) h2
      have hS' : Owed b S F (listed.setIfInBounds j true) w' := by
        refine ⟨h3.2.1.1, fun hun => h3.2.1.2 ?_⟩
        rw [Array.setIfInBounds_comm _ _ (Ne.symm hji), getD_set_ne true (Ne.symm hne)]; exact hun
      refine ⟨hS', ih (listed.setIfInBounds j true) a' w' hfree' (ready_mono hr (Ne.symm hji)) hb' h3.1 hS' ?_⟩
      rw [Array.setIfInBounds_comm _ _ hji]
      exact h3.2.2
/-- b waits for i. -/
def waitsB (md : Region.Mode) (ops : Array Oper) (b i : Nat) : Bool := match ops[b]? with | some ob => ob.after.any (fun e => Region.binds md e && e.on == i) | none => false
theorem waitsB_spec {i : Nat} (h : waitsB md ops b i = true) : ∃ ob, ops[b]? = some ob ∧ ∃ e ∈ ob.after, Region.binds md e = true ∧ e.on = i := by
  unfold waitsB at h
  split at h
  · rename_i ob hob
    obtain ⟨k, hk, h2⟩ := Array.any_eq_true.1 h
    simp only [Bool.and_eq_true, beq_iff_eq] at h2
    exact ⟨ob, hob, _, Array.getElem_mem hk, h2.1, h2.2⟩
  · cases h
/-- A load of what holds till b has come. -/
theorem anyL_load {i : Nat} {oi : Oper} {v : Value} {fuel : Nat} {listed : Array Bool} {a : Act} {w : World} (hi : ops[i]? = some oi)
    (hs : (Region.noSelect ops && Region.free md ops listed i && (Region.ready md ops listed).contains i && waitsB md ops b i && !listed.getD b true && b != i) = true)
    (hQ : ∀ c a w, Q (.panic c) (a.put oi.dst v) w → Q (.panic c) a w) (hw : Region.wanted oi (yielded ops a.tmps) = true)
    (hy : ∀ w, F w → (execOp a.eval oi).run P w = .ok (.value v) w) (hS : Owed b S F listed w)
    (h : Owed b S F (listed.setIfInBounds i true) w → wpAnyL P md ops Q b S F fuel (listed.setIfInBounds i true) (a.put oi.dst v) w) : wpAnyL P md ops Q b S F (fuel + 1) listed a w := by
  simp only [Bool.and_eq_true, Bool.not_eq_true', bne_iff_ne] at hs
  obtain ⟨⟨⟨⟨⟨h1, h2⟩, h3⟩, h4⟩, h5⟩, h6⟩ := hs
  exact anyL_first (fl := true) hi (Region.noSelect_spec h1) hQ h6 (fun _ => waitsB_spec h4) fuel listed a w (Region.free_spec hi h2) (by simpa using h3) (fun _ => h5) (Or.inl ⟨hw, fun w hw' => hy w (hw'.2 rfl)⟩) hS (h (owed_set hS))
/-- An operation that looks at no memory but what always holds. -/
theorem anyL_take {i : Nat} {oi : Oper} {v : Value} {fuel : Nat} {listed : Array Bool} {a : Act} {w : World} (hi : ops[i]? = some oi)
    (hs : (Region.noSelect ops && Region.free md ops listed i && (Region.ready md ops listed).contains i && b != i) = true)
    (hQ : ∀ c a w, Q (.panic c) (a.put oi.dst v) w → Q (.panic c) a w) (hw : Region.wanted oi (yielded ops a.tmps) = true)
    (hy : ∀ w, S w → (execOp a.eval oi).run P w = .ok (.value v) w) (hS : Owed b S F listed w)
    (h : Owed b S F (listed.setIfInBounds i true) w → wpAnyL P md ops Q b S F fuel (listed.setIfInBounds i true) (a.put oi.dst v) w) : wpAnyL P md ops Q b S F (fuel + 1) listed a w := by
  simp only [Bool.and_eq_true, bne_iff_ne] at hs
  obtain ⟨⟨⟨h1, h2⟩, h3⟩, h6⟩ := hs
  exact anyL_first (fl := false) hi (Region.noSelect_spec h1) hQ h6 (fun h => by cases h) fuel listed a w (Region.free_spec hi h2) (by simpa using h3) (fun h => by cases h) (Or.inl ⟨hw, fun w hw' => hy w hw'.1⟩) hS (h (owed_set hS))
/-- One operation alone may come. -/
theorem anyL_one {i : Nat} {o : Oper} {fuel : Nat} {listed : Array Bool} {a : Act} {w : World} (ho : ops[i]? = some o) (hr : Region.ready md ops listed = [i]) (hw : Region.wanted o (yielded ops a.tmps) = true)
    (h : ∀ K' : Act → World → Prop, Shut (∀ a w, Owed b S F (listed.setIfInBounds i true) w → (Owed b S F (listed.setIfInBounds i true) w → wpAnyL P md ops Q b S F fuel (listed.setIfInBounds i true) a w) → K' a w) → Oper.wp P o a w K' Q) : wpAnyL P md ops Q b S F (fuel + 1) listed a w := by
  refine ⟨fun h0 => (by rw [hr] at h0; cases h0), fun j hj => ?_⟩
  rw [hr, List.mem_singleton] at hj
  subst hj
  refine wpOp_step ho (fun K' hK => ?_)
  rw [if_pos hw]
  exact h K' (fun a w hS hW => hK a w ⟨hS, hW hS⟩)
theorem anyL_done {listed : Array Bool} {a : Act} {w : World} (hr : Region.ready md ops listed = []) (h : Q .normal a w) : ∀ fuel, wpAnyL P md ops Q b S F fuel listed a w
  | 0 => ⟨hr, h⟩
  | _ + 1 => ⟨fun _ => h, by rw [hr]; simp⟩
theorem wp_region_L {id : Nat} {a : Act} {w : World} (b : Nat) (S F : World → Prop) (hm : P.follows .mixedOrders = true) (hS : S w.drew) (hF : F w.drew)
    (h : Owed b S F (Array.replicate ops.size false) w.drew → wpAnyL P .any ops Q b S F ops.size (Array.replicate ops.size false) a w.drew) : (Code.region id ops true).wp P Q a w :=
  wp_region_any hm (any_of_L _ _ _ _ (h ⟨hS, fun _ => hF⟩))
end
end Go.Proofs.YtkoiknmijjiicaaGreatDoor
