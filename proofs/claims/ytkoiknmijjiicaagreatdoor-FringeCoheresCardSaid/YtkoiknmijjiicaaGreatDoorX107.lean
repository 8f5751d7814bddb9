/- A region that draws its order, by facts: each operation brings a fact of slots and memory, and keeps the others. No program in sight. -/
import Derived.Test.YtkoiknmijjiicaaGreatDoorZI
namespace Go.Proofs.YtkoiknmijjiicaaGreatDoor
set_option linter.unusedVariables false
set_option linter.unusedSimpArgs false
open Go Go.RowKit Go.Sort
section
variable {P : Program} {Q : Exit → Act → World → Prop}
/-- An act whose slots of a list hold other values. -/
def upd (a : Act) (ss : List Nat) (v : Nat → Value) : Act := { a with tmps := ss.foldl (fun A s => A.setIfInBounds s (v s)) a.tmps }
theorem fold_size (v : Nat → Value) : ∀ (ss : List Nat) (T : Array Value), (ss.foldl (fun A s => A.setIfInBounds s (v s)) T).size = T.size
  | [], _ => rfl
  | s :: ss, T => by rw [List.foldl_cons, fold_size v ss]; simp
theorem fold_at (v : Nat → Value) : ∀ (ss : List Nat) (T : Array Value) (i : Nat), (ss.foldl (fun A s => A.setIfInBounds s (v s)) T)[i]? = if i ∈ ss then (if i < T.size then some (v i) else none) else T[i]?
  | [], T, i => by simp
  | s :: ss, T, i => by
    rw [List.foldl_cons, fold_at v ss]
    by_cases h : i ∈ ss
    · simp [h]
    · by_cases h2 : s = i
      · subst h2
        by_cases h3 : s < T.size
        · simp [h, h3]
        · simp [h, h3]
      · have h4 : ¬ i = s := fun e => h2 e.symm
        simp [h, h2, h4, Array.getElem?_setIfInBounds]
theorem act_ext {a b : Act} (h1 : a.tmps = b.tmps) (h2 : a.defers = b.defers) : a = b := by cases a; cases b; simp_all
theorem upd_put {a : Act} {ss : List Nat} {v : Nat → Value} {d : Nat} (hd : d ∈ ss) (x : Value) : (upd a ss v).put (some d) x = upd a ss (fun s => if s = d then x else v s) := by
  refine act_ext (Array.ext_getElem? fun i => ?_) rfl
  show ((ss.foldl (fun A s => A.setIfInBounds s (v s)) a.tmps).setIfInBounds d x)[i]? = (ss.foldl (fun A s => A.setIfInBounds s (if s = d then x else v s)) a.tmps)[i]?
  rw [Array.getElem?_setIfInBounds, fold_at, fold_at (fun s => if s = d then x else v s), fold_size]
  by_cases h : d = i
  · subst h
    by_cases h2 : d < a.tmps.size <;> simp [h2, hd]
  · have h4 : ¬ i = d := fun e => h e.symm
    simp [h, h4]
theorem upd_in {a : Act} {ss : List Nat} {v : Nat → Value} {s : Nat} (h : s ∈ ss) (hs : s < a.tmps.size) : (upd a ss v).eval (.tmp s) = v s := by
  show (ss.foldl (fun A s => A.setIfInBounds s (v s)) a.tmps).getD s undef = v s
  rw [Array.getD_eq_getD_getElem?, fold_at, if_pos h, if_pos hs]
  rfl
theorem upd_out {a : Act} {ss : List Nat} {v : Nat → Value} {s : Nat} (h : s ∉ ss) : (upd a ss v).eval (.tmp s) = a.eval (.tmp s) := by
  show (ss.foldl (fun A s => A.setIfInBounds s (v s)) a.tmps).getD s undef = a.tmps.getD s undef
  rw [Array.getD_eq_getD_getElem?, fold_at, if_neg h, Array.getD_eq_getD_getElem?]
theorem upd_self (a : Act) (ss : List Nat) : upd a ss (fun s => a.tmps.getD s undef) = a := by
  refine act_ext (Array.ext_getElem? fun i => ?_) rfl
  show (ss.foldl (fun A s => A.setIfInBounds s (a.tmps.getD s undef)) a.tmps)[i]? = a.tmps[i]?
  rw [fold_at (fun s => a.tmps.getD s undef)]
  split
  · split
    · rename_i h
      exact (Array.getElem?_eq_getElem h).symm
    · rename_i h
      rw [Array.getElem?_eq_none (by omega)]
  · rfl
/-- The law: B of the memory holds all along; each operation brings its fact F and keeps the others; G holds of any two that have come. -/
theorem wp_region_facts {id : Nat} {a : Act} {w : World} {l : List Oper} (hm : P.follows .mixedOrders = true) (hb : Region.waitsBackB .any l.toArray = true) (ss : List Nat)
    (B : World → Prop) (F : Nat → (Nat → Value) → World → Prop) (G : Nat → Nat → (Nat → Value) → Prop) (h0 : B (World.drew w))
    (hstep : ∀ (i : Nat) (o : Oper), l[i]? = some o → ∀ (D : Nat → Prop) (v : Nat → Value) (w : World), ¬ D i → (∀ e ∈ o.after, Region.binds .any e = true → D e.on) → (∀ j o', D j → l[j]? = some o' → ∀ e ∈ o'.after, Region.binds .any e = true → D e.on) → B w → (∀ j, D j → F j v w) → (∀ j k, D j → D k → j ≠ k → G j k v) →
      ∀ K : Act → World → Prop, (∀ v' w', B w' → F i v' w' → (∀ j, D j → F j v' w') → (∀ j, D j → G i j v' ∧ G j i v') → (∀ j k, D j → D k → j ≠ k → G j k v') → K (upd a ss v') w') →
      if Region.wanted o (yielded l.toArray (upd a ss v).tmps) = true then Oper.wp P o (upd a ss v) w K Q else K ((upd a ss v).put o.dst undef) w)
    (hdone : ∀ v w, B w → (∀ j, j < l.length → F j v w) → Q .normal (upd a ss v) w) : (Code.region id l.toArray true).wp P Q a w := by
  refine wp_region_inv hm (fun listed a' w' => ∃ v, a' = upd a ss v ∧ (∀ j o', listed.getD j false = true → l[j]? = some o' → ∀ e ∈ o'.after, Region.binds .any e = true → listed.getD e.on false = true) ∧ B w' ∧ (∀ j, listed.getD j false = true → F j v w') ∧ ∀ j k, listed.getD j false = true → listed.getD k false = true → j ≠ k → G j k v) ?_ ?_ ?_
  · have hf : ∀ j, ¬ (Array.replicate l.toArray.size false).getD j false = true := fun j h => by
      rw [Array.getD_eq_getD_getElem?, Array.getElem?_replicate] at h
      split at h <;> simp at h
    exact ⟨_, (upd_self a ss).symm, fun j o' h => absurd h (hf j), h0, fun j h => absurd h (hf j), fun j k h => absurd h (hf j)⟩
  · rintro listed a' w' hs ⟨v, rfl, hC, hB, hF, hG⟩ i hi
    obtain ⟨h1, o, ho, hd⟩ := mem_ready.1 hi
    have hil : i < l.toArray.size := (Array.getElem?_eq_some_iff.1 ho).1
    have hil2 : i < listed.size := by omega
    have ho2 : l[i]? = some o := by simpa using ho
    have hni : ¬ listed.getD i false = true := by
      rw [Array.getD_eq_getD_getElem?, Array.getElem?_eq_getElem hil2] at h1 ⊢
      simpa using h1
    have hset : ∀ j, (listed.setIfInBounds i true).getD j false = true → j = i ∨ listed.getD j false = true := fun j h => by
      by_cases e : i = j
      · exact .inl e.symm
      · rw [getD_set_ne false e] at h
        exact .inr h
    have hup : ∀ j, listed.getD j false = true → (listed.setIfInBounds i true).getD j false = true := fun j h => by
      by_cases e : i = j
      · exact absurd (e ▸ h) hni
      · rw [getD_set_ne false e]; exact h
    refine wpOp_step ho fun K' hK => ?_
    refine hstep i o ho2 (fun j => listed.getD j false = true) v w' hni (fun e he hbd => hd e he hbd) hC hB hF hG K' (fun v' w'' b1 b2 b3 b4 b5 => hK _ _ ⟨v', rfl, fun j o' hj ho' e he hbd => hup _ ?_, b1, fun j hj => ?_, fun j k hj hk hne => ?_⟩)
    · rcases hset j hj with rfl | h
      · rw [ho2] at ho'
        cases ho'
        exact hd e he hbd
      · exact hC j o' h ho' e he hbd
    · rcases hset j hj with rfl | h
      · exact b2
      · exact b3 j h
    · rcases hset j hj with rfl | h
      · rcases hset k hk with rfl | h2
        · exact absurd rfl hne
        · exact (b4 k h2).1
      · rcases hset k hk with rfl | h2
        · exact (b4 j h).2
        · exact b5 j k h h2 hne
  · rintro listed a' w' hs ⟨v, rfl, -, hB, hF, hG⟩ hr
    refine hdone v w' hB fun j hj => hF j ?_
    exact all_of_ready hs hb hr j (by simpa using hj)
/-- The same, the act by what its slots hold. -/
theorem wp_region_facts2 {id : Nat} {a : Act} {w : World} {l : List Oper} (hm : P.follows .mixedOrders = true) (hb : Region.waitsBackB .any l.toArray = true) (ss : List Nat)
    (B : World → Prop) (F : Nat → (Nat → Value) → World → Prop) (G : Nat → Nat → (Nat → Value) → Prop) (h0 : B (World.drew w))
    (hstep : ∀ (i : Nat) (o : Oper), l[i]? = some o → ∀ (D : Nat → Prop) (v : Nat → Value) (w : World) (A : Act), (∀ s, s ∈ ss → s < a.tmps.size → A.eval (.tmp s) = v s) → (∀ s, s ∉ ss → A.eval (.tmp s) = a.eval (.tmp s)) → ¬ D i → (∀ e ∈ o.after, Region.binds .any e = true → D e.on) → (∀ j o', D j → l[j]? = some o' → ∀ e ∈ o'.after, Region.binds .any e = true → D e.on) → B w → (∀ j, D j → F j v w) → (∀ j k, D j → D k → j ≠ k → G j k v) →
      ∀ K : Act → World → Prop, (∀ d x w', d ∈ ss → B w' → F i (fun s => if s = d then x else v s) w' → ((∀ j, D j → F j (fun s => if s = d then x else v s) w') ∧ (∀ j, D j → G i j (fun s => if s = d then x else v s) ∧ G j i (fun s => if s = d then x else v s)) ∧ ∀ j k, D j → D k → j ≠ k → G j k (fun s => if s = d then x else v s)) → K (A.put (some d) x) w') →
        (∀ w', B w' → F i v w' → (∀ j, D j → F j v w') → (∀ j, D j → G i j v ∧ G j i v) → K (A.put none undef) w' ∧ ∀ x, K (A.put none x) w') →
      if Region.wanted o (yielded l.toArray A.tmps) = true then Oper.wp P o A w K Q else K (A.put o.dst undef) w)
    (hdone : ∀ v w, B w → (∀ j, j < l.length → F j v w) → Q .normal (upd a ss v) w) : (Code.region id l.toArray true).wp P Q a w := by
  refine wp_region_facts hm hb ss B F G h0 (fun i o ho D v w hnD hd hcl hB hF hG K hK => ?_) hdone
  refine hstep i o ho D v w (upd a ss v) (fun s h1 h2 => upd_in h1 h2) (fun s h => upd_out h) hnD hd hcl hB hF hG K (fun d x w' hd' b1 b2 b3 => ?_) (fun w' b1 b2 b3 b4 => ?_)
  · rw [upd_put hd']
    exact hK _ _ b1 b2 b3.1 b3.2.1 b3.2.2
  · exact ⟨hK _ _ b1 b2 b3 b4 hG, fun x => hK _ _ b1 b2 b3 b4 hG⟩
end
end Go.Proofs.YtkoiknmijjiicaaGreatDoor
