/- How a value of a type of structs and arrays is read, cell by cell. No program in sight. -/
import Derived.ChangeArms
import Derived.OpenShut
import Derived.Deep.Slices
namespace Go.Proofs.YtkoiknmijjiicaaGreatDoor
set_option linter.unusedVariables false
set_option linter.unusedSimpArgs false
open Go Go.ChangeShapes Go.WideShapes Go.RowKit Go.Deep

/-- The types of the cells of a struct's fields, from an offset on. -/
def leafsS (P : Program) (F : TypeId → Option (List TypeId)) : Nat → List Field → Option (List TypeId)
  | _, [] => some []
  | off, f :: fs => if f.offset = off then (F f.type).bind fun a => if a.length = P.cellsOf f.type then (leafsS P F (off + a.length) fs).map (a ++ ·) else none else none
/-- The types of the cells of a type, through structs and arrays all the way down. -/
def leafs (P : Program) : Nat → TypeId → Option (List TypeId)
  | 0, _ => none
  | m + 1, t => match P.underlying t with
    | some (.int _) => some [t]
    | some .bool => some [t]
    | some (.slice _) => some [t]
    | some (.struct fs) => leafsS P (leafs P m) 0 fs.toList
    | some (.array n e) => (leafs P m e).bind fun a => if a.length = P.cellsOf e ∧ 0 < a.length then some ((List.replicate n a).flatten) else none
    | _ => none
section
variable {H : Type} {enc : TypeId × Value → H} {P : Program} {w : World} {base : Nat} {spare : Nat → Bool} {held : Bool}
/-- A cell that reads as a value of a type. -/
def CellOk (enc : TypeId × Value → H) (P : Program) (w : World) (base : Nat) (spare : Nat → Bool) (held : Bool) (t : TypeId) (v : Value) : Prop := ∃ fuel x, DataW.trod enc P w base spare held fuel t [v] = some x
def AllOk (enc : TypeId × Value → H) (P : Program) (w : World) (base : Nat) (spare : Nat → Bool) (held : Bool) (ls : List TypeId) (cs : List Value) : Prop :=
  ∀ (i : Nat) (t : TypeId) (v : Value), ls[i]? = some t → cs[i]? = some v → CellOk enc P w base spare held t v
theorem allOk_one {fuel : Nat} {t : TypeId} {cs : List Value} {x : DataW H × List MemPlace} (h : DataW.trod enc P w base spare held fuel t cs = some x) (hc : cs.length = 1) : AllOk enc P w base spare held [t] cs := by
  match cs, hc with
  | [c], _ =>
    intro i t' v h1 h2
    cases i with
    | zero => simp at h1 h2; subst h1 h2; exact ⟨fuel, x, h⟩
    | succ i => simp at h1
theorem fields_ok {F : TypeId → Option (List TypeId)} {n : Nat} {cs : List Value}
    (hF : ∀ t ls fuel cs' x, F t = some ls → DataW.trod enc P w base spare held fuel t cs' = some x → AllOk enc P w base spare held ls cs') :
    ∀ (fs : List Field) (off : Nat) (ls : List TypeId), leafsS P F off fs = some ls →
      (∀ f ∈ fs, ∃ y, DataW.trod enc P w base spare held n f.type ((cs.drop f.offset).take (P.cellsOf f.type)) = some y) →
      ∀ (i : Nat) (t : TypeId) (v : Value), ls[i]? = some t → cs[off + i]? = some v → CellOk enc P w base spare held t v
  | [], off, ls, h, _ => by simp [leafsS] at h; subst h; intro i t v h1; simp at h1
  | f :: fs, off, ls, h, hy => by
    unfold leafsS at h
    split at h
    · rename_i ho
      cases ha : F f.type with
      | none => rw [ha] at h; simp at h
      | some a =>
        rw [ha] at h
        simp only [Option.bind_some] at h
        split at h
        · rename_i hl
          cases hr : leafsS P F (off + a.length) fs with
          | none => rw [hr] at h; simp at h
          | some rest =>
            rw [hr] at h
            simp only [Option.map_some, Option.some.injEq] at h
            subst h
            intro i t v h1 h2
            by_cases hi : i < a.length
            · rw [List.getElem?_append_left hi] at h1
              obtain ⟨y, hy0⟩ := hy f (by simp)
              refine hF _ _ _ _ _ ha hy0 i t v h1 ?_
              rw [List.getElem?_take, if_pos (by omega), List.getElem?_drop, ho]
              exact h2
            · rw [List.getElem?_append_right (by omega)] at h1
              refine fields_ok hF fs (off + a.length) rest hr (fun g hg => hy g (by simp [hg])) (i - a.length) t v h1 ?_
              rw [show off + a.length + (i - a.length) = off + i by omega]
              exact h2
        · cases h
    · cases h
theorem flat_at {a : List TypeId} (ha : 0 < a.length) : ∀ (n i : Nat) (t : TypeId), ((List.replicate n a).flatten)[i]? = some t → i / a.length < n ∧ a[i % a.length]? = some t
  | 0, i, t, h => by simp at h
  | n + 1, i, t, h => by
    rw [List.replicate_succ, List.flatten_cons] at h
    by_cases hi : i < a.length
    · rw [List.getElem?_append_left hi] at h
      rw [Nat.div_eq_of_lt hi, Nat.mod_eq_of_lt hi]
      exact ⟨by omega, h⟩
    · rw [List.getElem?_append_right (by omega)] at h
      obtain ⟨h1, h2⟩ := flat_at ha n (i - a.length) t h
      have e : i = (i - a.length) + a.length := by omega
      rw [e, Nat.add_div_right _ ha, Nat.add_mod_right]
      exact ⟨by omega, h2⟩
/-- A value's cells read as the leaf types say. -/
theorem leafs_ok : ∀ (m : Nat) (t : TypeId) (ls : List TypeId) (fuel : Nat) (cs : List Value) (x : DataW H × List MemPlace), leafs P m t = some ls → DataW.trod enc P w base spare held fuel t cs = some x → AllOk enc P w base spare held ls cs
  | 0, t, ls, fuel, cs, x, h, _ => by simp [leafs] at h
  | m + 1, t, ls, fuel, cs, x, h, ht => by
    unfold leafs at h
    split at h
    · rename_i k hu
      cases h
      obtain ⟨n, hc, _⟩ := DataW.trod_int hu ht
      exact allOk_one ht (by rw [hc]; rfl)
    · rename_i hu
      cases h
      obtain ⟨n, hc, _⟩ := DataW.trod_bool hu ht
      exact allOk_one ht (by rw [hc]; rfl)
    · rename_i e hu
      cases h
      refine allOk_one ht ?_
      rcases open_slice hu ht with ⟨hc, _⟩ | ⟨_, _, _, _, _, _, _, hc, _⟩
      · rw [hc]; rfl
      · rw [hc]; rfl
    · rename_i fs hu
      obtain ⟨xs, n, _, _, _, hlen, hg⟩ := DataW.trod_struct hu ht
      have := fields_ok (cs := cs) (n := n) (fun t ls fuel cs' x h1 h2 => leafs_ok m t ls fuel cs' x h1 h2) fs.toList 0 ls h (fun f hf => by
        obtain ⟨i, hi⟩ := List.getElem?_of_mem hf
        rw [Array.getElem?_toList] at hi
        have h3 := hg i f hi
        have hil : i < xs.length := by rw [hlen]; exact (Array.getElem?_eq_some_iff.1 hi).1
        exact ⟨xs[i], h3.trans (List.getElem?_eq_getElem hil)⟩)
      intro i t' v h1 h2
      exact this i t' v h1 (by rw [Nat.zero_add]; exact h2)
    · rename_i n e hu
      cases ha : leafs P m e with
      | none => rw [ha] at h; simp at h
      | some a =>
        rw [ha] at h
        simp only [Option.bind_some] at h
        split at h
        · rename_i hl
          cases h
          obtain ⟨xs, n', _, _, _, hlen, hg⟩ := DataW.trod_array hu ht
          intro i t' v h1 h2
          obtain ⟨h3, h4⟩ := flat_at hl.2 n i t' h1
          have h5 := hg (i / a.length) h3
          have hil : i / a.length < xs.length := by rw [hlen]; exact h3
          refine leafs_ok m e a n' _ _ ha (h5.trans (List.getElem?_eq_getElem hil)) (i % a.length) t' v h4 ?_
          have hm := Nat.mod_lt i hl.2
          rw [List.getElem?_take, if_pos (by omega), List.getElem?_drop, ← hl.1, show i / a.length * a.length + i % a.length = i from Nat.div_add_mod' i _]
          exact h2
        · cases h
    · cases h
theorem CellOk.int {t : TypeId} {k : IntKind} {v : Value} (h : CellOk enc P w base spare held t v) (hu : P.underlying t = some (.int k)) : ∃ n, v = .int k n ∧ (Lit.int k n).wf = true := by
  obtain ⟨fuel, x, h⟩ := h
  obtain ⟨n, hc, _, hw⟩ := DataW.trod_int hu h
  simp at hc
  exact ⟨n, hc, hw⟩
theorem CellOk.bool {t : TypeId} {v : Value} (h : CellOk enc P w base spare held t v) (hu : P.underlying t = some .bool) : ∃ b, v = .bool b := by
  obtain ⟨fuel, x, h⟩ := h
  obtain ⟨n, hc, _⟩ := DataW.trod_bool hu h
  simp at hc
  exact ⟨n, hc⟩
end
end Go.Proofs.YtkoiknmijjiicaaGreatDoor
