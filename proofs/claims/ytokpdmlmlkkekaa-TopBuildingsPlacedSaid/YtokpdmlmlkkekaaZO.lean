import Derived.ChangeArms
import Derived.OpenShut
import Derived.Deep.Slices
import Derived.Test.YtokpdmlmlkkekaaZL
import Derived.Test.YtokpdmlmlkkekaaRows
import Derived.KernelRfl
import Derived.WideKeyArr2
/- How a value of a type of structs and arrays is read, cell by cell. No program in sight. -/
namespace Go.Proofs.Ytokpdmlmlkkekaa
set_option linter.unusedVariables false
open Go Go.ChangeShapes Go.WideShapes Go.RowKit Go.Deep

/-- The types of the cells of a struct's fields, from an offset on. -/
def leafsS (P : Program) (F : TypeId → Option (List TypeId)) : Nat → List Field → Option (List TypeId)
  | _, [] => some []
  | off, f :: fs => if f.offset = off then (F f.type).bind fun a => if a.length = P.cellsOf f.type then (leafsS P F (off + a.length) fs).map (a ++ ·) else none else none
/-- The types of the cells of a type, through structs and arrays all the way down. -/
def leafs (P : Program) : Nat → TypeId → Option (List TypeId)
  | 0, _ => none
  | m + 1, t => match P.underlying t with
    | some (.int _) => some [t]
    | some .bool => some [t]
    | some (.slice _) => some [t]
    | some (.struct fs) => leafsS P (leafs P m) 0 fs.toList
    | some (.array n e) => (leafs P m e).bind fun a => if a.length = P.cellsOf e ∧ 0 < a.length then some ((List.replicate n a).flatten) else none
    | _ => none
section
variable {H : Type} {enc : TypeId × Value → H} {P : Program} {w : World} {base : Nat} {spare : Nat → Bool} {held : Bool}
/-- A cell that reads as a value of a type. -/
def CellOk (enc : TypeId × Value → H) (P : Program) (w : World) (base : Nat) (spare : Nat → Bool) (held : Bool) (t : TypeId) (v : Value) : Prop := ∃ fuel x, DataW.trod enc P w base spare held fuel t [v] = some x
def AllOk (enc : TypeId × Value → H) (P : Program) (w : World) (base : Nat) (spare : Nat → Bool) (held : Bool) (ls : List TypeId) (cs : List Value) : Prop :=
  ∀ (i : Nat) (t : TypeId) (v : Value), ls[i]? = some t → cs[i]? = some v → CellOk enc P w base spare held t v
theorem allOk_one {fuel : Nat} {t : TypeId} {cs : List Value} {x : DataW H × List MemPlace} (h : DataW.trod enc P w base spare held fuel t cs = some x) (hc : cs.length = 1) : AllOk enc P w base spare held [t] cs := by
  match cs, hc with
  | [c], _ =>
    intro i t' v h1 h2
    cases i with
    | zero => simp at h1 h2; subst h1 h2; exact ⟨fuel, x, h⟩
    | succ i => simp at h1
theorem fields_ok {F : TypeId → Option (List TypeId)} {n : Nat} {cs : List Value}
    (hF : ∀ t ls fuel cs' x, F t = some ls → DataW.trod enc P w base spare held fuel t cs' = some x → AllOk enc P w base spare held ls cs') :
    ∀ (fs : List Field) (off : Nat) (ls : List TypeId), leafsS P F off fs = some ls →
      (∀ f ∈ fs, ∃ y, DataW.trod enc P w base spare held n f.type ((cs.drop f.offset).take (P.cellsOf f.type)) = some y) →
      ∀ (i : Nat) (t : TypeId) (v : Value), ls[i]? = some t → cs[off + i]? = some v → CellOk enc P w base spare held t v
  | [], off, ls, h, _ => by simp [leafsS] at h; subst h; intro i t v h1; simp at h1
  | f :: fs, off, ls, h, hy => by
    unfold leafsS at h
    split at h
    · rename_i ho
      cases ha : F f.type with
      | none => rw [ha] at h; simp at h
      | some a =>
        rw [ha] at h
        simp only [Option.bind_some] at h
        split at h
        · rename_i hl
          cases hr : leafsS P F (off + a.length) fs with
          | none => rw [hr] at h; simp at h
          | some rest =>
            rw [hr] at h
            simp only [Option.map_some, Option.some.injEq] at h
            subst h
            intro i t v h1 h2
            by_cases hi : i < a.length
            · rw [List.getElem?_append_left hi] at h1
              obtain ⟨y, hy0⟩ := hy f (by simp)
              refine hF _ _ _ _ _ ha hy0 i t v h1 ?_
              rw [List.getElem?_take, if_pos (by omega), List.getElem?_drop, ho]
              exact h2
            · rw [List.getElem?_append_right (by omega)] at h1
              refine fields_ok hF fs (off + a.length) rest hr (fun g hg => hy g (by simp [hg])) (i - a.length) t v h1 ?_
              rw [show off + a.length + (i - a.length) = off + i by omega]
              exact h2
        · cases h
    · cases h
theorem flat_at {a : List TypeId} (ha : 0 < a.length) : ∀ (n i : Nat) (t : TypeId), ((List.replicate n a).flatten)[i]? = some t → i / a.length < n ∧ a[i % a.length]? = some t
  | 0, i, t, h => by simp at h
  | n + 1, i, t, h => by
    rw [List.replicate_succ, List.flatten_cons] at h
    by_cases hi : i < a.length
    · rw [List.getElem?_append_left hi] at h
      rw [Nat.div_eq_of_lt hi, Nat.mod_eq_of_lt hi]
      exact ⟨by omega, h⟩
    · rw [List.getElem?_append_right (by omega)] at h
      obtain ⟨h1, h2⟩ := flat_at ha n (i - a.length) t h
      have e : i = (i - a.length) + a.length := by omega
      rw [e, Nat.add_div_right _ ha, Nat.add_mod_right]
      exact ⟨by omega, h2⟩
/-- A value's cells read as the leaf types say. -/
theorem leafs_ok : ∀ (m : Nat) (t : TypeId) (ls : List TypeId) (fuel : Nat) (cs : List Value) (x : DataW H × List MemPlace), leafs P m t = some ls → DataW.trod enc P w base spare held fuel t cs = some x → AllOk enc P w base spare held ls cs
  | 0, t, ls, fuel, cs, x, h, _ => by simp [leafs] at h
  | m + 1, t, ls, fuel, cs, x, h, ht => by
    unfold leafs at h
    split at h
    · rename_i k hu
      cases h
      obtain ⟨n, hc, _⟩ := DataW.trod_int hu ht
      exact allOk_one ht (by rw [hc]; rfl)
    · rename_i hu
      cases h
      obtain ⟨n, hc, _⟩ := DataW.trod_bool hu ht
      exact allOk_one ht (by rw [hc]; rfl)
    · rename_i e hu
      cases h
      refine allOk_one ht ?_
      rcases open_slice hu ht with ⟨hc, _⟩ | ⟨_, _, _, _, _, _, _, hc, _⟩
      · rw [hc]; rfl
      · rw [hc]; rfl
    · rename_i fs hu
      obtain ⟨xs, n, _, _, _, hlen, hg⟩ := DataW.trod_struct hu ht
      have := fields_ok (cs := cs) (n := n) (fun t ls fuel cs' x h1 h2 => leafs_ok m t ls fuel cs' x h1 h2) fs.toList 0 ls h (fun f hf => by
        obtain ⟨i, hi⟩ := List.getElem?_of_mem hf
        rw [Array.getElem?_toList] at hi
        have h3 := hg i f hi
        have hil : i < xs.length := by rw [hlen]; exact (Array.getElem?_eq_some_iff.1 hi).1
        exact ⟨xs[i], h3.trans (List.getElem?_eq_getElem hil)⟩)
      intro i t' v h1 h2
      exact this i t' v h1 (by rw [Nat.zero_add]; exact h2)
    · rename_i n e hu
      cases ha : leafs P m e with
      | none => rw [ha] at h; simp at h
      | some a =>
        rw [ha] at h
        simp only [Option.bind_some] at h
        split at h
        · rename_i hl
          cases h
          obtain ⟨xs, n', _, _, _, hlen, hg⟩ := DataW.trod_array hu ht
          intro i t' v h1 h2
          obtain ⟨h3, h4⟩ := flat_at hl.2 n i t' h1
          have h5 := hg (i / a.length) h3
          have hil : i / a.length < xs.length := by rw [hlen]; exact h3
          refine leafs_ok m e a n' _ _ ha (h5.trans (List.getElem?_eq_getElem hil)) (i % a.length) t' v h4 ?_
          have hm := Nat.mod_lt i hl.2
          rw [List.getElem?_take, if_pos (by omega), List.getElem?_drop, ← hl.1, show i / a.length * a.length + i % a.length = i from Nat.div_add_mod' i _]
          exact h2
        · cases h
    · cases h
theorem CellOk.int {t : TypeId} {k : IntKind} {v : Value} (h : CellOk enc P w base spare held t v) (hu : P.underlying t = some (.int k)) : ∃ n, v = .int k n ∧ (Lit.int k n).wf = true := by
  obtain ⟨fuel, x, h⟩ := h
  obtain ⟨n, hc, _, hw⟩ := DataW.trod_int hu h
  simp at hc
  exact ⟨n, hc, hw⟩
theorem CellOk.bool {t : TypeId} {v : Value} (h : CellOk enc P w base spare held t v) (hu : P.underlying t = some .bool) : ∃ b, v = .bool b := by
  obtain ⟨fuel, x, h⟩ := h
  obtain ⟨n, hc, _⟩ := DataW.trod_bool hu h
  simp at hc
  exact ⟨n, hc⟩
end
end Go.Proofs.Ytokpdmlmlkkekaa

/- The arguments of the laws: tracks, pixels, places. -/
namespace Go.Proofs.Ytokpdmlmlkkekaa
set_option linter.unusedVariables false
open Go.ChangeShapes Go.WideShapes Go.RowKit
theorem own : ownKnob Try.prog.godebug = none := by kernel_rfl
theorem laidOut : laidOutB Try.prog = true := by kernel_rfl
theorem cells_track : Try.prog.cellsOf 25 = 9 := by kernel_rfl
theorem leafs_track : leafs Try.prog 8 25 = some [3, 3, 3, 3, 3, 3, 3, 3, 4] := by kernel_rfl
theorem cells_pixel : Try.prog.cellsOf 29 = 4 := by kernel_rfl
theorem leafs_pixel : leafs Try.prog 8 29 = some [3, 3, 3, 3] := by kernel_rfl
theorem cells_place : Try.prog.cellsOf 23 = 3 := by kernel_rfl
theorem leafs_place : leafs Try.prog 8 23 = some [3, 3, 3] := by kernel_rfl
section
variable {H : Type} {enc : TypeId × Value → H} {w : World} {base : Nat} {spare : Nat → Bool} {held : Bool} {r : Reach} {b0 : Nat} {v : Value} {d : DataW H} {p : List MemPlace}
theorem cells_of {P : Program} {t : TypeId} {fs : Array Field} {n : Nat} {ls : List TypeId} (hu : P.underlying t = some (.struct fs)) (hn : P.cellsOf t = n) (hl : leafs P 8 t = some ls) (hv : Value.okWide P w r b0 t v) (h : DataW.Trod enc P w base spare held t v d p) :
    ∃ cs : List Value, cs.length = n ∧ v = .agg cs.toArray ∧ AllOk enc P w base spare held ls cs := by
  obtain ⟨cs, rfl, hs⟩ := okWide_struct hu hv
  obtain ⟨l⟩ := cs
  obtain ⟨fuel, hf⟩ := h
  exact ⟨l, by rw [← hn]; exact hs, rfl, leafs_ok 8 t ls fuel _ _ hl (by simpa [Value.cells] using hf)⟩
set_option maxRecDepth 100000 in
theorem open_track (hv : Value.okWide Try.prog w r b0 25 v) (h : DataW.Trod enc Try.prog w base spare held 25 v d p) :
    ∃ t : Trk, v = .agg #[.int .i64 t.sx, .int .i64 t.sy, .int .i64 t.sz, .int .i64 t.step, .int .i64 t.lines, .int .i64 t.near, .int .i64 t.bin, .int .i64 t.bins, .bool t.east] := by
  obtain ⟨cs, hn, rfl, ok⟩ := cells_of Try.underlying25 cells_track leafs_track hv h
  match cs, hn with
  | [c0, c1, c2, c3, c4, c5, c6, c7, c8], _ =>
    obtain ⟨a0, rfl, _⟩ := (ok 0 _ _ rfl rfl).int Try.underlying3
    obtain ⟨a1, rfl, _⟩ := (ok 1 _ _ rfl rfl).int Try.underlying3
    obtain ⟨a2, rfl, _⟩ := (ok 2 _ _ rfl rfl).int Try.underlying3
    obtain ⟨a3, rfl, _⟩ := (ok 3 _ _ rfl rfl).int Try.underlying3
    obtain ⟨a4, rfl, _⟩ := (ok 4 _ _ rfl rfl).int Try.underlying3
    obtain ⟨a5, rfl, _⟩ := (ok 5 _ _ rfl rfl).int Try.underlying3
    obtain ⟨a6, rfl, _⟩ := (ok 6 _ _ rfl rfl).int Try.underlying3
    obtain ⟨a7, rfl, _⟩ := (ok 7 _ _ rfl rfl).int Try.underlying3
    obtain ⟨a8, rfl⟩ := (ok 8 _ _ rfl rfl).bool Try.underlying4
    exact ⟨⟨a0, a1, a2, a3, a4, a5, a6, a7, a8⟩, rfl⟩
set_option maxRecDepth 100000 in
theorem open_pixel (hv : Value.okWide Try.prog w r b0 29 v) (h : DataW.Trod enc Try.prog w base spare held 29 v d p) :
    ∃ q : Pix, v = .agg #[.int .i64 q.line, .int .i64 q.bin, .int .i64 q.lo, .int .i64 q.hi] := by
  obtain ⟨cs, hn, rfl, ok⟩ := cells_of Try.underlying29 cells_pixel leafs_pixel hv h
  match cs, hn with
  | [c0, c1, c2, c3], _ =>
    obtain ⟨a0, rfl, _⟩ := (ok 0 _ _ rfl rfl).int Try.underlying3
    obtain ⟨a1, rfl, _⟩ := (ok 1 _ _ rfl rfl).int Try.underlying3
    obtain ⟨a2, rfl, _⟩ := (ok 2 _ _ rfl rfl).int Try.underlying3
    obtain ⟨a3, rfl, _⟩ := (ok 3 _ _ rfl rfl).int Try.underlying3
    exact ⟨⟨a0, a1, a2, a3⟩, rfl⟩
set_option maxRecDepth 100000 in
theorem open_place (hv : Value.okWide Try.prog w r b0 23 v) (h : DataW.Trod enc Try.prog w base spare held 23 v d p) :
    ∃ x y z : Int, v = .agg #[.int .i64 x, .int .i64 y, .int .i64 z] ∧ (Lit.int .i64 x).wf = true ∧ (Lit.int .i64 y).wf = true ∧ (Lit.int .i64 z).wf = true := by
  obtain ⟨cs, hn, rfl, ok⟩ := cells_of Try.underlying23 cells_place leafs_place hv h
  match cs, hn with
  | [c0, c1, c2], _ =>
    obtain ⟨a0, rfl, w0⟩ := (ok 0 _ _ rfl rfl).int Try.underlying3
    obtain ⟨a1, rfl, w1⟩ := (ok 1 _ _ rfl rfl).int Try.underlying3
    obtain ⟨a2, rfl, w2⟩ := (ok 2 _ _ rfl rfl).int Try.underlying3
    exact ⟨a0, a1, a2, rfl, w0, w1, w2⟩
end
end Go.Proofs.Ytokpdmlmlkkekaa

/- The arguments of the laws: queries, raises, arrays. -/
namespace Go.Proofs.Ytokpdmlmlkkekaa
set_option linter.unusedVariables false
open Go.ChangeShapes Go.WideShapes Go.RowKit
theorem cells_query : Try.prog.cellsOf 106 = 7 := by kernel_rfl
theorem leafs_query : leafs Try.prog 8 106 = some [3, 3, 3, 3, 3, 3, 3] := by kernel_rfl
theorem cells_raise : Try.prog.cellsOf 74 = 3 := by kernel_rfl
theorem leafs_raise : leafs Try.prog 8 74 = some [3, 3, 3] := by kernel_rfl
theorem leafs_a2 : leafs Try.prog 8 44 = some [3, 3] := by kernel_rfl
theorem leafs_a4 : leafs Try.prog 8 96 = some [3, 3, 3, 3] := by kernel_rfl
theorem key_a2 : WideMaps.ArrKey Try.prog 44 3 2 := ⟨Try.underlying44, by kernel_rfl, by kernel_rfl, by kernel_rfl⟩
theorem key_a4 : WideMaps.ArrKey Try.prog 96 3 4 := ⟨Try.underlying96, by kernel_rfl, by kernel_rfl, by kernel_rfl⟩
section
variable {H : Type} {enc : TypeId × Value → H} {w : World} {base : Nat} {spare : Nat → Bool} {held : Bool} {r : Reach} {b0 : Nat} {v : Value} {d : DataW H} {p : List MemPlace}
/-- A 64-bit number, as bounds. -/
def I64 (n : Int) : Prop := -9223372036854775808 ≤ n ∧ n ≤ 9223372036854775807
theorem i64_wf {n : Int} (h : (Lit.int .i64 n).wf = true) : I64 n := by
  have h2 := (by simpa [Lit.wf] using h : IntKind.i64.min ≤ n ∧ n ≤ IntKind.i64.max)
  exact h2
set_option maxRecDepth 100000 in
theorem open_query (hv : Value.okWide Try.prog w r b0 106 v) (h : DataW.Trod enc Try.prog w base spare held 106 v d p) :
    ∃ c0 c1 c2 c3 c4 c5 c6 : Int, v = .agg #[.int .i64 c0, .int .i64 c1, .int .i64 c2, .int .i64 c3, .int .i64 c4, .int .i64 c5, .int .i64 c6] ∧ I64 c4 ∧ I64 c5 ∧ I64 c6 := by
  obtain ⟨cs, hn, rfl, ok⟩ := cells_of Try.underlying106 cells_query leafs_query hv h
  match cs, hn with
  | [c0, c1, c2, c3, c4, c5, c6], _ =>
    obtain ⟨a0, rfl, _⟩ := (ok 0 _ _ rfl rfl).int Try.underlying3
    obtain ⟨a1, rfl, _⟩ := (ok 1 _ _ rfl rfl).int Try.underlying3
    obtain ⟨a2, rfl, _⟩ := (ok 2 _ _ rfl rfl).int Try.underlying3
    obtain ⟨a3, rfl, _⟩ := (ok 3 _ _ rfl rfl).int Try.underlying3
    obtain ⟨a4, rfl, h4⟩ := (ok 4 _ _ rfl rfl).int Try.underlying3
    obtain ⟨a5, rfl, h5⟩ := (ok 5 _ _ rfl rfl).int Try.underlying3
    obtain ⟨a6, rfl, h6⟩ := (ok 6 _ _ rfl rfl).int Try.underlying3
    exact ⟨a0, a1, a2, a3, a4, a5, a6, rfl, i64_wf h4, i64_wf h5, i64_wf h6⟩
set_option maxRecDepth 100000 in
theorem open_raise (hv : Value.okWide Try.prog w r b0 74 v) (h : DataW.Trod enc Try.prog w base spare held 74 v d p) :
    ∃ c0 c1 c2 : Int, v = .agg #[.int .i64 c0, .int .i64 c1, .int .i64 c2] ∧ I64 c0 ∧ I64 c1 ∧ I64 c2 := by
  obtain ⟨cs, hn, rfl, ok⟩ := cells_of Try.underlying74 cells_raise leafs_raise hv h
  match cs, hn with
  | [c0, c1, c2], _ =>
    obtain ⟨a0, rfl, h0⟩ := (ok 0 _ _ rfl rfl).int Try.underlying3
    obtain ⟨a1, rfl, h1⟩ := (ok 1 _ _ rfl rfl).int Try.underlying3
    obtain ⟨a2, rfl, h2⟩ := (ok 2 _ _ rfl rfl).int Try.underlying3
    exact ⟨a0, a1, a2, rfl, i64_wf h0, i64_wf h1, i64_wf h2⟩
theorem cells_arr {P : Program} {t e : TypeId} {n : Nat} {ls : List TypeId} (A : WideMaps.ArrKey P t e n) (hl : leafs P 8 t = some ls) (hv : Value.okWide P w r b0 t v) (h : DataW.Trod enc P w base spare held t v d p) :
    ∃ cs : List Value, cs.length = n ∧ v = .agg cs.toArray ∧ AllOk enc P w base spare held ls cs := by
  obtain ⟨cs, rfl, hs⟩ := WideMaps.okWide_arr A hv
  obtain ⟨l⟩ := cs
  obtain ⟨fuel, hf⟩ := h
  exact ⟨l, by simpa using hs, rfl, leafs_ok 8 t ls fuel _ _ hl (by simpa [Value.cells] using hf)⟩
set_option maxRecDepth 100000 in
theorem open_a2 (hv : Value.okWide Try.prog w r b0 44 v) (h : DataW.Trod enc Try.prog w base spare held 44 v d p) :
    ∃ c0 c1 : Int, v = .agg #[.int .i64 c0, .int .i64 c1] ∧ I64 c0 ∧ I64 c1 := by
  obtain ⟨cs, hn, rfl, ok⟩ := cells_arr key_a2 leafs_a2 hv h
  match cs, hn with
  | [c0, c1], _ =>
    obtain ⟨a0, rfl, h0⟩ := (ok 0 _ _ rfl rfl).int Try.underlying3
    obtain ⟨a1, rfl, h1⟩ := (ok 1 _ _ rfl rfl).int Try.underlying3
    exact ⟨a0, a1, rfl, i64_wf h0, i64_wf h1⟩
set_option maxRecDepth 100000 in
theorem open_a4 (hv : Value.okWide Try.prog w r b0 96 v) (h : DataW.Trod enc Try.prog w base spare held 96 v d p) :
    ∃ c0 c1 c2 c3 : Int, v = .agg #[.int .i64 c0, .int .i64 c1, .int .i64 c2, .int .i64 c3] ∧ I64 c0 ∧ I64 c1 ∧ I64 c2 ∧ I64 c3 := by
  obtain ⟨cs, hn, rfl, ok⟩ := cells_arr key_a4 leafs_a4 hv h
  match cs, hn with
  | [c0, c1, c2, c3], _ =>
    obtain ⟨a0, rfl, h0⟩ := (ok 0 _ _ rfl rfl).int Try.underlying3
    obtain ⟨a1, rfl, h1⟩ := (ok 1 _ _ rfl rfl).int Try.underlying3
    obtain ⟨a2, rfl, h2⟩ := (ok 2 _ _ rfl rfl).int Try.underlying3
    obtain ⟨a3, rfl, h3⟩ := (ok 3 _ _ rfl rfl).int Try.underlying3
    exact ⟨a0, a1, a2, a3, rfl, i64_wf h0, i64_wf h1, i64_wf h2, i64_wf h3⟩
set_option maxRecDepth 100000 in
theorem open_n (hv : Value.okWide Try.prog w r b0 3 v) (h : DataW.Trod enc Try.prog w base spare held 3 v d p) : ∃ n : Int, v = .int .i64 n ∧ I64 n := by
  obtain ⟨n, rfl⟩ := okWide_int Try.underlying3 hv
  obtain ⟨fuel, hf⟩ := h
  obtain ⟨m, hc, _, hw⟩ := DataW.trod_int Try.underlying3 hf
  simp [Value.cells] at hc
  subst hc
  exact ⟨n, rfl, i64_wf hw⟩
end
end Go.Proofs.Ytokpdmlmlkkekaa
