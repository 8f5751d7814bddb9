/- The error of a polygon: plain functions, and the map of corners that are known. -/
import Derived.Test.YthnfepfbkmafaaaG3
import Derived.Maps.OwnSet
import Derived.WideKeyPair
namespace Go.Proofs.Ythnfepfbkmafaaa
set_option linter.unusedVariables false
open Go.RowKit
open Go.Maps

/-- The first number of f that is not 0, from i on, of r numbers. -/
def scan (f : Nat → Int) : Nat → Nat → Int
  | _, 0 => 0
  | i, r + 1 => if f i = 0 then scan f (i + 1) r else f i
theorem scan_zero {f : Nat → Int} : ∀ (r i : Nat), (∀ j, i ≤ j → j < i + r → f j = 0) → scan f i r = 0
  | 0, _, _ => rfl
  | r + 1, i, h => by
    unfold scan
    rw [if_pos (h i (Nat.le_refl _) (by omega))]
    exact scan_zero r (i + 1) (fun j h1 h2 => h j (by omega) (by omega))
theorem scan_hit {f : Nat → Int} : ∀ (r i k : Nat), (∀ j, i ≤ j → j < k → f j = 0) → i ≤ k → k < i + r → f k ≠ 0 → scan f i r = f k
  | 0, _, _, _, h1, h2, _ => by omega
  | r + 1, i, k, h, h1, h2, hk => by
    unfold scan
    by_cases e : i = k
    · subst e; rw [if_neg hk]
    · rw [if_pos (h i (Nat.le_refl _) (by omega))]
      exact scan_hit r (i + 1) k (fun j h3 h4 => h j (by omega) h4) (by omega) (by omega) hk
theorem scan_inv {f : Nat → Int} : ∀ (r i : Nat), scan f i r = 0 → ∀ j, i ≤ j → j < i + r → f j = 0
  | 0, _, _ => fun j h1 h2 => by omega
  | r + 1, i, h => fun j h1 h2 => by
    unfold scan at h
    by_cases e : f i = 0
    · rw [if_pos e] at h
      by_cases e2 : j = i
      · rw [e2]; exact e
      · exact scan_inv r (i + 1) h j (by omega) (by omega)
    · rw [if_neg e] at h; exact absurd h e

def seenB (ps : List Plc) (k : Nat) : Bool := (List.range k).any fun j => decide ((plcAt ps j).x = (plcAt ps k).x) && decide ((plcAt ps j).y = (plcAt ps k).y)
def cornerErr (ps : List Plc) (k : Nat) : Int := if placeB (plcAt ps k).x (plcAt ps k).y (plcAt ps k).z then (if seenB ps k then 28 else 0) else 2
def clashB (ps : List Plc) (i k : Nat) : Bool :=
  if i = k + 1 then hasP (sideAt ps 1 i) (sideAt ps 1 k).x1 (sideAt ps 1 k).y1 || hasP (sideAt ps 1 k) (sideAt ps 1 i).x2 (sideAt ps 1 i).y2
  else if k = 0 ∧ i + 1 = ps.length then hasP (sideAt ps 1 i) (sideAt ps 1 k).x2 (sideAt ps 1 k).y2 || hasP (sideAt ps 1 k) (sideAt ps 1 i).x1 (sideAt ps 1 i).y1
  else meetsP (sideAt ps 1 i) (sideAt ps 1 k)
/-- Two sides clash. -/
def Clash (ps : List Plc) : Prop := ∃ i k, i < ps.length ∧ k < i ∧ clashB ps i k = true
open Classical in
noncomputable def checkPolygonP (ps : List Plc) : Int :=
  if ps.length < 3 then 10 else if 20 < ps.length then 8
  else if scan (cornerErr ps) 0 ps.length = 0 then (if Clash ps then 13 else 0) else scan (cornerErr ps) 0 ps.length

theorem arrC : WideMaps.ArrKey Try.prog 167 3 2 := ⟨Try.underlying167, by kernel_rfl, by kernel_rfl, by kernel_rfl⟩
theorem lawC : Keyed Try.prog 167 := Keyed.of_law arrC.law
theorem zeroB (w : World) : (zeroValue 4).run Try.prog w = .ok (.bool false) w := by kernel_rfl
def keyC (x y : Int) : Lit := .string (keyBytes [.int .i64 x, .int .i64 y])
theorem keyC_of {x y : Int} (h1 : (Lit.int .i64 x).wf = true) (h2 : (Lit.int .i64 y).wf = true) : keyOf Try.prog 167 (.agg #[.int .i64 x, .int .i64 y]) = some (keyC x y) :=
  WideMaps.keyOf_pair arrC Try.underlying3 (Nat.exists_eq_add_one_of_ne_zero (Nat.pos_iff_ne_zero.1 (of_decide_eq_true (by kernel_rfl)))) h1 h2
theorem keyC_inj {x y a b : Int} (h1 : (Lit.int .i64 x).wf = true) (h2 : (Lit.int .i64 y).wf = true) (h3 : (Lit.int .i64 a).wf = true) (h4 : (Lit.int .i64 b).wf = true) (h : keyC x y = keyC a b) : x = a ∧ y = b := by
  have k1 := keyC_of h1 h2
  have k2 := keyC_of h3 h4
  rw [h] at k1
  have := lawC.inj k1 k2
  simpa using this
def Wf2 (ps : List Plc) : Prop := ∀ k, k < ps.length → (Lit.int .i64 (plcAt ps k).x).wf = true ∧ (Lit.int .i64 (plcAt ps k).y).wf = true
/-- The map of the first k corners. -/
def knownD (ps : List Plc) : Nat → DataW Unit
  | 0 => .map []
  | k + 1 => (knownD ps k).put (keyC (plcAt ps k).x (plcAt ps k).y) (.lit (.bool true))
theorem put_isMap {D : DataW Unit} (h : IsMap D) (k : Lit) (d : DataW Unit) : IsMap (D.put k d) := by
  obtain ⟨es, rfl⟩ := h
  exact ⟨_, rfl⟩
theorem knownD_isMap (ps : List Plc) : ∀ k, IsMap (knownD ps k)
  | 0 => ⟨[], rfl⟩
  | k + 1 => put_isMap (knownD_isMap ps k) _ _
theorem knownD_at {ps : List Plc} (hw : Wf2 ps) (x y : Int) (h1 : (Lit.int .i64 x).wf = true) (h2 : (Lit.int .i64 y).wf = true) : ∀ k, k ≤ ps.length →
    (knownD ps k).atKey (keyC x y) (.lit (.bool false)) = .lit (.bool ((List.range k).any fun j => decide ((plcAt ps j).x = x) && decide ((plcAt ps j).y = y)))
  | 0, _ => rfl
  | k + 1, hk => by
    unfold knownD
    obtain ⟨w1, w2⟩ := hw k (by omega)
    rw [List.range_succ, List.any_append]
    by_cases e : keyC x y = keyC (plcAt ps k).x (plcAt ps k).y
    · obtain ⟨e1, e2⟩ := keyC_inj h1 h2 w1 w2 e
      rw [e, atKey_put_same (knownD_isMap ps k) (lawC.key (keyC_of w1 w2))]
      simp [e1, e2]
    · rw [atKey_put_other e, knownD_at hw x y h1 h2 k (by omega)]
      have : (decide ((plcAt ps k).x = x) && decide ((plcAt ps k).y = y)) = false := by
        rw [Bool.eq_false_iff]; intro h
        simp only [Bool.and_eq_true, decide_eq_true_eq] at h
        exact e (by rw [h.1, h.2])
      simp [this]
theorem plainElem_bool_inv {P : Program} {e : TypeId} (he : P.underlying e = some .bool) {v : Value} {z : DataW Unit × List MemPlace} (h : plainElem P e v = some z) : ∃ a, v = .bool a ∧ z = (.lit (.bool a), []) := by
  unfold plainElem at h
  rw [he] at h
  cases v <;> simp at h
  exact ⟨_, rfl, h.symm⟩
theorem lookup_bool {w : World} {t : TypeId} {b n : Nat} {D : DataW Unit} (h : w.ownsMap Try.prog 167 (plainElem Try.prog 4) b n D) (ht : Try.prog.underlying t = some (.map 167 4))
    {key : Value} {kl : Lit} (hkey : keyOf Try.prog 167 key = some kl) {c : Bool} (hc : D.atKey kl (.lit (.bool false)) = .lit (.bool c)) :
    (Instr.lookup t (.map (some b)) key false).run Try.prog w = .ok (.bool c) w := by
  obtain ⟨v, ps, hrun, hv⟩ := h.lookup lawC ht (zeroB w) (plainElem_bool Try.underlying4 false) hkey
  rw [hc] at hv
  obtain ⟨a, rfl, hz⟩ := plainElem_bool_inv Try.underlying4 hv
  simp only [Prod.mk.injEq, DataW.lit.injEq, Lit.bool.injEq] at hz
  rw [hrun, hz.1]
end Go.Proofs.Ythnfepfbkmafaaa
