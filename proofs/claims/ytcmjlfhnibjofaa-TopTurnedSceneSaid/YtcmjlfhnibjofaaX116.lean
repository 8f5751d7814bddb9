/- Chapters 1 and 4, plain: an image whose samples all turn by quarters: its interferogram, phases, residues, coherence. -/
import Derived.Test.YtcmjlfhnibjofaaXT
import Derived.Test.YtcmjlfhnibjofaaXS
import Derived.Test.YtcmjlfhnibjofaaU68
import Derived.Test.YtcmjlfhnibjofaaZN
namespace Go.Proofs.Ytcmjlfhnibjofaa
set_option linter.unusedVariables false
set_option linter.unusedSimpArgs false
open Go.RowKit Ieee Ntt
/-- So many quarter turns. -/
def rot4 : Nat → Int × Int → Int × Int
  | 0, z => z
  | k + 1, z => (-(rot4 k z).2, (rot4 k z).1)
theorem rot4_bd (k : Nat) {z : Int × Int} (h : (-2047 ≤ z.1 ∧ z.1 ≤ 2047) ∧ -2047 ≤ z.2 ∧ z.2 ≤ 2047) : (-2047 ≤ (rot4 k z).1 ∧ (rot4 k z).1 ≤ 2047) ∧ -2047 ≤ (rot4 k z).2 ∧ (rot4 k z).2 ≤ 2047 := by
  induction k with
  | zero => exact h
  | succ k ih => unfold rot4; dsimp only; omega
theorem pair_fld4 {f g : Nat → Nat × Nat} {L S : Int} {n : Nat} (h : pairE L S n f L S n g = 0) : (fldE L S n (ifB f g)).2 = 0 := by
  obtain ⟨e1, e2, -, -⟩ := pairE_zero h
  obtain ⟨s1, g1⟩ := imgE_zero e1
  obtain ⟨s2, g2⟩ := imgE_zero e2
  have hX : SmallS n f (xB f) (yB f) 2047 := smallS_of (by decide) g1
  have hU : SmallS n g (xB g) (yB g) 2047 := smallS_of (by decide) g2
  unfold fldE
  rw [if_pos s1, firstE_ok]
  intro k hk
  obtain ⟨b1, b2⟩ := intfF_bd (hX k hk).2 (hU k hk).2
  unfold gD ifB nmF
  dsimp only
  rw [partD_f64 _ _ _ (by omega) (by omega), inE_iff.2 (by omega), inE_iff.2 (by omega)]
  rfl
/-- The parts of a sample, and those of it turned by quarters. -/
def rt (f : Nat → Nat × Nat) (q i : Nat) : Int × Int := rot4 q (xB f i, yB f i)
def tuS (f : Nat → Nat × Nat) (q i : Nat) : Nat × Nat := smpI (rt f q i).1 (rt f q i).2
section
variable {f g : Nat → Nat × Nat} {n q : Nat}
theorem tu_num (hX : SmallS n f (xB f) (yB f) 2047) {i : Nat} (hi : i < n) : (-2047 ≤ (rt f q i).1 ∧ (rt f q i).1 ≤ 2047) ∧ -2047 ≤ (rt f q i).2 ∧ (rt f q i).2 ≤ 2047 := rot4_bd q (hX i hi).2
theorem tu_parts (hX : SmallS n f (xB f) (yB f) 2047) {i : Nat} (hi : i < n) : xB (tuS f q) i = (rt f q i).1 ∧ yB (tuS f q) i = (rt f q i).2 := by
  have b := tu_num (q := q) hX hi
  exact smpI_parts (x := (rt f q i).1) (y := (rt f q i).2) (by omega) (by omega)
theorem tu_gE (hX : SmallS n f (xB f) (yB f) 2047) {i : Nat} (hi : i < n) : gE (tuS f q) 2047 i = 0 := by
  obtain ⟨b1, b2⟩ := tu_num (q := q) hX hi
  obtain ⟨p1, p2⟩ := intB_of (num_nearest (n := (rt f q i).1) (by omega))
  obtain ⟨p3, p4⟩ := intB_of (num_nearest (n := (rt f q i).2) (by omega))
  unfold gE partE
  rw [show (tuS f q i).1 = floatOfInt .f32 (rt f q i).1 from rfl, show (tuS f q i).2 = floatOfInt .f32 (rt f q i).2 from rfl, p1, p2, p3, p4, if_pos (show (true && true) = true from rfl), inE_iff.2 b1, inE_iff.2 b2]
  rfl
theorem tu_img {L S : Int} (he : (imgE L S n f).2 = 0) : (imgE L S n (tuS f q)).2 = 0 := by
  obtain ⟨s1, g1⟩ := imgE_zero he
  unfold imgE
  rw [if_pos s1, firstE_ok]
  intro k hk
  exact tu_gE (smallS_of (by decide) g1) hk
theorem tu_pair {L S L' S' : Int} {n' : Nat} (he : (imgE L S n f).2 = 0) : pairE L S n (tuS f q) L' S' n' g = pairE L S n f L' S' n' g := by
  unfold pairE
  rw [tu_img he, he]
theorem rot_mul (k : Nat) (x y u v : Int) : (rot4 k (x, y)).1 * u + (rot4 k (x, y)).2 * v = (rot4 k (x * u + y * v, y * u - x * v)).1 ∧ (rot4 k (x, y)).2 * u - (rot4 k (x, y)).1 * v = (rot4 k (x * u + y * v, y * u - x * v)).2 := by
  induction k with
  | zero => exact ⟨rfl, rfl⟩
  | succ k ih =>
    unfold rot4
    dsimp only
    obtain ⟨h1, h2⟩ := ih
    constructor
    · rw [← h2]; grind
    · rw [← h1]; grind
theorem tu_intf (hX : SmallS n f (xB f) (yB f) 2047) {i : Nat} (hi : i < n) : intfF (xB (tuS f q)) (yB (tuS f q)) (xB g) (yB g) i = rot4 q (intfF (xB f) (yB f) (xB g) (yB g) i) := by
  obtain ⟨e1, e2⟩ := tu_parts (q := q) hX hi
  show (xB (tuS f q) i * xB g i + yB (tuS f q) i * yB g i, yB (tuS f q) i * xB g i - xB (tuS f q) i * yB g i) = _
  rw [e1, e2]
  obtain ⟨h1, h2⟩ := rot_mul q (xB f i) (yB f i) (xB g i) (yB g i)
  exact Prod.ext h1 h2
end
theorem rot_zero (k : Nat) (z : Int × Int) : ((rot4 k z).1 = 0 ∧ (rot4 k z).2 = 0) ↔ (z.1 = 0 ∧ z.2 = 0) := by
  induction k with
  | zero => exact Iff.rfl
  | succ k ih => unfold rot4; dsimp only; omega
theorem phase_rot (k : Nat) (x y : Int) (h : ¬ (x = 0 ∧ y = 0)) : phaseP (rot4 k (x, y)).1 (rot4 k (x, y)).2 = wrP (phaseP x y + 1024 * k) := by
  induction k with
  | zero =>
    obtain ⟨b1, b2⟩ := phaseP_bd x y
    show phaseP x y = _
    rw [wrP_same (by omega) (by omega)]
    omega
  | succ k ih =>
    have h2 : ¬ ((rot4 k (x, y)).1 = 0 ∧ (rot4 k (x, y)).2 = 0) := fun e => h ((rot_zero k (x, y)).1 e)
    have e := phase_turn (rot4 k (x, y)).1 (rot4 k (x, y)).2 h2
    show phaseP (-(rot4 k (x, y)).2) (rot4 k (x, y)).1 = _
    rw [e, ih]
    unfold wrapP wrP
    omega
/-- A map, and one whose phases all turn by quarters. -/
def Tw (q n : Nat) (zs ys : List Int) : Prop := ∀ i, i < n → (intAt zs i = 1000000000000 → intAt ys i = 1000000000000) ∧ (intAt zs i ≠ 1000000000000 → -2048 ≤ intAt zs i ∧ intAt zs i ≤ 2047 ∧ intAt ys i = wrP (intAt zs i + 1024 * q))
theorem tw_nv {q n i : Nat} {zs ys : List Int} (h : Tw q n zs ys) (hi : i < n) : nvB (intAt ys i) = nvB (intAt zs i) := by
  obtain ⟨h1, h2⟩ := h i hi
  unfold nvB
  by_cases e : intAt zs i = 1000000000000
  · rw [h1 e, e]
  · obtain ⟨-, -, h3⟩ := h2 e
    have := wrP_bd (intAt zs i + 1024 * q)
    rw [decide_eq_true e, decide_eq_true (by omega)]
theorem tw_step {q n i j : Nat} {zs ys : List Int} (h : Tw q n zs ys) (hi : i < n) (hj : j < n) (vi : nvB (intAt zs i) = true) (vj : nvB (intAt zs j) = true) : wrP (intAt ys j - intAt ys i) = wrP (intAt zs j - intAt zs i) := by
  unfold nvB at vi vj
  have ei := ((h i hi).2 (by simpa using vi)).2.2
  have ej := ((h j hj).2 (by simpa using vj)).2.2
  rw [ei, ej]
  unfold wrP
  omega
theorem rowW_congr {F G : Nat → Int} {L S l a k : Nat} (h : ∀ i, i < L * S → F i = G i) (hl : l < L) (hk : a + k ≤ S) : rowW F S l a k = rowW G S l a k :=
  sumN_congr fun j hj => h _ (by
    have h1 : (l + 1) * S ≤ L * S := Nat.mul_le_mul_right _ hl
    rw [Nat.add_mul, Nat.one_mul] at h1
    omega)
theorem winP_congr {F G : Nat → Int} {L S half l s : Nat} (h : ∀ i, i < L * S → F i = G i) (hl : l < L) (hs : s < S) : winP F L S half l s = winP G L S half l s := by
  obtain ⟨t1, -⟩ := cntW_le (half := half) hl
  obtain ⟨t2, -⟩ := cntW_le (half := half) hs
  exact sumN_congr fun j hj => rowW_congr h (by omega) t2
theorem coh_rot (k : Nat) {F F' G K G' : Nat → Int × Int} {L S : Nat} (hF : ∀ i, i < L * S → F' i = rot4 k (F i)) (hG : ∀ i, i < L * S → enF G' i = enF G i) {half l s : Nat} (hl : l < L) (hs : s < S) : cohV F' G' K L S half l s = cohV F G K L S half l s := by
  have eg := winP_congr (half := half) hG hl hs
  have key : ∀ k, (∀ i, i < L * S → (rot4 k (F i)).1 = (rot4 k (F i)).1) → winP (fun i => (rot4 k (F i)).1) L S half l s * winP (fun i => (rot4 k (F i)).1) L S half l s + winP (fun i => (rot4 k (F i)).2) L S half l s * winP (fun i => (rot4 k (F i)).2) L S half l s = winP (fun i => (F i).1) L S half l s * winP (fun i => (F i).1) L S half l s + winP (fun i => (F i).2) L S half l s * winP (fun i => (F i).2) L S half l s := by
    intro k
    induction k with
    | zero => intro _; rfl
    | succ k ih =>
      intro _
      rw [← ih (fun _ _ => rfl)]
      have e1 : winP (fun i => (rot4 (k + 1) (F i)).1) L S half l s = -winP (fun i => (rot4 k (F i)).2) L S half l s := winP_neg (F := fun i => (rot4 k (F i)).2) (fun _ => rfl) _ _ _ _ _
      have e2 : winP (fun i => (rot4 (k + 1) (F i)).2) L S half l s = winP (fun i => (rot4 k (F i)).1) L S half l s := rfl
      rw [e1, e2]
      generalize winP (fun i => (rot4 k (F i)).1) L S half l s = x
      generalize winP (fun i => (rot4 k (F i)).2) L S half l s = y
      grind
  have e3 := winP_congr (F := fun i => (F' i).1) (G := fun i => (rot4 k (F i)).1) (half := half) (fun i hi => by rw [hF i hi]) hl hs
  have e4 := winP_congr (F := fun i => (F' i).2) (G := fun i => (rot4 k (F i)).2) (half := half) (fun i hi => by rw [hF i hi]) hl hs
  unfold cohV
  rw [e3, e4, key k (fun _ _ => rfl), eg]
theorem rot_energy (k : Nat) (z : Int × Int) : (rot4 k z).1 * (rot4 k z).1 + (rot4 k z).2 * (rot4 k z).2 = z.1 * z.1 + z.2 * z.2 := by
  induction k with
  | zero => rfl
  | succ k ih => unfold rot4; dsimp only; rw [← ih]; grind
theorem tu_coh {f g : Nat → Nat × Nat} {L S n q : Nat} {half : Int} (hn : n = L * S) (hX : SmallS n f (xB f) (yB f) 2047) : cohD L S n (tuS f q) g half = cohD L S n f g half := by
  unfold cohD
  refine List.map_congr_left fun i hi => ?_
  have hi := List.mem_range.1 hi
  have hS : 0 < S := Nat.pos_of_ne_zero (by rintro rfl; simp at hn; omega)
  unfold cohF
  simp only [Int.toNat_natCast]
  refine coh_rot q (fun j hj => tu_intf hX (by omega)) (fun j hj => ?_) ((Nat.div_lt_iff_lt_mul hS).2 (by omega)) (Nat.mod_lt _ hS)
  obtain ⟨e1, e2⟩ := tu_parts (q := q) (i := j) hX (by omega)
  show xB (tuS f q) j * xB (tuS f q) j + yB (tuS f q) j * yB (tuS f q) j = xB f j * xB f j + yB f j * yB f j
  rw [e1, e2]
  exact rot_energy q (xB f j, yB f j)
/-- Both maps have the same residues. -/
theorem res_row_congr {wh wh' : Nat → Nat → Bool} {T T' : Nat → Nat → Int} {r : Nat} : ∀ {k : Nat}, (∀ c, c < k → wh' r c = wh r c ∧ (wh r c = true → T' r c = T r c)) → resRow wh' T' r k = resRow wh T r k
  | 0, _ => rfl
  | k + 1, h => by
    have ih := res_row_congr (k := k) fun c hc => h c (by omega)
    obtain ⟨h1, h2⟩ := h k (by omega)
    rw [resRow, resRow, ih, h1]
    cases hw : wh r k
    · simp
    · rw [h2 hw]
theorem res_all_congr {wh wh' : Nat → Nat → Bool} {T T' : Nat → Nat → Int} {C : Nat} : ∀ {k : Nat}, (∀ r c, r < k → c < C → wh' r c = wh r c ∧ (wh r c = true → T' r c = T r c)) → resAll wh' T' C k = resAll wh T C k
  | 0, _ => rfl
  | k + 1, h => by
    rw [resAll, resAll, res_all_congr (k := k) fun r c hr hc => h r c (by omega) hc, res_row_congr fun c hc => h k c (by omega) hc]
theorem whT_all {z : Nat → Nat → Int} {r c : Nat} : whT z r c = ((nvB (z r c) && nvB (z r (c + 1))) && (nvB (z (r + 1) c) && nvB (z (r + 1) (c + 1)))) := by
  unfold whT wholeP whHi whWd whHi whWd okR okD
  simp only [Nat.add_zero]
  cases nvB (z r c) <;> cases nvB (z r (c + 1)) <;> cases nvB (z (r + 1) c) <;> cases nvB (z (r + 1) (c + 1)) <;> rfl
theorem tw_res {q R C n : Nat} {zs ys : List Int} (h : Tw q n zs ys) (hn : n = R * C) : resM R C ys = resM R C zs := by
  unfold resM
  refine res_all_congr fun r c hr hc => ?_
  have ix : ∀ a b, a < R → b < C → a * C + b < n := fun a b ha hb => by
    have h1 : (a + 1) * C ≤ R * C := Nat.mul_le_mul_right _ ha
    rw [Nat.add_mul, Nat.one_mul] at h1
    omega
  have i1 := ix r c (by omega) (by omega)
  have i2 := ix r (c + 1) (by omega) (by omega)
  have i3 := ix (r + 1) c (by omega) (by omega)
  have i4 := ix (r + 1) (c + 1) (by omega) (by omega)
  refine ⟨?_, fun hw => ?_⟩
  · rw [whT_all, whT_all]
    unfold zAt
    rw [tw_nv h i1, tw_nv h i2, tw_nv h i3, tw_nv h i4]
  · rw [whT_all] at hw
    simp only [Bool.and_eq_true, zAt] at hw
    obtain ⟨⟨v1, v2⟩, v3, v4⟩ := hw
    unfold turnP
    rw [plqP_eq, plqP_eq]
    unfold sR sD zAt
    rw [tw_step h i1 i2 v1 v2, tw_step h i3 i4 v3 v4, tw_step h i2 i4 v2 v4, tw_step h i1 i3 v1 v3]
end Go.Proofs.Ytcmjlfhnibjofaa
