/- Simple polygons, in plain Lean: points by weights, chords that cut a polygon. -/
import Derived.Test.YthnfepfbkmafaaaRows
namespace Go.Proofs.Ythnfepfbkmafaaa.Geo
/-- A point. -/
structure Pt where
  x : Int
  y : Int
theorem Pt.same {a b : Pt} (h1 : a.x = b.x) (h2 : a.y = b.y) : a = b := by cases a; cases b; simp_all
def cr (a b c : Pt) : Int := (b.x - a.x) * (c.y - a.y) - (b.y - a.y) * (c.x - a.x)
/-- The dot product of two directions, from a point. -/
def dt (a b c : Pt) : Int := (b.x - a.x) * (c.x - a.x) + (b.y - a.y) * (c.y - a.y)
def NoFold (o a b : Pt) : Prop := ¬ (cr o a b = 0 ∧ 0 < dt o a b)
/-- A common point of two segments, in weights. -/
structure Com (i j k l : Int) (p q a b : Pt) : Prop where
  i0 : 0 ≤ i
  j0 : 0 ≤ j
  k0 : 0 ≤ k
  l0 : 0 ≤ l
  pos : 0 < i + j
  sum : i + j = k + l
  ex : i * p.x + j * q.x = k * a.x + l * b.x
  ey : i * p.y + j * q.y = k * a.y + l * b.y
def NoMeet (p q a b : Pt) : Prop := ∀ i j k l, ¬ Com i j k l p q a b
theorem Com.symm {i j k l : Int} {p q a b : Pt} (h : Com i j k l p q a b) : Com k l i j a b p q := ⟨h.k0, h.l0, h.i0, h.j0, by have := h.pos; have := h.sum; omega, h.sum.symm, h.ex.symm, h.ey.symm⟩
theorem Com.flip {i j k l : Int} {p q a b : Pt} (h : Com i j k l p q a b) : Com j i k l q p a b := ⟨h.j0, h.i0, h.k0, h.l0, by have := h.pos; omega, by have := h.sum; omega, by have := h.ex; omega, by have := h.ey; omega⟩
theorem Com.flip2 {i j k l : Int} {p q a b : Pt} (h : Com i j k l p q a b) : Com i j l k p q b a := h.symm.flip.symm
theorem NoMeet.symm {p q a b : Pt} (h : NoMeet p q a b) : NoMeet a b p q := fun i j k l c => h k l i j c.symm
theorem NoMeet.flip {p q a b : Pt} (h : NoMeet p q a b) : NoMeet q p a b := fun i j k l c => h j i k l c.flip
theorem NoMeet.flip2 {p q a b : Pt} (h : NoMeet p q a b) : NoMeet p q b a := fun i j k l c => h i j l k c.flip2
theorem cr_cyc (a b c : Pt) : cr b c a = cr a b c := by unfold cr; grind
theorem cr_swap (a b c : Pt) : cr a c b = - cr a b c := by unfold cr; grind
theorem dt_swap (a b c : Pt) : dt a c b = dt a b c := by unfold dt; grind
theorem NoFold.symm {o a b : Pt} (h : NoFold o a b) : NoFold o b a := by
  unfold NoFold at *
  rw [cr_swap, dt_swap]
  rintro ⟨h1, h2⟩
  exact h ⟨by omega, h2⟩
theorem pos_right {m n : Int} (h1 : 0 < m) (h2 : 0 < m * n) : 0 < n := by
  refine Int.not_le.1 fun h => ?_
  have := Int.mul_nonpos_of_nonneg_of_nonpos (Int.le_of_lt h1) h
  omega
theorem sq_pos {a : Int} (h : a ≠ 0) : 0 < a * a := by
  rcases Int.lt_or_gt_of_ne h with h | h
  · exact Int.mul_pos_of_neg_of_neg h h
  · exact Int.mul_pos h h
theorem sq_nn (a : Int) : 0 ≤ a * a := by
  rcases Int.le_total 0 a with h | h
  · exact Int.mul_nonneg h h
  · exact Int.mul_nonneg_of_nonpos_of_nonpos h h
theorem len_pos {a b : Pt} (h : a ≠ b) : 0 < dt a b b := by
  have h1 := sq_nn (b.x - a.x)
  have h2 := sq_nn (b.y - a.y)
  unfold dt
  refine Int.not_le.1 fun h3 => h ?_
  have z1 : b.x - a.x = 0 := by
    refine Classical.byContradiction fun hh => ?_
    have := sq_pos hh; omega
  have z2 : b.y - a.y = 0 := by
    refine Classical.byContradiction fun hh => ?_
    have := sq_pos hh; omega
  exact Pt.same (by omega) (by omega)
/-- A point on a ray, in weights: a fold. -/
theorem fold_of {o a b : Pt} {m n : Int} (hm : 0 < m) (hn : 0 < n) (ha : o ≠ a) (hx : m * (b.x - o.x) = n * (a.x - o.x)) (hy : m * (b.y - o.y) = n * (a.y - o.y)) : cr o a b = 0 ∧ 0 < dt o a b := by
  have hl := len_pos ha
  constructor
  · have : m * cr o a b = 0 := by unfold cr; grind
    rcases Int.mul_eq_zero.1 this with h | h
    · omega
    · exact h
  · have : m * dt o a b = n * dt o a a := by unfold dt; grind
    have h2 := Int.mul_pos hn hl
    rw [← this] at h2
    exact pos_right hm h2
/-- The weights of a point in a triangle, times the square of its area. -/
def wv (v u w p : Pt) : Int := cr v u w * cr u w p
def wu (v u w p : Pt) : Int := cr v u w * cr w v p
def ww (v u w p : Pt) : Int := cr v u w * cr v u p
def sqE (v u w : Pt) : Int := cr v u w * cr v u w
theorem w_sum (v u w p : Pt) : wv v u w p + wu v u w p + ww v u w p = sqE v u w := by unfold wv wu ww sqE cr; grind
theorem w_x (v u w p : Pt) : sqE v u w * p.x = wv v u w p * v.x + wu v u w p * u.x + ww v u w p * w.x := by unfold wv wu ww sqE cr; grind
theorem w_y (v u w p : Pt) : sqE v u w * p.y = wv v u w p * v.y + wu v u w p * u.y + ww v u w p * w.y := by unfold wv wu ww sqE cr; grind
theorem wv_aff (v u w : Pt) {p q m : Pt} {i j n : Int} (hn : n = i + j) (hx : n * m.x = i * p.x + j * q.x) (hy : n * m.y = i * p.y + j * q.y) : n * wv v u w m = i * wv v u w p + j * wv v u w q := by unfold wv cr; grind
theorem wv_v (v u w : Pt) : wv v u w v = sqE v u w := by unfold wv sqE cr; grind
theorem wv_u (v u w : Pt) : wv v u w u = 0 := by unfold wv cr; grind
theorem wv_w (v u w : Pt) : wv v u w w = 0 := by unfold wv cr; grind
theorem wu_v (v u w : Pt) : wu v u w v = 0 := by unfold wu cr; grind
theorem wu_u (v u w : Pt) : wu v u w u = sqE v u w := by unfold wu sqE cr; grind
theorem wu_w (v u w : Pt) : wu v u w w = 0 := by unfold wu cr; grind
theorem ww_v (v u w : Pt) : ww v u w v = 0 := by unfold ww cr; grind
theorem ww_u (v u w : Pt) : ww v u w u = 0 := by unfold ww cr; grind
theorem ww_w (v u w : Pt) : ww v u w w = sqE v u w := by unfold ww sqE cr; grind
/-- In the triangle, its border with it. -/
def InT (v u w p : Pt) : Prop := 0 ≤ wv v u w p ∧ 0 ≤ wu v u w p ∧ 0 ≤ ww v u w p
/-- Out of the triangle over one side, in plain numbers: p, q by weights, m between them. -/
theorem out_one {E i j a b c a' b' c' px vx ux wx qx : Int} (hE : 0 < E) (hi : 0 ≤ i) (hj : 0 ≤ j) (hij : 0 < i + j)
    (s1 : a + b + c = E) (s2 : a' + b' + c' = E) (ma : 0 ≤ i * a + j * a') (mc : 0 ≤ i * c + j * c') (hc : c < 0) (ha : 0 ≤ a)
    (hb : 0 ≤ -c * (i * b + j * b') + (i * c + j * c') * b) :
    0 ≤ E * (-c * i + (i * c + j * c')) ∧ 0 ≤ E * (-c * j) ∧ 0 ≤ -c * (i * a + j * a') + (i * c + j * c') * a ∧ 0 ≤ -c * (i * b + j * b') + (i * c + j * c') * b ∧
    0 < E * (-c * i + (i * c + j * c')) + E * (-c * j) ∧
    E * (-c * i + (i * c + j * c')) + E * (-c * j) = (-c * (i * a + j * a') + (i * c + j * c') * a) + (-c * (i * b + j * b') + (i * c + j * c') * b) ∧
    (E * px = a * vx + b * ux + c * wx → E * qx = a' * vx + b' * ux + c' * wx →
      E * (-c * i + (i * c + j * c')) * px + E * (-c * j) * qx = (-c * (i * a + j * a') + (i * c + j * c') * a) * vx + (-c * (i * b + j * b') + (i * c + j * c') * b) * ux) := by
  have e1 : 0 ≤ -c * i := Int.mul_nonneg (by omega) hi
  have e2 : 0 ≤ -c * j := Int.mul_nonneg (by omega) hj
  have e3 : 0 < -c * (i + j) := Int.mul_pos (by omega) hij
  have e4 : 0 ≤ (i * c + j * c') * a := Int.mul_nonneg mc ha
  have e5 : 0 ≤ -c * (i * a + j * a') := Int.mul_nonneg (by omega) ma
  refine ⟨Int.mul_nonneg (by omega) (by omega), Int.mul_nonneg (by omega) e2, by omega, hb, ?_, ?_, ?_⟩
  · rw [← Int.mul_add]
    refine Int.mul_pos hE ?_
    have : -c * (i + j) = -c * i + -c * j := by grind
    omega
  · subst s1
    grind
  · intro h1 h2
    have : E * (-c * i + (i * c + j * c')) * px + E * (-c * j) * qx = (-c * i + (i * c + j * c')) * (E * px) + (-c * j) * (E * qx) := by grind
    rw [this, h1, h2]
    grind
theorem com_of_out {E i j a b c a' b' c' : Int} {p q v u w : Pt} (hE : 0 < E) (hi : 0 ≤ i) (hj : 0 ≤ j) (hij : 0 < i + j)
    (s1 : a + b + c = E) (s2 : a' + b' + c' = E) (ma : 0 ≤ i * a + j * a') (mc : 0 ≤ i * c + j * c') (hc : c < 0) (ha : 0 ≤ a)
    (hb : 0 ≤ -c * (i * b + j * b') + (i * c + j * c') * b)
    (p1 : E * p.x = a * v.x + b * u.x + c * w.x) (p2 : E * p.y = a * v.y + b * u.y + c * w.y) (q1 : E * q.x = a' * v.x + b' * u.x + c' * w.x) (q2 : E * q.y = a' * v.y + b' * u.y + c' * w.y) :
    ∃ i' j' k l, Com i' j' k l p q v u ∧ (0 < i * a + j * a' → 0 < k) := by
  obtain ⟨h1, h2, h3, h4, h5, h6, h7⟩ := out_one (px := p.x) (vx := v.x) (ux := u.x) (wx := w.x) (qx := q.x) hE hi hj hij s1 s2 ma mc hc ha hb
  obtain ⟨-, -, -, -, -, -, h8⟩ := out_one (px := p.y) (vx := v.y) (ux := u.y) (wx := w.y) (qx := q.y) hE hi hj hij s1 s2 ma mc hc ha hb
  refine ⟨_, _, _, _, ⟨h1, h2, h3, h4, h5, h6, h7 p1 q1, h8 p2 q2⟩, fun h => ?_⟩
  have e4 : 0 ≤ (i * c + j * c') * a := Int.mul_nonneg mc ha
  have e5 : 0 < -c * (i * a + j * a') := Int.mul_pos (by omega) h
  omega
/-- From a point in the triangle a segment goes, away from uw, to an end outside: it leaves over vu or vw. -/
theorem escape {v u w p q : Pt} {i j : Int} (hE : 0 < sqE v u w) (hi : 0 ≤ i) (hj : 0 ≤ j) (hij : 0 < i + j)
    (ma : 0 ≤ i * wv v u w p + j * wv v u w q) (mb : 0 ≤ i * wu v u w p + j * wu v u w q) (mc : 0 ≤ i * ww v u w p + j * ww v u w q)
    (hup : i * wv v u w p + j * wv v u w q ≤ (i + j) * wv v u w p) (hout : ¬ InT v u w p) :
    (∃ i' j' k l, Com i' j' k l p q v u ∧ (0 < i * wv v u w p + j * wv v u w q → 0 < k)) ∨ (∃ i' j' k l, Com i' j' k l p q v w ∧ (0 < i * wv v u w p + j * wv v u w q → 0 < k)) := by
  have ha : 0 ≤ wv v u w p := by
    refine Int.not_lt.1 fun h => ?_
    have := Int.mul_neg_of_pos_of_neg hij h
    omega
  have s1 := w_sum v u w p
  have s2 := w_sum v u w q
  have p1 := w_x v u w p
  have p2 := w_y v u w p
  have q1 := w_x v u w q
  have q2 := w_y v u w q
  unfold InT at hout
  generalize wv v u w p = a at *
  generalize wv v u w q = a' at *
  generalize wu v u w p = b at *
  generalize wu v u w q = b' at *
  generalize ww v u w p = c at *
  generalize ww v u w q = c' at *
  generalize sqE v u w = E at *
  by_cases hc : c < 0
  · by_cases hx : 0 ≤ -c * (i * b + j * b') + (i * c + j * c') * b
    · exact Or.inl (com_of_out hE hi hj hij s1 s2 ma mc hc ha hx p1 p2 q1 q2)
    · have hb : b < 0 := by
        refine Int.not_le.1 fun h => hx ?_
        have e1 := Int.mul_nonneg (show 0 ≤ -c by omega) mb
        have e2 := Int.mul_nonneg mc h
        omega
      refine Or.inr (com_of_out (b := c) (c := b) (b' := c') (c' := b') (u := w) (w := u) hE hi hj hij (by omega) (by omega) ma mb hb ha ?_ (by omega) (by omega) (by omega) (by omega))
      grind
  · have hb : b < 0 := by omega
    refine Or.inr (com_of_out (b := c) (c := b) (b' := c') (c' := b') (u := w) (w := u) hE hi hj hij (by omega) (by omega) ma mb hb ha ?_ (by omega) (by omega) (by omega) (by omega))
    have e1 := Int.mul_nonneg (show 0 ≤ -b by omega) mc
    have e2 := Int.mul_nonneg mb (show 0 ≤ c by omega)
    omega
/-- The pairs of neighbours in a list, and round a list. -/
def path : List Pt → List (Pt × Pt)
  | a :: b :: t => (a, b) :: path (b :: t)
  | _ => []
def ring : List Pt → List (Pt × Pt)
  | [] => []
  | a :: t => path (a :: (t ++ [a]))
theorem path_app (m : Pt) (B : List Pt) : ∀ A : List Pt, path (A ++ m :: B) = path (A ++ [m]) ++ path (m :: B)
  | [] => by simp [path]
  | [a] => by simp [path]
  | a :: b :: t => by
    have := path_app m B (b :: t)
    simp only [List.cons_append, path] at this ⊢
    rw [this]
theorem path_last (x y : Pt) (A : List Pt) : path (A ++ [x, y]) = path (A ++ [x]) ++ [(x, y)] := by
  rw [path_app x [y] A]; rfl
theorem path_mem {s : Pt × Pt} : ∀ {l : List Pt}, s ∈ path l → s.1 ∈ l ∧ s.2 ∈ l
  | [], h => by simp [path] at h
  | [_], h => by simp [path] at h
  | a :: b :: t, h => by
    rw [path, List.mem_cons] at h
    rcases h with rfl | h
    · simp
    · have := path_mem h
      exact ⟨List.mem_cons_of_mem _ this.1, List.mem_cons_of_mem _ this.2⟩
theorem path_from {z : Pt} : ∀ {A : List Pt} {a : Pt}, z ∈ A → ∃ z', (z, z') ∈ path (A ++ [a])
  | [], _, h => by simp at h
  | [b], a, h => by
    simp at h; subst h; exact ⟨a, by simp [path]⟩
  | b :: c :: t, a, h => by
    rw [List.mem_cons] at h
    rcases h with rfl | h
    · exact ⟨c, by simp [path]⟩
    · obtain ⟨z', hz⟩ := path_from (a := a) h
      exact ⟨z', by rw [List.cons_append, List.cons_append, path]; exact List.mem_cons_of_mem _ hz⟩
theorem ring_mem {s : Pt × Pt} {l : List Pt} (h : s ∈ ring l) : s.1 ∈ l ∧ s.2 ∈ l := by
  cases l with
  | nil => simp [ring] at h
  | cons a t =>
    have := path_mem h
    simp at this ⊢
    grind
theorem ring_from {z : Pt} {l : List Pt} (h : z ∈ l) : ∃ z', (z, z') ∈ ring l := by
  cases l with
  | nil => simp at h
  | cons a t => exact path_from (A := a :: t) h
/-- A sum over sides, and the area. -/
def k0 (s : Pt × Pt) : Int := s.1.x * s.2.y - s.1.y * s.2.x
def tot : List (Pt × Pt) → Int
  | [] => 0
  | s :: t => k0 s + tot t
theorem tot_app (b : List (Pt × Pt)) : ∀ a, tot (a ++ b) = tot a + tot b
  | [] => by simp [tot]
  | s :: t => by simp only [List.cons_append, tot, tot_app b t]; omega
theorem ring_app (a b : Pt) (A B : List Pt) : ring ((a :: A) ++ (b :: B)) = path (a :: (A ++ [b])) ++ path (b :: (B ++ [a])) := by
  have := path_app b (B ++ [a]) (a :: A)
  simpa [ring] using this
theorem ring_rot_mem (s : Pt × Pt) : ∀ A B : List Pt, s ∈ ring (A ++ B) ↔ s ∈ ring (B ++ A)
  | [], B => by simp
  | A, [] => by simp
  | a :: A, b :: B => by rw [ring_app, ring_app, List.mem_append, List.mem_append, Or.comm]
theorem ring_rot_tot : ∀ A B : List Pt, tot (ring (A ++ B)) = tot (ring (B ++ A))
  | [], B => by simp
  | A, [] => by simp
  | a :: A, b :: B => by rw [ring_app, ring_app, tot_app, tot_app, Int.add_comm]
theorem ring_norm (v w u : Pt) (M : List Pt) : ring (v :: w :: (M ++ [u])) = (v, w) :: (path (w :: (M ++ [u])) ++ [(u, v)]) := by
  have := path_last u v (v :: w :: M)
  simp only [ring, List.cons_append, List.append_assoc, List.nil_append, path] at this ⊢
  rw [this]
/-- Two sides of a simple polygon. -/
def Ok2 (p q a b : Pt) : Prop := (p = a ∧ q = b) ∨ (p = b ∧ q = a) ∨ (p = a ∧ NoFold p q b) ∨ (p = b ∧ NoFold p q a) ∨ (q = a ∧ NoFold q p b) ∨ (q = b ∧ NoFold q p a) ∨ NoMeet p q a b
theorem Ok2.flip {p q a b : Pt} (h : Ok2 p q a b) : Ok2 q p a b := by
  unfold Ok2 at *
  rcases h with ⟨rfl, rfl⟩ | ⟨rfl, rfl⟩ | h | h | h | h | h
  · exact Or.inr (Or.inl ⟨rfl, rfl⟩)
  · exact Or.inl ⟨rfl, rfl⟩
  · exact Or.inr (Or.inr (Or.inr (Or.inr (Or.inl h))))
  · exact Or.inr (Or.inr (Or.inr (Or.inr (Or.inr (Or.inl h)))))
  · exact Or.inr (Or.inr (Or.inl h))
  · exact Or.inr (Or.inr (Or.inr (Or.inl h)))
  · exact Or.inr (Or.inr (Or.inr (Or.inr (Or.inr (Or.inr h.flip)))))
theorem Ok2.symm {p q a b : Pt} (h : Ok2 p q a b) : Ok2 a b p q := by
  unfold Ok2 at *
  rcases h with ⟨rfl, rfl⟩ | ⟨rfl, rfl⟩ | ⟨rfl, h⟩ | ⟨rfl, h⟩ | ⟨rfl, h⟩ | ⟨rfl, h⟩ | h
  · exact Or.inl ⟨rfl, rfl⟩
  · exact Or.inr (Or.inl ⟨rfl, rfl⟩)
  · exact Or.inr (Or.inr (Or.inl ⟨rfl, h.symm⟩))
  · exact Or.inr (Or.inr (Or.inr (Or.inr (Or.inl ⟨rfl, h.symm⟩))))
  · exact Or.inr (Or.inr (Or.inr (Or.inl ⟨rfl, h.symm⟩)))
  · exact Or.inr (Or.inr (Or.inr (Or.inr (Or.inr (Or.inl ⟨rfl, h.symm⟩)))))
  · exact Or.inr (Or.inr (Or.inr (Or.inr (Or.inr (Or.inr h.symm)))))
structure Good (l : List Pt) : Prop where
  nd : l.Nodup
  ok : ∀ s, s ∈ ring l → ∀ t, t ∈ ring l → Ok2 s.1 s.2 t.1 t.2
/-- Neighbours. -/
def Adj (l : List Pt) (a b : Pt) : Prop := (a, b) ∈ ring l ∨ (b, a) ∈ ring l
theorem Adj.symm {l : List Pt} {a b : Pt} (h : Adj l a b) : Adj l b a := Or.symm h
theorem Adj.mem {l : List Pt} {a b : Pt} (h : Adj l a b) : a ∈ l ∧ b ∈ l := by
  rcases h with h | h
  · exact ring_mem h
  · exact (ring_mem h).symm
theorem Good.adj {l : List Pt} (G : Good l) {p q a b : Pt} (h1 : Adj l p q) (h2 : Adj l a b) : Ok2 p q a b := by
  rcases h1 with h1 | h1 <;> rcases h2 with h2 | h2
  · exact G.ok _ h1 _ h2
  · exact (G.ok _ h1 _ h2).symm.flip.symm
  · exact (G.ok _ h1 _ h2).flip
  · exact (G.ok _ h1 _ h2).flip.symm.flip.symm
/-- A side that does not end in v meets a side from v, if at all, at its other end. -/
theorem Good.touch {l : List Pt} (G : Good l) {p q v u : Pt} (h1 : Adj l p q) (h2 : Adj l v u) (hp : p ≠ v) (hq : q ≠ v) (hu : u ≠ v) {i j k m : Int} (hc : Com i j k m p q v u) : k ≤ 0 := by
  obtain ⟨i0, j0, k0, m0, pos, sum, ex, ey⟩ := hc
  refine Int.not_lt.1 fun hk => ?_
  rcases G.adj h1 h2 with ⟨e, -⟩ | ⟨-, e⟩ | ⟨e, -⟩ | ⟨rfl, h⟩ | ⟨e, -⟩ | ⟨rfl, h⟩ | h
  · exact hp e
  · exact hq e
  · exact hp e
  · have hj : 0 < j := by
      refine Int.not_le.1 fun hh => hu ?_
      have : j = 0 := by omega
      subst this
      have hx : k * (v.x - p.x) = 0 := by grind
      have hy : k * (v.y - p.y) = 0 := by grind
      rcases Int.mul_eq_zero.1 hx with z1 | z1 <;> rcases Int.mul_eq_zero.1 hy with z2 | z2 <;> first | omega | exact Pt.same (by omega) (by omega)
    exact h.symm (fold_of hj hk hu (by grind) (by grind))
  · exact hq e
  · have hi : 0 < i := by
      refine Int.not_le.1 fun hh => hu ?_
      have : i = 0 := by omega
      subst this
      have hx : k * (v.x - q.x) = 0 := by grind
      have hy : k * (v.y - q.y) = 0 := by grind
      rcases Int.mul_eq_zero.1 hx with z1 | z1 <;> rcases Int.mul_eq_zero.1 hy with z2 | z2 <;> first | omega | exact Pt.same (by omega) (by omega)
    exact h.symm (fold_of hi hk hu (by grind) (by grind))
  · exact h i j k m ⟨i0, j0, k0, m0, pos, sum, ex, ey⟩
/-- A corner on a side is one of its ends. -/
theorem Good.vertex {l : List Pt} (G : Good l) {p q z : Pt} (h1 : Adj l p q) (hz : z ∈ l) {i j : Int} (i0 : 0 ≤ i) (j0 : 0 ≤ j) (hp : 0 < i + j) (ex : i * p.x + j * q.x = (i + j) * z.x) (ey : i * p.y + j * q.y = (i + j) * z.y) : z = p ∨ z = q := by
  obtain ⟨z', hz'⟩ := ring_from hz
  refine Classical.byContradiction fun hn => ?_
  have hn1 : p ≠ z := fun h => hn (Or.inl h.symm)
  have hn2 : q ≠ z := fun h => hn (Or.inr h.symm)
  rcases G.adj h1 (Or.inl hz') with ⟨e, -⟩ | ⟨-, e⟩ | ⟨e, -⟩ | ⟨rfl, h⟩ | ⟨e, -⟩ | ⟨rfl, h⟩ | h
  · exact hn1 e
  · exact hn2 e
  · exact hn1 e
  · have hj : 0 < j := by
      refine Int.not_le.1 fun hh => hn1 ?_
      have : j = 0 := by omega
      subst this
      have hx : i * (z.x - p.x) = 0 := by grind
      have hy : i * (z.y - p.y) = 0 := by grind
      rcases Int.mul_eq_zero.1 hx with z1 | z1 <;> rcases Int.mul_eq_zero.1 hy with z2 | z2 <;> first | omega | exact Pt.same (by omega) (by omega)
    exact h.symm (fold_of hj hp hn1 (by grind) (by grind))
  · exact hn2 e
  · have hi : 0 < i := by
      refine Int.not_le.1 fun hh => hn2 ?_
      have : i = 0 := by omega
      subst this
      have hx : j * (z.x - q.x) = 0 := by grind
      have hy : j * (z.y - q.y) = 0 := by grind
      rcases Int.mul_eq_zero.1 hx with z1 | z1 <;> rcases Int.mul_eq_zero.1 hy with z2 | z2 <;> first | omega | exact Pt.same (by omega) (by omega)
    exact h.symm (fold_of hi hp hn2 (by grind) (by grind))
  · exact h i j (i + j) 0 ⟨i0, j0, by omega, by omega, hp, by omega, by omega, by omega⟩
theorem Com.weigh {i j k m : Int} {p q a b : Pt} (h : Com i j k m p q a b) (v u w : Pt) :
    i * wv v u w p + j * wv v u w q = k * wv v u w a + m * wv v u w b ∧ i * wu v u w p + j * wu v u w q = k * wu v u w a + m * wu v u w b ∧ i * ww v u w p + j * ww v u w q = k * ww v u w a + m * ww v u w b := by
  obtain ⟨-, -, -, -, -, sum, ex, ey⟩ := h
  have hi : i = k + m - j := by omega
  subst hi
  unfold wv wu ww cr
  refine ⟨?_, ?_, ?_⟩ <;> grind
/-- A chord that may cut a polygon. -/
def Chord (l : List Pt) (a b : Pt) : Prop := ∀ p q, Adj l p q → (p = a ∧ NoFold p q b) ∨ (p = b ∧ NoFold p q a) ∨ (q = a ∧ NoFold q p b) ∨ (q = b ∧ NoFold q p a) ∨ NoMeet p q a b
theorem Chord.ok {l : List Pt} {a b : Pt} (h : Chord l a b) {p q : Pt} (hs : Adj l p q) : Ok2 p q a b := Or.inr (Or.inr (h p q hs))
/-- A part of a polygon that is cut off by a chord. -/
theorem Good.cut {l l' : List Pt} {a b : Pt} (G : Good l) (hc : Chord l a b) (hnd : l'.Nodup) (hs : ∀ s, s ∈ ring l' → s ∈ ring l ∨ s = (a, b)) : Good l' := by
  refine ⟨hnd, fun s h1 t h2 => ?_⟩
  rcases hs s h1 with k1 | rfl <;> rcases hs t h2 with k2 | rfl
  · exact G.ok s k1 t k2
  · exact hc.ok (Or.inl k1)
  · exact (hc.ok (Or.inl k2)).symm
  · exact Or.inl ⟨rfl, rfl⟩
theorem Chord.symm {l : List Pt} {a b : Pt} (h : Chord l a b) : Chord l b a := by
  intro p q hs
  rcases h p q hs with h | h | h | h | h
  · exact Or.inr (Or.inl h)
  · exact Or.inl h
  · exact Or.inr (Or.inr (Or.inr (Or.inl h)))
  · exact Or.inr (Or.inr (Or.inl h))
  · exact Or.inr (Or.inr (Or.inr (Or.inr h.flip2)))
/-- A corner v and its neighbours u, w; they are no neighbours of each other. -/
structure Nose (l : List Pt) (v u w : Pt) : Prop where
  vu : Adj l v u
  vw : Adj l v w
  own : ∀ q, Adj l v q → q = u ∨ q = w
  far : ¬ Adj l u w
  nu : u ≠ v
  nw : w ≠ v
  uw : u ≠ w
  irr : ∀ p q, Adj l p q → p ≠ q
  area : cr v u w ≠ 0
theorem Nose.swap {l : List Pt} {v u w : Pt} (N : Nose l v u w) : Nose l v w u :=
  ⟨N.vw, N.vu, fun q h => (N.own q h).symm, fun h => N.far h.symm, N.nw, N.nu, fun h => N.uw h.symm, N.irr, by rw [cr_swap]; have := N.area; omega⟩
theorem Nose.sq {l : List Pt} {v u w : Pt} (N : Nose l v u w) : 0 < sqE v u w := sq_pos N.area
theorem InT.swap {v u w p : Pt} (h : InT v u w p) : InT v w u p := by
  have e1 : wv v w u p = wv v u w p := by unfold wv cr; grind
  have e2 : wu v w u p = ww v u w p := by unfold wu ww cr; grind
  have e3 : ww v w u p = wu v u w p := by unfold wu ww cr; grind
  unfold InT
  rw [e1, e2, e3]
  exact ⟨h.1, h.2.2, h.2.1⟩
/-- With a fold one of two directions is a multiple of the other. -/
theorem fold_vec {o a b : Pt} (h : cr o a b = 0) : dt o b b * (a.x - o.x) = dt o a b * (b.x - o.x) ∧ dt o b b * (a.y - o.y) = dt o a b * (b.y - o.y) := by
  unfold cr at h
  unfold dt
  constructor <;> grind
theorem Nose.end_u {l : List Pt} {v u w : Pt} (G : Good l) (N : Nose l v u w) (he : ∀ z, z ∈ l → z ≠ v → z ≠ u → z ≠ w → ¬ InT v u w z) {q : Pt} (h : Adj l u q) : NoFold u q w := by
  rintro ⟨hc, hd⟩
  have hE := N.sq
  have hqu : q ≠ u := fun e => N.irr _ _ h e.symm
  by_cases hqv : q = v
  · subst hqv
    have := N.area
    rw [← cr_cyc, ← cr_cyc] at hc
    rw [cr_swap] at this
    have e : cr q w u = cr u q w := by unfold cr; grind
    have e2 : cr w u q = cr u q w := by unfold cr; grind
    omega
  · have hqw : q ≠ w := fun e => N.far (e ▸ h)
    obtain ⟨v1, v2⟩ := fold_vec hc
    have hK := len_pos N.uw
    generalize dt u w w = K at *
    generalize dt u q w = d at *
    by_cases hdk : d ≤ K
    · refine he q h.mem.2 hqv hqu hqw ?_
      have C : Com K 0 d (K - d) q u w u := ⟨by omega, by omega, by omega, by omega, by omega, by omega, by grind, by grind⟩
      obtain ⟨a1, a2, a3⟩ := C.weigh v u w
      rw [wv_w, wv_u] at a1
      rw [wu_w, wu_u] at a2
      rw [ww_w, ww_u] at a3
      have b1 : 0 ≤ (K - d) * sqE v u w := Int.mul_nonneg (by omega) (by omega)
      have b2 : 0 ≤ d * sqE v u w := Int.mul_nonneg (by omega) (by omega)
      refine ⟨?_, ?_, ?_⟩
      · refine Int.not_lt.1 fun hh => ?_
        have := Int.mul_neg_of_pos_of_neg hK hh
        omega
      · refine Int.not_lt.1 fun hh => ?_
        have := Int.mul_neg_of_pos_of_neg hK hh
        omega
      · refine Int.not_lt.1 fun hh => ?_
        have := Int.mul_neg_of_pos_of_neg hK hh
        omega
    · rcases G.vertex h N.vw.mem.2 (i := d - K) (j := K) (by omega) (by omega) (by omega) (by grind) (by grind) with e | e
      · exact N.uw e.symm
      · exact hqw e.symm
/-- A side that has a point in the triangle, and ends in none of its corners, ends in it. -/
theorem Nose.enter {l : List Pt} {v u w p q : Pt} {i j : Int} (G : Good l) (N : Nose l v u w) (hs : Adj l p q) (hp : p ≠ v ∧ p ≠ u ∧ p ≠ w) (hq : q ≠ v ∧ q ≠ u ∧ q ≠ w) (hi : 0 ≤ i) (hj : 0 ≤ j) (hij : 0 < i + j)
    (ma : 0 ≤ i * wv v u w p + j * wv v u w q) (mb : 0 ≤ i * wu v u w p + j * wu v u w q) (mc : 0 ≤ i * ww v u w p + j * ww v u w q)
    (hup : i * wv v u w p + j * wv v u w q ≤ (i + j) * wv v u w p) : InT v u w p := by
  refine Classical.byContradiction fun hn => ?_
  have key : ∀ x, Adj l v x → (x = u ∨ x = w) → ∀ i' j' k m, ¬ Com i' j' k m p q v x := by
    intro x hx hx2 i' j' k m C
    have n1 : p ≠ x := by rcases hx2 with rfl | rfl; exact hp.2.1; exact hp.2.2
    have n2 : q ≠ x := by rcases hx2 with rfl | rfl; exact hq.2.1; exact hq.2.2
    rcases G.adj hs hx with ⟨e, -⟩ | ⟨e, -⟩ | ⟨e, -⟩ | ⟨e, -⟩ | ⟨e, -⟩ | ⟨e, -⟩ | h
    · exact hp.1 e
    · exact n1 e
    · exact hp.1 e
    · exact n1 e
    · exact hq.1 e
    · exact n2 e
    · exact h _ _ _ _ C
  rcases escape N.sq hi hj hij ma mb mc hup hn with ⟨i', j', k, m, C, -⟩ | ⟨i', j', k, m, C, -⟩
  · exact key u N.vu (Or.inl rfl) _ _ _ _ C
  · exact key w N.vw (Or.inr rfl) _ _ _ _ C
/-- An ear: nothing lies in the triangle. -/
theorem Nose.ear {l : List Pt} {v u w : Pt} (G : Good l) (N : Nose l v u w) (he : ∀ z, z ∈ l → z ≠ v → z ≠ u → z ≠ w → ¬ InT v u w z) : Chord l u w := by
  intro p q hs
  have he2 : ∀ z, z ∈ l → z ≠ v → z ≠ w → z ≠ u → ¬ InT v w u z := fun z h1 h2 h3 h4 h5 => he z h1 h2 h4 h3 h5.swap
  by_cases h1 : p = u
  · subst h1; exact Or.inl ⟨rfl, N.end_u G he hs⟩
  by_cases h2 : p = w
  · subst h2; exact Or.inr (Or.inl ⟨rfl, N.swap.end_u G he2 hs⟩)
  by_cases h3 : q = u
  · subst h3; exact Or.inr (Or.inr (Or.inl ⟨rfl, N.end_u G he hs.symm⟩))
  by_cases h4 : q = w
  · subst h4; exact Or.inr (Or.inr (Or.inr (Or.inl ⟨rfl, N.swap.end_u G he2 hs.symm⟩)))
  have h5 : p ≠ v := fun e => by
    subst e
    rcases N.own q hs with e | e
    · exact h3 e
    · exact h4 e
  have h6 : q ≠ v := fun e => by
    subst e
    rcases N.own p hs.symm with e | e
    · exact h1 e
    · exact h2 e
  refine Or.inr (Or.inr (Or.inr (Or.inr fun i j k m C => ?_)))
  have hE := N.sq
  obtain ⟨a1, a2, a3⟩ := C.weigh v u w
  rw [wv_u, wv_w] at a1
  rw [wu_u, wu_w] at a2
  rw [ww_u, ww_w] at a3
  have b1 : 0 ≤ k * sqE v u w := Int.mul_nonneg C.k0 (by omega)
  have b2 : 0 ≤ m * sqE v u w := Int.mul_nonneg C.l0 (by omega)
  rcases Int.le_total 0 (wv v u w p) with ha | ha
  · have := Int.mul_nonneg (Int.le_of_lt C.pos) ha
    exact he p hs.mem.1 h5 h1 h2 (N.enter G hs ⟨h5, h1, h2⟩ ⟨h6, h3, h4⟩ C.i0 C.j0 C.pos (by omega) (by omega) (by omega) (by omega))
  · have hq0 : 0 ≤ (j + i) * wv v u w q := by
      have h7 : 0 ≤ j * wv v u w q := by
        have := Int.mul_nonpos_of_nonneg_of_nonpos C.i0 ha
        omega
      rcases Int.lt_or_le (wv v u w q) 0 with hl | hl
      · have hj0 : j = 0 := by
          refine Classical.byContradiction fun hh => ?_
          have := Int.mul_neg_of_pos_of_neg (show 0 < j by have := C.j0; omega) hl
          omega
        subst hj0
        have hi0 := C.pos
        have : wv v u w p = 0 := by
          have : i * wv v u w p = 0 := by omega
          rcases Int.mul_eq_zero.1 this with h | h
          · omega
          · exact h
        exfalso
        exact he p hs.mem.1 h5 h1 h2 (N.enter G hs ⟨h5, h1, h2⟩ ⟨h6, h3, h4⟩ C.i0 C.j0 C.pos (by omega) (by omega) (by omega) (by rw [this]; simp))
      · exact Int.mul_nonneg (by have := C.pos; omega) hl
    exact he q hs.mem.2 h6 h3 h4 (N.enter G hs.symm ⟨h6, h3, h4⟩ ⟨h5, h1, h2⟩ C.j0 C.i0 (by have := C.pos; omega) (by omega) (by omega) (by omega) (by omega))
/-- The corner z lies in the triangle, and none but v lies nearer to v. -/
structure Near (l : List Pt) (v u w z : Pt) : Prop where
  mem : z ∈ l
  nv : z ≠ v
  nu : z ≠ u
  nw : z ≠ w
  inT : InT v u w z
  most : ∀ y, y ∈ l → y ≠ v → InT v u w y → wv v u w y ≤ wv v u w z
theorem InT.eqs {v u w p : Pt} : wv v w u p = wv v u w p ∧ wu v w u p = ww v u w p ∧ ww v w u p = wu v u w p ∧ sqE v w u = sqE v u w := by
  refine ⟨?_, ?_, ?_, ?_⟩
  · unfold wv cr; grind
  · unfold wu ww cr; grind
  · unfold wu ww cr; grind
  · unfold sqE cr; grind
theorem Near.swap {l : List Pt} {v u w z : Pt} (h : Near l v u w z) : Near l v w u z :=
  ⟨h.mem, h.nv, h.nw, h.nu, h.inT.swap, fun y h1 h2 h3 => by rw [(InT.eqs (v := v) (u := u) (w := w) (p := y)).1, (InT.eqs (v := v) (u := u) (w := w) (p := z)).1]; exact h.most y h1 h2 h3.swap⟩
theorem Near.wu_pos {l : List Pt} {v u w z : Pt} (G : Good l) (N : Nose l v u w) (Z : Near l v u w z) : 0 < wu v u w z := by
  refine Classical.byContradiction fun hh => ?_
  have hz : wu v u w z = 0 := by have := Z.inT.2.1; omega
  have hs := w_sum v u w z
  have hx := w_x v u w z
  have hy := w_y v u w z
  have hE := N.sq
  rw [hz] at hs hx hy
  rcases G.vertex N.vw Z.mem (i := wv v u w z) (j := ww v u w z) Z.inT.1 Z.inT.2.2 (by omega) (by grind) (by grind) with e | e
  · exact Z.nv e
  · exact Z.nw e
theorem Near.ww_pos {l : List Pt} {v u w z : Pt} (G : Good l) (N : Nose l v u w) (Z : Near l v u w z) : 0 < ww v u w z := by
  have := Z.swap.wu_pos G N.swap
  rwa [InT.eqs.2.1] at this
theorem Near.end_v {l : List Pt} {v u w z q : Pt} (G : Good l) (N : Nose l v u w) (Z : Near l v u w z) (h : Adj l v q) : NoFold v q z := by
  rintro ⟨hc, -⟩
  rcases N.own q h with rfl | rfl
  · have h1 := Z.ww_pos G N
    unfold ww at h1
    rw [hc] at h1
    simp at h1
  · have h1 := Z.wu_pos G N
    unfold wu at h1
    rw [show cr q v z = - cr v q z by unfold cr; grind, hc] at h1
    simp at h1
theorem Near.end_z {l : List Pt} {v u w z q : Pt} (G : Good l) (N : Nose l v u w) (Z : Near l v u w z) (h : Adj l z q) : NoFold z q v := by
  rintro ⟨hc, hd⟩
  have hE := N.sq
  have hqz : q ≠ z := fun e => N.irr _ _ h e.symm
  have hqv : q ≠ v := fun e => by
    subst e
    rcases N.own z h.symm with e | e
    · exact Z.nu e
    · exact Z.nw e
  obtain ⟨v1, v2⟩ := fold_vec hc
  have hK := len_pos Z.nv
  have hs := w_sum v u w z
  have hup := Z.wu_pos G N
  have hwp := Z.ww_pos G N
  obtain ⟨t1, t2, t3⟩ := Z.inT
  generalize dt z v v = K at *
  generalize dt z q v = d at *
  by_cases hdk : d ≤ K
  · have C : Com K 0 d (K - d) q z v z := ⟨by omega, by omega, by omega, by omega, by omega, by omega, by grind, by grind⟩
    obtain ⟨a1, a2, a3⟩ := C.weigh v u w
    rw [wv_v] at a1
    rw [wu_v] at a2
    rw [ww_v] at a3
    have b1 : 0 ≤ (K - d) * wv v u w z := Int.mul_nonneg (by omega) t1
    have b2 : 0 ≤ (K - d) * wu v u w z := Int.mul_nonneg (by omega) t2
    have b3 : 0 ≤ (K - d) * ww v u w z := Int.mul_nonneg (by omega) t3
    have b4 : 0 < d * (sqE v u w - wv v u w z) := Int.mul_pos hd (by omega)
    have b5 : 0 < d * sqE v u w := Int.mul_pos hd hE
    have hin : InT v u w q := by
      refine ⟨?_, ?_, ?_⟩ <;>
      · refine Int.not_lt.1 fun hh => ?_
        have := Int.mul_neg_of_pos_of_neg hK hh
        omega
    have hmost := Z.most q h.mem.2 hqv hin
    have h9 := Int.mul_le_mul_of_nonneg_left hmost (Int.le_of_lt hK)
    grind
  · rcases G.vertex h N.vu.mem.1 (i := d - K) (j := K) (by omega) (by omega) (by omega) (by grind) (by grind) with e | e
    · exact Z.nv e.symm
    · exact hqv e.symm
/-- A side that ends neither in v nor in z, with a point in the triangle that is nearer to v than z. -/
theorem Near.high {l : List Pt} {v u w z p q : Pt} {i j : Int} (G : Good l) (N : Nose l v u w) (Z : Near l v u w z) (hs : Adj l p q) (hp : p ≠ v) (hq : q ≠ v) (hi : 0 ≤ i) (hj : 0 ≤ j) (hij : 0 < i + j)
    (ma : (i + j) * wv v u w z < i * wv v u w p + j * wv v u w q) (mb : 0 ≤ i * wu v u w p + j * wu v u w q) (mc : 0 ≤ i * ww v u w p + j * ww v u w q)
    (hup : i * wv v u w p + j * wv v u w q ≤ (i + j) * wv v u w p) : False := by
  have hz := Int.mul_nonneg (Int.le_of_lt hij) Z.inT.1
  by_cases hn : InT v u w p
  · have := Int.mul_le_mul_of_nonneg_left (Z.most p hs.mem.1 hp hn) (Int.le_of_lt hij)
    omega
  · rcases escape N.sq hi hj hij (by omega) mb mc hup hn with ⟨i', j', k, m, C, hk⟩ | ⟨i', j', k, m, C, hk⟩
    · have := G.touch hs N.vu hp hq N.nu C
      have := hk (by omega)
      omega
    · have := G.touch hs N.vw hp hq N.nw C
      have := hk (by omega)
      omega
theorem Near.chord {l : List Pt} {v u w z : Pt} (G : Good l) (N : Nose l v u w) (Z : Near l v u w z) : Chord l v z := by
  intro p q hs
  by_cases h1 : p = v
  · subst h1; exact Or.inl ⟨rfl, Z.end_v G N hs⟩
  by_cases h2 : p = z
  · subst h2; exact Or.inr (Or.inl ⟨rfl, Z.end_z G N hs⟩)
  by_cases h3 : q = v
  · subst h3; exact Or.inr (Or.inr (Or.inl ⟨rfl, Z.end_v G N hs.symm⟩))
  by_cases h4 : q = z
  · subst h4; exact Or.inr (Or.inr (Or.inr (Or.inl ⟨rfl, Z.end_z G N hs.symm⟩)))
  refine Or.inr (Or.inr (Or.inr (Or.inr fun i j k m C => ?_)))
  have hE := N.sq
  obtain ⟨a1, a2, a3⟩ := C.weigh v u w
  rw [wv_v] at a1
  rw [wu_v] at a2
  rw [ww_v] at a3
  have hsum := C.sum
  have hpos := C.pos
  by_cases hk : k = 0
  · subst hk
    have ex := C.ex
    have ey := C.ey
    rcases G.vertex hs Z.mem C.i0 C.j0 C.pos (by rw [hsum, ex]; grind) (by rw [hsum, ey]; grind) with e | e
    · exact h2 e.symm
    · exact h4 e.symm
  · have hk0 : 0 < k := by have := C.k0; omega
    obtain ⟨t1, t2, t3⟩ := Z.inT
    have s1 := w_sum v u w z
    have hup := Z.wu_pos G N
    have b0 : 0 < k * (sqE v u w - wv v u w z) := Int.mul_pos hk0 (by omega)
    have b2 : 0 ≤ m * wu v u w z := Int.mul_nonneg C.l0 t2
    have b3 : 0 ≤ m * ww v u w z := Int.mul_nonneg C.l0 t3
    have hma : (i + j) * wv v u w z < i * wv v u w p + j * wv v u w q := by rw [a1, hsum]; grind
    rcases Int.le_total (wv v u w q) (wv v u w p) with ho | ho
    · have := Int.mul_le_mul_of_nonneg_left ho C.j0
      exact Z.high G N hs h1 h3 C.i0 C.j0 C.pos hma (by omega) (by omega) (by grind)
    · have := Int.mul_le_mul_of_nonneg_left ho C.i0
      exact Z.high G N hs.symm h3 h1 C.j0 C.i0 (by omega) (by rw [Int.add_comm j i]; omega) (by omega) (by omega) (by grind)
end Go.Proofs.Ythnfepfbkmafaaa.Geo
