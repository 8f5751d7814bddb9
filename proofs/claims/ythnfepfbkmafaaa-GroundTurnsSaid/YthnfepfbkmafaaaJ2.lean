/- Simple polygons, in plain Lean: a simple polygon has an area (area_ne): the sign of the area is that of the turn at each corner that lies farthest in some direction. -/
import Derived.Test.YthnfepfbkmafaaaJ1
namespace Go.Proofs.Ythnfepfbkmafaaa.Geo
theorem path_mem2 {s : Pt × Pt} {c : Pt} : ∀ {t : List Pt}, s ∈ path (c :: t) → s.2 ∈ t := by
  intro t
  induction t generalizing c with
  | nil => intro h; simp [path] at h
  | cons b t ih =>
    intro h
    rw [path, List.mem_cons] at h
    rcases h with rfl | h
    · simp
    · exact List.mem_cons_of_mem _ (ih h)
theorem path_mem1 {s : Pt × Pt} {c : Pt} : ∀ {A : List Pt}, s ∈ path (A ++ [c]) → s.1 ∈ A
  | [], h => by simp [path] at h
  | [a], h => by
    simp [path] at h
    rw [h]; simp
  | a :: b :: t, h => by
    rw [List.cons_append, List.cons_append, path, List.mem_cons] at h
    rcases h with rfl | h
    · simp
    · exact List.mem_cons_of_mem _ (path_mem1 h)
theorem path_ne {s : Pt × Pt} : ∀ {l : List Pt}, l.Nodup → s ∈ path l → s.1 ≠ s.2
  | [], _, h => by simp [path] at h
  | [_], _, h => by simp [path] at h
  | a :: b :: t, hn, h => by
    rw [path, List.mem_cons] at h
    rw [List.nodup_cons] at hn
    rcases h with rfl | h
    · intro e
      exact hn.1 (by simp at e; rw [e]; simp)
    · exact path_ne hn.2 h
theorem ring_last (w u : Pt) (M : List Pt) : ring (w :: (M ++ [u])) = path (w :: (M ++ [u])) ++ [(u, w)] := by
  have := path_last u w (w :: M)
  simp only [ring, List.cons_append, List.append_assoc, List.nil_append] at this ⊢
  exact this
theorem norm_of {l : List Pt} {x : Pt} (hx : x ∈ l) (h3 : 3 ≤ l.length) : ∃ w M u, (∀ s, s ∈ ring (x :: w :: (M ++ [u])) ↔ s ∈ ring l) ∧ tot (ring (x :: w :: (M ++ [u]))) = tot (ring l) ∧ (x :: w :: (M ++ [u])).length = l.length ∧ (l.Nodup → (x :: w :: (M ++ [u])).Nodup) ∧ ∀ p, p ∈ (x :: w :: (M ++ [u])) ↔ p ∈ l := by
  obtain ⟨A, B, rfl⟩ := List.append_of_mem hx
  obtain ⟨w, R, hR⟩ : ∃ w R, B ++ A = w :: R := by
    cases hh : B ++ A with
    | nil => have := congrArg List.length hh; simp only [List.length_append, List.length_cons, List.length_nil] at this h3; omega
    | cons w R => exact ⟨w, R, rfl⟩
  obtain ⟨M, u, hM⟩ : ∃ M u, R = M ++ [u] := by
    rcases List.eq_nil_or_concat R with h | ⟨M, u, h⟩
    · have := congrArg List.length hR; subst h; simp only [List.length_append, List.length_cons, List.length_nil] at this h3; omega
    · exact ⟨M, u, by rw [h]; simp⟩
  subst hM
  have e : x :: w :: (M ++ [u]) = (x :: B) ++ A := by rw [← hR]; simp
  refine ⟨w, M, u, ?_, ?_, ?_, ?_, ?_⟩ <;> rw [e]
  · intro s; exact ring_rot_mem s _ _
  · exact ring_rot_tot _ _
  · simp; omega
  · intro hn; exact List.perm_append_comm.nodup hn
  · intro p; simp only [List.mem_append]; exact Or.comm
/-- A corner that lies farthest in some direction. -/
def Ext (l : List Pt) (x : Pt) : Prop := x ∈ l ∧ ∃ dx dy : Int, ∀ y, y ∈ l → y ≠ x → dx * x.x + dy * x.y < dx * y.x + dy * y.y
theorem Ext.sub {l l' : List Pt} {x : Pt} (h : Ext l x) (hx : x ∈ l') (hs : ∀ y, y ∈ l' → y ∈ l) : Ext l' x := by
  obtain ⟨-, dx, dy, h⟩ := h
  exact ⟨hx, dx, dy, fun y hy => h y (hs y hy)⟩
theorem Ext.turn {l : List Pt} {o a b : Pt} (h : Ext l o) (ha : a ∈ l) (hb : b ∈ l) (na : a ≠ o) (nb : b ≠ o) (hf : NoFold o a b) : cr o a b ≠ 0 := by
  intro hc
  obtain ⟨-, dx, dy, h⟩ := h
  have h1 := h a ha na
  have h2 := h b hb nb
  refine hf (fold_of (m := dx * a.x + dy * a.y - (dx * o.x + dy * o.y)) (n := dx * b.x + dy * b.y - (dx * o.x + dy * o.y)) (by omega) (by omega) (fun e => na e.symm) ?_ ?_)
  · unfold cr at hc; grind
  · unfold cr at hc; grind
theorem Good.bend {l : List Pt} (G : Good l) {p v q : Pt} (h1 : Adj l p v) (h2 : Adj l v q) (np : p ≠ v) (nq : q ≠ v) (npq : p ≠ q) : NoFold v p q := by
  rcases G.adj h1 h2 with ⟨e, -⟩ | ⟨e, -⟩ | ⟨e, -⟩ | ⟨e, -⟩ | ⟨-, h⟩ | ⟨e, -⟩ | h
  · exact absurd e np
  · exact absurd e npq
  · exact absurd e np
  · exact absurd e npq
  · exact h
  · exact absurd e.symm nq
  · exact absurd ⟨by omega, by omega, by omega, by omega, by omega, by omega, by omega, by omega⟩ (h 0 1 1 0)
/-- A corner in the triangle is not farthest. -/
theorem Ext.notIn {l : List Pt} {v u w z : Pt} (h : Ext l z) (N : Nose l v u w) (nv : z ≠ v) (nu : z ≠ u) (nw : z ≠ w) : ¬ InT v u w z := by
  rintro ⟨a, b, c⟩
  obtain ⟨-, dx, dy, h⟩ := h
  have h1 := h v N.vu.mem.1 (fun e => nv e.symm)
  have h2 := h u N.vu.mem.2 (fun e => nu e.symm)
  have h3 := h w N.vw.mem.2 (fun e => nw e.symm)
  have s := w_sum v u w z
  have ex := w_x v u w z
  have ey := w_y v u w z
  have hE := N.sq
  generalize wv v u w z = a' at *
  generalize wu v u w z = b' at *
  generalize ww v u w z = c' at *
  have k : (a' + b' + c') * (dx * z.x + dy * z.y) = a' * (dx * v.x + dy * v.y) + b' * (dx * u.x + dy * u.y) + c' * (dx * w.x + dy * w.y) := by rw [s]; grind
  have m1 := Int.mul_le_mul_of_nonneg_left (Int.le_of_lt h1) a
  have m2 := Int.mul_le_mul_of_nonneg_left (Int.le_of_lt h2) b
  have m3 := Int.mul_le_mul_of_nonneg_left (Int.le_of_lt h3) c
  generalize dx * z.x + dy * z.y = dz at *
  generalize dx * v.x + dy * v.y = dv at *
  generalize dx * u.x + dy * u.y = du at *
  generalize dx * w.x + dy * w.y = dw at *
  have e : (a' + b' + c') * dz = a' * dz + b' * dz + c' * dz := by grind
  rcases Int.lt_or_le 0 a' with p | p
  · have := Int.mul_lt_mul_of_pos_left h1 p; omega
  · rcases Int.lt_or_le 0 b' with q | q
    · have := Int.mul_lt_mul_of_pos_left h2 q; omega
    · have := Int.mul_lt_mul_of_pos_left h3 (show 0 < c' by omega); omega
/-- Behind an ear its neighbour, if it lies farthest, turns as before. -/
theorem Nose.keep {l : List Pt} {v u w b : Pt} (G : Good l) (N : Nose l v u w) (he : ∀ z, z ∈ l → z ≠ v → z ≠ u → z ≠ w → ¬ InT v u w z) (hx : Ext l w) (hb : Adj l w b) (nb : b ≠ v) : 0 < cr u w b * cr v w b := by
  have hbw : b ≠ w := fun e => N.irr _ _ hb e.symm
  have hbu : b ≠ u := fun e => N.far (e ▸ hb).symm
  have he2 : ∀ z, z ∈ l → z ≠ v → z ≠ w → z ≠ u → ¬ InT v w u z := fun z h1 h2 h3 h4 h5 => he z h1 h2 h4 h3 h5.swap
  have n1 : cr w v b ≠ 0 := hx.turn N.vw.mem.1 hb.mem.2 N.nw.symm hbw (G.bend N.vw hb N.nw.symm hbw (fun e => nb e.symm))
  have n2 : cr w b u ≠ 0 := hx.turn hb.mem.2 N.vu.mem.2 hbw N.uw (N.swap.end_u G he2 hb)
  refine Classical.byContradiction fun hn => ?_
  have hE := N.sq
  have s := w_sum v u w b
  have ex := w_x v u w b
  have ey := w_y v u w b
  have e1 : cr u w b = cr w b u := by unfold cr; grind
  have e2 : cr v w b = - cr w v b := by unfold cr; grind
  have hneg : 0 < cr u w b * cr w v b := by
    rw [e2] at hn
    have hne : cr u w b * cr w v b ≠ 0 := by
      rw [e1]
      intro h
      rcases Int.mul_eq_zero.1 h with h | h
      · exact n2 h
      · exact n1 h
    rw [Int.mul_neg] at hn
    omega
  have hab : 0 < wv v u w b * wu v u w b := by
    have : wv v u w b * wu v u w b = sqE v u w * (cr u w b * cr w v b) := by unfold wv wu sqE; grind
    rw [this]
    exact Int.mul_pos hE hneg
  have hnot := he b hb.mem.2 nb hbu hbw
  unfold InT at hnot
  obtain ⟨-, dx, dy, hd⟩ := hx
  have d1 := hd b hb.mem.2 hbw
  have d2 := hd v N.vw.mem.1 N.nw.symm
  have d3 := hd u N.vu.mem.2 N.uw
  generalize wv v u w b = α at *
  generalize wu v u w b = β at *
  generalize ww v u w b = γ at *
  generalize sqE v u w = E at *
  rcases Int.lt_or_le 0 α with ha | ha
  · have hb0 : 0 < β := pos_right ha hab
    have hg : γ < 0 := by
      refine Int.not_le.1 fun h => hnot ⟨by omega, by omega, h⟩
    have C : Com (-γ) E α β w b v u := ⟨by omega, by omega, by omega, by omega, by omega, by omega, by grind, by grind⟩
    rcases G.adj hb N.vu with ⟨e, -⟩ | ⟨e, -⟩ | ⟨e, -⟩ | ⟨e, -⟩ | ⟨e, -⟩ | ⟨e, -⟩ | h
    · exact N.nw e
    · exact N.uw e.symm
    · exact N.nw e
    · exact N.uw e.symm
    · exact nb e
    · exact hbu e
    · exact h _ _ _ _ C
  · have ha0 : α < 0 := by
      refine Int.not_le.1 fun h => ?_
      have : α = 0 := by omega
      subst this; simp at hab
    have hb0 : β < 0 := by
      refine Int.not_le.1 fun h => ?_
      have := Int.mul_nonpos_of_nonpos_of_nonneg ha h
      omega
    have q1 : 0 < E * ((dx * b.x + dy * b.y) - (dx * w.x + dy * w.y)) := Int.mul_pos hE (by omega)
    have q2 := Int.mul_neg_of_neg_of_pos ha0 (show 0 < (dx * v.x + dy * v.y) - (dx * w.x + dy * w.y) by omega)
    have q3 := Int.mul_neg_of_neg_of_pos hb0 (show 0 < (dx * u.x + dy * u.y) - (dx * w.x + dy * w.y) by omega)
    have : E * ((dx * b.x + dy * b.y) - (dx * w.x + dy * w.y)) = α * ((dx * v.x + dy * v.y) - (dx * w.x + dy * w.y)) + β * ((dx * u.x + dy * u.y) - (dx * w.x + dy * w.y)) := by grind
    omega
/-- The area has the sign of the turn at a corner that lies farthest. -/
def Claim (l : List Pt) : Prop := ∀ x a b, Ext l x → (a, x) ∈ ring l → (x, b) ∈ ring l → 0 < tot (ring l) * cr a x b
theorem sgn_trans {a b c : Int} (h1 : 0 < a * b) (h2 : 0 < b * c) : 0 < a * c := by
  have h := Int.mul_pos h1 h2
  have e : a * b * (b * c) = (b * b) * (a * c) := by grind
  rw [e] at h
  have hb : b ≠ 0 := by rintro rfl; simp at h1
  exact pos_right (sq_pos hb) h
theorem sgn_symm {a b : Int} (h : 0 < a * b) : 0 < b * a := by rwa [Int.mul_comm]
theorem max_of {f : Pt → Int} {P : Pt → Prop} : ∀ {l : List Pt} {z : Pt}, z ∈ l → P z → ∃ z', z' ∈ l ∧ P z' ∧ ∀ y, y ∈ l → P y → f y ≤ f z'
  | [], _, h, _ => by simp at h
  | a :: t, z, h, hz => by
    by_cases hex : ∃ y, y ∈ t ∧ P y
    · obtain ⟨y, hy, hp⟩ := hex
      obtain ⟨z', h1, h2, h3⟩ := max_of (f := f) hy hp
      by_cases ha : P a ∧ f z' < f a
      · refine ⟨a, by simp, ha.1, fun y hy hp => ?_⟩
        rw [List.mem_cons] at hy
        rcases hy with rfl | hy
        · exact Int.le_refl _
        · have := h3 y hy hp; omega
      · refine ⟨z', List.mem_cons_of_mem _ h1, h2, fun y hy hp => ?_⟩
        rw [List.mem_cons] at hy
        rcases hy with rfl | hy
        · refine Int.not_lt.1 fun hh => ha ⟨hp, hh⟩
        · exact h3 y hy hp
    · rw [List.mem_cons] at h
      rcases h with rfl | h
      · refine ⟨z, by simp, hz, fun y hy hp => ?_⟩
        rw [List.mem_cons] at hy
        rcases hy with rfl | hy
        · exact Int.le_refl _
        · exact absurd ⟨y, hy, hp⟩ hex
      · exact absurd ⟨z, h, hz⟩ hex
/-- What a corner of the normal form tells. -/
theorem nose_of {v w u : Pt} {M : List Pt} (hm : M ≠ []) (G : Good (v :: w :: (M ++ [u]))) (hx : Ext (v :: w :: (M ++ [u])) v) : Nose (v :: w :: (M ++ [u])) v u w := by
  have hr := ring_norm v w u M
  have hnd := G.nd
  simp only [List.nodup_cons, List.mem_cons, List.mem_append, not_or, List.nodup_append, List.not_mem_nil, or_false] at hnd
  obtain ⟨⟨nvw, nvM, nvu⟩, ⟨nwM, nwu⟩, hM, -, hMu⟩ := hnd
  have hMu' : ∀ a, a ∈ M → a ≠ u := fun a ha => by simpa using hMu a ha
  have hvu : Adj (v :: w :: (M ++ [u])) v u := Or.inr (by rw [hr]; simp)
  have hvw : Adj (v :: w :: (M ++ [u])) v w := Or.inl (by rw [hr]; simp)
  have hirr : ∀ p q, Adj (v :: w :: (M ++ [u])) p q → p ≠ q := by
    have key : ∀ p q, (p, q) ∈ ring (v :: w :: (M ++ [u])) → p ≠ q := by
      intro p q h
      rw [hr, List.mem_cons, List.mem_append, List.mem_singleton] at h
      rcases h with h | h | h
      · cases h; exact nvw
      · exact path_ne (List.nodup_cons.1 G.nd).2 h
      · cases h; exact fun e => nvu e.symm
    intro p q h
    rcases h with h | h
    · exact key _ _ h
    · exact (key _ _ h).symm
  refine ⟨hvu, hvw, ?_, ?_, fun e => nvu e.symm, fun e => nvw e.symm, fun e => nwu e.symm, hirr, ?_⟩
  · intro q h
    rcases h with h | h <;> rw [hr, List.mem_cons, List.mem_append, List.mem_singleton] at h
    · rcases h with h | h | h
      · cases h; exact Or.inr rfl
      · have := (path_mem h).1; simp at this; exfalso; rcases this with h | h | h
        · exact nvw h
        · exact nvM h
        · exact nvu h
      · cases h; exact absurd rfl nvu
    · rcases h with h | h | h
      · cases h; exact absurd rfl nvw
      · have := (path_mem h).2; simp at this; exfalso; rcases this with h | h | h
        · exact nvw h
        · exact nvM h
        · exact nvu h
      · cases h; exact Or.inl rfl
  · intro h
    obtain ⟨m, M', rfl⟩ : ∃ m M', M = m :: M' := by
      cases M with
      | nil => exact absurd rfl hm
      | cons m M' => exact ⟨m, M', rfl⟩
    rcases h with h | h <;> rw [hr, List.mem_cons, List.mem_append, List.mem_singleton] at h
    · rcases h with h | h | h
      · cases h; exact nvu rfl
      · have := path_mem2 h; simp at this; rcases this with h | h | h
        · exact nwM (by simp [h])
        · exact nwM (by simp [h])
        · exact nwu h
      · cases h; exact nvw rfl
    · rcases h with h | h | h
      · cases h; exact nvw rfl
      · rw [List.cons_append, path, List.mem_cons] at h
        rcases h with h | h
        · cases h; exact hMu' u (by simp) rfl
        · have := (path_mem h).1; simp at this; rcases this with h | h | h
          · exact nwM (by simp [h])
          · exact nwM (by simp [h])
          · exact nwu h
      · cases h; exact nwu rfl
  · exact hx.turn hvu.mem.2 hvw.mem.2 (fun e => nvu e.symm) (fun e => nvw e.symm) (G.bend hvu.symm hvw (fun e => nvu e.symm) (fun e => nvw e.symm) (fun e => nwu e.symm))
theorem tot_one (s : Pt × Pt) : tot [s] = k0 s := by simp [tot]
theorem k0_tri (v u w : Pt) : cr u v w = k0 (u, v) + k0 (v, w) - k0 (u, w) := by unfold cr k0; grind
theorem k0_flip (a b : Pt) : k0 (a, b) = - k0 (b, a) := by unfold k0; grind
/-- Cut at a corner that lies farthest: either the area has the sign of its turn, and all others that lie farthest turn as it does; or an ear falls, and what is left turns as all these. -/
theorem cut_at {v w u : Pt} {M : List Pt} (hm : M ≠ []) (G : Good (v :: w :: (M ++ [u]))) (hx : Ext (v :: w :: (M ++ [u])) v)
    (ih : ∀ l' : List Pt, l'.length < (v :: w :: (M ++ [u])).length → 3 ≤ l'.length → Good l' → Claim l') :
    (0 < tot (ring (v :: w :: (M ++ [u]))) * cr u v w ∧ ∀ x a b, Ext (v :: w :: (M ++ [u])) x → x ≠ v → (a, x) ∈ ring (v :: w :: (M ++ [u])) → (x, b) ∈ ring (v :: w :: (M ++ [u])) → 0 < cr u v w * cr a x b) ∨
    (∃ t, tot (ring (v :: w :: (M ++ [u]))) = t + cr u v w ∧ ∀ x a b, Ext (v :: w :: (M ++ [u])) x → x ≠ v → (a, x) ∈ ring (v :: w :: (M ++ [u])) → (x, b) ∈ ring (v :: w :: (M ++ [u])) → 0 < t * cr a x b) := by
  have N := nose_of hm G hx
  have hr := ring_norm v w u M
  have hnd := G.nd
  have hnd0 := hnd
  simp only [List.nodup_cons, List.mem_cons, List.mem_append, not_or, List.nodup_append, List.not_mem_nil, or_false] at hnd
  obtain ⟨⟨nvw, nvM, nvu⟩, ⟨nwM, nwu⟩, hM, -, hMu⟩ := hnd
  have hMu' : ∀ a, a ∈ M → a ≠ u := fun a ha => by simpa using hMu a ha
  by_cases hz : ∃ z, z ∈ v :: w :: (M ++ [u]) ∧ (z ≠ v ∧ z ≠ u ∧ z ≠ w ∧ InT v u w z)
  · refine Or.inl ?_
    obtain ⟨z0, h0, h1⟩ := hz
    obtain ⟨z, hz1, ⟨hzv, hzu, hzw, hzi⟩, hmax⟩ := max_of (f := wv v u w) (P := fun z => z ≠ v ∧ z ≠ u ∧ z ≠ w ∧ InT v u w z) h0 h1
    have Z : Near (v :: w :: (M ++ [u])) v u w z := by
      refine ⟨hz1, hzv, hzu, hzw, hzi, fun y h1 h2 h3 => ?_⟩
      by_cases e1 : y = u
      · subst e1; rw [wv_u]; exact hzi.1
      by_cases e2 : y = w
      · subst e2; rw [wv_w]; exact hzi.1
      exact hmax y h1 ⟨h2, e1, e2, h3⟩
    have hzM : z ∈ M := by
      simp at hz1
      rcases hz1 with h | h | h | h
      · exact absurd h hzv
      · exact absurd h hzw
      · exact h
      · exact absurd h hzu
    have hch := Z.chord G N
    have hup := Z.wu_pos G N
    have hwp := Z.ww_pos G N
    obtain ⟨M1, M2, rfl⟩ := List.append_of_mem hzM
    have el : v :: w :: ((M1 ++ z :: M2) ++ [u]) = (v :: w :: M1) ++ z :: (M2 ++ [u]) := by simp
    have hp : path (w :: ((M1 ++ z :: M2) ++ [u])) = path (w :: (M1 ++ [z])) ++ path (z :: (M2 ++ [u])) := by
      have := path_app z (M2 ++ [u]) (w :: M1)
      simpa using this
    rw [hp] at hr
    have r1 := ring_norm v w z M1
    have r2 := ring_norm v z u M2
    have nd1 : (v :: w :: (M1 ++ [z])).Nodup := by
      refine List.Nodup.sublist ?_ hnd0
      rw [el]
      refine List.Sublist.trans ?_ (List.Sublist.append_left (l₁ := [z]) (l₂ := z :: (M2 ++ [u])) (by simp) (v :: w :: M1))
      simp
    have nd2 : (v :: z :: (M2 ++ [u])).Nodup := by
      refine List.Nodup.sublist ?_ hnd0
      rw [el]
      exact List.Sublist.cons_cons v (List.sublist_append_right (w :: M1) _)
    have s1 : ∀ s, s ∈ ring (v :: w :: (M1 ++ [z])) → s ∈ ring (v :: w :: ((M1 ++ z :: M2) ++ [u])) ∨ s = (z, v) := by
      intro s h
      rw [r1] at h
      rw [hr]
      simp only [List.mem_cons, List.mem_append, List.not_mem_nil, or_false] at h ⊢
      rcases h with h | h | h
      · exact Or.inl (Or.inl h)
      · exact Or.inl (Or.inr (Or.inl (Or.inl h)))
      · exact Or.inr h
    have s2 : ∀ s, s ∈ ring (v :: z :: (M2 ++ [u])) → s ∈ ring (v :: w :: ((M1 ++ z :: M2) ++ [u])) ∨ s = (v, z) := by
      intro s h
      rw [r2] at h
      rw [hr]
      simp only [List.mem_cons, List.mem_append, List.not_mem_nil, or_false] at h ⊢
      rcases h with h | h | h
      · exact Or.inr h
      · exact Or.inl (Or.inr (Or.inl (Or.inr h)))
      · exact Or.inl (Or.inr (Or.inr h))
    have c1 := ih _ (by simp) (by simp) (G.cut hch.symm nd1 s1)
    have c2 := ih _ (by simp; omega) (by simp) (G.cut hch nd2 s2)
    have m1 : ∀ y, y ∈ v :: w :: (M1 ++ [z]) → y ∈ v :: w :: ((M1 ++ z :: M2) ++ [u]) := by intro y hy; simp at hy ⊢; grind
    have m2 : ∀ y, y ∈ v :: z :: (M2 ++ [u]) → y ∈ v :: w :: ((M1 ++ z :: M2) ++ [u]) := by intro y hy; simp at hy ⊢; grind
    have t1 := c1 v z w (hx.sub (by simp) m1) (by rw [r1]; simp) (by rw [r1]; simp)
    have t2 := c2 v u z (hx.sub (by simp) m2) (by rw [r2]; simp) (by rw [r2]; simp)
    have g1 : 0 < cr z v w * cr u v w := by
      have : cr z v w * cr u v w = wu v u w z := by unfold wu cr; grind
      rw [this]; exact hup
    have g2 : 0 < cr u v z * cr u v w := by
      have : cr u v z * cr u v w = ww v u w z := by unfold ww cr; grind
      rw [this]; exact hwp
    have u1 := sgn_trans t1 g1
    have u2 := sgn_trans t2 g2
    refine ⟨?_, ?_⟩
    · have ht : tot (ring (v :: w :: ((M1 ++ z :: M2) ++ [u]))) = tot (ring (v :: w :: (M1 ++ [z]))) + tot (ring (v :: z :: (M2 ++ [u]))) := by
        rw [hr, r1, r2]
        have := k0_flip z v
        simp only [tot, tot_app]
        omega
      rw [ht, Int.add_mul]
      omega
    · intro x a b hex hxv ha hb
      have hxz : x ≠ z := fun e => by subst e; exact hex.notIn N hzv hzu hzw hzi
      have nd3 := hnd0
      rw [el, List.nodup_append] at nd3
      obtain ⟨-, hB, hAB⟩ := nd3
      have hxm := hex.1
      rw [el, List.mem_append] at hxm
      rw [hr] at ha hb
      simp only [List.mem_cons, List.mem_append, List.not_mem_nil, or_false, Prod.mk.injEq] at ha hb
      rcases hxm with hxm | hxm
      · have out : x ∉ z :: (M2 ++ [u]) := fun h => hAB x hxm x h rfl
        have k1 : (a, x) ∈ ring (v :: w :: (M1 ++ [z])) := by
          rw [r1]
          simp only [List.mem_cons, List.mem_append, List.not_mem_nil, or_false, Prod.mk.injEq]
          rcases ha with h | (h | h) | h
          · exact Or.inl h
          · exact Or.inr (Or.inl h)
          · exact absurd (path_mem h).2 out
          · exact absurd h.2 hxv
        have k2 : (x, b) ∈ ring (v :: w :: (M1 ++ [z])) := by
          rw [r1]
          simp only [List.mem_cons, List.mem_append, List.not_mem_nil, or_false, Prod.mk.injEq]
          rcases hb with h | (h | h) | h
          · exact Or.inl h
          · exact Or.inr (Or.inl h)
          · exact absurd (path_mem h).1 out
          · exact absurd (by rw [h.1]; simp) out
        have := c1 x a b (hex.sub (by simp at hxm ⊢; grind) m1) k1 k2
        exact sgn_trans (sgn_symm u1) this
      · have hxm2 : x ∈ M2 ++ [u] := by
          rw [List.mem_cons] at hxm
          exact hxm.resolve_left hxz
        have out : x ∉ v :: w :: M1 := fun h => hAB x h x hxm rfl
        have k1 : (a, x) ∈ ring (v :: z :: (M2 ++ [u])) := by
          rw [r2]
          simp only [List.mem_cons, List.mem_append, List.not_mem_nil, or_false, Prod.mk.injEq]
          rcases ha with h | (h | h) | h
          · exact absurd (by rw [h.2]; simp) out
          · have := (path_mem h).2
            simp at this out
            exfalso
            rcases this with h | h | h
            · exact out.2.1 h
            · exact out.2.2 h
            · exact hxz h
          · exact Or.inr (Or.inl h)
          · exact Or.inr (Or.inr h)
        have k2 : (x, b) ∈ ring (v :: z :: (M2 ++ [u])) := by
          rw [r2]
          simp only [List.mem_cons, List.mem_append, List.not_mem_nil, or_false, Prod.mk.injEq]
          rcases hb with h | (h | h) | h
          · exact absurd h.1 hxv
          · have := path_mem1 (A := w :: M1) h
            exact absurd (List.mem_cons_of_mem _ this) out
          · exact Or.inr (Or.inl h)
          · exact Or.inr (Or.inr h)
        have := c2 x a b (hex.sub (List.mem_cons_of_mem _ hxm) m2) k1 k2
        exact sgn_trans (sgn_symm u2) this
  · refine Or.inr ?_
    have he : ∀ z, z ∈ v :: w :: (M ++ [u]) → z ≠ v → z ≠ u → z ≠ w → ¬ InT v u w z := fun z h1 h2 h3 h4 h5 => hz ⟨z, h1, h2, h3, h4, h5⟩
    have he2 : ∀ z, z ∈ v :: w :: (M ++ [u]) → z ≠ v → z ≠ w → z ≠ u → ¬ InT v w u z := fun z h1 h2 h3 h4 h5 => he z h1 h2 h4 h3 h5.swap
    have hch := N.ear G he
    have r1 := ring_last w u M
    have nd1 := (List.nodup_cons.1 hnd0).2
    have s1 : ∀ s, s ∈ ring (w :: (M ++ [u])) → s ∈ ring (v :: w :: (M ++ [u])) ∨ s = (u, w) := by
      intro s h
      rw [r1] at h
      rw [hr]
      simp only [List.mem_cons, List.mem_append, List.not_mem_nil, or_false] at h ⊢
      rcases h with h | h
      · exact Or.inl (Or.inr (Or.inl h))
      · exact Or.inr h
    have hl : 1 ≤ M.length := by
      cases M with
      | nil => exact absurd rfl hm
      | cons _ _ => simp
    have c1 := ih _ (by simp) (by simp; omega) (G.cut hch nd1 s1)
    have m1 : ∀ y, y ∈ w :: (M ++ [u]) → y ∈ v :: w :: (M ++ [u]) := fun y hy => List.mem_cons_of_mem _ hy
    refine ⟨tot (ring (w :: (M ++ [u]))), ?_, ?_⟩
    · rw [hr, r1]
      have := k0_tri v u w
      simp only [tot, tot_app]
      omega
    · intro x a b hex hxv ha hb
      have ha0 : Adj (v :: w :: (M ++ [u])) x a := Or.inr ha
      have hb0 : Adj (v :: w :: (M ++ [u])) x b := Or.inl hb
      rw [hr] at ha hb
      simp only [List.mem_cons, List.mem_append, List.not_mem_nil, or_false, Prod.mk.injEq] at ha hb
      have hexP := hex.sub (l' := w :: (M ++ [u])) ((List.mem_cons.1 hex.1).resolve_left hxv) m1
      by_cases e1 : x = w
      · subst e1
        have hav : a = v := by
          rcases ha with h | h | h
          · exact h.1
          · have := path_mem2 h
            simp at this
            exfalso
            rcases this with h | h
            · exact nwM h
            · exact nwu h
          · exact absurd h.2 hxv
        subst hav
        have hb1 : (x, b) ∈ path (x :: (M ++ [u])) := by
          rcases hb with h | h | h
          · exact absurd h.1 hxv
          · exact h
          · exact absurd h.1 nwu
        have nb : b ≠ a := fun e => by
          subst e
          have := path_mem2 hb1
          simp at this
          rcases this with h | h
          · exact nvM h
          · exact nvu h
        have t := c1 x u b hexP (by rw [r1]; simp) (by rw [r1]; exact List.mem_append_left _ hb1)
        exact sgn_trans t (N.keep G he hex hb0 nb)
      · by_cases e2 : x = u
        · subst e2
          have hbv : b = v := by
            rcases hb with h | h | h
            · exact absurd h.1 hxv
            · have := path_mem1 (A := w :: M) (c := x) (by simpa using h)
              simp at this
              exfalso
              rcases this with h | h
              · exact e1 h
              · exact hMu' x h rfl
            · exact h.2
          subst hbv
          have ha1 : (a, x) ∈ path (w :: (M ++ [x])) := by
            rcases ha with h | h | h
            · exact absurd h.2 e1
            · exact h
            · exact absurd h.2 hxv
          have na : a ≠ b := fun e => by
            subst e
            have := (path_mem ha1).1
            simp at this
            rcases this with h | h | h
            · exact nvw h
            · exact nvM h
            · exact nvu h
          have t := c1 x a w hexP (by rw [r1]; exact List.mem_append_left _ ha1) (by rw [r1]; simp)
          have k := N.swap.keep G he2 hex ha0 na
          have e3 : cr w x a = - cr a x w := by unfold cr; grind
          have e4 : cr b x a = - cr a x b := by unfold cr; grind
          rw [e3, e4, Int.neg_mul_neg] at k
          exact sgn_trans t k
        · refine c1 x a b hexP ?_ ?_
          · rw [r1]
            rcases ha with h | h | h
            · exact absurd h.2 e1
            · exact List.mem_append_left _ h
            · exact absurd h.2 hxv
          · rw [r1]
            rcases hb with h | h | h
            · exact absurd h.1 hxv
            · exact List.mem_append_left _ h
            · exact absurd h.1 e2
theorem min_of {f : Pt → Int} : ∀ {l : List Pt} {z : Pt}, z ∈ l → ∃ z', z' ∈ l ∧ ∀ y, y ∈ l → f z' ≤ f y := by
  intro l z hz
  obtain ⟨z', h1, -, h3⟩ := max_of (f := fun p => -(f p)) (P := fun _ => True) hz trivial
  exact ⟨z', h1, fun y hy => by have := h3 y hy trivial; omega⟩
theorem bound_of : ∀ l : List Pt, ∃ B : Int, 0 ≤ B ∧ ∀ p, p ∈ l → -B ≤ p.y ∧ p.y ≤ B
  | [] => ⟨0, by omega, fun p h => by simp at h⟩
  | a :: t => by
    obtain ⟨B, h0, h⟩ := bound_of t
    refine ⟨B + a.y.natAbs, by omega, fun p hp => ?_⟩
    rw [List.mem_cons] at hp
    rcases hp with rfl | hp
    · omega
    · have := h p hp; omega
theorem far_apart {K n d : Int} (hn : n ≠ 0) (h1 : -K < d) (h2 : d < K) : K * n ≠ d := by
  rcases Int.lt_or_gt_of_ne hn with h | h
  · have := Int.mul_le_mul_of_nonneg_left (show n ≤ -1 by omega) (show 0 ≤ K by omega)
    omega
  · have := Int.mul_le_mul_of_nonneg_left (show 1 ≤ n by omega) (show 0 ≤ K by omega)
    omega
/-- Three corners that lie farthest. -/
theorem three_ext {l : List Pt} (G : Good l) (h3 : 3 ≤ l.length) : ∃ a b c, Ext l a ∧ Ext l b ∧ Ext l c ∧ a ≠ b ∧ a ≠ c ∧ b ≠ c := by
  obtain ⟨B, hB, hb⟩ := bound_of l
  obtain ⟨z, hz⟩ : ∃ z, z ∈ l := by
    cases l with
    | nil => simp at h3
    | cons a t => exact ⟨a, by simp⟩
  have inj : ∀ p, p ∈ l → ∀ q, q ∈ l → (2 * B + 1) * p.x + p.y = (2 * B + 1) * q.x + q.y → p = q := by
    intro p hp q hq h
    have k1 := hb p hp
    have k2 := hb q hq
    by_cases e : p.x = q.x
    · rw [e] at h; exact Pt.same e (by omega)
    · have := far_apart (K := 2 * B + 1) (n := p.x - q.x) (d := q.y - p.y) (by omega) (by omega) (by omega)
      exact absurd (by grind) this
  obtain ⟨e1, m1, k1⟩ := min_of (f := fun p => (2 * B + 1) * p.x + p.y) hz
  obtain ⟨e2, m2, k2⟩ := min_of (f := fun p => -((2 * B + 1) * p.x + p.y)) hz
  have x1 : Ext l e1 := ⟨m1, 2 * B + 1, 1, fun y hy hn => by
    have := k1 y hy
    have : (2 * B + 1) * e1.x + e1.y ≠ (2 * B + 1) * y.x + y.y := fun h => hn (inj _ m1 _ hy h).symm
    omega⟩
  have x2 : Ext l e2 := ⟨m2, -(2 * B + 1), -1, fun y hy hn => by
    have := k2 y hy
    have : (2 * B + 1) * e2.x + e2.y ≠ (2 * B + 1) * y.x + y.y := fun h => hn (inj _ m2 _ hy h).symm
    have e3 : -(2 * B + 1) * e2.x = -((2 * B + 1) * e2.x) := by grind
    have e4 : -(2 * B + 1) * y.x = -((2 * B + 1) * y.x) := by grind
    omega⟩
  obtain ⟨w, M, u, hr, -, hl, hnd, hmem⟩ := norm_of m1 h3
  have hnd := hnd G.nd
  simp only [List.nodup_cons, List.mem_cons, List.mem_append, not_or, List.not_mem_nil, or_false] at hnd
  obtain ⟨⟨nvw, -, nvu⟩, ⟨-, nwu⟩, -⟩ := hnd
  have a1 : Adj l u e1 := Or.inl ((hr _).1 (by rw [ring_norm]; simp))
  have a2 : Adj l e1 w := Or.inl ((hr _).1 (by rw [ring_norm]; simp))
  have ht : cr e1 u w ≠ 0 := x1.turn a1.mem.1 a2.mem.2 (fun e => nvu e.symm) (fun e => nvw e.symm) (G.bend a1 a2 (fun e => nvu e.symm) (fun e => nvw e.symm) (fun e => nwu e.symm))
  have n12 : e1 ≠ e2 := by
    rintro rfl
    have q1 := k1 u a1.mem.1
    have q2 := k2 u a1.mem.1
    exact nvu (inj _ m1 _ a1.mem.1 (by omega))
  obtain ⟨p, hp, hh⟩ : ∃ p, p ∈ l ∧ cr e1 e2 p ≠ 0 := by
    refine Classical.byContradiction fun hn => ht ?_
    have z1 : cr e1 e2 u = 0 := Classical.byContradiction fun h => hn ⟨u, a1.mem.1, h⟩
    have z2 : cr e1 e2 w = 0 := Classical.byContradiction fun h => hn ⟨w, a2.mem.2, h⟩
    have zx : cr e1 u w * (e2.x - e1.x) = 0 := by unfold cr at *; grind
    have zy : cr e1 u w * (e2.y - e1.y) = 0 := by unfold cr at *; grind
    rcases Int.mul_eq_zero.1 zx with h | h
    · exact h
    · rcases Int.mul_eq_zero.1 zy with h' | h'
      · exact h'
      · exact absurd (Pt.same (by omega) (by omega)) n12
  obtain ⟨τ, hτ, hτp⟩ : ∃ τ : Int, τ * τ = 1 ∧ τ * cr e1 e2 p < 0 := by
    rcases Int.lt_or_gt_of_ne hh with h | h
    · exact ⟨1, by omega, by omega⟩
    · exact ⟨-1, by omega, by omega⟩
  have r1 := k1 e2 m2
  generalize hR : (2 * B + 1) * e2.x + e2.y - ((2 * B + 1) * e1.x + e1.y) + 1 = R at *
  have rng : ∀ q, q ∈ l → (2 * B + 1) * e1.x + e1.y ≤ (2 * B + 1) * q.x + q.y ∧ (2 * B + 1) * q.x + q.y ≤ (2 * B + 1) * e2.x + e2.y := fun q hq => by
    have := k1 q hq
    have := k2 q hq
    omega
  obtain ⟨e3, m3, k3⟩ := min_of (f := fun q => R * (τ * cr e1 e2 q) + ((2 * B + 1) * q.x + q.y)) hz
  have hneg : τ * cr e1 e2 e3 < 0 := by
    refine Int.not_le.1 fun h => ?_
    have q1 := k3 p hp
    have q2 := rng p hp
    have q3 := rng e3 m3
    have q4 := Int.mul_nonneg (show 0 ≤ R by omega) h
    have q5 := Int.mul_le_mul_of_nonneg_left (show τ * cr e1 e2 p ≤ -1 by omega) (show 0 ≤ R by omega)
    omega
  have x3 : Ext l e3 := by
    refine ⟨m3, R * τ * -(e2.y - e1.y) + (2 * B + 1), R * τ * (e2.x - e1.x) + 1, fun y hy hn => ?_⟩
    have q1 := k3 y hy
    have q2 := rng y hy
    have q3 := rng e3 m3
    have hne : R * (τ * cr e1 e2 e3) + ((2 * B + 1) * e3.x + e3.y) ≠ R * (τ * cr e1 e2 y) + ((2 * B + 1) * y.x + y.y) := by
      intro h
      by_cases e : τ * cr e1 e2 e3 = τ * cr e1 e2 y
      · rw [e] at h
        exact hn (inj _ m3 _ hy (by omega)).symm
      · exact absurd (show R * (τ * cr e1 e2 e3 - τ * cr e1 e2 y) = (2 * B + 1) * y.x + y.y - ((2 * B + 1) * e3.x + e3.y) by grind) (far_apart (by omega) (by omega) (by omega))
    have f1 : ∀ q : Pt, R * (τ * cr e1 e2 q) + ((2 * B + 1) * q.x + q.y) = (R * τ * -(e2.y - e1.y) + (2 * B + 1)) * q.x + (R * τ * (e2.x - e1.x) + 1) * q.y + R * τ * ((e2.y - e1.y) * e1.x - (e2.x - e1.x) * e1.y) := fun q => by unfold cr; grind
    rw [f1 e3, f1 y] at hne q1
    omega
  refine ⟨e1, e2, e3, x1, x2, x3, n12, ?_, ?_⟩
  · rintro rfl
    rw [show cr e1 e2 e1 = 0 by unfold cr; grind] at hneg
    simp at hneg
  · rintro rfl
    rw [show cr e1 e2 e2 = 0 by unfold cr; grind] at hneg
    simp at hneg
theorem ring_to {x : Pt} {l : List Pt} (hx : x ∈ l) (h3 : 3 ≤ l.length) : ∃ a b, (a, x) ∈ ring l ∧ (x, b) ∈ ring l := by
  obtain ⟨w, M, u, hr, -⟩ := norm_of hx h3
  exact ⟨u, w, (hr _).1 (by rw [ring_norm]; simp), (hr _).1 (by rw [ring_norm]; simp)⟩
theorem Ext.iff {l l' : List Pt} {x : Pt} (h : Ext l x) (hm : ∀ p, p ∈ l' ↔ p ∈ l) : Ext l' x := h.sub ((hm x).2 h.1) fun y hy => (hm y).1 hy
/-- Neighbours are told once. -/
theorem ring_one {v w u a : Pt} {M : List Pt} (hnd : (v :: w :: (M ++ [u])).Nodup) : ((v, a) ∈ ring (v :: w :: (M ++ [u])) → a = w) ∧ ((a, v) ∈ ring (v :: w :: (M ++ [u])) → a = u) := by
  rw [ring_norm]
  have hn := (List.nodup_cons.1 hnd).1
  have hvu : v ≠ u := fun e => hn (by simp [e])
  have hvw : v ≠ w := fun e => hn (by simp [e])
  constructor
  · intro h
    rw [List.mem_cons, List.mem_append, List.mem_singleton] at h
    rcases h with h | h | h
    · cases h; rfl
    · exact absurd (path_mem h).1 hn
    · cases h; exact absurd rfl hvu
  · intro h
    rw [List.mem_cons, List.mem_append, List.mem_singleton] at h
    rcases h with h | h | h
    · cases h; exact absurd rfl hvw
    · exact absurd (path_mem h).2 hn
    · cases h; rfl
/-- Cut at a corner, for whatever list. -/
theorem cut_any {l : List Pt} {v : Pt} (h4 : 4 ≤ l.length) (G : Good l) (hx : Ext l v) (ih : ∀ l' : List Pt, l'.length < l.length → 3 ≤ l'.length → Good l' → Claim l') {p q : Pt} (hp : (p, v) ∈ ring l) (hq : (v, q) ∈ ring l) :
    (0 < tot (ring l) * cr p v q ∧ ∀ x a b, Ext l x → x ≠ v → (a, x) ∈ ring l → (x, b) ∈ ring l → 0 < cr p v q * cr a x b) ∨
    (∃ t, tot (ring l) = t + cr p v q ∧ ∀ x a b, Ext l x → x ≠ v → (a, x) ∈ ring l → (x, b) ∈ ring l → 0 < t * cr a x b) := by
  obtain ⟨w, M, u, hr, ht, hl, hnd, hm⟩ := norm_of hx.1 (by omega)
  have G' : Good (v :: w :: (M ++ [u])) := ⟨hnd G.nd, fun s h1 t h2 => G.ok s ((hr s).1 h1) t ((hr t).1 h2)⟩
  have hM : M ≠ [] := by
    rintro rfl
    simp at hl; omega
  obtain rfl := (ring_one G'.nd).2 ((hr _).2 hp)
  obtain rfl := (ring_one G'.nd).1 ((hr _).2 hq)
  have := cut_at hM G' (hx.iff hm) (fun l' h1 => ih l' (by omega))
  rw [ht] at this
  rcases this with ⟨h1, h2⟩ | ⟨t, h1, h2⟩
  · exact Or.inl ⟨h1, fun x a b e n ha hb => h2 x a b (e.iff hm) n ((hr _).2 ha) ((hr _).2 hb)⟩
  · exact Or.inr ⟨t, h1, fun x a b e n ha hb => h2 x a b (e.iff hm) n ((hr _).2 ha) ((hr _).2 hb)⟩
theorem other {l : List Pt} (G : Good l) (h3 : 3 ≤ l.length) (x y : Pt) : ∃ c, Ext l c ∧ c ≠ x ∧ c ≠ y := by
  obtain ⟨a, b, c, ha, hb, hc, n1, n2, n3⟩ := three_ext G h3
  by_cases e1 : a = x
  · subst e1
    by_cases e2 : b = y
    · subst e2; exact ⟨c, hc, fun e => n2 e.symm, fun e => n3 e.symm⟩
    · exact ⟨b, hb, fun e => n1 e.symm, e2⟩
  · by_cases e2 : a = y
    · subst e2
      by_cases e3 : b = x
      · subst e3; exact ⟨c, hc, fun e => n3 e.symm, fun e => n2 e.symm⟩
      · exact ⟨b, hb, e3, fun e => n1 e.symm⟩
    · exact ⟨a, ha, e1, e2⟩
theorem claim_all : ∀ (n : Nat) (l : List Pt), l.length ≤ n → 3 ≤ l.length → Good l → Claim l
  | 0, l, h1, h2, _ => by omega
  | n + 1, l, hn, h3, G => by
    intro x a b hx ha hb
    by_cases h4 : 4 ≤ l.length
    · have ih : ∀ l' : List Pt, l'.length < l.length → 3 ≤ l'.length → Good l' → Claim l' := fun l' h1 h2 h5 => claim_all n l' (by omega) h2 h5
      rcases cut_any h4 G hx ih ha hb with ⟨h, -⟩ | ⟨t, h1, h2⟩
      · exact h
      · obtain ⟨y, hy, nyx, -⟩ := other G h3 x x
        obtain ⟨p, q, hp, hq⟩ := ring_to hy.1 h3
        obtain ⟨c, hc, ncx, ncy⟩ := other G h3 x y
        obtain ⟨r, s, hr, hs⟩ := ring_to hc.1 h3
        have k1 := h2 y p q hy nyx hp hq
        have k2 : 0 < cr p y q * cr a x b := by
          rcases cut_any h4 G hc ih hr hs with ⟨-, h⟩ | ⟨t', -, h⟩
          · exact sgn_trans (sgn_symm (h y p q hy (fun e => ncy e.symm) hp hq)) (h x a b hx (fun e => ncx e.symm) ha hb)
          · exact sgn_trans (sgn_symm (h y p q hy (fun e => ncy e.symm) hp hq)) (h x a b hx (fun e => ncx e.symm) ha hb)
        have k3 := sgn_trans k1 k2
        rw [h1, Int.add_mul]
        have := sq_nn (cr a x b)
        omega
    · obtain ⟨w, M, u, hr, ht, hl, hnd, hm⟩ := norm_of hx.1 h3
      have hnd := hnd G.nd
      obtain rfl := (ring_one hnd).2 ((hr _).2 ha)
      obtain rfl := (ring_one hnd).1 ((hr _).2 hb)
      have hM : M = [] := by
        cases M with
        | nil => rfl
        | cons m M' => simp at hl; omega
      subst hM
      simp only [List.nodup_cons, List.mem_cons, List.nil_append, not_or, List.not_mem_nil, or_false] at hnd
      obtain ⟨⟨n1, n2⟩, n3, -⟩ := hnd
      have hne : cr x a b ≠ 0 := hx.turn (ring_mem ha).1 (ring_mem hb).2 (fun e => n2 e.symm) (fun e => n1 e.symm) (G.bend (Or.inl ha) (Or.inl hb) (fun e => n2 e.symm) (fun e => n1 e.symm) (fun e => n3 e.symm))
      have e : tot (ring l) = cr a x b := by
        rw [← ht]
        simp only [ring, List.nil_append, List.cons_append, path, tot]
        unfold k0 cr
        grind
      rw [e]
      have : cr a x b ≠ 0 := by
        have e2 : cr a x b = - cr x a b := by unfold cr; grind
        omega
      exact sq_pos this
/-- A simple polygon has an area. -/
theorem area_ne {l : List Pt} (G : Good l) (h3 : 3 ≤ l.length) : tot (ring l) ≠ 0 := by
  obtain ⟨c, hc, -, -⟩ := other G h3 ⟨0, 0⟩ ⟨0, 0⟩
  obtain ⟨p, q, hp, hq⟩ := ring_to hc.1 h3
  have := claim_all _ l (Nat.le_refl _) h3 G c p q hc hp hq
  intro h
  rw [h] at this
  simp at this
end Go.Proofs.Ythnfepfbkmafaaa.Geo
